/- Texts of this claim, put together: Ro, Rp, Rf, Rg, Ra. -/
import Derived.Test.YtihbejpkfifplaaCg
set_option linter.unusedVariables false
set_option linter.unusedSimpArgs false
namespace Go.Proofs.Ytihbejpkfifplaa.Z
open Go Go.Fw
abbrev oo55 : List LOp := [⟨Op.fieldAddr 33 (Operand.tmp 4) 1, some 57, none⟩, ⟨Op.load 29 (Operand.tmp 57), some 58, none⟩, ⟨Op.fieldAddr 27 (Operand.tmp 3) 3, some 59, none⟩, ⟨Op.load 24 (Operand.tmp 59), some 60, none⟩, ⟨Op.indexAddr 24 (Operand.tmp 60) (Operand.const (Value.int IntKind.i64 0)), some 61, none⟩, ⟨Op.load 3 (Operand.tmp 61), some 62, none⟩, ⟨Op.indexAddr 29 (Operand.tmp 58) (Operand.tmp 62), some 63, none⟩, ⟨Op.load 105 (Operand.tmp 63), some 64, none⟩, ⟨Op.alloc 105, some 10, none⟩, ⟨Op.store 105 (Operand.tmp 10) (Operand.tmp 64), none, none⟩]
abbrev oo56 : List LOp := [⟨Op.load 105 (Operand.tmp 10), some 66, none⟩, ⟨Op.fieldAddr 27 (Operand.tmp 3) 4, some 67, none⟩, ⟨Op.load 4 (Operand.tmp 67), some 68, none⟩, ⟨Op.call { callee := Callee.value (Operand.func 68), args := #[Operand.tmp 66, Operand.tmp 68], argTypes := #[105, 4] }, some 69, none⟩, ⟨Op.move (Operand.tmp 69), some 65, none⟩, ⟨Op.extract (Operand.tmp 65) 0, some 70, none⟩, ⟨Op.extract (Operand.tmp 65) 1, some 71, none⟩, ⟨Op.assign (Operand.tmp 70), some 11, none⟩, ⟨Op.assign (Operand.tmp 71), some 12, none⟩]
abbrev oo57 : List LOp := [⟨Op.fieldAddr 53 (Operand.tmp 5) 1, some 72, none⟩, ⟨Op.load 51 (Operand.tmp 72), some 73, none⟩, ⟨Op.fieldAddr 105 (Operand.tmp 10) 1, some 74, none⟩, ⟨Op.load 3 (Operand.tmp 74), some 75, none⟩, ⟨Op.call { callee := Callee.value (Operand.func 67), args := #[Operand.tmp 73, Operand.tmp 75], argTypes := #[51, 3] }, some 76, none⟩, ⟨Op.fieldAddr 53 (Operand.tmp 5) 0, some 77, none⟩, ⟨Op.load 51 (Operand.tmp 77), some 78, none⟩, ⟨Op.fieldAddr 33 (Operand.tmp 4) 0, some 79, none⟩, ⟨Op.load 28 (Operand.tmp 79), some 80, none⟩, ⟨Op.move (Operand.tmp 11), some 81, none⟩, ⟨Op.indexAddr 28 (Operand.tmp 80) (Operand.tmp 81), some 82, none⟩, ⟨Op.fieldAddr 76 (Operand.tmp 82) 1, some 83, none⟩, ⟨Op.load 3 (Operand.tmp 83), some 84, none⟩, ⟨Op.call { callee := Callee.value (Operand.func 67), args := #[Operand.tmp 78, Operand.tmp 84], argTypes := #[51, 3] }, some 85, none⟩, ⟨Op.call { callee := Callee.value (Operand.func 69), args := #[Operand.tmp 76, Operand.tmp 85], argTypes := #[2, 2] }, some 86, none⟩, ⟨Op.assign (Operand.tmp 86), some 13, none⟩]
abbrev oo58 : List LOp := [⟨Op.move (Operand.tmp 13), some 87, none⟩, ⟨Op.assign (Operand.tmp 87), some 14, none⟩]
abbrev oo59 : List LOp := [⟨Op.fieldAddr 27 (Operand.tmp 3) 0, some 88, none⟩, ⟨Op.load 22 (Operand.tmp 88), some 89, none⟩, ⟨Op.binOp BinOp.eql 22 (Operand.tmp 89) (Operand.const (Value.int IntKind.i64 3)) 22, some 90, none⟩]
abbrev oo60 : List LOp := [⟨Op.move (Operand.tmp 7), some 113, none⟩, ⟨Op.move (Operand.tmp 14), some 114, none⟩, ⟨Op.call { callee := Callee.value (Operand.func 70), args := #[Operand.tmp 113, Operand.tmp 114], argTypes := #[2, 2] }, some 115, none⟩, ⟨Op.assign (Operand.tmp 115), some 7, none⟩]
abbrev oo61 : List LOp := [⟨Op.move (Operand.tmp 8), some 116, none⟩, ⟨Op.move (Operand.tmp 12), some 117, none⟩, ⟨Op.indexAddr 60 (Operand.tmp 116) (Operand.tmp 117), some 118, none⟩, ⟨Op.load 4 (Operand.tmp 118), some 119, none⟩]
abbrev oo62 : List LOp := [⟨Op.move (Operand.tmp 7), some 120, none⟩, ⟨Op.fieldAddr 53 (Operand.tmp 5) 0, some 121, none⟩, ⟨Op.load 51 (Operand.tmp 121), some 122, none⟩, ⟨Op.fieldAddr 33 (Operand.tmp 4) 0, some 123, none⟩, ⟨Op.load 28 (Operand.tmp 123), some 124, none⟩, ⟨Op.move (Operand.tmp 12), some 125, none⟩, ⟨Op.indexAddr 28 (Operand.tmp 124) (Operand.tmp 125), some 126, none⟩, ⟨Op.fieldAddr 76 (Operand.tmp 126) 1, some 127, none⟩, ⟨Op.load 3 (Operand.tmp 127), some 128, none⟩, ⟨Op.call { callee := Callee.value (Operand.func 67), args := #[Operand.tmp 122, Operand.tmp 128], argTypes := #[51, 3] }, some 129, none⟩, ⟨Op.call { callee := Callee.value (Operand.func 69), args := #[Operand.tmp 120, Operand.tmp 129], argTypes := #[2, 2] }, some 130, none⟩, ⟨Op.assign (Operand.tmp 130), some 7, none⟩]
abbrev oo63 : List LOp := [⟨Op.move (Operand.tmp 18), some 156, none⟩, ⟨Op.binOp BinOp.add 3 (Operand.tmp 156) (Operand.const (Value.int IntKind.i64 1)) 3, some 157, none⟩, ⟨Op.assign (Operand.tmp 157), some 18, none⟩]
abbrev oo64 : List LOp := [⟨Op.assign (Operand.const (Value.int IntKind.i64 (-1))), some 6, none⟩]
abbrev oo65 : List LOp := [⟨Op.assign (Operand.const (Value.bool true)), some 4, none⟩]
end Go.Proofs.Ytihbejpkfifplaa.Z
section
set_option maxRecDepth 100000
namespace Go.Proofs.Ytihbejpkfifplaa.Z
open Go Go.Fw
set_option maxHeartbeats 4000000 in
theorem rest2_ok (c : CoreT) (s : StatsT) (p : PlanT) (n0 : Int) (b0 : List Bool) (hP : patS c.nodes c.edges = true) (hop : p.op = 2) (hkl : p.kids.length = 1) (he0 : 0 ≤ rdI p.edges 0) (he1 : rdI p.edges 0 < c.edges.length) (hel : p.edges.length = 1) (IH0 : Snd P 33 [.d (.ag (encP (rdI p.kids 0))), .d (.ag (encC c)), .d (.ag (encS s))] (.int n0) []) (hn0 : 0 ≤ n0 ∧ n0 ≤ 1099511627776) (hB0 : Snd P 21 [.d (.ag (encP (rdI p.kids 0))), .d (.ag (encC c))] (.tup [.d (.sl false (b0.map encB)), .int 0]) []) (hb0 : b0.length = c.nodes.length + c.edges.length) : Snd P 33 [.d (.ag (encP p)), .d (.ag (encC c)), .d (.ag (encS s))] (.int (stepS c s p n0 b0)) [] := by
  refine Snd.ok 1 rfl (by kernel_rfl) fun hok => ?_
  have hhi := encC_ok1 hok (rdI_mem he0 he1)
  clear hok
  obtain ⟨-, hn8, hk8⟩ := pat_rng hP
  have hE := goodE_of hP
  obtain ⟨n, hn⟩ : ∃ k, c.nodes.length = k := ⟨_, rfl⟩
  obtain ⟨k, hk⟩ : ∃ k, c.edges.length = k := ⟨_, rfl⟩
  rw [hn] at hn8
  rw [hk] at hk8
  rw [hn, hk] at hb0
  have hI := IH0
  have hJ := hB0
  rw [encP_cells] at hI hJ
  obtain ⟨ke, hke⟩ : ∃ x, rdI p.edges 0 = x := ⟨_, rfl⟩
  rw [hke] at he0 he1 hhi
  obtain ⟨mx, hmx⟩ : ∃ x, (rdI c.edges ke).hi = x := ⟨_, rfl⟩
  rw [hmx] at hhi
  have hel0 : 0 < p.edges.length := by omega
  have he2 : ke < (k : Int) := by rw [← hk]; exact he1
  have hG := hE (rdI c.edges ke) (rdI_mem he0 he1)
  rw [hn] at hG
  obtain ⟨fr, hfr⟩ : ∃ x, fromE c p = x := ⟨_, rfl⟩
  obtain ⟨to, hto⟩ : ∃ x, toE c p = x := ⟨_, rfl⟩
  have hfri : (if p.back = true then (rdI c.edges ke).dst else (rdI c.edges ke).src) = fr := by rw [← hfr, fromE, hke]
  have htoi : (if p.back = true then (rdI c.edges ke).src else (rdI c.edges ke).dst) = to := by rw [← hto, toE, hke]
  have hf : 0 ≤ fr ∧ fr < n ∧ 0 ≤ to ∧ to < n := by
    rw [← hfri, ← htoi]; split <;> omega
  obtain ⟨hf1, hf2, hf3, hf4⟩ := hf
  have hf5 : to < (n : Int) + k := by omega
  have hEn := rends_ok (rdI c.edges ke) p.back
  rw [hfri, htoi] at hEn
  simp only [encE, hmx] at hEn
  have hE1 := redges_ok c s ke
  have hN1 := rnodes_ok c s fr
  have hN2 := rnodes_ok c s to
  obtain ⟨nf, hnf⟩ : ∃ x, nodesS c s fr = x := ⟨_, rfl⟩
  obtain ⟨nt, hnt⟩ : ∃ x, nodesS c s to = x := ⟨_, rfl⟩
  obtain ⟨ee, hee⟩ : ∃ x, edgesS c s ke = x := ⟨_, rfl⟩
  have r1 := nodesS_rng c s fr
  have r2 := nodesS_rng c s to
  have r3 := edgesS_rng c s ke
  rw [hnf] at r1 hN1
  rw [hnt] at r2 hN2
  rw [hee] at r3 hE1
  have hS1 := rshare_ok ee nf r3.1 r3.2 r1.1 r1.2
  have hdr := share_rng' r3 r1
  obtain ⟨d, hd⟩ : ∃ x, shareS ee nf = x := ⟨_, rfl⟩
  rw [hd] at hS1 hdr
  obtain ⟨sd, hsd⟩ : ∃ x, stepD c s p = x := ⟨_, rfl⟩
  have hsr := stepD_rng c s p
  rw [hsd] at hsr
  have hM := rmul_ok n0 sd hn0.1 hn0.2 hsr.1 hsr.2
  have hmr := mul_rng' hn0 hsr
  obtain ⟨m, hm⟩ : ∃ x, mulS n0 sd = x := ⟨_, rfl⟩
  rw [hm] at hM hmr
  have hS2 := rshare_ok m nt hmr.1 hmr.2 r2.1 r2.2
  have hsd2 : sd = d := by rw [← hsd, stepD, if_neg (by omega), hke, hee, hfr, hnf, hd]
  subst hsd2
  refine snd_of [] Try.func33 rfl (by kernel_rfl) Try.ntmps33 (by simp) ?_
  unfold Try.f33
  simp only [List.cons_append, List.nil_append, List.length_cons, List.length_nil, Nat.reduceAdd, Nat.reduceSub, List.replicate]
  refine Run.seq ?_
  refine opsF oo45 fun K hK => ?_
  try simp
  repeat' first | ((refine evL_c ?_); simp [hn, hk, hop, hkl, hb0, hmx, hke, he0, he1, he2, hel0, hf1, hf2, hf3, hf4, hf5]) | (with_reducible refine And.intro ?_ ?_) | intro _ | (with_reducible assumption) | omega
  all_goals (refine Fin.go hK ?_; clear hK K)
  simp only [Then_normal]
  refine Run.seq ?_
  refine Run.seq ?_
  refine opsF oo46 fun K hK => ?_
  try simp
  repeat' first | ((refine evL_c ?_); simp [hn, hk, hop, hkl, hb0, hmx, hke, he0, he1, he2, hel0, hf1, hf2, hf3, hf4, hf5]) | (with_reducible refine And.intro ?_ ?_) | intro _ | (with_reducible assumption) | omega
  all_goals (refine Fin.go hK ?_; clear hK K)
  simp only [Then_normal]
  refine Run.cond rfl (fun h25 => ?_) (fun h25 => ?_)
  · simp at h25
  · skip
    refine Run.skip ?_
    simp only [Then_normal]
    refine Run.seq ?_
    refine opsF oo47 fun K hK => ?_
    try simp
    repeat' first | (refine ecallD (by exact hI) ?_) | ((refine evL_c ?_); simp [hn, hk, hop, hkl, hb0, hmx, hke, he0, he1, he2, hel0, hf1, hf2, hf3, hf4, hf5]) | (with_reducible refine And.intro ?_ ?_) | intro _ | (with_reducible assumption) | omega
    all_goals (refine Fin.go hK ?_; clear hK K)
    simp only [Then_normal]
    refine Run.seq ?_
    refine opsF oo48 fun K hK => ?_
    try simp
    repeat' first | (refine ecall (by exact hJ) rfl ?_) | ((refine evL_c ?_); simp [hn, hk, hop, hkl, hb0, hmx, hke, he0, he1, he2, hel0, hf1, hf2, hf3, hf4, hf5]) | (with_reducible refine And.intro ?_ ?_) | intro _ | (with_reducible assumption) | omega
    all_goals (refine Fin.go hK ?_; clear hK K)
    simp only [Then_normal]
    refine Run.seq ?_
    refine Run.seq ?_
    refine opsF oo49 fun K hK => ?_
    try simp
    repeat' first | ((refine evL_c ?_); simp [hn, hk, hop, hkl, hb0, hmx, hke, he0, he1, he2, hel0, hf1, hf2, hf3, hf4, hf5]) | (with_reducible refine And.intro ?_ ?_) | intro _ | (with_reducible assumption) | omega
    all_goals (refine Fin.go hK ?_; clear hK K)
    simp only [Then_normal]
    refine Run.block ?_
    refine Run.seq ?_
    refine Run.seq ?_
    refine opsF oo50 fun K hK => ?_
    try simp
    repeat' first | ((refine evL_c ?_); simp [hn, hk, hop, hkl, hb0, hmx, hke, he0, he1, he2, hel0, hf1, hf2, hf3, hf4, hf5]) | (with_reducible refine And.intro ?_ ?_) | intro _ | (with_reducible assumption) | omega
    all_goals (refine Fin.go hK ?_; clear hK K)
    simp only [Then_normal]
    refine Run.cond rfl (fun h54 => ?_) (fun h54 => ?_)
    · skip
      refine Run.skip ?_
      simp only [Then_normal]
      refine Run.cond rfl (fun h54 => ?_) (fun h54 => ?_)
      · skip
        refine Run.cut [10, 57, 58, 59, 60, 61, 62, 63, 64] [(10, .pt 1100 0 0 0)] [(400, .vals ((encP p).map .d)), (500, .vals ((encC c).map .d)), (600, .vals ((encS s).map .d)), (1100, .vals ((encE (rdI c.edges ke)).map .d))] ?_ ?_
        · refine opsF oo55 fun K hK => ?_
          try simp
          repeat' first | ((refine evL_c ?_); simp [hn, hk, hop, hkl, hb0, hmx, hke, he0, he1, he2, hel0, hf1, hf2, hf3, hf4, hf5]) | (with_reducible refine And.intro ?_ ?_) | intro _ | (with_reducible assumption) | omega
          all_goals (refine Fin.go hK ?_; clear hK K)
          (try simp [hn, hk, hop, hkl, hb0, hmx, hke, he0, he1, he2, hel0, hf1, hf2, hf3, hf4, hf5]) <;> (first | omega | (simp; done) | grind)
        · simp only [over, List.foldl, List.set]
          refine Run.seq ?_
          refine opsF oo56 fun K hK => ?_
          try simp
          repeat' first | (refine ecall (by exact hEn) rfl ?_) | ((refine evL_c ?_); simp [hn, hk, hop, hkl, hb0, hmx, hke, he0, he1, he2, hel0, hf1, hf2, hf3, hf4, hf5]) | (with_reducible refine And.intro ?_ ?_) | intro _ | (with_reducible assumption) | omega
          all_goals (refine Fin.go hK ?_; clear hK K)
          simp only [Then_normal]
          refine Run.seq ?_
          refine opsF oo57 fun K hK => ?_
          try simp
          repeat' first | (refine ecallD (by exact hE1) ?_) | (refine ecallD (by exact hN1) ?_) | (refine ecallD (by exact hS1) ?_) | ((refine evL_c ?_); simp [hn, hk, hop, hkl, hb0, hmx, hke, he0, he1, he2, hel0, hf1, hf2, hf3, hf4, hf5]) | (with_reducible refine And.intro ?_ ?_) | intro _ | (with_reducible assumption) | omega
          all_goals (refine Fin.go hK ?_; clear hK K)
          simp only [Then_normal]
          refine Run.seq ?_
          refine opsF oo58 fun K hK => ?_
          try simp
          repeat' first | ((refine evL_c ?_); simp [hn, hk, hop, hkl, hb0, hmx, hke, he0, he1, he2, hel0, hf1, hf2, hf3, hf4, hf5]) | (with_reducible refine And.intro ?_ ?_) | intro _ | (with_reducible assumption) | omega
          all_goals (refine Fin.go hK ?_; clear hK K)
          simp only [Then_normal]
          refine Run.seq ?_
          refine Run.seq ?_
          refine opsF oo59 fun K hK => ?_
          try simp
          repeat' first | ((refine evL_c ?_); simp [hn, hk, hop, hkl, hb0, hmx, hke, he0, he1, he2, hel0, hf1, hf2, hf3, hf4, hf5]) | (with_reducible refine And.intro ?_ ?_) | intro _ | (with_reducible assumption) | omega
          all_goals (refine Fin.go hK ?_; clear hK K)
          simp only [Then_normal]
          refine Run.cond rfl (fun h90 => ?_) (fun h90 => ?_)
          · simp at h90
          · skip
            refine Run.skip ?_
            simp only [Then_normal]
            refine Run.seq ?_
            refine opsF oo60 fun K hK => ?_
            try simp
            repeat' first | (refine ecallD (by exact hM) ?_) | ((refine evL_c ?_); simp [hn, hk, hop, hkl, hb0, hmx, hke, he0, he1, he2, hel0, hf1, hf2, hf3, hf4, hf5]) | (with_reducible refine And.intro ?_ ?_) | intro _ | (with_reducible assumption) | omega
            all_goals (refine Fin.go hK ?_; clear hK K)
            simp only [Then_normal]
            refine Run.seq ?_
            refine opsF oo61 fun K hK => ?_
            try simp
            repeat' first | ((refine evL_c ?_); simp [hn, hk, hop, hkl, hb0, hmx, hke, he0, he1, he2, hel0, hf1, hf2, hf3, hf4, hf5]) | (with_reducible refine And.intro ?_ ?_) | intro _ | (with_reducible assumption) | omega
            all_goals (refine Fin.go hK ?_; clear hK K)
            simp only [Then_normal]
            refine Run.cond rfl (fun h119 => ?_) (fun h119 => ?_)
            · try simp at h119
              refine opsF oo62 fun K hK => ?_
              try simp
              repeat' first | (refine ecallD (by exact hN2) ?_) | (refine ecallD (by exact hS2) ?_) | ((refine evL_c ?_); simp [hn, hk, hop, hkl, hb0, hmx, hke, he0, he1, he2, hel0, hf1, hf2, hf3, hf4, hf5]) | (with_reducible refine And.intro ?_ ?_) | intro _ | (with_reducible assumption) | omega
              all_goals (refine Fin.go hK ?_; clear hK K)
              simp only [Blok_normal]
              simp only [Then_normal]
              refine Run.seq ?_
              refine opsF oo54 fun K hK => ?_
              try simp
              repeat' first | ((refine evL_c ?_); simp [hn, hk, hop, hkl, hb0, hmx, hke, he0, he1, he2, hel0, hf1, hf2, hf3, hf4, hf5]) | (with_reducible refine And.intro ?_ ?_) | intro _ | (with_reducible assumption) | omega
              all_goals (refine Fin.go hK ?_; clear hK K)
              simp only [Then_normal]
              refine Run.ret ?_
              try simp only [Then_ret, Blok_ret]
              simp [stepS, hto, hsd, hnt, hm, h119]
            · try simp at h119
              refine Run.skip ?_
              simp only [Blok_normal]
              simp only [Then_normal]
              refine Run.seq ?_
              refine opsF oo54 fun K hK => ?_
              try simp
              repeat' first | ((refine evL_c ?_); simp [hn, hk, hop, hkl, hb0, hmx, hke, he0, he1, he2, hel0, hf1, hf2, hf3, hf4, hf5]) | (with_reducible refine And.intro ?_ ?_) | intro _ | (with_reducible assumption) | omega
              all_goals (refine Fin.go hK ?_; clear hK K)
              simp only [Then_normal]
              refine Run.ret ?_
              try simp only [Then_ret, Blok_ret]
              simp [stepS, hto, hsd, hnt, hm, h119]
      · simp at h54
    · simp at h54

set_option maxHeartbeats 4000000 in
theorem rest3_ok (c : CoreT) (s : StatsT) (p : PlanT) (n0 : Int) (b0 : List Bool) (hP : patS c.nodes c.edges = true) (hop : p.op = 3) (hkl : p.kids.length = 1) (he0 : 0 ≤ rdI p.edges 0) (he1 : rdI p.edges 0 < c.edges.length) (hel : p.edges.length = 1) (IH0 : Snd P 33 [.d (.ag (encP (rdI p.kids 0))), .d (.ag (encC c)), .d (.ag (encS s))] (.int n0) []) (hn0 : 0 ≤ n0 ∧ n0 ≤ 1099511627776) (hB0 : Snd P 21 [.d (.ag (encP (rdI p.kids 0))), .d (.ag (encC c))] (.tup [.d (.sl false (b0.map encB)), .int 0]) []) (hb0 : b0.length = c.nodes.length + c.edges.length) : Snd P 33 [.d (.ag (encP p)), .d (.ag (encC c)), .d (.ag (encS s))] (.int (stepS c s p n0 b0)) [] := by
  refine Snd.ok 1 rfl (by kernel_rfl) fun hok => ?_
  have hhi := encC_ok1 hok (rdI_mem he0 he1)
  clear hok
  obtain ⟨-, hn8, hk8⟩ := pat_rng hP
  have hE := goodE_of hP
  obtain ⟨n, hn⟩ : ∃ k, c.nodes.length = k := ⟨_, rfl⟩
  obtain ⟨k, hk⟩ : ∃ k, c.edges.length = k := ⟨_, rfl⟩
  rw [hn] at hn8
  rw [hk] at hk8
  rw [hn, hk] at hb0
  have hI := IH0
  have hJ := hB0
  rw [encP_cells] at hI hJ
  obtain ⟨ke, hke⟩ : ∃ x, rdI p.edges 0 = x := ⟨_, rfl⟩
  rw [hke] at he0 he1 hhi
  obtain ⟨mx, hmx⟩ : ∃ x, (rdI c.edges ke).hi = x := ⟨_, rfl⟩
  rw [hmx] at hhi
  have hel0 : 0 < p.edges.length := by omega
  have he2 : ke < (k : Int) := by rw [← hk]; exact he1
  have hG := hE (rdI c.edges ke) (rdI_mem he0 he1)
  rw [hn] at hG
  obtain ⟨fr, hfr⟩ : ∃ x, fromE c p = x := ⟨_, rfl⟩
  obtain ⟨to, hto⟩ : ∃ x, toE c p = x := ⟨_, rfl⟩
  have hfri : (if p.back = true then (rdI c.edges ke).dst else (rdI c.edges ke).src) = fr := by rw [← hfr, fromE, hke]
  have htoi : (if p.back = true then (rdI c.edges ke).src else (rdI c.edges ke).dst) = to := by rw [← hto, toE, hke]
  have hf : 0 ≤ fr ∧ fr < n ∧ 0 ≤ to ∧ to < n := by
    rw [← hfri, ← htoi]; split <;> omega
  obtain ⟨hf1, hf2, hf3, hf4⟩ := hf
  have hf5 : to < (n : Int) + k := by omega
  have hEn := rends_ok (rdI c.edges ke) p.back
  rw [hfri, htoi] at hEn
  simp only [encE, hmx] at hEn
  have hE1 := redges_ok c s ke
  have hN1 := rnodes_ok c s fr
  have hN2 := rnodes_ok c s to
  obtain ⟨nf, hnf⟩ : ∃ x, nodesS c s fr = x := ⟨_, rfl⟩
  obtain ⟨nt, hnt⟩ : ∃ x, nodesS c s to = x := ⟨_, rfl⟩
  obtain ⟨ee, hee⟩ : ∃ x, edgesS c s ke = x := ⟨_, rfl⟩
  have r1 := nodesS_rng c s fr
  have r2 := nodesS_rng c s to
  have r3 := edgesS_rng c s ke
  rw [hnf] at r1 hN1
  rw [hnt] at r2 hN2
  rw [hee] at r3 hE1
  have hS1 := rshare_ok ee nf r3.1 r3.2 r1.1 r1.2
  have hdr := share_rng' r3 r1
  obtain ⟨d, hd⟩ : ∃ x, shareS ee nf = x := ⟨_, rfl⟩
  rw [hd] at hS1 hdr
  obtain ⟨sd, hsd⟩ : ∃ x, stepD c s p = x := ⟨_, rfl⟩
  have hsr := stepD_rng c s p
  rw [hsd] at hsr
  have hM := rmul_ok n0 sd hn0.1 hn0.2 hsr.1 hsr.2
  have hmr := mul_rng' hn0 hsr
  obtain ⟨m, hm⟩ : ∃ x, mulS n0 sd = x := ⟨_, rfl⟩
  rw [hm] at hM hmr
  have hS2 := rshare_ok m nt hmr.1 hmr.2 r2.1 r2.2
  have hsd2 : sd = pathS mx d := by rw [← hsd, stepD, if_pos hop, hke, hee, hfr, hnf, hd, hmx]
  have hw1 : IntKind.i64.wrap (d + 1) = d + 1 := wrap_id (by omega) (by omega)
  refine snd_of [] Try.func33 rfl (by kernel_rfl) Try.ntmps33 (by simp) ?_
  unfold Try.f33
  simp only [List.cons_append, List.nil_append, List.length_cons, List.length_nil, Nat.reduceAdd, Nat.reduceSub, List.replicate]
  refine Run.seq ?_
  refine opsF oo45 fun K hK => ?_
  try simp
  repeat' first | ((refine evL_c ?_); simp [hn, hk, hop, hkl, hb0, hmx, hke, he0, he1, he2, hel0, hf1, hf2, hf3, hf4, hf5]) | (with_reducible refine And.intro ?_ ?_) | intro _ | (with_reducible assumption) | omega
  all_goals (refine Fin.go hK ?_; clear hK K)
  simp only [Then_normal]
  refine Run.seq ?_
  refine Run.seq ?_
  refine opsF oo46 fun K hK => ?_
  try simp
  repeat' first | ((refine evL_c ?_); simp [hn, hk, hop, hkl, hb0, hmx, hke, he0, he1, he2, hel0, hf1, hf2, hf3, hf4, hf5]) | (with_reducible refine And.intro ?_ ?_) | intro _ | (with_reducible assumption) | omega
  all_goals (refine Fin.go hK ?_; clear hK K)
  simp only [Then_normal]
  refine Run.cond rfl (fun h25 => ?_) (fun h25 => ?_)
  · simp at h25
  · skip
    refine Run.skip ?_
    simp only [Then_normal]
    refine Run.seq ?_
    refine opsF oo47 fun K hK => ?_
    try simp
    repeat' first | (refine ecallD (by exact hI) ?_) | ((refine evL_c ?_); simp [hn, hk, hop, hkl, hb0, hmx, hke, he0, he1, he2, hel0, hf1, hf2, hf3, hf4, hf5]) | (with_reducible refine And.intro ?_ ?_) | intro _ | (with_reducible assumption) | omega
    all_goals (refine Fin.go hK ?_; clear hK K)
    simp only [Then_normal]
    refine Run.seq ?_
    refine opsF oo48 fun K hK => ?_
    try simp
    repeat' first | (refine ecall (by exact hJ) rfl ?_) | ((refine evL_c ?_); simp [hn, hk, hop, hkl, hb0, hmx, hke, he0, he1, he2, hel0, hf1, hf2, hf3, hf4, hf5]) | (with_reducible refine And.intro ?_ ?_) | intro _ | (with_reducible assumption) | omega
    all_goals (refine Fin.go hK ?_; clear hK K)
    simp only [Then_normal]
    refine Run.seq ?_
    refine Run.seq ?_
    refine opsF oo49 fun K hK => ?_
    try simp
    repeat' first | ((refine evL_c ?_); simp [hn, hk, hop, hkl, hb0, hmx, hke, he0, he1, he2, hel0, hf1, hf2, hf3, hf4, hf5]) | (with_reducible refine And.intro ?_ ?_) | intro _ | (with_reducible assumption) | omega
    all_goals (refine Fin.go hK ?_; clear hK K)
    simp only [Then_normal]
    refine Run.block ?_
    refine Run.seq ?_
    refine Run.seq ?_
    refine opsF oo50 fun K hK => ?_
    try simp
    repeat' first | ((refine evL_c ?_); simp [hn, hk, hop, hkl, hb0, hmx, hke, he0, he1, he2, hel0, hf1, hf2, hf3, hf4, hf5]) | (with_reducible refine And.intro ?_ ?_) | intro _ | (with_reducible assumption) | omega
    all_goals (refine Fin.go hK ?_; clear hK K)
    simp only [Then_normal]
    refine Run.cond rfl (fun h54 => ?_) (fun h54 => ?_)
    · simp at h54
    · skip
      refine opsF oo51 fun K hK => ?_
      try simp
      repeat' first | ((refine evL_c ?_); simp [hn, hk, hop, hkl, hb0, hmx, hke, he0, he1, he2, hel0, hf1, hf2, hf3, hf4, hf5]) | (with_reducible refine And.intro ?_ ?_) | intro _ | (with_reducible assumption) | omega
      all_goals (refine Fin.go hK ?_; clear hK K)
      simp only [Then_normal]
      refine Run.cond rfl (fun h54 => ?_) (fun h54 => ?_)
      · skip
        refine Run.cut [10, 57, 58, 59, 60, 61, 62, 63, 64] [(10, .pt 1100 0 0 0)] [(400, .vals ((encP p).map .d)), (500, .vals ((encC c).map .d)), (600, .vals ((encS s).map .d)), (1100, .vals ((encE (rdI c.edges ke)).map .d))] ?_ ?_
        · refine opsF oo55 fun K hK => ?_
          try simp
          repeat' first | ((refine evL_c ?_); simp [hn, hk, hop, hkl, hb0, hmx, hke, he0, he1, he2, hel0, hf1, hf2, hf3, hf4, hf5]) | (with_reducible refine And.intro ?_ ?_) | intro _ | (with_reducible assumption) | omega
          all_goals (refine Fin.go hK ?_; clear hK K)
          (try simp [hn, hk, hop, hkl, hb0, hmx, hke, he0, he1, he2, hel0, hf1, hf2, hf3, hf4, hf5]) <;> (first | omega | (simp; done) | grind)
        · simp only [over, List.foldl, List.set]
          refine Run.seq ?_
          refine opsF oo56 fun K hK => ?_
          try simp
          repeat' first | (refine ecall (by exact hEn) rfl ?_) | ((refine evL_c ?_); simp [hn, hk, hop, hkl, hb0, hmx, hke, he0, he1, he2, hel0, hf1, hf2, hf3, hf4, hf5]) | (with_reducible refine And.intro ?_ ?_) | intro _ | (with_reducible assumption) | omega
          all_goals (refine Fin.go hK ?_; clear hK K)
          simp only [Then_normal]
          refine Run.seq ?_
          refine opsF oo57 fun K hK => ?_
          try simp
          repeat' first | (refine ecallD (by exact hE1) ?_) | (refine ecallD (by exact hN1) ?_) | (refine ecallD (by exact hS1) ?_) | ((refine evL_c ?_); simp [hn, hk, hop, hkl, hb0, hmx, hke, he0, he1, he2, hel0, hf1, hf2, hf3, hf4, hf5]) | (with_reducible refine And.intro ?_ ?_) | intro _ | (with_reducible assumption) | omega
          all_goals (refine Fin.go hK ?_; clear hK K)
          simp only [Then_normal]
          refine Run.seq ?_
          refine opsF oo58 fun K hK => ?_
          try simp
          repeat' first | ((refine evL_c ?_); simp [hn, hk, hop, hkl, hb0, hmx, hke, he0, he1, he2, hel0, hf1, hf2, hf3, hf4, hf5]) | (with_reducible refine And.intro ?_ ?_) | intro _ | (with_reducible assumption) | omega
          all_goals (refine Fin.go hK ?_; clear hK K)
          simp only [Then_normal]
          refine Run.cut [14, 15, 88, 89, 90, 91, 92, 93, 94, 95, 96, 97, 98, 99, 100, 101, 102, 103, 104, 105, 106, 107, 108, 109, 110, 111, 112] [(14, .int sd)] [(400, .vals ((encP p).map .d)), (500, .vals ((encC c).map .d)), (600, .vals ((encS s).map .d)), (1100, .vals ((encE (rdI c.edges ke)).map .d))] ?_ ?_
          · refine Run.seq ?_
            refine opsF oo59 fun K hK => ?_
            try simp
            repeat' first | ((refine evL_c ?_); simp [hn, hk, hop, hkl, hb0, hmx, hke, he0, he1, he2, hel0, hf1, hf2, hf3, hf4, hf5]) | (with_reducible refine And.intro ?_ ?_) | intro _ | (with_reducible assumption) | omega
            all_goals (refine Fin.go hK ?_; clear hK K)
            simp only [Then_normal]
            refine Run.cond rfl (fun h90 => ?_) (fun h90 => ?_)
            · skip
              refine Run.seq ?_
              refine opsF [⟨Op.assign (Operand.const (Value.int IntKind.i64 1)), some 14, none⟩] fun K hK => ?_
              try simp
              repeat' first | ((refine evL_c ?_); simp [hn, hk, hop, hkl, hb0, hmx, hke, he0, he1, he2, hel0, hf1, hf2, hf3, hf4, hf5]) | (with_reducible refine And.intro ?_ ?_) | intro _ | (with_reducible assumption) | omega
              all_goals (refine Fin.go hK ?_; clear hK K)
              simp only [Then_normal]
              refine Run.seq ?_
              refine opsF [⟨Op.assign (Operand.const (Value.int IntKind.i64 0)), some 15, none⟩] fun K hK => ?_
              try simp
              repeat' first | ((refine evL_c ?_); simp [hn, hk, hop, hkl, hb0, hmx, hke, he0, he1, he2, hel0, hf1, hf2, hf3, hf4, hf5]) | (with_reducible refine And.intro ?_ ?_) | intro _ | (with_reducible assumption) | omega
              all_goals (refine Fin.go hK ?_; clear hK K)
              simp only [Then_normal]
              refine Run.block ?_
              refine Run.loopO [14, 15, 91, 92, 93, 94, 95, 96, 97, 98, 99, 100, 101, 102, 103, 104, 105, 106, 107, 108, 109, 110, 111, 112] (fun (i : Nat) => [(15, .int i), (14, .int (pathN d i))]) (fun (i : Nat) => [(400, .vals ((encP p).map .d)), (500, .vals ((encC c).map .d)), (600, .vals ((encS s).map .d)), (1100, .vals ((encE (rdI c.edges ke)).map .d))]) (fun (i : Nat) => i = 0 ∨ ((i : Int) ≤ mx ∧ 0 < d)) (fun (i : Nat) => mx.toNat - i) 0 (.inl rfl) (by simp [pathN, hop, hn, hmx]) fun i hi => ?_
              simp only [over, List.foldl, List.set]
              have hpr := pathN_rng d i
              have hpp := pathN_one hdr.1 i
              have hcr := clip_rng (d + 1)
              have hMp := rmul_ok (pathN d i) (clipS (d + 1)) hpr.1 hpr.2 hcr.1 hcr.2
              have hCl := rclip_ok (d + 1)
              have hpu : pathN d (i + 1) = if pathN d i < 1099511627776 then mulS (pathN d i) (clipS (d + 1)) else pathN d i := rfl
              have hgr : pathN d i < 1099511627776 → 0 < d → mulS (pathN d i) (clipS (d + 1)) ≠ pathN d i := fun h => mul_grows hpp h
              have hz : ¬ 0 < d → mulS (pathN d i) (clipS (d + 1)) = pathN d i := fun h => by
                have h1 : d = 0 := by omega
                have h2 : i = 0 := by omega
                subst h1; subst h2; rfl
              have hz1 : ¬ 0 < d → pathN d i = sd := fun h => by
                rw [hsd2, pathS, if_neg h, show i = 0 by omega]; rfl
              have he1 : (mx ≤ i ∨ 1099511627776 ≤ pathN d i) → 0 < d → pathN d i = sd := fun h h1 => by
                rw [hsd2]; exact (pathS_end h1 h (by omega)).symm
              obtain ⟨f, hf⟩ : ∃ x, pathN d i = x := ⟨_, rfl⟩
              obtain ⟨g, hg⟩ : ∃ x, mulS f (clipS (d + 1)) = x := ⟨_, rfl⟩
              rw [hf] at hMp hpu hgr hz hz1 he1 hpr hpp
              rw [hg] at hMp hpu hgr hz
              refine Run.seq ?_
              refine Run.cut [91, 92, 93, 94, 95, 96, 97, 98] [(98, .bool (decide ((i : Int) < mx ∧ f < 1099511627776)))] [(400, .vals ((encP p).map .d)), (500, .vals ((encC c).map .d)), (600, .vals ((encS s).map .d)), (1100, .vals ((encE (rdI c.edges ke)).map .d))] ?_ ?_
              · refine opsF [⟨Op.move (Operand.tmp 15), some 91, none⟩, ⟨Op.fieldAddr 105 (Operand.tmp 10) 6, some 92, none⟩, ⟨Op.load 3 (Operand.tmp 92), some 93, none⟩, ⟨Op.binOp BinOp.lss 3 (Operand.tmp 91) (Operand.tmp 93) 3, some 94, none⟩, ⟨Op.move (Operand.tmp 94), some 95, none⟩, ⟨Op.move (Operand.tmp 14), some 96, some (some 95, true)⟩, ⟨Op.binOp BinOp.lss 2 (Operand.tmp 96) (Operand.const (Value.int IntKind.i64 1099511627776)) 2, some 97, some (some 95, true)⟩, ⟨Op.pick (Operand.tmp 95) (Operand.tmp 97) (Operand.const (Value.bool false)), some 98, none⟩] fun K hK => ?_
                try simp
                repeat' first | ((first | refine evL_c ?_ | (refine evL_g rfl ?_; try simp only [gs_tt, gs_ff, gs_tf, gs_ft]) | refine evL_u rfl ?_ | (with_reducible refine gsplit (fun hg => ?_) (fun hg => ?_) <;> try simp at hg)) <;> try simp [hn, hk, hop, hkl, hb0, hmx, hke, he0, he1, he2, hel0, hf1, hf2, hf3, hf4, hf5, *]) | (with_reducible refine And.intro ?_ ?_) | intro _ | (with_reducible assumption) | omega
                all_goals (refine Fin.go hK ?_; clear hK K)
                all_goals
                  (try simp [hf, hn, hk, hop, hkl, hb0, hmx, hke, he0, he1, he2, hel0, hf1, hf2, hf3, hf4, hf5]) <;> (first | omega | (simp; done) | grind)
              · simp only [over, List.foldl, List.set]
                refine Run.cond rfl (fun h98 => ?_) (fun h98 => ?_)
                · replace h98 := of_decide_eq_true h98
                  refine Run.skip ?_
                  simp only [Then_normal]
                  refine Run.seq ?_
                  refine Run.block ?_
                  refine Run.seq ?_
                  refine Run.seq ?_
                  refine opsF [⟨Op.move (Operand.tmp 14), some 101, none⟩, ⟨Op.move (Operand.tmp 14), some 102, none⟩, ⟨Op.move (Operand.tmp 13), some 103, none⟩, ⟨Op.binOp BinOp.add 2 (Operand.tmp 103) (Operand.const (Value.int IntKind.i64 1)) 2, some 104, none⟩, ⟨Op.call { callee := Callee.value (Operand.func 35), args := #[Operand.tmp 104], argTypes := #[2] }, some 105, none⟩, ⟨Op.call { callee := Callee.value (Operand.func 70), args := #[Operand.tmp 102, Operand.tmp 105], argTypes := #[2, 2] }, some 106, none⟩, ⟨Op.binOp BinOp.eql 2 (Operand.tmp 101) (Operand.tmp 106) 2, some 107, none⟩] fun K hK => ?_
                  try simp
                  repeat' first | (refine ecallD (by exact hCl) ?_) | (refine ecallD (by exact hMp) ?_) | ((refine evL_c ?_); simp [hn, hk, hop, hkl, hb0, hmx, hke, he0, he1, he2, hel0, hf1, hf2, hf3, hf4, hf5, hw1, hf]) | (with_reducible refine And.intro ?_ ?_) | intro _ | (with_reducible assumption) | omega
                  all_goals (refine Fin.go hK ?_; clear hK K)
                  simp only [Then_normal]
                  refine Run.cond rfl (fun h107 => ?_) (fun h107 => ?_)
                  · try simp [hf] at h107
                    have hpe : f = sd := by
                      by_cases hd0 : 0 < d
                      · exact absurd h107.symm (hgr h98.2 hd0)
                      · exact hz1 hd0
                    refine Run.exit ?_
                    simp (decide := true) only [Then_exit, Blok_exit, if_true, if_false]
                    simp [hf, hpe, hop, hn, hmx]
                  · try simp [hf] at h107
                    refine Run.skip ?_
                    simp only [Then_normal]
                    refine opsF [⟨Op.move (Operand.tmp 14), some 108, none⟩, ⟨Op.move (Operand.tmp 13), some 109, none⟩, ⟨Op.binOp BinOp.add 2 (Operand.tmp 109) (Operand.const (Value.int IntKind.i64 1)) 2, some 110, none⟩, ⟨Op.call { callee := Callee.value (Operand.func 35), args := #[Operand.tmp 110], argTypes := #[2] }, some 111, none⟩, ⟨Op.call { callee := Callee.value (Operand.func 70), args := #[Operand.tmp 108, Operand.tmp 111], argTypes := #[2, 2] }, some 112, none⟩, ⟨Op.assign (Operand.tmp 112), some 14, none⟩] fun K hK => ?_
                    try simp
                    repeat' first | (refine ecallD (by exact hCl) ?_) | (refine ecallD (by exact hMp) ?_) | ((refine evL_c ?_); simp [hn, hk, hop, hkl, hb0, hmx, hke, he0, he1, he2, hel0, hf1, hf2, hf3, hf4, hf5, hw1, hf]) | (with_reducible refine And.intro ?_ ?_) | intro _ | (with_reducible assumption) | omega
                    all_goals (refine Fin.go hK ?_; clear hK K)
                    simp only [Blok_normal]
                    simp only [Then_normal]
                    refine opsF [⟨Op.move (Operand.tmp 15), some 99, none⟩, ⟨Op.binOp BinOp.add 3 (Operand.tmp 99) (Operand.const (Value.int IntKind.i64 1)) 3, some 100, none⟩, ⟨Op.assign (Operand.tmp 100), some 15, none⟩] fun K hK => ?_
                    try simp
                    repeat' first | ((refine evL_c ?_); simp [hn, hk, hop, hkl, hb0, hmx, hke, he0, he1, he2, hel0, hf1, hf2, hf3, hf4, hf5, hw1, hf]) | (with_reducible refine And.intro ?_ ?_) | intro _ | (with_reducible assumption) | omega
                    all_goals (refine Fin.go hK ?_; clear hK K)
                    have hc2 : 0 < d := by
                      by_cases q : 0 < d
                      · exact q
                      · exact absurd (hz q).symm h107
                    rw [if_pos h98.2] at hpu
                    refine ⟨i + 1, .inr ⟨by omega, hc2⟩, by omega, ?_⟩
                    simp (disch := omega) [wrap_id, hpu, hop, hn, hmx]
                · replace h98 := of_decide_eq_false h98
                  have hpe : f = sd := by
                    by_cases hd0 : 0 < d
                    · exact he1 (by omega) hd0
                    · exact hz1 hd0
                  refine Run.exit ?_
                  simp (decide := true) only [Then_exit, Blok_exit, if_true, if_false]
                  simp [hf, hpe, hop, hn, hmx]
            · simp at h90
          · simp only [over, List.foldl, List.set]
            refine Run.seq ?_
            refine opsF oo60 fun K hK => ?_
            try simp
            repeat' first | (refine ecallD (by exact hM) ?_) | ((refine evL_c ?_); simp [hn, hk, hop, hkl, hb0, hmx, hke, he0, he1, he2, hel0, hf1, hf2, hf3, hf4, hf5]) | (with_reducible refine And.intro ?_ ?_) | intro _ | (with_reducible assumption) | omega
            all_goals (refine Fin.go hK ?_; clear hK K)
            simp only [Then_normal]
            refine Run.seq ?_
            refine opsF oo61 fun K hK => ?_
            try simp
            repeat' first | ((refine evL_c ?_); simp [hn, hk, hop, hkl, hb0, hmx, hke, he0, he1, he2, hel0, hf1, hf2, hf3, hf4, hf5]) | (with_reducible refine And.intro ?_ ?_) | intro _ | (with_reducible assumption) | omega
            all_goals (refine Fin.go hK ?_; clear hK K)
            simp only [Then_normal]
            refine Run.cond rfl (fun h119 => ?_) (fun h119 => ?_)
            · try simp at h119
              refine opsF oo62 fun K hK => ?_
              try simp
              repeat' first | (refine ecallD (by exact hN2) ?_) | (refine ecallD (by exact hS2) ?_) | ((refine evL_c ?_); simp [hn, hk, hop, hkl, hb0, hmx, hke, he0, he1, he2, hel0, hf1, hf2, hf3, hf4, hf5]) | (with_reducible refine And.intro ?_ ?_) | intro _ | (with_reducible assumption) | omega
              all_goals (refine Fin.go hK ?_; clear hK K)
              simp only [Blok_normal]
              simp only [Then_normal]
              refine Run.seq ?_
              refine opsF oo54 fun K hK => ?_
              try simp
              repeat' first | ((refine evL_c ?_); simp [hn, hk, hop, hkl, hb0, hmx, hke, he0, he1, he2, hel0, hf1, hf2, hf3, hf4, hf5]) | (with_reducible refine And.intro ?_ ?_) | intro _ | (with_reducible assumption) | omega
              all_goals (refine Fin.go hK ?_; clear hK K)
              simp only [Then_normal]
              refine Run.ret ?_
              try simp only [Then_ret, Blok_ret]
              simp [stepS, hto, hsd, hnt, hm, h119]
            · try simp at h119
              refine Run.skip ?_
              simp only [Blok_normal]
              simp only [Then_normal]
              refine Run.seq ?_
              refine opsF oo54 fun K hK => ?_
              try simp
              repeat' first | ((refine evL_c ?_); simp [hn, hk, hop, hkl, hb0, hmx, hke, he0, he1, he2, hel0, hf1, hf2, hf3, hf4, hf5]) | (with_reducible refine And.intro ?_ ?_) | intro _ | (with_reducible assumption) | omega
              all_goals (refine Fin.go hK ?_; clear hK K)
              simp only [Then_normal]
              refine Run.ret ?_
              try simp only [Then_ret, Blok_ret]
              simp [stepS, hto, hsd, hnt, hm, h119]
      · simp at h54


end Go.Proofs.Ytihbejpkfifplaa.Z
end
section
set_option maxRecDepth 100000
namespace Go.Proofs.Ytihbejpkfifplaa.Z
open Go Go.Fw
set_option maxHeartbeats 4000000 in
theorem rest4_ok (c : CoreT) (s : StatsT) (p : PlanT) (n0 n1 : Int) (b0 b1 : List Bool) (hP : patS c.nodes c.edges = true) (hop : p.op = 4) (hkl : p.kids.length = 2) (IH0 : Snd P 33 [.d (.ag (encP (rdI p.kids 0))), .d (.ag (encC c)), .d (.ag (encS s))] (.int n0) []) (hn0 : 0 ≤ n0 ∧ n0 ≤ 1099511627776) (hB0 : Snd P 21 [.d (.ag (encP (rdI p.kids 0))), .d (.ag (encC c))] (.tup [.d (.sl false (b0.map encB)), .int 0]) []) (hb0 : b0.length = c.nodes.length + c.edges.length) (IH1 : Snd P 33 [.d (.ag (encP (rdI p.kids 1))), .d (.ag (encC c)), .d (.ag (encS s))] (.int n1) []) (hn1 : 0 ≤ n1 ∧ n1 ≤ 1099511627776) (hB1 : Snd P 21 [.d (.ag (encP (rdI p.kids 1))), .d (.ag (encC c))] (.tup [.d (.sl false (b1.map encB)), .int 0]) []) (hb1 : b1.length = c.nodes.length + c.edges.length) : Snd P 33 [.d (.ag (encP p)), .d (.ag (encC c)), .d (.ag (encS s))] (.int (joinE c s b0 b1 (mulS n0 n1) c.nodes.length)) [] := by
  obtain ⟨-, hn8, hk8⟩ := pat_rng hP
  have hE := goodE_of hP
  obtain ⟨n, hn⟩ : ∃ k, c.nodes.length = k := ⟨_, rfl⟩
  obtain ⟨k, hk⟩ : ∃ k, c.edges.length = k := ⟨_, rfl⟩
  rw [hn] at hn8
  rw [hk] at hk8
  rw [hn, hk] at hb0
  have hI := IH0
  have hJ := hB0
  rw [encP_cells] at hI hJ
  rw [hn, hk] at hb1
  have hI1 := IH1
  have hJ1 := hB1
  rw [encP_cells] at hI1 hJ1
  have hM := rmul_ok n0 n1 hn0.1 hn0.2 hn1.1 hn1.2
  have hmr := mul_rng' hn0 hn1
  obtain ⟨m, hm⟩ : ∃ x, mulS n0 n1 = x := ⟨_, rfl⟩
  rw [hm] at hM hmr
  refine snd_of [] Try.func33 rfl (by kernel_rfl) Try.ntmps33 (by simp) ?_
  unfold Try.f33
  simp only [List.cons_append, List.nil_append, List.length_cons, List.length_nil, Nat.reduceAdd, Nat.reduceSub, List.replicate]
  refine Run.seq ?_
  refine opsF oo45 fun K hK => ?_
  try simp
  repeat' first | ((refine evL_c ?_); simp [hn, hk, hop, hkl, hb0, hb1]) | (with_reducible refine And.intro ?_ ?_) | intro _ | (with_reducible assumption) | omega
  all_goals (refine Fin.go hK ?_; clear hK K)
  simp only [Then_normal]
  refine Run.seq ?_
  refine Run.seq ?_
  refine opsF oo46 fun K hK => ?_
  try simp
  repeat' first | ((refine evL_c ?_); simp [hn, hk, hop, hkl, hb0, hb1]) | (with_reducible refine And.intro ?_ ?_) | intro _ | (with_reducible assumption) | omega
  all_goals (refine Fin.go hK ?_; clear hK K)
  simp only [Then_normal]
  refine Run.cond rfl (fun h25 => ?_) (fun h25 => ?_)
  · simp at h25
  · skip
    refine Run.skip ?_
    simp only [Then_normal]
    refine Run.seq ?_
    refine opsF oo47 fun K hK => ?_
    try simp
    repeat' first | (refine ecallD (by exact hI) ?_) | ((refine evL_c ?_); simp [hn, hk, hop, hkl, hb0, hb1]) | (with_reducible refine And.intro ?_ ?_) | intro _ | (with_reducible assumption) | omega
    all_goals (refine Fin.go hK ?_; clear hK K)
    simp only [Then_normal]
    refine Run.seq ?_
    refine opsF oo48 fun K hK => ?_
    try simp
    repeat' first | (refine ecall (by exact hJ) rfl ?_) | ((refine evL_c ?_); simp [hn, hk, hop, hkl, hb0, hb1]) | (with_reducible refine And.intro ?_ ?_) | intro _ | (with_reducible assumption) | omega
    all_goals (refine Fin.go hK ?_; clear hK K)
    simp only [Then_normal]
    refine Run.seq ?_
    refine Run.seq ?_
    refine opsF oo49 fun K hK => ?_
    try simp
    repeat' first | ((refine evL_c ?_); simp [hn, hk, hop, hkl, hb0, hb1]) | (with_reducible refine And.intro ?_ ?_) | intro _ | (with_reducible assumption) | omega
    all_goals (refine Fin.go hK ?_; clear hK K)
    simp only [Then_normal]
    refine Run.block ?_
    refine Run.seq ?_
    refine Run.seq ?_
    refine opsF oo50 fun K hK => ?_
    try simp
    repeat' first | ((refine evL_c ?_); simp [hn, hk, hop, hkl, hb0, hb1]) | (with_reducible refine And.intro ?_ ?_) | intro _ | (with_reducible assumption) | omega
    all_goals (refine Fin.go hK ?_; clear hK K)
    simp only [Then_normal]
    refine Run.cond rfl (fun h54 => ?_) (fun h54 => ?_)
    · simp at h54
    · skip
      refine opsF oo51 fun K hK => ?_
      try simp
      repeat' first | ((refine evL_c ?_); simp [hn, hk, hop, hkl, hb0, hb1]) | (with_reducible refine And.intro ?_ ?_) | intro _ | (with_reducible assumption) | omega
      all_goals (refine Fin.go hK ?_; clear hK K)
      simp only [Then_normal]
      refine Run.cond rfl (fun h54 => ?_) (fun h54 => ?_)
      · simp at h54
      · skip
        refine Run.seq ?_
        refine opsF oo52 fun K hK => ?_
        try simp
        repeat' first | ((refine evL_c ?_); simp [hn, hk, hop, hkl, hb0, hb1]) | (with_reducible refine And.intro ?_ ?_) | intro _ | (with_reducible assumption) | omega
        all_goals (refine Fin.go hK ?_; clear hK K)
        simp only [Then_normal]
        refine Run.cond rfl (fun h131 => ?_) (fun h131 => ?_)
        · skip
          refine Run.seq ?_
          refine opsF [⟨Op.move (Operand.tmp 7), some 133, none⟩, ⟨Op.fieldAddr 27 (Operand.tmp 3) 1, some 134, none⟩, ⟨Op.load 23 (Operand.tmp 134), some 135, none⟩, ⟨Op.indexAddr 23 (Operand.tmp 135) (Operand.const (Value.int IntKind.i64 1)), some 136, none⟩, ⟨Op.load 27 (Operand.tmp 136), some 137, none⟩, ⟨Op.load 33 (Operand.tmp 4), some 138, none⟩, ⟨Op.load 53 (Operand.tmp 5), some 139, none⟩, ⟨Op.call { callee := Callee.value (Operand.func 33), args := #[Operand.tmp 137, Operand.tmp 138, Operand.tmp 139], argTypes := #[27, 33, 53] }, some 140, none⟩, ⟨Op.call { callee := Callee.value (Operand.func 70), args := #[Operand.tmp 133, Operand.tmp 140], argTypes := #[2, 2] }, some 141, none⟩, ⟨Op.assign (Operand.tmp 141), some 7, none⟩] fun K hK => ?_
          try simp
          repeat' first | (refine ecallD (by exact hI1) ?_) | (refine ecallD (by exact hM) ?_) | ((refine evL_c ?_); simp [hn, hk, hop, hkl, hb0, hb1]) | (with_reducible refine And.intro ?_ ?_) | intro _ | (with_reducible assumption) | omega
          all_goals (refine Fin.go hK ?_; clear hK K)
          simp only [Then_normal]
          refine Run.seq ?_
          refine opsF [⟨Op.fieldAddr 27 (Operand.tmp 3) 1, some 143, none⟩, ⟨Op.load 23 (Operand.tmp 143), some 144, none⟩, ⟨Op.indexAddr 23 (Operand.tmp 144) (Operand.const (Value.int IntKind.i64 1)), some 145, none⟩, ⟨Op.load 27 (Operand.tmp 145), some 146, none⟩, ⟨Op.load 33 (Operand.tmp 4), some 147, none⟩, ⟨Op.call { callee := Callee.value (Operand.func 21), args := #[Operand.tmp 146, Operand.tmp 147], argTypes := #[27, 33] }, some 148, none⟩, ⟨Op.move (Operand.tmp 148), some 142, none⟩, ⟨Op.extract (Operand.tmp 142) 0, some 149, none⟩, ⟨Op.extract (Operand.tmp 142) 1, some 150, none⟩, ⟨Op.assign (Operand.tmp 149), some 16, none⟩, ⟨Op.assign (Operand.tmp 150), some 17, none⟩] fun K hK => ?_
          try simp
          repeat' first | (refine ecall (by exact hJ1) rfl ?_) | ((refine evL_c ?_); simp [hn, hk, hop, hkl, hb0, hb1]) | (with_reducible refine And.intro ?_ ?_) | intro _ | (with_reducible assumption) | omega
          all_goals (refine Fin.go hK ?_; clear hK K)
          simp only [Then_normal]
          refine Run.seq ?_
          refine opsF [⟨Op.assign (Operand.const (Value.int IntKind.i64 0)), some 18, none⟩] fun K hK => ?_
          try simp
          repeat' first | ((refine evL_c ?_); simp [hn, hk, hop, hkl, hb0, hb1]) | (with_reducible refine And.intro ?_ ?_) | intro _ | (with_reducible assumption) | omega
          all_goals (refine Fin.go hK ?_; clear hK K)
          simp only [Then_normal]
          refine Run.block ?_
          refine Run.loopO [7, 18, 151, 152, 153, 154, 155, 156, 157, 158, 159, 160, 161, 162, 163, 164, 165, 166, 167, 168, 169, 170, 171, 172, 173, 174, 175, 176, 177, 178] (fun (i : Nat) => [(18, .int i), (7, .int (joinE c s b0 b1 m i))]) (fun (i : Nat) => [(400, .vals ((encP p).map .d)), (500, .vals ((encC c).map .d)), (600, .vals ((encS s).map .d))]) (fun (i : Nat) => i ≤ n) (fun (i : Nat) => n - i) 0 (by omega) (by simp [joinE, hop, hn]) fun i hi => ?_
          simp only [over, List.foldl, List.set]
          have hjr := joinE_rng (c := c) (s := s) (a := b0) (b := b1) hmr i
          have hju : joinE c s b0 b1 m (i + 1) = if rdI b0 i && rdI b1 i then shareS (joinE c s b0 b1 m i) (nodesS c s i) else joinE c s b0 b1 m i := rfl
          obtain ⟨ji, hji⟩ : ∃ x, joinE c s b0 b1 m i = x := ⟨_, rfl⟩
          rw [hji] at hjr hju
          refine Run.seq ?_
          refine Run.seq ?_
          refine opsF [⟨Op.move (Operand.tmp 18), some 151, none⟩, ⟨Op.fieldAddr 33 (Operand.tmp 4) 0, some 152, none⟩, ⟨Op.load 28 (Operand.tmp 152), some 153, none⟩, ⟨Op.call { callee := Callee.builtin Builtin.len, args := #[Operand.tmp 153], argTypes := #[28] }, some 154, none⟩, ⟨Op.binOp BinOp.lss 3 (Operand.tmp 151) (Operand.tmp 154) 3, some 155, none⟩] fun K hK => ?_
          try simp
          repeat' first | ((refine evL_c ?_); simp [hn, hk, hop, hkl, hb0, hb1]) | (with_reducible refine And.intro ?_ ?_) | intro _ | (with_reducible assumption) | omega
          all_goals (refine Fin.go hK ?_; clear hK K)
          simp only [Then_normal]
          refine Run.cond rfl (fun h155 => ?_) (fun h155 => ?_)
          · try simp [hji] at h155
            have hi1 : i < n := by omega
            have hi2 : (i : Int) < (b0.length : Int) := by omega
            have hi3 : (i : Int) < (b1.length : Int) := by omega
            have hi4 : (i : Int) < (n : Int) + k := by omega
            have hN := rnodes_ok c s i
            have hnr := nodesS_rng c s i
            have hS := rshare_ok ji (nodesS c s i) hjr.1 hjr.2 hnr.1 hnr.2
            refine Run.skip ?_
            simp only [Then_normal]
            refine Run.seq ?_
            refine Run.block ?_
            refine Run.cut [158, 159, 160, 161, 162, 163, 164, 165, 166, 167] [(167, .bool (rdI b0 i && rdI b1 i))] [(400, .vals ((encP p).map .d)), (500, .vals ((encC c).map .d)), (600, .vals ((encS s).map .d))] ?_ ?_
            · refine opsF [⟨Op.move (Operand.tmp 8), some 158, none⟩, ⟨Op.move (Operand.tmp 18), some 159, none⟩, ⟨Op.indexAddr 60 (Operand.tmp 158) (Operand.tmp 159), some 160, none⟩, ⟨Op.load 4 (Operand.tmp 160), some 161, none⟩, ⟨Op.move (Operand.tmp 161), some 162, none⟩, ⟨Op.move (Operand.tmp 16), some 163, some (some 162, true)⟩, ⟨Op.move (Operand.tmp 18), some 164, some (some 162, true)⟩, ⟨Op.indexAddr 60 (Operand.tmp 163) (Operand.tmp 164), some 165, some (some 162, true)⟩, ⟨Op.load 4 (Operand.tmp 165), some 166, some (some 162, true)⟩, ⟨Op.pick (Operand.tmp 162) (Operand.tmp 166) (Operand.const (Value.bool false)), some 167, none⟩] fun K hK => ?_
              try simp
              repeat' first | ((first | refine evL_c ?_ | (refine evL_g rfl ?_; try simp only [gs_tt, gs_ff, gs_tf, gs_ft]) | refine evL_u rfl ?_ | (with_reducible refine gsplit (fun hg => ?_) (fun hg => ?_) <;> try simp at hg)) <;> try simp [hn, hk, hop, hkl, hb0, hb1, hji, hi1, hi4, *]) | (with_reducible refine And.intro ?_ ?_) | intro _ | (with_reducible assumption) | omega
              all_goals (refine Fin.go hK ?_; clear hK K)
              all_goals
                (try simp [hop, hn, *]) <;> (first | omega | (simp; done) | grind)
            · simp only [over, List.foldl, List.set]
              refine Run.cond rfl (fun h167 => ?_) (fun h167 => ?_)
              · try simp at h167
                refine opsF [⟨Op.move (Operand.tmp 7), some 168, none⟩, ⟨Op.fieldAddr 53 (Operand.tmp 5) 0, some 169, none⟩, ⟨Op.load 51 (Operand.tmp 169), some 170, none⟩, ⟨Op.fieldAddr 33 (Operand.tmp 4) 0, some 171, none⟩, ⟨Op.load 28 (Operand.tmp 171), some 172, none⟩, ⟨Op.move (Operand.tmp 18), some 173, none⟩, ⟨Op.indexAddr 28 (Operand.tmp 172) (Operand.tmp 173), some 174, none⟩, ⟨Op.fieldAddr 76 (Operand.tmp 174) 1, some 175, none⟩, ⟨Op.load 3 (Operand.tmp 175), some 176, none⟩, ⟨Op.call { callee := Callee.value (Operand.func 67), args := #[Operand.tmp 170, Operand.tmp 176], argTypes := #[51, 3] }, some 177, none⟩, ⟨Op.call { callee := Callee.value (Operand.func 69), args := #[Operand.tmp 168, Operand.tmp 177], argTypes := #[2, 2] }, some 178, none⟩, ⟨Op.assign (Operand.tmp 178), some 7, none⟩] fun K hK => ?_
                try simp
                repeat' first | (refine ecallD (by exact hN) ?_) | (refine ecallD (by exact hS) ?_) | ((refine evL_c ?_); simp [hn, hk, hop, hkl, hb0, hb1, hji, hi1, hi4]) | (with_reducible refine And.intro ?_ ?_) | intro _ | (with_reducible assumption) | omega
                all_goals (refine Fin.go hK ?_; clear hK K)
                simp only [Blok_normal]
                simp only [Then_normal]
                refine opsF oo63 fun K hK => ?_
                try simp
                repeat' first | ((refine evL_c ?_); simp [hn, hk, hop, hkl, hb0, hb1, hji, hi1, hi4]) | (with_reducible refine And.intro ?_ ?_) | intro _ | (with_reducible assumption) | omega
                all_goals (refine Fin.go hK ?_; clear hK K)
                refine ⟨i + 1, by omega, by omega, ?_⟩
                (try simp at h167)
                (try simp (disch := omega) [wrap_id, hju, hop, hn, h167, hji]) <;> (first | done | grind)
              · try simp at h167
                refine Run.skip ?_
                simp only [Blok_normal]
                simp only [Then_normal]
                refine opsF oo63 fun K hK => ?_
                try simp
                repeat' first | ((refine evL_c ?_); simp [hn, hk, hop, hkl, hb0, hb1, hji, hi1, hi4]) | (with_reducible refine And.intro ?_ ?_) | intro _ | (with_reducible assumption) | omega
                all_goals (refine Fin.go hK ?_; clear hK K)
                refine ⟨i + 1, by omega, by omega, ?_⟩
                (try simp at h167)
                (try simp (disch := omega) [wrap_id, hju, hop, hn, h167, hji]) <;> (first | done | grind)
          · try simp [hji] at h155
            have hi5 : i = n := by omega
            subst hi5
            refine Run.exit ?_
            simp (decide := true) only [Then_exit, Blok_exit, if_true, if_false]
            simp only [Blok_normal]
            simp only [Then_normal]
            refine Run.seq ?_
            refine opsF oo54 fun K hK => ?_
            try simp
            repeat' first | ((refine evL_c ?_); simp [hn, hk, hop, hkl, hb0, hb1, hji]) | (with_reducible refine And.intro ?_ ?_) | intro _ | (with_reducible assumption) | omega
            all_goals (refine Fin.go hK ?_; clear hK K)
            simp only [Then_normal]
            refine Run.ret ?_
            try simp only [Then_ret, Blok_ret]
            simp [hm, hn, hji]
        · simp at h131

set_option maxHeartbeats 4000000 in
theorem rest5_ok (c : CoreT) (s : StatsT) (p : PlanT) (n0 : Int) (b0 : List Bool) (hP : patS c.nodes c.edges = true) (hop : p.op = 5) (hkl : p.kids.length = 1) (hs0 : 0 ≤ p.slot) (hs1 : p.slot < c.nodes.length) (hme : ∀ i : Nat, i < p.edges.length → 0 ≤ rdI p.edges i ∧ rdI p.edges i < c.edges.length) (IH0 : Snd P 33 [.d (.ag (encP (rdI p.kids 0))), .d (.ag (encC c)), .d (.ag (encS s))] (.int n0) []) (hn0 : 0 ≤ n0 ∧ n0 ≤ 1099511627776) (hB0 : Snd P 21 [.d (.ag (encP (rdI p.kids 0))), .d (.ag (encC c))] (.tup [.d (.sl false (b0.map encB)), .int 0]) []) (hb0 : b0.length = c.nodes.length + c.edges.length) : Snd P 33 [.d (.ag (encP p)), .d (.ag (encC c)), .d (.ag (encS s))] (.int (meetE c s p n0 p.edges.length)) [] := by
  refine Snd.ok 0 rfl (by kernel_rfl) fun hok => ?_
  have htm := (encP_ok hok).2.1
  clear hok
  obtain ⟨-, hn8, hk8⟩ := pat_rng hP
  have hE := goodE_of hP
  obtain ⟨n, hn⟩ : ∃ k, c.nodes.length = k := ⟨_, rfl⟩
  obtain ⟨k, hk⟩ : ∃ k, c.edges.length = k := ⟨_, rfl⟩
  rw [hn] at hn8
  rw [hk] at hk8
  rw [hn, hk] at hb0
  have hI := IH0
  have hJ := hB0
  rw [encP_cells] at hI hJ
  have hs2 : p.slot < (n : Int) := by omega
  have hN0 := rnodes_ok c s p.slot
  have hnr := nodesS_rng c s p.slot
  have hM := rmul_ok n0 (nodesS c s p.slot) hn0.1 hn0.2 hnr.1 hnr.2
  obtain ⟨el, hel⟩ : ∃ x, p.edges.length = x := ⟨_, rfl⟩
  rw [hel] at hme htm
  obtain ⟨ns, hns⟩ : ∃ x, nodesS c s p.slot = x := ⟨_, rfl⟩
  rw [hns] at hN0 hM hnr
  refine snd_of [] Try.func33 rfl (by kernel_rfl) Try.ntmps33 (by simp) ?_
  unfold Try.f33
  simp only [List.cons_append, List.nil_append, List.length_cons, List.length_nil, Nat.reduceAdd, Nat.reduceSub, List.replicate]
  refine Run.seq ?_
  refine opsF oo45 fun K hK => ?_
  try simp
  repeat' first | ((refine evL_c ?_); simp [hn, hk, hop, hkl, hb0, hel, hs0, hs2]) | (with_reducible refine And.intro ?_ ?_) | intro _ | (with_reducible assumption) | omega
  all_goals (refine Fin.go hK ?_; clear hK K)
  simp only [Then_normal]
  refine Run.seq ?_
  refine Run.seq ?_
  refine opsF oo46 fun K hK => ?_
  try simp
  repeat' first | ((refine evL_c ?_); simp [hn, hk, hop, hkl, hb0, hel, hs0, hs2]) | (with_reducible refine And.intro ?_ ?_) | intro _ | (with_reducible assumption) | omega
  all_goals (refine Fin.go hK ?_; clear hK K)
  simp only [Then_normal]
  refine Run.cond rfl (fun h25 => ?_) (fun h25 => ?_)
  · simp at h25
  · skip
    refine Run.skip ?_
    simp only [Then_normal]
    refine Run.seq ?_
    refine opsF oo47 fun K hK => ?_
    try simp
    repeat' first | (refine ecallD (by exact hI) ?_) | ((refine evL_c ?_); simp [hn, hk, hop, hkl, hb0, hel, hs0, hs2]) | (with_reducible refine And.intro ?_ ?_) | intro _ | (with_reducible assumption) | omega
    all_goals (refine Fin.go hK ?_; clear hK K)
    simp only [Then_normal]
    refine Run.seq ?_
    refine opsF oo48 fun K hK => ?_
    try simp
    repeat' first | (refine ecall (by exact hJ) rfl ?_) | ((refine evL_c ?_); simp [hn, hk, hop, hkl, hb0, hel, hs0, hs2]) | (with_reducible refine And.intro ?_ ?_) | intro _ | (with_reducible assumption) | omega
    all_goals (refine Fin.go hK ?_; clear hK K)
    simp only [Then_normal]
    refine Run.seq ?_
    refine Run.seq ?_
    refine opsF oo49 fun K hK => ?_
    try simp
    repeat' first | ((refine evL_c ?_); simp [hn, hk, hop, hkl, hb0, hel, hs0, hs2]) | (with_reducible refine And.intro ?_ ?_) | intro _ | (with_reducible assumption) | omega
    all_goals (refine Fin.go hK ?_; clear hK K)
    simp only [Then_normal]
    refine Run.block ?_
    refine Run.seq ?_
    refine Run.seq ?_
    refine opsF oo50 fun K hK => ?_
    try simp
    repeat' first | ((refine evL_c ?_); simp [hn, hk, hop, hkl, hb0, hel, hs0, hs2]) | (with_reducible refine And.intro ?_ ?_) | intro _ | (with_reducible assumption) | omega
    all_goals (refine Fin.go hK ?_; clear hK K)
    simp only [Then_normal]
    refine Run.cond rfl (fun h54 => ?_) (fun h54 => ?_)
    · simp at h54
    · skip
      refine opsF oo51 fun K hK => ?_
      try simp
      repeat' first | ((refine evL_c ?_); simp [hn, hk, hop, hkl, hb0, hel, hs0, hs2]) | (with_reducible refine And.intro ?_ ?_) | intro _ | (with_reducible assumption) | omega
      all_goals (refine Fin.go hK ?_; clear hK K)
      simp only [Then_normal]
      refine Run.cond rfl (fun h54 => ?_) (fun h54 => ?_)
      · simp at h54
      · skip
        refine Run.seq ?_
        refine opsF oo52 fun K hK => ?_
        try simp
        repeat' first | ((refine evL_c ?_); simp [hn, hk, hop, hkl, hb0, hel, hs0, hs2]) | (with_reducible refine And.intro ?_ ?_) | intro _ | (with_reducible assumption) | omega
        all_goals (refine Fin.go hK ?_; clear hK K)
        simp only [Then_normal]
        refine Run.cond rfl (fun h131 => ?_) (fun h131 => ?_)
        · simp at h131
        · skip
          refine Run.seq ?_
          refine opsF oo53 fun K hK => ?_
          try simp
          repeat' first | ((refine evL_c ?_); simp [hn, hk, hop, hkl, hb0, hel, hs0, hs2]) | (with_reducible refine And.intro ?_ ?_) | intro _ | (with_reducible assumption) | omega
          all_goals (refine Fin.go hK ?_; clear hK K)
          simp only [Then_normal]
          refine Run.cond rfl (fun h179 => ?_) (fun h179 => ?_)
          · skip
            refine Run.seq ?_
            refine opsF [⟨Op.move (Operand.tmp 7), some 181, none⟩, ⟨Op.fieldAddr 53 (Operand.tmp 5) 0, some 182, none⟩, ⟨Op.load 51 (Operand.tmp 182), some 183, none⟩, ⟨Op.fieldAddr 33 (Operand.tmp 4) 0, some 184, none⟩, ⟨Op.load 28 (Operand.tmp 184), some 185, none⟩, ⟨Op.fieldAddr 27 (Operand.tmp 3) 2, some 186, none⟩, ⟨Op.load 3 (Operand.tmp 186), some 187, none⟩, ⟨Op.indexAddr 28 (Operand.tmp 185) (Operand.tmp 187), some 188, none⟩, ⟨Op.fieldAddr 76 (Operand.tmp 188) 1, some 189, none⟩, ⟨Op.load 3 (Operand.tmp 189), some 190, none⟩, ⟨Op.call { callee := Callee.value (Operand.func 67), args := #[Operand.tmp 183, Operand.tmp 190], argTypes := #[51, 3] }, some 191, none⟩, ⟨Op.call { callee := Callee.value (Operand.func 70), args := #[Operand.tmp 181, Operand.tmp 191], argTypes := #[2, 2] }, some 192, none⟩, ⟨Op.assign (Operand.tmp 192), some 7, none⟩] fun K hK => ?_
            try simp
            repeat' first | (refine ecallD (by exact hN0) ?_) | (refine ecallD (by exact hM) ?_) | ((refine evL_c ?_); simp [hn, hk, hop, hkl, hb0, hel, hs0, hs2]) | (with_reducible refine And.intro ?_ ?_) | intro _ | (with_reducible assumption) | omega
            all_goals (refine Fin.go hK ?_; clear hK K)
            simp only [Then_normal]
            refine Run.seq ?_
            refine opsF [⟨Op.assign (Operand.const (Value.int IntKind.i64 0)), some 19, none⟩] fun K hK => ?_
            try simp
            repeat' first | ((refine evL_c ?_); simp [hn, hk, hop, hkl, hb0, hel, hs0, hs2]) | (with_reducible refine And.intro ?_ ?_) | intro _ | (with_reducible assumption) | omega
            all_goals (refine Fin.go hK ?_; clear hK K)
            simp only [Then_normal]
            refine Run.block ?_
            refine Run.loopO [7, 19, 20, 21, 193, 194, 195, 196, 197, 198, 199, 200, 201, 202, 203, 204, 205, 206, 207, 208, 209, 210, 211, 212, 213, 214, 215, 216, 217, 218, 219, 220, 221, 222, 223, 224, 225, 226, 227, 228, 229, 230, 231, 232, 233, 234, 235, 236, 237, 238, 239, 240, 241, 242, 243, 244, 245, 246, 247] (fun (i : Nat) => [(19, .int i), (7, .int (meetE c s p n0 i))]) (fun (i : Nat) => [(400, .vals ((encP p).map .d)), (500, .vals ((encC c).map .d)), (600, .vals ((encS s).map .d))]) (fun (i : Nat) => i ≤ el) (fun (i : Nat) => el - i) 0 (by omega) (by simp [meetE, hop, hn, hns]) fun i hi => ?_
            simp only [over, List.foldl, List.set]
            have hjr := meetE_rng (c := c) (s := s) (p := p) hn0 i
            have hju : meetE c s p n0 (i + 1) = shareS (shareS (mulS (meetE c s p n0 i) (edgesS c s (rdI p.edges i))) (nodesS c s p.slot)) (nodesS c s (if (rdI c.edges (rdI p.edges i)).src = p.slot then (rdI c.edges (rdI p.edges i)).dst else (rdI c.edges (rdI p.edges i)).src)) := rfl
            obtain ⟨ji, hji⟩ : ∃ x, meetE c s p n0 i = x := ⟨_, rfl⟩
            obtain ⟨u, hu⟩ : ∃ x, (if (rdI c.edges (rdI p.edges i)).src = p.slot then (rdI c.edges (rdI p.edges i)).dst else (rdI c.edges (rdI p.edges i)).src) = x := ⟨_, rfl⟩
            rw [hji, hu, hns] at hju
            rw [hji] at hjr
            refine Run.seq ?_
            refine Run.seq ?_
            refine opsF [⟨Op.move (Operand.tmp 19), some 193, none⟩, ⟨Op.fieldAddr 27 (Operand.tmp 3) 3, some 194, none⟩, ⟨Op.load 24 (Operand.tmp 194), some 195, none⟩, ⟨Op.call { callee := Callee.builtin Builtin.len, args := #[Operand.tmp 195], argTypes := #[24] }, some 196, none⟩, ⟨Op.binOp BinOp.lss 3 (Operand.tmp 193) (Operand.tmp 196) 3, some 197, none⟩] fun K hK => ?_
            try simp
            repeat' first | ((refine evL_c ?_); simp [hn, hk, hop, hkl, hb0, hel, hs0, hs2]) | (with_reducible refine And.intro ?_ ?_) | intro _ | (with_reducible assumption) | omega
            all_goals (refine Fin.go hK ?_; clear hK K)
            simp only [Then_normal]
            refine Run.cond rfl (fun h197 => ?_) (fun h197 => ?_)
            · try simp [hji] at h197
              have hi1 : i < el := by omega
              obtain ⟨he0, he1⟩ := hme i hi1
              have he2 : rdI p.edges i < (k : Int) := by omega
              have hG := hE (rdI c.edges (rdI p.edges i)) (rdI_mem he0 he1)
              have hu2 : 0 ≤ u ∧ u < n := by rw [← hu]; split <;> omega
              have hu21 := hu2.1
              have hu22 := hu2.2
              have hE1 := redges_ok c s (rdI p.edges i)
              have hN1 := rnodes_ok c s u
              have r1 := edgesS_rng c s (rdI p.edges i)
              have r2 := nodesS_rng c s u
              have hMi := rmul_ok ji (edgesS c s (rdI p.edges i)) hjr.1 hjr.2 r1.1 r1.2
              have r3 := mul_rng' hjr r1
              have hS1 := rshare_ok (mulS ji (edgesS c s (rdI p.edges i))) ns r3.1 r3.2 hnr.1 hnr.2
              have r4 := share_rng' r3 hnr
              have hS2 := rshare_ok (shareS (mulS ji (edgesS c s (rdI p.edges i))) ns) (nodesS c s u) r4.1 r4.2 r2.1 r2.2
              refine Run.skip ?_
              simp only [Then_normal]
              refine Run.seq ?_
              refine Run.block ?_
              refine Run.cut [20, 200, 201, 202, 203, 204, 205, 206, 207, 208] [(20, .pt 2100 0 0 0)] [(400, .vals ((encP p).map .d)), (500, .vals ((encC c).map .d)), (600, .vals ((encS s).map .d)), (2100, .vals ((encE (rdI c.edges (rdI p.edges i))).map .d))] ?_ ?_
              · refine opsF [⟨Op.fieldAddr 33 (Operand.tmp 4) 1, some 200, none⟩, ⟨Op.load 29 (Operand.tmp 200), some 201, none⟩, ⟨Op.fieldAddr 27 (Operand.tmp 3) 3, some 202, none⟩, ⟨Op.load 24 (Operand.tmp 202), some 203, none⟩, ⟨Op.move (Operand.tmp 19), some 204, none⟩, ⟨Op.indexAddr 24 (Operand.tmp 203) (Operand.tmp 204), some 205, none⟩, ⟨Op.load 3 (Operand.tmp 205), some 206, none⟩, ⟨Op.indexAddr 29 (Operand.tmp 201) (Operand.tmp 206), some 207, none⟩, ⟨Op.load 105 (Operand.tmp 207), some 208, none⟩, ⟨Op.alloc 105, some 20, none⟩, ⟨Op.store 105 (Operand.tmp 20) (Operand.tmp 208), none, none⟩] fun K hK => ?_
                try simp
                repeat' first | ((refine evL_c ?_); simp [hn, hk, hop, hkl, hb0, hel, hs0, hs2, hji, hi1, he0, he1, he2, hu21, hu22]) | (with_reducible refine And.intro ?_ ?_) | intro _ | (with_reducible assumption) | omega
                all_goals (refine Fin.go hK ?_; clear hK K)
                (try simp [hn, hk, hop, hkl, hb0, hel, hji, hi1, he0, he1, he2, hs0, hs1, hs2, hu21, hu22]) <;> (first | omega | (simp; done) | grind)
              · simp only [over, List.foldl, List.set]
                refine Run.seq ?_
                refine opsF [⟨Op.fieldAddr 105 (Operand.tmp 20) 2, some 209, none⟩, ⟨Op.load 3 (Operand.tmp 209), some 210, none⟩, ⟨Op.assign (Operand.tmp 210), some 21, none⟩] fun K hK => ?_
                try simp
                repeat' first | ((refine evL_c ?_); simp [hn, hk, hop, hkl, hb0, hel, hs0, hs2, hji, hi1, he0, he1, he2, hu21, hu22]) | (with_reducible refine And.intro ?_ ?_) | intro _ | (with_reducible assumption) | omega
                all_goals (refine Fin.go hK ?_; clear hK K)
                simp only [Then_normal]
                refine Run.cut [21, 211, 212, 213, 214, 215, 216, 217] [(21, .int u)] [(400, .vals ((encP p).map .d)), (500, .vals ((encC c).map .d)), (600, .vals ((encS s).map .d)), (2100, .vals ((encE (rdI c.edges (rdI p.edges i))).map .d))] ?_ ?_
                · refine Run.seq ?_
                  refine opsF [⟨Op.fieldAddr 105 (Operand.tmp 20) 2, some 211, none⟩, ⟨Op.load 3 (Operand.tmp 211), some 212, none⟩, ⟨Op.fieldAddr 27 (Operand.tmp 3) 2, some 213, none⟩, ⟨Op.load 3 (Operand.tmp 213), some 214, none⟩, ⟨Op.binOp BinOp.eql 3 (Operand.tmp 212) (Operand.tmp 214) 3, some 215, none⟩] fun K hK => ?_
                  try simp
                  repeat' first | ((refine evL_c ?_); simp [hn, hk, hop, hkl, hb0, hel, hs0, hs2, hji, hi1, he0, he1, he2, hu21, hu22]) | (with_reducible refine And.intro ?_ ?_) | intro _ | (with_reducible assumption) | omega
                  all_goals (refine Fin.go hK ?_; clear hK K)
                  simp only [Then_normal]
                  refine Run.cond rfl (fun h215 => ?_) (fun h215 => ?_)
                  · try simp at h215
                    refine opsF [⟨Op.fieldAddr 105 (Operand.tmp 20) 3, some 216, none⟩, ⟨Op.load 3 (Operand.tmp 216), some 217, none⟩, ⟨Op.assign (Operand.tmp 217), some 21, none⟩] fun K hK => ?_
                    try simp
                    repeat' first | ((refine evL_c ?_); simp [hn, hk, hop, hkl, hb0, hel, hs0, hs2, hji, hi1, he0, he1, he2, hu21, hu22]) | (with_reducible refine And.intro ?_ ?_) | intro _ | (with_reducible assumption) | omega
                    all_goals (refine Fin.go hK ?_; clear hK K)
                    try simp at h215
                    try simp [h215] at hu
                    simp [hop, hn, hu, h215]
                  · try simp at h215
                    refine Run.skip ?_
                    try simp at h215
                    try simp [h215] at hu
                    simp [hop, hn, hu, h215]
                · simp only [over, List.foldl, List.set]
                  refine Run.seq ?_
                  refine opsF [⟨Op.move (Operand.tmp 7), some 218, none⟩, ⟨Op.fieldAddr 53 (Operand.tmp 5) 1, some 219, none⟩, ⟨Op.load 51 (Operand.tmp 219), some 220, none⟩, ⟨Op.fieldAddr 105 (Operand.tmp 20) 1, some 221, none⟩, ⟨Op.load 3 (Operand.tmp 221), some 222, none⟩, ⟨Op.call { callee := Callee.value (Operand.func 67), args := #[Operand.tmp 220, Operand.tmp 222], argTypes := #[51, 3] }, some 223, none⟩, ⟨Op.call { callee := Callee.value (Operand.func 70), args := #[Operand.tmp 218, Operand.tmp 223], argTypes := #[2, 2] }, some 224, none⟩, ⟨Op.assign (Operand.tmp 224), some 7, none⟩] fun K hK => ?_
                  try simp
                  repeat' first | (refine ecallD (by exact hE1) ?_) | (refine ecallD (by exact hMi) ?_) | ((refine evL_c ?_); simp [hn, hk, hop, hkl, hb0, hel, hs0, hs2, hji, hi1, he0, he1, he2, hu21, hu22]) | (with_reducible refine And.intro ?_ ?_) | intro _ | (with_reducible assumption) | omega
                  all_goals (refine Fin.go hK ?_; clear hK K)
                  simp only [Then_normal]
                  refine Run.seq ?_
                  refine opsF [⟨Op.move (Operand.tmp 7), some 225, none⟩, ⟨Op.fieldAddr 53 (Operand.tmp 5) 0, some 226, none⟩, ⟨Op.load 51 (Operand.tmp 226), some 227, none⟩, ⟨Op.fieldAddr 33 (Operand.tmp 4) 0, some 228, none⟩, ⟨Op.load 28 (Operand.tmp 228), some 229, none⟩, ⟨Op.fieldAddr 27 (Operand.tmp 3) 2, some 230, none⟩, ⟨Op.load 3 (Operand.tmp 230), some 231, none⟩, ⟨Op.indexAddr 28 (Operand.tmp 229) (Operand.tmp 231), some 232, none⟩, ⟨Op.fieldAddr 76 (Operand.tmp 232) 1, some 233, none⟩, ⟨Op.load 3 (Operand.tmp 233), some 234, none⟩, ⟨Op.call { callee := Callee.value (Operand.func 67), args := #[Operand.tmp 227, Operand.tmp 234], argTypes := #[51, 3] }, some 235, none⟩, ⟨Op.call { callee := Callee.value (Operand.func 69), args := #[Operand.tmp 225, Operand.tmp 235], argTypes := #[2, 2] }, some 236, none⟩, ⟨Op.assign (Operand.tmp 236), some 7, none⟩] fun K hK => ?_
                  try simp
                  repeat' first | (refine ecallD (by exact hN0) ?_) | (refine ecallD (by exact hS1) ?_) | ((refine evL_c ?_); simp [hn, hk, hop, hkl, hb0, hel, hs0, hs2, hji, hi1, he0, he1, he2, hu21, hu22]) | (with_reducible refine And.intro ?_ ?_) | intro _ | (with_reducible assumption) | omega
                  all_goals (refine Fin.go hK ?_; clear hK K)
                  simp only [Then_normal]
                  refine opsF [⟨Op.move (Operand.tmp 7), some 237, none⟩, ⟨Op.fieldAddr 53 (Operand.tmp 5) 0, some 238, none⟩, ⟨Op.load 51 (Operand.tmp 238), some 239, none⟩, ⟨Op.fieldAddr 33 (Operand.tmp 4) 0, some 240, none⟩, ⟨Op.load 28 (Operand.tmp 240), some 241, none⟩, ⟨Op.move (Operand.tmp 21), some 242, none⟩, ⟨Op.indexAddr 28 (Operand.tmp 241) (Operand.tmp 242), some 243, none⟩, ⟨Op.fieldAddr 76 (Operand.tmp 243) 1, some 244, none⟩, ⟨Op.load 3 (Operand.tmp 244), some 245, none⟩, ⟨Op.call { callee := Callee.value (Operand.func 67), args := #[Operand.tmp 239, Operand.tmp 245], argTypes := #[51, 3] }, some 246, none⟩, ⟨Op.call { callee := Callee.value (Operand.func 69), args := #[Operand.tmp 237, Operand.tmp 246], argTypes := #[2, 2] }, some 247, none⟩, ⟨Op.assign (Operand.tmp 247), some 7, none⟩] fun K hK => ?_
                  try simp
                  repeat' first | (refine ecallD (by exact hN1) ?_) | (refine ecallD (by exact hS2) ?_) | ((refine evL_c ?_); simp [hn, hk, hop, hkl, hb0, hel, hs0, hs2, hji, hi1, he0, he1, he2, hu21, hu22]) | (with_reducible refine And.intro ?_ ?_) | intro _ | (with_reducible assumption) | omega
                  all_goals (refine Fin.go hK ?_; clear hK K)
                  simp only [Blok_normal]
                  simp only [Then_normal]
                  refine opsF [⟨Op.move (Operand.tmp 19), some 198, none⟩, ⟨Op.binOp BinOp.add 3 (Operand.tmp 198) (Operand.const (Value.int IntKind.i64 1)) 3, some 199, none⟩, ⟨Op.assign (Operand.tmp 199), some 19, none⟩] fun K hK => ?_
                  try simp
                  repeat' first | ((refine evL_c ?_); simp [hn, hk, hop, hkl, hb0, hel, hs0, hs2, hji, hi1, he0, he1, he2, hu21, hu22]) | (with_reducible refine And.intro ?_ ?_) | intro _ | (with_reducible assumption) | omega
                  all_goals (refine Fin.go hK ?_; clear hK K)
                  refine ⟨i + 1, by omega, by omega, ?_⟩
                  simp (disch := omega) [wrap_id, hju, hop, hn]
            · try simp [hji] at h197
              have hi5 : i = el := by omega
              subst hi5
              refine Run.exit ?_
              simp (decide := true) only [Then_exit, Blok_exit, if_true, if_false]
              simp only [Blok_normal]
              simp only [Then_normal]
              refine Run.seq ?_
              refine opsF oo54 fun K hK => ?_
              try simp
              repeat' first | ((refine evL_c ?_); simp [hn, hk, hop, hkl, hb0, hel, hs0, hs2, hji]) | (with_reducible refine And.intro ?_ ?_) | intro _ | (with_reducible assumption) | omega
              all_goals (refine Fin.go hK ?_; clear hK K)
              simp only [Then_normal]
              refine Run.ret ?_
              try simp only [Then_ret, Blok_ret]
              simp [hel, hji]
          · simp at h179


end Go.Proofs.Ytihbejpkfifplaa.Z
end
section
namespace Go.Proofs.Ytihbejpkfifplaa.Z
open Go Go.Fw
/-- the document's look at a Meet's edge, with those ahead of it -/
def badD (c : CoreT) (s : Int) (l : List Int) (b : List Bool) (i : Nat) : Bool := badM1 c (rdI l i) b || badM2 c s (rdI l i) b || (List.range i).any fun j => decide (rdI l (j : Nat) = rdI l i)
/-- what is bound behind so many edges -/
def setE (c : CoreT) (l : List Int) (b : List Bool) : Nat → List Bool
  | 0 => b
  | i + 1 => (setE c l b i).set (c.nodes.length + rdI l i).toNat true
theorem setE_len (c : CoreT) (l : List Int) (b : List Bool) (i : Nat) : (setE c l b i).length = b.length := by
  induction i with
  | zero => rfl
  | succ i ih => rw [setE, List.length_set, ih]
theorem rd_setB {b : List Bool} {k x : Int} (hk : 0 ≤ k) (hx : 0 ≤ x) (hl : x < b.length) : rdI (b.set k.toNat true) x = (decide (k = x) || rdI b x) := by
  have h1 : x.toNat < b.length := by omega
  by_cases e : k = x
  · subst e; simp [rdI, List.getD_eq_getElem?_getD, h1]
  · have : k.toNat ≠ x.toNat := by omega
    simp [rdI, List.getD_eq_getElem?_getD, List.getElem?_set_ne this, e]
theorem rd_setE {c : CoreT} {l : List Int} {b : List Bool} (hb : b.length = c.nodes.length + c.edges.length) {i : Nat} (hi : ∀ j : Nat, j < i → 0 ≤ rdI l j ∧ rdI l j < c.edges.length) {x : Int} (hx : 0 ≤ x) (hl : x < b.length) :
    rdI (setE c l b i) x = ((List.range i).any (fun j => decide ((c.nodes.length : Int) + rdI l (j : Nat) = x)) || rdI b x) := by
  induction i with
  | zero => simp [setE]
  | succ i ih =>
    have h1 := hi i (by omega)
    rw [setE, rd_setB (by omega) hx (by rw [setE_len]; exact hl), ih fun j hj => hi j (by omega), List.range_succ, List.any_append]
    simp only [List.any_cons, List.any_nil, Bool.or_false]
    cases decide ((c.nodes.length : Int) + rdI l i = x) <;> cases (List.range i).any (fun j => decide ((c.nodes.length : Int) + rdI l (j : Nat) = x)) <;> simp
theorem bad_eq {c : CoreT} {s : Int} {l : List Int} {b : List Bool} (hb : b.length = c.nodes.length + c.edges.length) (hE : GoodE c) {i : Nat} (hi : ∀ j : Nat, j < i → 0 ≤ rdI l j ∧ rdI l j < c.edges.length) :
    (badM1 c (rdI l i) (setE c l b i) || badM2 c s (rdI l i) (setE c l b i)) = badD c s l b i := by
  by_cases h : 0 ≤ rdI l i ∧ rdI l i < c.edges.length
  · have hG := hE (rdI c.edges (rdI l i)) (rdI_mem h.1 h.2)
    have no : ∀ x : Int, 0 ≤ x → x < c.nodes.length → (List.range i).any (fun j => decide ((c.nodes.length : Int) + rdI l (j : Nat) = x)) = false := fun x h0 h1 => by
      rw [List.any_eq_false]
      intro j hj
      have := hi j (by simpa using hj)
      simp; omega
    have e1 : rdI (setE c l b i) (rdI c.edges (rdI l i)).dst = rdI b (rdI c.edges (rdI l i)).dst := by
      rw [rd_setE hb hi (by omega) (by omega), no _ (by omega) (by omega)]; rfl
    have e2 : rdI (setE c l b i) (rdI c.edges (rdI l i)).src = rdI b (rdI c.edges (rdI l i)).src := by
      rw [rd_setE hb hi (by omega) (by omega), no _ (by omega) (by omega)]; rfl
    have e3 : rdI (setE c l b i) (c.nodes.length + rdI l i) = ((List.range i).any (fun j => decide (rdI l (j : Nat) = rdI l i)) || rdI b (c.nodes.length + rdI l i)) := by
      rw [rd_setE hb hi (by omega) (by omega)]
      congr 2
      funext j
      by_cases q : rdI l (j : Nat) = rdI l i
      · simp [q]
      · simp [q]
    simp only [badM1, badM2, touchM, badD, e1, e2, e3]
    cases (List.range i).any (fun j => decide (rdI l (j : Nat) = rdI l i)) <;> simp
  · have h1 : ∀ b, badM1 c (rdI l i) b = true := fun b => by
      simp only [badM1, Bool.or_eq_true, decide_eq_true_eq]; omega
    simp [badD, h1]
theorem in_rng {c : CoreT} {s : Int} {l : List Int} {b : List Bool} {j : Nat} (h : badD c s l b j = false) : 0 ≤ rdI l j ∧ rdI l j < c.edges.length := by
  simp only [badD, badM1, Bool.or_eq_false_iff, decide_eq_false_iff_not] at h
  omega
theorem meetL_at {c : CoreT} {s : Int} {l : List Int} {b : List Bool} (hb : b.length = c.nodes.length + c.edges.length) (hE : GoodE c) {i : Nat} (hl : i ≤ l.length) (hi : ∀ j : Nat, j < i → badD c s l b j = false) : meetL c s l b = meetL c s (l.drop i) (setE c l b i) := by
  induction i with
  | zero => rfl
  | succ i ih =>
    have h := bad_eq (s := s) hb hE (l := l) (i := i) fun j hj => in_rng (hi j (by omega))
    rw [hi i (by omega), Bool.or_eq_false_iff] at h
    rw [ih (by omega) fun j hj => hi j (by omega), meetL_step (by omega) h.1 h.2]
    rfl
theorem meetL_yes {c : CoreT} {s : Int} {l : List Int} {b : List Bool} (hb : b.length = c.nodes.length + c.edges.length) (hE : GoodE c) (hi : ∀ j : Nat, j < l.length → badD c s l b j = false) : meetL c s l b = (true, setE c l b l.length) := by
  rw [meetL_at hb hE (Nat.le_refl _) hi, meetL_end (Nat.le_refl _)]
theorem meetL_no {c : CoreT} {s : Int} {l : List Int} {b : List Bool} (hb : b.length = c.nodes.length + c.edges.length) (hE : GoodE c) {i : Nat} (hl : i < l.length) (hi : ∀ j : Nat, j < i → badD c s l b j = false) (h : badD c s l b i = true) : (meetL c s l b).1 = false := by
  have q := bad_eq (s := s) hb hE (l := l) (i := i) fun j hj => in_rng (hi j hj)
  rw [h, Bool.or_eq_true] at q
  rw [meetL_at hb hE (by omega) hi, meetL_bad hl q]
end Go.Proofs.Ytihbejpkfifplaa.Z
end
section
set_option maxRecDepth 100000
namespace Go.Proofs.Ytihbejpkfifplaa.Z
open Go Go.Fw
theorem any_no {i : Nat} {p : Nat → Bool} (h : ∀ j, j < i → p j = false) : (List.range i).any p = false := by
  rw [List.any_eq_false]; intro j hj; simp [h j (by simpa using hj)]
theorem any_yes {i j : Nat} {p : Nat → Bool} (hj : j < i) (h : p j = true) : (List.range i).any p = true := List.any_eq_true.2 ⟨j, by simpa using hj, h⟩
set_option maxHeartbeats 4000000 in
theorem meets_ok (c : CoreT) (p : PlanT) (b : List Bool) (hb : b.length = c.nodes.length + c.edges.length) (hE : GoodE c) : SndW P 79 [.d (.ag (encP p)), .d (.ag (encC c)), .rs 0 1 0 b.length] [(0, .data 1 (b.map encB))] (.bool (meetB c p b)) [(0, .data 1 (b.map encB))] := by
  refine SndW.ok 0 rfl (by kernel_rfl) fun hp => ?_
  have hpm := (encP_ok hp).2.1
  clear hp
  have hyes := meetL_yes (s := p.slot) (l := p.edges) hb hE
  have hno := fun i hl hi h => meetL_no (s := p.slot) (l := p.edges) (i := i) hb hE hl hi h
  obtain ⟨n, hn⟩ : ∃ k, c.nodes.length = k := ⟨_, rfl⟩
  obtain ⟨m, hm⟩ : ∃ m, p.edges.length = m := ⟨_, rfl⟩
  obtain ⟨k, hk⟩ : ∃ k, c.edges.length = k := ⟨_, rfl⟩
  rw [hn, hk] at hb
  rw [hm] at hpm
  refine sndW_of [0] Try.func79 rfl (by kernel_rfl) Try.ntmps79 (by simp) (by simp) ?_
  unfold Try.f79
  refine Run.okV 2 rfl fun hL => ?_
  have hs1 : 0 ≤ p.slot → p.slot < (n:Int) → p.slot.toNat < n + k := by omega
  have hs2 : 0 ≤ p.slot → p.slot < (n:Int) → p.slot < (n:Int) + k := by omega
  have hq1 : ∀ e : Int, 0 ≤ e → e < k → ((n:Int) + e).toNat < n + k := by omega
  have hq2 : ∀ e : Int, 0 ≤ e → e < k → 0 ≤ (n:Int) + e := by omega
  have hq3 : ∀ e : Int, 0 ≤ e → e < k → IntKind.i64.wrap ((n:Int) + e) = (n:Int) + e := fun e _ _ => wrap_id (by omega) (by omega)
  have hg0 : ∀ e : Int, 0 ≤ e → e < k → 0 ≤ (rdI c.edges e).src ∧ 0 ≤ (rdI c.edges e).dst ∧ (rdI c.edges e).src < (n : Int) + k ∧ (rdI c.edges e).dst < (n : Int) + k ∧ (rdI c.edges e).src.toNat < n + k ∧ (rdI c.edges e).dst.toNat < n + k := fun e h0 h1 => by
    have := hE (rdI c.edges e) (rdI_mem h0 (by omega)); rw [hn] at this; omega
  simp only [List.cons_append, List.nil_append, List.length_cons, List.length_nil, Nat.reduceAdd, Nat.reduceSub, List.replicate]
  refine Run.seq ?_
  refine opsF [⟨Op.box 27 (Operand.tmp 0), some 3, none⟩, ⟨Op.box 33 (Operand.tmp 1), some 4, none⟩, ⟨Op.assign (Operand.const (Value.bool false)), some 6, none⟩] fun K hK => ?_
  try simp
  repeat' first | ((refine evL_c ?_); simp [hm, hk, hn, hb, hs1, hs2, hq1, hq2, hq3, hg0]) | (with_reducible refine And.intro ?_ ?_) | intro _ | (with_reducible assumption) | omega
  all_goals (refine Fin.go hK ?_; clear hK K)
  simp only [Then_normal]
  refine Run.seq ?_
  refine Run.cut [11, 12, 13, 14, 15, 16, 17, 18, 19, 20, 21, 22, 23, 24, 25, 26, 27, 28, 29, 30, 31, 32, 33, 34] [(34, .bool (badSlot c p b))] [(0, .data 1 (b.map encB)), (400, .vals ((encP p).map .d)), (500, .vals ((encC c).map .d))] ?_ ?_
  · refine opsF [⟨Op.fieldAddr 27 (Operand.tmp 3) 2, some 11, none⟩, ⟨Op.load 3 (Operand.tmp 11), some 12, none⟩, ⟨Op.binOp BinOp.lss 3 (Operand.tmp 12) (Operand.const (Value.int IntKind.i64 0)) 3, some 13, none⟩, ⟨Op.move (Operand.tmp 13), some 14, none⟩, ⟨Op.fieldAddr 27 (Operand.tmp 3) 2, some 15, some (some 14, false)⟩, ⟨Op.load 3 (Operand.tmp 15), some 16, some (some 14, false)⟩, ⟨Op.fieldAddr 33 (Operand.tmp 4) 0, some 17, some (some 14, false)⟩, ⟨Op.load 28 (Operand.tmp 17), some 18, some (some 14, false)⟩, ⟨Op.call { callee := Callee.builtin Builtin.len, args := #[Operand.tmp 18], argTypes := #[28] }, some 19, some (some 14, false)⟩, ⟨Op.binOp BinOp.geq 3 (Operand.tmp 16) (Operand.tmp 19) 3, some 20, some (some 14, false)⟩, ⟨Op.pick (Operand.tmp 14) (Operand.const (Value.bool true)) (Operand.tmp 20), some 21, none⟩, ⟨Op.move (Operand.tmp 21), some 22, none⟩, ⟨Op.move (Operand.tmp 2), some 23, some (some 22, false)⟩, ⟨Op.fieldAddr 27 (Operand.tmp 3) 2, some 24, some (some 22, false)⟩, ⟨Op.load 3 (Operand.tmp 24), some 25, some (some 22, false)⟩, ⟨Op.indexAddr 60 (Operand.tmp 23) (Operand.tmp 25), some 26, some (some 22, false)⟩, ⟨Op.load 4 (Operand.tmp 26), some 27, some (some 22, false)⟩, ⟨Op.pick (Operand.tmp 22) (Operand.const (Value.bool true)) (Operand.tmp 27), some 28, none⟩, ⟨Op.move (Operand.tmp 28), some 29, none⟩, ⟨Op.fieldAddr 27 (Operand.tmp 3) 3, some 30, some (some 29, false)⟩, ⟨Op.load 24 (Operand.tmp 30), some 31, some (some 29, false)⟩, ⟨Op.call { callee := Callee.builtin Builtin.len, args := #[Operand.tmp 31], argTypes := #[24] }, some 32, some (some 29, false)⟩, ⟨Op.binOp BinOp.lss 3 (Operand.tmp 32) (Operand.const (Value.int IntKind.i64 1)) 3, some 33, some (some 29, false)⟩, ⟨Op.pick (Operand.tmp 29) (Operand.const (Value.bool true)) (Operand.tmp 33), some 34, none⟩] fun K hK => ?_
    try simp
    repeat' first | ((first | refine evL_c ?_ | (refine evL_g rfl ?_; try simp only [gs_tt, gs_ff, gs_tf, gs_ft]) | refine evL_u rfl ?_ | (with_reducible refine gsplit (fun hg => ?_) (fun hg => ?_) <;> try simp at hg)) <;> try simp [hm, hk, hn, hb, hs1, hs2, hq1, hq2, hq3, hg0, *]) | (with_reducible refine And.intro ?_ ?_) | intro _ | (with_reducible assumption) | omega
    all_goals (refine Fin.go hK ?_; clear hK K)
    all_goals
      (try simp [hm, hk, hn, hb, badSlot, *]) <;> (first | omega | (simp; done) | (rw [Bool.eq_iff_iff]; simp only [Bool.or_eq_true, Bool.and_eq_true, Bool.not_eq_true', decide_eq_true_eq, decide_eq_false_iff_not]; omega) | (clear hq1 hq2 hq3 hs1 hs2 hg0 hE; grind) | (simp_all; done) | (simp_all; omega))
  · simp only [over, List.foldl, List.set]
    refine Run.cond rfl (fun h34 => ?_) (fun h34 => ?_)
    · try simp at h34
      refine Run.seq ?_
      refine opsF oo1 fun K hK => ?_
      try simp
      repeat' first | ((refine evL_c ?_); simp [hm, hk, hn, hb, hs1, hs2, hq1, hq2, hq3, hg0]) | (with_reducible refine And.intro ?_ ?_) | intro _ | (with_reducible assumption) | omega
      all_goals (refine Fin.go hK ?_; clear hK K)
      simp only [Then_normal]
      refine Run.ret ?_
      try simp only [Then_ret, Blok_ret]
      first
        | (have e : meetB c p b = false := by simp [meetB, h34]
           simp [e, hn]; done)
        | (have e : meetB c p b = false := by
             have : badD c p.slot p.edges b i = true := by
               rw [hdd]
               rcases h74 with h | h
               · simp [h]
               · simp [badM2, h]
             rw [meetB, hno i (by omega) hz this, Bool.and_false]
           simp [e, hn]; done)
        | (have e : meetB c p b = false := by
             have : badD c p.slot p.edges b i = true := by rw [hdd]; simp [badM2, h106]
             rw [meetB, hno i (by omega) hz this, Bool.and_false]
           simp [e, hn]; done)
        | (have e : meetB c p b = false := by
             have : badD c p.slot p.edges b i = true := by rw [hdd, any_yes hj1 (by simpa using h118)]; simp
             rw [meetB, hno i (by omega) hz this, Bool.and_false]
           simp [e, hn]; done)
        | (have e : meetB c p b = true := by rw [meetB, hyes fun j hj => hz j (by omega), h34]; rfl
           simp [e, hn]; done)
    · try simp at h34
      refine Run.skip ?_
      simp only [Then_normal]
      refine Run.seq ?_
      refine Run.seq ?_
      refine opsF oo43 fun K hK => ?_
      try simp
      repeat' first | ((refine evL_c ?_); simp [hm, hk, hn, hb, hs1, hs2, hq1, hq2, hq3, hg0]) | (with_reducible refine And.intro ?_ ?_) | intro _ | (with_reducible assumption) | omega
      all_goals (refine Fin.go hK ?_; clear hK K)
      simp only [Then_normal]
      refine Run.block ?_
      refine Run.loopO [6, 7, 8, 9, 10, 35, 36, 37, 38, 39, 40, 41, 42, 43, 44, 45, 46, 47, 48, 49, 50, 51, 52, 53, 54, 55, 56, 57, 58, 59, 60, 61, 62, 63, 64, 65, 66, 67, 68, 69, 70, 71, 72, 73, 74, 75, 76, 77, 78, 79, 80, 81, 82, 83, 84, 85, 86, 87, 88, 89, 90, 91, 92, 93, 94, 95, 96, 97, 98, 99, 100, 101, 102, 103, 104, 105, 106, 107, 108, 109, 110, 111, 112, 113, 114, 115, 116, 117, 118] (fun (i : Nat) => [(7, .int i)]) (fun (i : Nat) => [(0, .data 1 (b.map encB)), (400, .vals ((encP p).map .d)), (500, .vals ((encC c).map .d))]) (fun (i : Nat) => i ≤ m ∧ ∀ j : Nat, j < i → badD c p.slot p.edges b j = false) (fun (i : Nat) => m - i) 0 ⟨by omega, by omega⟩ (by simp [hb, hn]) fun i ⟨hi, hz⟩ => ?_
      simp only [over, List.foldl, List.set]
      have hdd : badD c p.slot p.edges b i = (badM1 c (rdI p.edges i) b || badM2 c p.slot (rdI p.edges i) b || (List.range i).any fun j => decide (rdI p.edges (j : Nat) = rdI p.edges i)) := rfl
      refine Run.seq ?_
      refine Run.seq ?_
      refine opsF [⟨Op.move (Operand.tmp 7), some 35, none⟩, ⟨Op.fieldAddr 27 (Operand.tmp 3) 3, some 36, none⟩, ⟨Op.load 24 (Operand.tmp 36), some 37, none⟩, ⟨Op.call { callee := Callee.builtin Builtin.len, args := #[Operand.tmp 37], argTypes := #[24] }, some 38, none⟩, ⟨Op.binOp BinOp.lss 3 (Operand.tmp 35) (Operand.tmp 38) 3, some 39, none⟩] fun K hK => ?_
      try simp
      repeat' first | ((refine evL_c ?_); simp [hm, hk, hn, hb, hs1, hs2, hq1, hq2, hq3, hg0]) | (with_reducible refine And.intro ?_ ?_) | intro _ | (with_reducible assumption) | omega
      all_goals (refine Fin.go hK ?_; clear hK K)
      simp only [Then_normal]
      refine Run.cond rfl (fun h39 => ?_) (fun h39 => ?_)
      · try simp at h39
        have hi1 : i < m := by omega
        refine Run.skip ?_
        simp only [Then_normal]
        refine Run.seq ?_
        refine Run.block ?_
        refine Run.seq ?_
        refine opsF [⟨Op.fieldAddr 27 (Operand.tmp 3) 3, some 42, none⟩, ⟨Op.load 24 (Operand.tmp 42), some 43, none⟩, ⟨Op.move (Operand.tmp 7), some 44, none⟩, ⟨Op.indexAddr 24 (Operand.tmp 43) (Operand.tmp 44), some 45, none⟩, ⟨Op.load 3 (Operand.tmp 45), some 46, none⟩, ⟨Op.assign (Operand.tmp 46), some 8, none⟩] fun K hK => ?_
        try simp
        repeat' first | ((refine evL_c ?_); simp [hm, hk, hn, hb, hs1, hs2, hq1, hq2, hq3, hg0, hi1]) | (with_reducible refine And.intro ?_ ?_) | intro _ | (with_reducible assumption) | omega
        all_goals (refine Fin.go hK ?_; clear hK K)
        simp only [Then_normal]
        refine Run.seq ?_
        refine Run.cut [47, 48, 49, 50, 51, 52, 53, 54, 55, 56, 57, 58, 59, 60, 61, 62, 63, 64, 65, 66, 67, 68, 69, 70, 71, 72, 73, 74] [(74, .bool (badM1 c (rdI p.edges i) b || !decide ((rdI c.edges (rdI p.edges i)).mode = 0)))] [(0, .data 1 (b.map encB)), (400, .vals ((encP p).map .d)), (500, .vals ((encC c).map .d))] ?_ ?_
        · refine opsF [⟨Op.move (Operand.tmp 8), some 47, none⟩, ⟨Op.binOp BinOp.lss 3 (Operand.tmp 47) (Operand.const (Value.int IntKind.i64 0)) 3, some 48, none⟩, ⟨Op.move (Operand.tmp 48), some 49, none⟩, ⟨Op.move (Operand.tmp 8), some 50, some (some 49, false)⟩, ⟨Op.fieldAddr 33 (Operand.tmp 4) 1, some 51, some (some 49, false)⟩, ⟨Op.load 29 (Operand.tmp 51), some 52, some (some 49, false)⟩, ⟨Op.call { callee := Callee.builtin Builtin.len, args := #[Operand.tmp 52], argTypes := #[29] }, some 53, some (some 49, false)⟩, ⟨Op.binOp BinOp.geq 3 (Operand.tmp 50) (Operand.tmp 53) 3, some 54, some (some 49, false)⟩, ⟨Op.pick (Operand.tmp 49) (Operand.const (Value.bool true)) (Operand.tmp 54), some 55, none⟩, ⟨Op.move (Operand.tmp 55), some 56, none⟩, ⟨Op.move (Operand.tmp 2), some 57, some (some 56, false)⟩, ⟨Op.fieldAddr 33 (Operand.tmp 4) 0, some 58, some (some 56, false)⟩, ⟨Op.load 28 (Operand.tmp 58), some 59, some (some 56, false)⟩, ⟨Op.call { callee := Callee.builtin Builtin.len, args := #[Operand.tmp 59], argTypes := #[28] }, some 60, some (some 56, false)⟩, ⟨Op.move (Operand.tmp 8), some 61, some (some 56, false)⟩, ⟨Op.binOp BinOp.add 3 (Operand.tmp 60) (Operand.tmp 61) 3, some 62, some (some 56, false)⟩, ⟨Op.indexAddr 60 (Operand.tmp 57) (Operand.tmp 62), some 63, some (some 56, false)⟩, ⟨Op.load 4 (Operand.tmp 63), some 64, some (some 56, false)⟩, ⟨Op.pick (Operand.tmp 56) (Operand.const (Value.bool true)) (Operand.tmp 64), some 65, none⟩, ⟨Op.move (Operand.tmp 65), some 66, none⟩, ⟨Op.fieldAddr 33 (Operand.tmp 4) 1, some 67, some (some 66, false)⟩, ⟨Op.load 29 (Operand.tmp 67), some 68, some (some 66, false)⟩, ⟨Op.move (Operand.tmp 8), some 69, some (some 66, false)⟩, ⟨Op.indexAddr 29 (Operand.tmp 68) (Operand.tmp 69), some 70, some (some 66, false)⟩, ⟨Op.fieldAddr 105 (Operand.tmp 70) 4, some 71, some (some 66, false)⟩, ⟨Op.load 103 (Operand.tmp 71), some 72, some (some 66, false)⟩, ⟨Op.binOp BinOp.neq 103 (Operand.tmp 72) (Operand.const (Value.int IntKind.i64 0)) 103, some 73, some (some 66, false)⟩, ⟨Op.pick (Operand.tmp 66) (Operand.const (Value.bool true)) (Operand.tmp 73), some 74, none⟩] fun K hK => ?_
          try simp
          repeat' first | ((first | refine evL_c ?_ | (refine evL_g rfl ?_; try simp only [gs_tt, gs_ff, gs_tf, gs_ft]) | refine evL_u rfl ?_ | (with_reducible refine gsplit (fun hg => ?_) (fun hg => ?_) <;> try simp at hg)) <;> try simp [hm, hk, hn, hb, hs1, hs2, hq1, hq2, hq3, hg0, hi1, *]) | (with_reducible refine And.intro ?_ ?_) | intro _ | (with_reducible assumption) | omega
          all_goals (refine Fin.go hK ?_; clear hK K)
          all_goals
            (try simp [hm, hk, hn, hb, badM1, *]) <;> (first | omega | (simp; done) | (rw [Bool.eq_iff_iff]; simp only [Bool.or_eq_true, Bool.and_eq_true, Bool.not_eq_true', decide_eq_true_eq, decide_eq_false_iff_not]; omega) | (clear hq1 hq2 hq3 hs1 hs2 hg0 hE; grind) | (simp_all; done) | (simp_all; omega))
        · simp only [over, List.foldl, List.set]
          refine Run.cond rfl (fun h74 => ?_) (fun h74 => ?_)
          · try simp at h74
            refine Run.seq ?_
            refine opsF oo1 fun K hK => ?_
            try simp
            repeat' first | ((refine evL_c ?_); simp [hm, hk, hn, hb, hs1, hs2, hq1, hq2, hq3, hg0, hi1]) | (with_reducible refine And.intro ?_ ?_) | intro _ | (with_reducible assumption) | omega
            all_goals (refine Fin.go hK ?_; clear hK K)
            simp only [Then_normal]
            refine Run.ret ?_
            try simp only [Then_ret, Blok_ret]
            first
              | (have e : meetB c p b = false := by simp [meetB, h34]
                 simp [e, hn]; done)
              | (have e : meetB c p b = false := by
                   have : badD c p.slot p.edges b i = true := by
                     rw [hdd]
                     rcases h74 with h | h
                     · simp [h]
                     · simp [badM2, h]
                   rw [meetB, hno i (by omega) hz this, Bool.and_false]
                 simp [e, hn]; done)
              | (have e : meetB c p b = false := by
                   have : badD c p.slot p.edges b i = true := by rw [hdd]; simp [badM2, h106]
                   rw [meetB, hno i (by omega) hz this, Bool.and_false]
                 simp [e, hn]; done)
              | (have e : meetB c p b = false := by
                   have : badD c p.slot p.edges b i = true := by rw [hdd, any_yes hj1 (by simpa using h118)]; simp
                   rw [meetB, hno i (by omega) hz this, Bool.and_false]
                 simp [e, hn]; done)
              | (have e : meetB c p b = true := by rw [meetB, hyes fun j hj => hz j (by omega), h34]; rfl
                 simp [e, hn]; done)
          · have h74' := h74
            simp only [Bool.or_eq_false_iff, badM1, hk, hn, decide_eq_false_iff_not] at h74'
            have he0 : 0 ≤ rdI p.edges i := by omega
            have he1 : rdI p.edges i < k := by omega
            refine Run.skip ?_
            simp only [Then_normal]
            refine Run.cut [9, 75, 76, 77, 78, 79] [(9, .pt 1000 0 0 0)] [(0, .data 1 (b.map encB)), (400, .vals ((encP p).map .d)), (500, .vals ((encC c).map .d)), (1000, .vals ((encE (rdI c.edges (rdI p.edges i))).map .d))] ?_ ?_
            · refine opsF [⟨Op.fieldAddr 33 (Operand.tmp 4) 1, some 75, none⟩, ⟨Op.load 29 (Operand.tmp 75), some 76, none⟩, ⟨Op.move (Operand.tmp 8), some 77, none⟩, ⟨Op.indexAddr 29 (Operand.tmp 76) (Operand.tmp 77), some 78, none⟩, ⟨Op.load 105 (Operand.tmp 78), some 79, none⟩, ⟨Op.alloc 105, some 9, none⟩, ⟨Op.store 105 (Operand.tmp 9) (Operand.tmp 79), none, none⟩] fun K hK => ?_
              try simp
              repeat' first | ((refine evL_c ?_); simp [hm, hk, hn, hb, hs1, hs2, hq1, hq2, hq3, hg0, hi1, he0, he1]) | (with_reducible refine And.intro ?_ ?_) | intro _ | (with_reducible assumption) | omega
              all_goals (refine Fin.go hK ?_; clear hK K)
              (try simp [hm, hk, hn, hb]) <;> (first | omega | (simp; done) | (rw [Bool.eq_iff_iff]; simp only [Bool.or_eq_true, Bool.and_eq_true, Bool.not_eq_true', decide_eq_true_eq, decide_eq_false_iff_not]; omega) | (clear hq1 hq2 hq3 hs1 hs2 hg0 hE; grind) | (simp_all; done) | (simp_all; omega))
            · simp only [over, List.foldl, List.set]
              refine Run.seq ?_
              refine Run.cut [80, 81, 82, 83, 84, 85, 86, 87, 88, 89, 90, 91, 92, 93, 94, 95, 96, 97, 98, 99, 100, 101, 102, 103, 104, 105, 106] [(106, .bool (!touchM c p.slot (rdI p.edges i) b))] [(0, .data 1 (b.map encB)), (400, .vals ((encP p).map .d)), (500, .vals ((encC c).map .d)), (1000, .vals ((encE (rdI c.edges (rdI p.edges i))).map .d))] ?_ ?_
              · refine opsF [⟨Op.fieldAddr 105 (Operand.tmp 9) 2, some 80, none⟩, ⟨Op.load 3 (Operand.tmp 80), some 81, none⟩, ⟨Op.fieldAddr 27 (Operand.tmp 3) 2, some 82, none⟩, ⟨Op.load 3 (Operand.tmp 82), some 83, none⟩, ⟨Op.binOp BinOp.eql 3 (Operand.tmp 81) (Operand.tmp 83) 3, some 84, none⟩, ⟨Op.move (Operand.tmp 84), some 85, none⟩, ⟨Op.move (Operand.tmp 2), some 86, some (some 85, true)⟩, ⟨Op.fieldAddr 105 (Operand.tmp 9) 3, some 87, some (some 85, true)⟩, ⟨Op.load 3 (Operand.tmp 87), some 88, some (some 85, true)⟩, ⟨Op.indexAddr 60 (Operand.tmp 86) (Operand.tmp 88), some 89, some (some 85, true)⟩, ⟨Op.load 4 (Operand.tmp 89), some 90, some (some 85, true)⟩, ⟨Op.pick (Operand.tmp 85) (Operand.tmp 90) (Operand.const (Value.bool false)), some 91, none⟩, ⟨Op.move (Operand.tmp 91), some 92, none⟩, ⟨Op.fieldAddr 105 (Operand.tmp 9) 3, some 93, some (some 92, false)⟩, ⟨Op.load 3 (Operand.tmp 93), some 94, some (some 92, false)⟩, ⟨Op.fieldAddr 27 (Operand.tmp 3) 2, some 95, some (some 92, false)⟩, ⟨Op.load 3 (Operand.tmp 95), some 96, some (some 92, false)⟩, ⟨Op.binOp BinOp.eql 3 (Operand.tmp 94) (Operand.tmp 96) 3, some 97, some (some 92, false)⟩, ⟨Op.move (Operand.tmp 97), some 98, some (some 92, false)⟩, ⟨Op.move (Operand.tmp 2), some 99, some (some 98, true)⟩, ⟨Op.fieldAddr 105 (Operand.tmp 9) 2, some 100, some (some 98, true)⟩, ⟨Op.load 3 (Operand.tmp 100), some 101, some (some 98, true)⟩, ⟨Op.indexAddr 60 (Operand.tmp 99) (Operand.tmp 101), some 102, some (some 98, true)⟩, ⟨Op.load 4 (Operand.tmp 102), some 103, some (some 98, true)⟩, ⟨Op.pick (Operand.tmp 98) (Operand.tmp 103) (Operand.const (Value.bool false)), some 104, some (some 92, false)⟩, ⟨Op.pick (Operand.tmp 92) (Operand.const (Value.bool true)) (Operand.tmp 104), some 105, none⟩, ⟨Op.unOp UnOp.not 4 (Operand.tmp 105), some 106, none⟩] fun K hK => ?_
                try simp
                repeat' first | ((first | refine evL_c ?_ | (refine evL_g rfl ?_; try simp only [gs_tt, gs_ff, gs_tf, gs_ft]) | refine evL_u rfl ?_ | (with_reducible refine gsplit (fun hg => ?_) (fun hg => ?_) <;> try simp at hg)) <;> try simp [hm, hk, hn, hb, hs1, hs2, hq1, hq2, hq3, hg0, hi1, he0, he1]) | (with_reducible refine And.intro ?_ ?_) | intro _ | (with_reducible assumption) | omega
                all_goals (refine Fin.go hK ?_; clear hK K)
                all_goals
                  (try simp [hm, hk, hn, hb, touchM, *]) <;> (first | omega | (simp; done) | (rw [Bool.eq_iff_iff]; simp only [Bool.or_eq_true, Bool.and_eq_true, Bool.not_eq_true', decide_eq_true_eq, decide_eq_false_iff_not]; omega) | (clear hq1 hq2 hq3 hs1 hs2 hg0 hE; grind) | (simp_all; done) | (simp_all; omega))
              · simp only [over, List.foldl, List.set]
                refine Run.cond rfl (fun h106 => ?_) (fun h106 => ?_)
                · try simp at h106
                  refine Run.seq ?_
                  refine opsF oo1 fun K hK => ?_
                  try simp
                  repeat' first | ((refine evL_c ?_); simp [hm, hk, hn, hb, hs1, hs2, hq1, hq2, hq3, hg0, hi1, he0, he1]) | (with_reducible refine And.intro ?_ ?_) | intro _ | (with_reducible assumption) | omega
                  all_goals (refine Fin.go hK ?_; clear hK K)
                  simp only [Then_normal]
                  refine Run.ret ?_
                  try simp only [Then_ret, Blok_ret]
                  first
                    | (have e : meetB c p b = false := by simp [meetB, h34]
                       simp [e, hn]; done)
                    | (have e : meetB c p b = false := by
                         have : badD c p.slot p.edges b i = true := by
                           rw [hdd]
                           rcases h74 with h | h
                           · simp [h]
                           · simp [badM2, h]
                         rw [meetB, hno i (by omega) hz this, Bool.and_false]
                       simp [e, hn]; done)
                    | (have e : meetB c p b = false := by
                         have : badD c p.slot p.edges b i = true := by rw [hdd]; simp [badM2, h106]
                         rw [meetB, hno i (by omega) hz this, Bool.and_false]
                       simp [e, hn]; done)
                    | (have e : meetB c p b = false := by
                         have : badD c p.slot p.edges b i = true := by rw [hdd, any_yes hj1 (by simpa using h118)]; simp
                         rw [meetB, hno i (by omega) hz this, Bool.and_false]
                       simp [e, hn]; done)
                    | (have e : meetB c p b = true := by rw [meetB, hyes fun j hj => hz j (by omega), h34]; rfl
                       simp [e, hn]; done)
                · have hto : touchM c p.slot (rdI p.edges i) b = true := by simpa using h106
                  refine Run.skip ?_
                  simp only [Then_normal]
                  refine Run.seq ?_
                  refine opsF [⟨Op.assign (Operand.const (Value.int IntKind.i64 0)), some 10, none⟩] fun K hK => ?_
                  try simp
                  repeat' first | ((refine evL_c ?_); simp [hm, hk, hn, hb, hs1, hs2, hq1, hq2, hq3, hg0, hi1, he0, he1]) | (with_reducible refine And.intro ?_ ?_) | intro _ | (with_reducible assumption) | omega
                  all_goals (refine Fin.go hK ?_; clear hK K)
                  simp only [Then_normal]
                  refine Run.block ?_
                  refine Run.loopO [6, 10, 107, 108, 109, 110, 111, 112, 113, 114, 115, 116, 117, 118] (fun (j : Nat) => [(10, .int j)]) (fun (j : Nat) => [(0, .data 1 (b.map encB)), (400, .vals ((encP p).map .d)), (500, .vals ((encC c).map .d)), (1000, .vals ((encE (rdI c.edges (rdI p.edges i))).map .d))]) (fun (j : Nat) => j ≤ i ∧ ∀ q : Nat, q < j → decide (rdI p.edges (q : Nat) = rdI p.edges i) = false) (fun (j : Nat) => i - j) 0 ⟨by omega, by omega⟩ (by simp [hb, hn]) fun j ⟨hj, hy⟩ => ?_
                  simp only [over, List.foldl, List.set]
                  refine Run.seq ?_
                  refine Run.seq ?_
                  refine opsF [⟨Op.move (Operand.tmp 10), some 107, none⟩, ⟨Op.move (Operand.tmp 7), some 108, none⟩, ⟨Op.binOp BinOp.lss 3 (Operand.tmp 107) (Operand.tmp 108) 3, some 109, none⟩] fun K hK => ?_
                  try simp
                  repeat' first | ((refine evL_c ?_); simp [hm, hk, hn, hb, hs1, hs2, hq1, hq2, hq3, hg0, hi1, he0, he1]) | (with_reducible refine And.intro ?_ ?_) | intro _ | (with_reducible assumption) | omega
                  all_goals (refine Fin.go hK ?_; clear hK K)
                  simp only [Then_normal]
                  refine Run.cond rfl (fun h109 => ?_) (fun h109 => ?_)
                  · try simp at h109
                    have hj1 : j < i := by omega
                    have hj2 : j < m := by omega
                    refine Run.skip ?_
                    simp only [Then_normal]
                    refine Run.seq ?_
                    refine Run.block ?_
                    refine Run.seq ?_
                    refine opsF [⟨Op.fieldAddr 27 (Operand.tmp 3) 3, some 112, none⟩, ⟨Op.load 24 (Operand.tmp 112), some 113, none⟩, ⟨Op.move (Operand.tmp 10), some 114, none⟩, ⟨Op.indexAddr 24 (Operand.tmp 113) (Operand.tmp 114), some 115, none⟩, ⟨Op.load 3 (Operand.tmp 115), some 116, none⟩, ⟨Op.move (Operand.tmp 8), some 117, none⟩, ⟨Op.binOp BinOp.eql 3 (Operand.tmp 116) (Operand.tmp 117) 3, some 118, none⟩] fun K hK => ?_
                    try simp
                    repeat' first | ((refine evL_c ?_); simp [hm, hk, hn, hb, hs1, hs2, hq1, hq2, hq3, hg0, hi1, he0, he1, hj1, hj2]) | (with_reducible refine And.intro ?_ ?_) | intro _ | (with_reducible assumption) | omega
                    all_goals (refine Fin.go hK ?_; clear hK K)
                    simp only [Then_normal]
                    refine Run.cond rfl (fun h118 => ?_) (fun h118 => ?_)
                    · try simp at h118
                      refine Run.seq ?_
                      refine opsF oo1 fun K hK => ?_
                      try simp
                      repeat' first | ((refine evL_c ?_); simp [hm, hk, hn, hb, hs1, hs2, hq1, hq2, hq3, hg0, hi1, he0, he1, hj1, hj2]) | (with_reducible refine And.intro ?_ ?_) | intro _ | (with_reducible assumption) | omega
                      all_goals (refine Fin.go hK ?_; clear hK K)
                      simp only [Then_normal]
                      refine Run.ret ?_
                      try simp only [Then_ret, Blok_ret]
                      first
                        | (have e : meetB c p b = false := by simp [meetB, h34]
                           simp [e, hn]; done)
                        | (have e : meetB c p b = false := by
                             have : badD c p.slot p.edges b i = true := by
                               rw [hdd]
                               rcases h74 with h | h
                               · simp [h]
                               · simp [badM2, h]
                             rw [meetB, hno i (by omega) hz this, Bool.and_false]
                           simp [e, hn]; done)
                        | (have e : meetB c p b = false := by
                             have : badD c p.slot p.edges b i = true := by rw [hdd]; simp [badM2, h106]
                             rw [meetB, hno i (by omega) hz this, Bool.and_false]
                           simp [e, hn]; done)
                        | (have e : meetB c p b = false := by
                             have : badD c p.slot p.edges b i = true := by rw [hdd, any_yes hj1 (by simpa using h118)]; simp
                             rw [meetB, hno i (by omega) hz this, Bool.and_false]
                           simp [e, hn]; done)
                        | (have e : meetB c p b = true := by rw [meetB, hyes fun j hj => hz j (by omega), h34]; rfl
                           simp [e, hn]; done)
                    · try simp at h118
                      refine Run.skip ?_
                      simp only [Blok_normal]
                      simp only [Then_normal]
                      refine opsF [⟨Op.move (Operand.tmp 10), some 110, none⟩, ⟨Op.binOp BinOp.add 3 (Operand.tmp 110) (Operand.const (Value.int IntKind.i64 1)) 3, some 111, none⟩, ⟨Op.assign (Operand.tmp 111), some 10, none⟩] fun K hK => ?_
                      try simp
                      repeat' first | ((refine evL_c ?_); simp [hm, hk, hn, hb, hs1, hs2, hq1, hq2, hq3, hg0, hi1, he0, he1, hj1, hj2]) | (with_reducible refine And.intro ?_ ?_) | intro _ | (with_reducible assumption) | omega
                      all_goals (refine Fin.go hK ?_; clear hK K)
                      refine ⟨j + 1, ⟨by omega, fun q hq => ?_⟩, by omega, ?_⟩
                      · by_cases e : q = j
                        · subst e; simpa using h118
                        · exact hy q (by omega)
                      · simp (disch := omega) [wrap_id, hn]
                  · try simp at h109
                    have hj3 : j = i := by omega
                    rw [hj3] at hy
                    refine Run.exit ?_
                    simp (decide := true) only [Then_exit, Blok_exit, if_true, if_false]
                    simp only [Blok_normal]
                    simp only [Then_normal]
                    refine opsF [⟨Op.move (Operand.tmp 7), some 40, none⟩, ⟨Op.binOp BinOp.add 3 (Operand.tmp 40) (Operand.const (Value.int IntKind.i64 1)) 3, some 41, none⟩, ⟨Op.assign (Operand.tmp 41), some 7, none⟩] fun K hK => ?_
                    try simp
                    repeat' first | ((refine evL_c ?_); simp [hm, hk, hn, hb, hs1, hs2, hq1, hq2, hq3, hg0, hi1, he0, he1]) | (with_reducible refine And.intro ?_ ?_) | intro _ | (with_reducible assumption) | omega
                    all_goals (refine Fin.go hK ?_; clear hK K)
                    refine ⟨i + 1, ⟨by omega, fun j hj => ?_⟩, by omega, ?_⟩
                    · by_cases e : j = i
                      · subst e
                        have h1 : badM1 c (rdI p.edges j) b = false := by simp only [Bool.or_eq_false_iff] at h74; exact h74.1
                        have h2 : badM2 c p.slot (rdI p.edges j) b = false := by simp only [Bool.or_eq_false_iff] at h74; simp [badM2, hto, h74.2]
                        rw [hdd, h1, h2, any_no hy]; rfl
                      · exact hz j (by omega)
                    · simp (disch := omega) [wrap_id, hn]
      · try simp at h39
        refine Run.exit ?_
        simp (decide := true) only [Then_exit, Blok_exit, if_true, if_false]
        simp only [Then_normal]
        refine Run.seq ?_
        refine opsF oo2 fun K hK => ?_
        try simp
        repeat' first | ((refine evL_c ?_); simp [hm, hk, hn, hb, hs1, hs2, hq1, hq2, hq3, hg0]) | (with_reducible refine And.intro ?_ ?_) | intro _ | (with_reducible assumption) | omega
        all_goals (refine Fin.go hK ?_; clear hK K)
        simp only [Then_normal]
        refine Run.ret ?_
        try simp only [Then_ret, Blok_ret]
        first
          | (have e : meetB c p b = false := by simp [meetB, h34]
             simp [e, hn]; done)
          | (have e : meetB c p b = false := by
               have : badD c p.slot p.edges b i = true := by
                 rw [hdd]
                 rcases h74 with h | h
                 · simp [h]
                 · simp [badM2, h]
               rw [meetB, hno i (by omega) hz this, Bool.and_false]
             simp [e, hn]; done)
          | (have e : meetB c p b = false := by
               have : badD c p.slot p.edges b i = true := by rw [hdd]; simp [badM2, h106]
               rw [meetB, hno i (by omega) hz this, Bool.and_false]
             simp [e, hn]; done)
          | (have e : meetB c p b = false := by
               have : badD c p.slot p.edges b i = true := by rw [hdd, any_yes hj1 (by simpa using h118)]; simp
               rw [meetB, hno i (by omega) hz this, Bool.and_false]
             simp [e, hn]; done)
          | (have e : meetB c p b = true := by rw [meetB, hyes fun j hj => hz j (by omega), h34]; rfl
             simp [e, hn]; done)


end Go.Proofs.Ytihbejpkfifplaa.Z
end
section
set_option maxRecDepth 100000
namespace Go.Proofs.Ytihbejpkfifplaa.Z
open Go Go.Fw
set_option maxHeartbeats 4000000 in
theorem one_ok (c : CoreT) (p : PlanT) (b : List Bool) (hb : b.length = c.nodes.length + c.edges.length) (hE : GoodE c) : SndW P 78 [.d (.ag (encP p)), .d (.ag (encC c)), .rs 0 1 0 b.length] [(0, .data 1 (b.map encB))] (.int (if edgeB c p b then rdI p.edges 0 else -1)) [(0, .data 1 (b.map encB))] := by
  obtain ⟨n, hn⟩ : ∃ k, c.nodes.length = k := ⟨_, rfl⟩
  obtain ⟨m, hm⟩ : ∃ m, p.edges.length = m := ⟨_, rfl⟩
  obtain ⟨k, hk⟩ : ∃ k, c.edges.length = k := ⟨_, rfl⟩
  obtain ⟨fr, hfr⟩ : ∃ x, (if p.back then (rdI c.edges (rdI p.edges 0)).dst else (rdI c.edges (rdI p.edges 0)).src) = x := ⟨_, rfl⟩
  obtain ⟨to, hto⟩ : ∃ x, (if p.back then (rdI c.edges (rdI p.edges 0)).src else (rdI c.edges (rdI p.edges 0)).dst) = x := ⟨_, rfl⟩
  rw [hn, hk] at hb
  refine sndW_of [0] Try.func78 rfl (by kernel_rfl) Try.ntmps78 (by simp) (by simp) ?_
  unfold Try.f78
  refine Run.okV 2 rfl fun hL => ?_
  simp only [List.cons_append, List.nil_append, List.length_cons, List.length_nil, Nat.reduceAdd, Nat.reduceSub, List.replicate]
  refine Run.seq ?_
  refine opsF [⟨Op.box 27 (Operand.tmp 0), some 3, none⟩, ⟨Op.box 33 (Operand.tmp 1), some 4, none⟩, ⟨Op.assign (Operand.const (Value.int IntKind.i64 0)), some 6, none⟩] fun K hK => ?_
  try simp
  repeat' first | ((refine evL_c ?_); simp [hm, hk, hn, hb, hfr, hto]) | (with_reducible refine And.intro ?_ ?_) | intro _ | (with_reducible assumption) | omega
  all_goals (refine Fin.go hK ?_; clear hK K)
  simp only [Then_normal]
  refine Run.seq ?_
  refine Run.cut [10, 11, 12, 13, 14, 15, 16, 17, 18, 19, 20, 21, 22, 23, 24, 25, 26, 27, 28, 29, 30] [(30, .bool (decide (m ≠ 1 ∨ rdI p.edges 0 < 0 ∨ (k : Int) ≤ rdI p.edges 0)))] [(0, .data 1 (b.map encB)), (400, .vals ((encP p).map .d)), (500, .vals ((encC c).map .d))] ?_ ?_
  · refine opsF [⟨Op.fieldAddr 27 (Operand.tmp 3) 3, some 10, none⟩, ⟨Op.load 24 (Operand.tmp 10), some 11, none⟩, ⟨Op.call { callee := Callee.builtin Builtin.len, args := #[Operand.tmp 11], argTypes := #[24] }, some 12, none⟩, ⟨Op.binOp BinOp.neq 3 (Operand.tmp 12) (Operand.const (Value.int IntKind.i64 1)) 3, some 13, none⟩, ⟨Op.move (Operand.tmp 13), some 14, none⟩, ⟨Op.fieldAddr 27 (Operand.tmp 3) 3, some 15, some (some 14, false)⟩, ⟨Op.load 24 (Operand.tmp 15), some 16, some (some 14, false)⟩, ⟨Op.indexAddr 24 (Operand.tmp 16) (Operand.const (Value.int IntKind.i64 0)), some 17, some (some 14, false)⟩, ⟨Op.load 3 (Operand.tmp 17), some 18, some (some 14, false)⟩, ⟨Op.binOp BinOp.lss 3 (Operand.tmp 18) (Operand.const (Value.int IntKind.i64 0)) 3, some 19, some (some 14, false)⟩, ⟨Op.pick (Operand.tmp 14) (Operand.const (Value.bool true)) (Operand.tmp 19), some 20, none⟩, ⟨Op.move (Operand.tmp 20), some 21, none⟩, ⟨Op.fieldAddr 27 (Operand.tmp 3) 3, some 22, some (some 21, false)⟩, ⟨Op.load 24 (Operand.tmp 22), some 23, some (some 21, false)⟩, ⟨Op.indexAddr 24 (Operand.tmp 23) (Operand.const (Value.int IntKind.i64 0)), some 24, some (some 21, false)⟩, ⟨Op.load 3 (Operand.tmp 24), some 25, some (some 21, false)⟩, ⟨Op.fieldAddr 33 (Operand.tmp 4) 1, some 26, some (some 21, false)⟩, ⟨Op.load 29 (Operand.tmp 26), some 27, some (some 21, false)⟩, ⟨Op.call { callee := Callee.builtin Builtin.len, args := #[Operand.tmp 27], argTypes := #[29] }, some 28, some (some 21, false)⟩, ⟨Op.binOp BinOp.geq 3 (Operand.tmp 25) (Operand.tmp 28) 3, some 29, some (some 21, false)⟩, ⟨Op.pick (Operand.tmp 21) (Operand.const (Value.bool true)) (Operand.tmp 29), some 30, none⟩] fun K hK => ?_
    try simp
    repeat' first | ((first | refine evL_c ?_ | (refine evL_g rfl ?_; try simp only [gs_tt, gs_ff, gs_tf, gs_ft]) | refine evL_u rfl ?_ | (with_reducible refine gsplit (fun hg => ?_) (fun hg => ?_) <;> try simp at hg)) <;> try simp [hm, hk, hn, hb, hfr, hto, *]) | (with_reducible refine And.intro ?_ ?_) | intro _ | (with_reducible assumption) | omega
    all_goals (refine Fin.go hK ?_; clear hK K)
    all_goals
      (try simp [hm, hk, hn, hb]) <;> (first | omega | (simp; done) | (rw [Bool.eq_iff_iff]; simp only [Bool.or_eq_true, Bool.and_eq_true, Bool.not_eq_true', decide_eq_true_eq, decide_eq_false_iff_not]; omega) | (clear hE; grind) | (simp_all; done) | (simp_all; omega))
  · simp only [over, List.foldl, List.set]
    refine Run.cond rfl (fun h30 => ?_) (fun h30 => ?_)
    · replace h30 := of_decide_eq_true h30
      refine Run.seq ?_
      refine opsF oo64 fun K hK => ?_
      try simp
      repeat' first | ((refine evL_c ?_); simp [hm, hk, hn, hb, hfr, hto]) | (with_reducible refine And.intro ?_ ?_) | intro _ | (with_reducible assumption) | omega
      all_goals (refine Fin.go hK ?_; clear hK K)
      simp only [Then_normal]
      refine Run.ret ?_
      try simp only [Then_ret, Blok_ret]
      first
        | (have e : edgeB c p b = false := by simp [edgeB, hm, hk, h30]
           simp [e, hn]; done)
        | (have e : edgeB c p b = false := by simp [edgeB, h72]
           simp [e, hn]; done)
        | (have e : edgeB c p b = true := by simp only [edgeB, h72, hm, hk, Bool.not_false, Bool.and_true, Bool.not_eq_true', decide_eq_false_iff_not]; omega
           simp [e, hn]; done)
    · replace h30 := of_decide_eq_false h30
      have hm1 : m = 1 := by omega
      have h0 : 0 ≤ rdI p.edges 0 := by omega
      have h1 : rdI p.edges 0 < k := by omega
      have hG := hE (rdI c.edges (rdI p.edges 0)) (rdI_mem h0 (by omega))
      rw [hn] at hG
      have hf : 0 ≤ fr ∧ fr < n := by subst hfr; split <;> omega
      obtain ⟨hf1, hf2⟩ := hf
      have hf5 : fr < (n : Int) + k := by omega
      have hf7 : fr.toNat < n + k := by omega
      have hf9 : ((n : Int) + rdI p.edges 0).toNat < n + k := by omega
      have hf0 : 0 ≤ (n : Int) + rdI p.edges 0 := by omega
      have hfa : (n : Int) + rdI p.edges 0 < n + k := by omega
      have hw := wrap_id (n := (n : Int) + rdI p.edges 0) (by omega) (by omega)
      refine Run.skip ?_
      simp only [Then_normal]
      refine Run.cut [7, 31, 32, 33, 34, 35, 36, 37, 38] [(7, .pt 800 0 0 0)] [(0, .data 1 (b.map encB)), (400, .vals ((encP p).map .d)), (500, .vals ((encC c).map .d)), (800, .vals ((encE (rdI c.edges (rdI p.edges 0))).map .d))] ?_ ?_
      · refine opsF [⟨Op.fieldAddr 33 (Operand.tmp 4) 1, some 31, none⟩, ⟨Op.load 29 (Operand.tmp 31), some 32, none⟩, ⟨Op.fieldAddr 27 (Operand.tmp 3) 3, some 33, none⟩, ⟨Op.load 24 (Operand.tmp 33), some 34, none⟩, ⟨Op.indexAddr 24 (Operand.tmp 34) (Operand.const (Value.int IntKind.i64 0)), some 35, none⟩, ⟨Op.load 3 (Operand.tmp 35), some 36, none⟩, ⟨Op.indexAddr 29 (Operand.tmp 32) (Operand.tmp 36), some 37, none⟩, ⟨Op.load 105 (Operand.tmp 37), some 38, none⟩, ⟨Op.alloc 105, some 7, none⟩, ⟨Op.store 105 (Operand.tmp 7) (Operand.tmp 38), none, none⟩] fun K hK => ?_
        try simp
        repeat' first | ((refine evL_c ?_); simp [hm, hk, hn, hb, hfr, hto, hm1, h0, h1, hf1, hf2, hf5, hf7, hf9, hf0, hfa, hw]) | (with_reducible refine And.intro ?_ ?_) | intro _ | (with_reducible assumption) | omega
        all_goals (refine Fin.go hK ?_; clear hK K)
        (try simp [hm, hk, hn, hb]) <;> (first | omega | (simp; done) | (rw [Bool.eq_iff_iff]; simp only [Bool.or_eq_true, Bool.and_eq_true, Bool.not_eq_true', decide_eq_true_eq, decide_eq_false_iff_not]; omega) | (clear hE; grind) | (simp_all; done) | (simp_all; omega))
      · simp only [over, List.foldl, List.set]
        refine Run.seq ?_
        refine opsF [⟨Op.load 105 (Operand.tmp 7), some 40, none⟩, ⟨Op.fieldAddr 27 (Operand.tmp 3) 4, some 41, none⟩, ⟨Op.load 4 (Operand.tmp 41), some 42, none⟩, ⟨Op.call { callee := Callee.value (Operand.func 68), args := #[Operand.tmp 40, Operand.tmp 42], argTypes := #[105, 4] }, some 43, none⟩, ⟨Op.move (Operand.tmp 43), some 39, none⟩, ⟨Op.extract (Operand.tmp 39) 0, some 44, none⟩, ⟨Op.extract (Operand.tmp 39) 1, some 45, none⟩, ⟨Op.assign (Operand.tmp 44), some 8, none⟩, ⟨Op.assign (Operand.tmp 45), some 9, none⟩] fun K hK => ?_
        try simp
        repeat' first | (refine ecall (rends_ok (rdI c.edges (rdI p.edges 0)) p.back) rfl ?_) | ((refine evL_c ?_); simp [hm, hk, hn, hb, hfr, hto, hm1, h0, h1, hf1, hf2, hf5, hf7, hf9, hf0, hfa, hw]) | (with_reducible refine And.intro ?_ ?_) | intro _ | (with_reducible assumption) | omega
        all_goals (refine Fin.go hK ?_; clear hK K)
        simp only [Then_normal]
        refine Run.seq ?_
        refine Run.cut [46, 47, 48, 49, 50, 51, 52, 53, 54, 55, 56, 57, 58, 59, 60, 61, 62, 63, 64, 65, 66, 67, 68, 69, 70, 71, 72] [(72, .bool (badEdge c p b))] [(0, .data 1 (b.map encB)), (400, .vals ((encP p).map .d)), (500, .vals ((encC c).map .d)), (800, .vals ((encE (rdI c.edges (rdI p.edges 0))).map .d))] ?_ ?_
        · refine opsF [⟨Op.move (Operand.tmp 2), some 46, none⟩, ⟨Op.fieldAddr 33 (Operand.tmp 4) 0, some 47, none⟩, ⟨Op.load 28 (Operand.tmp 47), some 48, none⟩, ⟨Op.call { callee := Callee.builtin Builtin.len, args := #[Operand.tmp 48], argTypes := #[28] }, some 49, none⟩, ⟨Op.fieldAddr 27 (Operand.tmp 3) 3, some 50, none⟩, ⟨Op.load 24 (Operand.tmp 50), some 51, none⟩, ⟨Op.indexAddr 24 (Operand.tmp 51) (Operand.const (Value.int IntKind.i64 0)), some 52, none⟩, ⟨Op.load 3 (Operand.tmp 52), some 53, none⟩, ⟨Op.binOp BinOp.add 3 (Operand.tmp 49) (Operand.tmp 53) 3, some 54, none⟩, ⟨Op.indexAddr 60 (Operand.tmp 46) (Operand.tmp 54), some 55, none⟩, ⟨Op.load 4 (Operand.tmp 55), some 56, none⟩, ⟨Op.move (Operand.tmp 56), some 57, none⟩, ⟨Op.move (Operand.tmp 2), some 58, some (some 57, false)⟩, ⟨Op.move (Operand.tmp 8), some 59, some (some 57, false)⟩, ⟨Op.indexAddr 60 (Operand.tmp 58) (Operand.tmp 59), some 60, some (some 57, false)⟩, ⟨Op.load 4 (Operand.tmp 60), some 61, some (some 57, false)⟩, ⟨Op.unOp UnOp.not 4 (Operand.tmp 61), some 62, some (some 57, false)⟩, ⟨Op.pick (Operand.tmp 57) (Operand.const (Value.bool true)) (Operand.tmp 62), some 63, none⟩, ⟨Op.move (Operand.tmp 63), some 64, none⟩, ⟨Op.fieldAddr 105 (Operand.tmp 7) 4, some 65, some (some 64, false)⟩, ⟨Op.load 103 (Operand.tmp 65), some 66, some (some 64, false)⟩, ⟨Op.binOp BinOp.eql 103 (Operand.tmp 66) (Operand.const (Value.int IntKind.i64 0)) 103, some 67, some (some 64, false)⟩, ⟨Op.fieldAddr 27 (Operand.tmp 3) 0, some 68, some (some 64, false)⟩, ⟨Op.load 22 (Operand.tmp 68), some 69, some (some 64, false)⟩, ⟨Op.binOp BinOp.eql 22 (Operand.tmp 69) (Operand.const (Value.int IntKind.i64 2)) 22, some 70, some (some 64, false)⟩, ⟨Op.binOp BinOp.neq 4 (Operand.tmp 67) (Operand.tmp 70) 4, some 71, some (some 64, false)⟩, ⟨Op.pick (Operand.tmp 64) (Operand.const (Value.bool true)) (Operand.tmp 71), some 72, none⟩] fun K hK => ?_
          try simp
          repeat' first | ((first | refine evL_c ?_ | (refine evL_g rfl ?_; try simp only [gs_tt, gs_ff, gs_tf, gs_ft]) | refine evL_u rfl ?_ | (with_reducible refine gsplit (fun hg => ?_) (fun hg => ?_) <;> try simp at hg)) <;> try simp [hm, hk, hn, hb, hfr, hto, hm1, h0, h1, hf1, hf2, hf5, hf7, hf9, hf0, hfa, hw]) | (with_reducible refine And.intro ?_ ?_) | intro _ | (with_reducible assumption) | omega
          all_goals (refine Fin.go hK ?_; clear hK K)
          all_goals
            (try simp [hm, hk, hn, hb, hfr, hto, badEdge]) <;> (first | omega | (simp; done) | (rw [Bool.eq_iff_iff]; simp only [Bool.or_eq_true, Bool.and_eq_true, Bool.not_eq_true', decide_eq_true_eq, decide_eq_false_iff_not]; omega) | (clear hE; grind) | (simp_all; done) | (simp_all; omega))
        · simp only [over, List.foldl, List.set]
          refine Run.cond rfl (fun h72 => ?_) (fun h72 => ?_)
          · try simp at h72
            refine Run.seq ?_
            refine opsF oo64 fun K hK => ?_
            try simp
            repeat' first | ((refine evL_c ?_); simp [hm, hk, hn, hb, hfr, hto, hm1, h0, h1, hf1, hf2, hf5, hf7, hf9, hf0, hfa, hw]) | (with_reducible refine And.intro ?_ ?_) | intro _ | (with_reducible assumption) | omega
            all_goals (refine Fin.go hK ?_; clear hK K)
            simp only [Then_normal]
            refine Run.ret ?_
            try simp only [Then_ret, Blok_ret]
            first
              | (have e : edgeB c p b = false := by simp [edgeB, hm, hk, h30]
                 simp [e, hn]; done)
              | (have e : edgeB c p b = false := by simp [edgeB, h72]
                 simp [e, hn]; done)
              | (have e : edgeB c p b = true := by simp only [edgeB, h72, hm, hk, Bool.not_false, Bool.and_true, Bool.not_eq_true', decide_eq_false_iff_not]; omega
                 simp [e, hn]; done)
          · try simp at h72
            refine Run.skip ?_
            simp only [Then_normal]
            refine Run.seq ?_
            refine opsF [⟨Op.fieldAddr 27 (Operand.tmp 3) 3, some 73, none⟩, ⟨Op.load 24 (Operand.tmp 73), some 74, none⟩, ⟨Op.indexAddr 24 (Operand.tmp 74) (Operand.const (Value.int IntKind.i64 0)), some 75, none⟩, ⟨Op.load 3 (Operand.tmp 75), some 76, none⟩, ⟨Op.assign (Operand.tmp 76), some 6, none⟩] fun K hK => ?_
            try simp
            repeat' first | ((refine evL_c ?_); simp [hm, hk, hn, hb, hfr, hto, hm1, h0, h1, hf1, hf2, hf5, hf7, hf9, hf0, hfa, hw]) | (with_reducible refine And.intro ?_ ?_) | intro _ | (with_reducible assumption) | omega
            all_goals (refine Fin.go hK ?_; clear hK K)
            simp only [Then_normal]
            refine Run.ret ?_
            try simp only [Then_ret, Blok_ret]
            first
              | (have e : edgeB c p b = false := by simp [edgeB, hm, hk, h30]
                 simp [e, hn]; done)
              | (have e : edgeB c p b = false := by simp [edgeB, h72]
                 simp [e, hn]; done)
              | (have e : edgeB c p b = true := by simp only [edgeB, h72, hm, hk, Bool.not_false, Bool.and_true, Bool.not_eq_true', decide_eq_false_iff_not]; omega
                 simp [e, hn]; done)

theorem same_ok (na nb : Bool) (a b : List Bool) : Snd P 22 [.d (.sl na (a.map encB)), .d (.sl nb (b.map encB))] (.bool (decide (a = b))) [] := by
  refine Snd.ok 0 rfl (by kernel_rfl) fun hok => ?_
  have hma : a.length ≤ 9223372036854775807 := by simp only [D.ok, List.length_map] at hok; exact hok.1
  clear hok
  obtain ⟨m, hm⟩ : ∃ m, a.length = m := ⟨_, rfl⟩
  obtain ⟨k, hk⟩ : ∃ m, b.length = m := ⟨_, rfl⟩
  rw [hm] at hma
  refine snd_of [] Try.func22 rfl (by kernel_rfl) Try.ntmps22 (by simp) ?_
  unfold Try.f22
  simp only [List.cons_append, List.nil_append, List.length_cons, List.length_nil, Nat.reduceAdd, Nat.reduceSub, List.replicate]
  refine Run.seq ?_
  refine opsF oo11 fun K hK => ?_
  try simp
  repeat' first | ((refine evL_c ?_); simp [hm, hk]) | (with_reducible refine And.intro ?_ ?_) | intro _ | (with_reducible assumption) | omega
  all_goals (refine Fin.go hK ?_; clear hK K)
  simp only [Then_normal]
  refine Run.seq ?_
  refine Run.seq ?_
  refine opsF [⟨Op.move (Operand.tmp 0), some 6, none⟩, ⟨Op.call { callee := Callee.builtin Builtin.len, args := #[Operand.tmp 6], argTypes := #[60] }, some 7, none⟩, ⟨Op.move (Operand.tmp 1), some 8, none⟩, ⟨Op.call { callee := Callee.builtin Builtin.len, args := #[Operand.tmp 8], argTypes := #[60] }, some 9, none⟩, ⟨Op.binOp BinOp.neq 3 (Operand.tmp 7) (Operand.tmp 9) 3, some 10, none⟩] fun K hK => ?_
  try simp
  repeat' first | ((refine evL_c ?_); simp [hm, hk]) | (with_reducible refine And.intro ?_ ?_) | intro _ | (with_reducible assumption) | omega
  all_goals (refine Fin.go hK ?_; clear hK K)
  simp only [Then_normal]
  refine Run.cond rfl (fun h10 => ?_) (fun h10 => ?_)
  · try simp at h10
    refine Run.seq ?_
    refine opsF oo11 fun K hK => ?_
    try simp
    repeat' first | ((refine evL_c ?_); simp [hm, hk]) | (with_reducible refine And.intro ?_ ?_) | intro _ | (with_reducible assumption) | omega
    all_goals (refine Fin.go hK ?_; clear hK K)
    simp only [Then_normal]
    refine Run.ret ?_
    try simp only [Then_ret, Blok_ret]
    first
      | (have e : a ≠ b := by rintro rfl; omega
         simp [e]; done)
      | (have e : a ≠ b := by rintro rfl; simp at h25
         simp [e]; done)
      | (have e : a = b := by
           apply List.ext_getElem (by omega)
           intro j h1 h2
           have := hz j (by omega)
           simpa [rdI, List.getD_eq_getElem?_getD, h1, h2] using this
         simp [e]; done)
  · try simp at h10
    have hkm : k = m := by omega
    subst hkm
    refine Run.skip ?_
    simp only [Then_normal]
    refine Run.seq ?_
    refine Run.seq ?_
    refine opsF [⟨Op.assign (Operand.const (Value.int IntKind.i64 0)), some 5, none⟩] fun K hK => ?_
    try simp
    repeat' first | ((refine evL_c ?_); simp [hm, hk]) | (with_reducible refine And.intro ?_ ?_) | intro _ | (with_reducible assumption) | omega
    all_goals (refine Fin.go hK ?_; clear hK K)
    simp only [Then_normal]
    refine Run.block ?_
    refine Run.loopO [4, 5, 11, 12, 13, 14, 15, 16, 17, 18, 19, 20, 21, 22, 23, 24, 25] (fun (i : Nat) => [(5, .int i)]) (fun (i : Nat) => []) (fun (i : Nat) => i ≤ k ∧ ∀ j : Nat, j < i → rdI a j = rdI b j) (fun (i : Nat) => k - i) 0 ⟨by omega, by omega⟩ (by simp) fun i ⟨hi, hz⟩ => ?_
    simp only [over, List.foldl, List.set]
    refine Run.seq ?_
    refine Run.seq ?_
    refine opsF [⟨Op.move (Operand.tmp 5), some 11, none⟩, ⟨Op.move (Operand.tmp 0), some 12, none⟩, ⟨Op.call { callee := Callee.builtin Builtin.len, args := #[Operand.tmp 12], argTypes := #[60] }, some 13, none⟩, ⟨Op.binOp BinOp.lss 3 (Operand.tmp 11) (Operand.tmp 13) 3, some 14, none⟩] fun K hK => ?_
    try simp
    repeat' first | ((refine evL_c ?_); simp [hm, hk]) | (with_reducible refine And.intro ?_ ?_) | intro _ | (with_reducible assumption) | omega
    all_goals (refine Fin.go hK ?_; clear hK K)
    simp only [Then_normal]
    refine Run.cond rfl (fun h14 => ?_) (fun h14 => ?_)
    · try simp at h14
      have hi1 : i < k := by omega
      refine Run.skip ?_
      simp only [Then_normal]
      refine Run.seq ?_
      refine Run.block ?_
      refine Run.seq ?_
      refine opsF [⟨Op.move (Operand.tmp 0), some 17, none⟩, ⟨Op.move (Operand.tmp 5), some 18, none⟩, ⟨Op.indexAddr 60 (Operand.tmp 17) (Operand.tmp 18), some 19, none⟩, ⟨Op.load 4 (Operand.tmp 19), some 20, none⟩, ⟨Op.move (Operand.tmp 1), some 21, none⟩, ⟨Op.move (Operand.tmp 5), some 22, none⟩, ⟨Op.indexAddr 60 (Operand.tmp 21) (Operand.tmp 22), some 23, none⟩, ⟨Op.load 4 (Operand.tmp 23), some 24, none⟩, ⟨Op.binOp BinOp.neq 4 (Operand.tmp 20) (Operand.tmp 24) 4, some 25, none⟩] fun K hK => ?_
      try simp
      repeat' first | ((refine evL_c ?_); simp [hm, hk, hi1]) | (with_reducible refine And.intro ?_ ?_) | intro _ | (with_reducible assumption) | omega
      all_goals (refine Fin.go hK ?_; clear hK K)
      simp only [Then_normal]
      refine Run.cond rfl (fun h25 => ?_) (fun h25 => ?_)
      · try simp at h25
        refine Run.seq ?_
        refine opsF oo11 fun K hK => ?_
        try simp
        repeat' first | ((refine evL_c ?_); simp [hm, hk, hi1]) | (with_reducible refine And.intro ?_ ?_) | intro _ | (with_reducible assumption) | omega
        all_goals (refine Fin.go hK ?_; clear hK K)
        simp only [Then_normal]
        refine Run.ret ?_
        try simp only [Then_ret, Blok_ret]
        first
          | (have e : a ≠ b := by rintro rfl; omega
             simp [e]; done)
          | (have e : a ≠ b := by rintro rfl; simp at h25
             simp [e]; done)
          | (have e : a = b := by
               apply List.ext_getElem (by omega)
               intro j h1 h2
               have := hz j (by omega)
               simpa [rdI, List.getD_eq_getElem?_getD, h1, h2] using this
             simp [e]; done)
      · try simp at h25
        refine Run.skip ?_
        simp only [Blok_normal]
        simp only [Then_normal]
        refine opsF [⟨Op.move (Operand.tmp 5), some 15, none⟩, ⟨Op.binOp BinOp.add 3 (Operand.tmp 15) (Operand.const (Value.int IntKind.i64 1)) 3, some 16, none⟩, ⟨Op.assign (Operand.tmp 16), some 5, none⟩] fun K hK => ?_
        try simp
        repeat' first | ((refine evL_c ?_); simp [hm, hk, hi1]) | (with_reducible refine And.intro ?_ ?_) | intro _ | (with_reducible assumption) | omega
        all_goals (refine Fin.go hK ?_; clear hK K)
        refine ⟨i + 1, ⟨by omega, fun j hj => ?_⟩, by omega, ?_⟩
        · by_cases e : j = i
          · subst e; simpa using h25
          · exact hz j (by omega)
        · simp (disch := omega) [wrap_id]
    · try simp at h14
      refine Run.exit ?_
      simp (decide := true) only [Then_exit, Blok_exit, if_true, if_false]
      simp only [Then_normal]
      refine Run.seq ?_
      refine opsF oo65 fun K hK => ?_
      try simp
      repeat' first | ((refine evL_c ?_); simp [hm, hk]) | (with_reducible refine And.intro ?_ ?_) | intro _ | (with_reducible assumption) | omega
      all_goals (refine Fin.go hK ?_; clear hK K)
      simp only [Then_normal]
      refine Run.ret ?_
      try simp only [Then_ret, Blok_ret]
      first
        | (have e : a ≠ b := by rintro rfl; omega
           simp [e]; done)
        | (have e : a ≠ b := by rintro rfl; simp at h25
           simp [e]; done)
        | (have e : a = b := by
             apply List.ext_getElem (by omega)
             intro j h1 h2
             have := hz j (by omega)
             simpa [rdI, List.getD_eq_getElem?_getD, h1, h2] using this
           simp [e]; done)


end Go.Proofs.Ytihbejpkfifplaa.Z
end
