/- Texts of this claim, put together: Pj. -/
import Derived.Test.YtihbejpkfifplaaCe
set_option linter.unusedVariables false
set_option linter.unusedSimpArgs false
section
set_option maxRecDepth 100000
namespace Go.Proofs.Ytihbejpkfifplaa.Z
open Go Go.Fw
set_option maxHeartbeats 4000000 in
theorem bound1_ok (c : CoreT) (p : PlanT) (hP : patS c.nodes c.edges = true) (hop : p.op = 1) (hkl : p.kids.length = 0) : Snd P 37 [.d (.ag (encC c ++ [D.int c.nodes.length])), .d (.ag (encP p))] (resB (opS c p [])) (stoB (opS c p [])) := by
  obtain ⟨hn1, hn8, hk8⟩ := pat_rng hP
  have hE := goodE_of hP
  obtain ⟨n, hn⟩ : ∃ k, c.nodes.length = k := ⟨_, rfl⟩
  obtain ⟨k, hk⟩ : ∃ k, c.edges.length = k := ⟨_, rfl⟩
  rw [hn] at hn1 hn8
  rw [hk] at hk8
  obtain ⟨fb, hfb⟩ : ∃ fb, List.replicate (n + k) false = fb := ⟨_, rfl⟩
  have hfl : fb.length = n + k := by rw [← hfb]; simp
  have hwd : ((n:Int) + k).toNat = n + k := by omega
  have hw : IntKind.i64.wrap ((n:Int) + k) = (n:Int) + k := wrap_id (by omega) (by omega)
  have hw1 : 0 < n + k := by omega
  have hw2 : (n:Int) + k ≤ 140737488355328 := by omega
  have hw3 : (0:Int) ≤ (n:Int) + k := by omega
  obtain ⟨sb, hsb⟩ : ∃ sb, decide (0 ≤ p.slot ∧ p.slot < (n : Int)) = sb := ⟨_, rfl⟩
  refine snd_of [4200] Try.func37 rfl (by kernel_rfl) Try.ntmps37 (by simp) ?_
  unfold Try.f37
  simp only [List.cons_append, List.nil_append, List.length_cons, List.length_nil, Nat.reduceAdd, Nat.reduceSub, List.replicate]
  refine Run.seq ?_
  refine opsF oo12 fun K hK => ?_
  try simp
  repeat' first | ((refine evL_c ?_); simp [-List.map_set, hn, hk, hop, hkl, hw, hwd, hfl, hw1, hw2, hw3]) | (with_reducible refine And.intro ?_ ?_) | intro _ | (with_reducible assumption) | omega
  all_goals (refine Fin.go hK ?_; clear hK K)
  simp only [Then_normal]
  refine Run.seq ?_
  refine opsF oo13 fun K hK => ?_
  try simp
  repeat' first | ((refine evL_c ?_); simp [-List.map_set, hn, hk, hop, hkl, hw, hwd, hfl, hw1, hw2, hw3]) | (with_reducible refine And.intro ?_ ?_) | intro _ | (with_reducible assumption) | omega
  all_goals (refine Fin.go hK ?_; clear hK K)
  simp only [Then_normal]
  refine Run.seq ?_
  refine Run.seq ?_
  refine opsF oo14 fun K hK => ?_
  try simp
  repeat' first | ((refine evL_c ?_); simp [-List.map_set, hn, hk, hop, hkl, hw, hwd, hfl, hw1, hw2, hw3]) | (with_reducible refine And.intro ?_ ?_) | intro _ | (with_reducible assumption) | omega
  all_goals (refine Fin.go hK ?_; clear hK K)
  simp only [Then_normal]
  refine Run.seq ?_
  refine opsF oo15 fun K hK => ?_
  try simp
  repeat' first | ((first | refine evL_c ?_ | (refine evL_g rfl ?_; try simp only [gs_tt, gs_ff, gs_tf, gs_ft]) | refine evL_u rfl ?_ | (with_reducible refine gsplit (fun hg => ?_) (fun hg => ?_) <;> try simp at hg)) <;> try simp [-List.map_set, hn, hk, hop, hkl, hw, hwd, hfl, hw1, hw2, hw3]) | (with_reducible refine And.intro ?_ ?_) | intro _ | (with_reducible assumption) | omega
  all_goals (refine Fin.go hK ?_; clear hK K)
  all_goals
    simp only [Then_normal]
    refine Run.cond rfl (fun h33 => ?_) (fun h33 => ?_)
    · simp at h33
    · skip
      refine Run.skip ?_
      simp only [Then_normal]
      refine Run.cut [8, 34, 35, 36, 37, 38, 39, 40, 41, 42] [(8, .rs 4300 1 0 1)] [(300, .vals ((encC c ++ [D.int c.nodes.length]).map .d)), (400, .vals ((encP p).map .d)), (4200, .data 1 (fb.map encB)), (4300, .vals [.rs 4200 1 0 (n + k)])] ?_ ?_
      · refine opsF oo16 fun K hK => ?_
        try simp
        repeat' first | ((refine evL_c ?_); simp [-List.map_set, hn, hk, hop, hkl, hw, hwd, hfl, hw1, hw2, hw3]) | (with_reducible refine And.intro ?_ ?_) | intro _ | (with_reducible assumption) | omega
        all_goals (refine Fin.go hK ?_; clear hK K)
        first | (simp [-List.map_set, hn, hk, hop, hkl, hw, hwd, hfl, hw1, hw2, hw3, ← hfb]; done)
      · simp only [over, List.foldl, List.set]
        refine Run.seq ?_
        refine Run.seq ?_
        refine opsF oo17 fun K hK => ?_
        try simp
        repeat' first | ((refine evL_c ?_); simp [-List.map_set, hn, hk, hop, hkl, hw, hwd, hfl, hw1, hw2, hw3]) | (with_reducible refine And.intro ?_ ?_) | intro _ | (with_reducible assumption) | omega
        all_goals (refine Fin.go hK ?_; clear hK K)
        simp only [Then_normal]
        refine Run.block ?_
        refine Run.loopO [4, 8, 10, 11, 46, 47, 48, 49, 50, 51, 52, 53, 54, 55, 56, 57, 58, 59] (fun (x : Nat) => [(46, .int x), (8, .rs 4300 1 0 1)]) (fun (x : Nat) => [(300, .vals ((encC c ++ [D.int c.nodes.length]).map .d)), (400, .vals ((encP p).map .d)), (4200, .data 1 (fb.map encB)), (4300, .vals [.rs 4200 1 0 (n + k)])]) (fun (x : Nat) => x = 0) (fun (x : Nat) => 0) 0 (by simp) (by simp [-List.map_set, hn, hk, hop, hkl, hw, hwd, hfl, hw1, hw2, hw3]) fun x hx => ?_
        rcases hx with rfl
        · simp only [over, List.foldl, List.set]
          refine Run.seq ?_
          refine opsF oo18 fun K hK => ?_
          try simp
          repeat' first | ((refine evL_c ?_); simp [-List.map_set, hn, hk, hop, hkl, hw, hwd, hfl, hw1, hw2, hw3]) | (with_reducible refine And.intro ?_ ?_) | intro _ | (with_reducible assumption) | omega
          all_goals (refine Fin.go hK ?_; clear hK K)
          simp only [Then_normal]
          refine Run.seq ?_
          refine Run.cond rfl (fun h47 => ?_) (fun h47 => ?_)
          · simp at h47
          · skip
            refine Run.exit ?_
            simp (decide := true) only [Then_exit, Blok_exit, if_true, if_false]
            simp only [Then_normal]
            refine Run.seq ?_
            refine opsF oo24 fun K hK => ?_
            try simp
            repeat' first | ((refine evL_c ?_); simp [-List.map_set, hn, hk, hop, hkl, hw, hwd, hfl, hw1, hw2, hw3]) | (with_reducible refine And.intro ?_ ?_) | intro _ | (with_reducible assumption) | omega
            all_goals (refine Fin.go hK ?_; clear hK K)
            simp only [Then_normal]
            refine Run.seq ?_
            refine opsF oo25 fun K hK => ?_
            try simp
            repeat' first | ((refine evL_c ?_); simp [-List.map_set, hn, hk, hop, hkl, hw, hwd, hfl, hw1, hw2, hw3]) | (with_reducible refine And.intro ?_ ?_) | intro _ | (with_reducible assumption) | omega
            all_goals (refine Fin.go hK ?_; clear hK K)
            simp only [Then_normal]
            refine Run.seq ?_
            refine Run.seq ?_
            refine opsF oo26 fun K hK => ?_
            try simp
            repeat' first | ((refine evL_c ?_); simp [-List.map_set, hn, hk, hop, hkl, hw, hwd, hfl, hw1, hw2, hw3]) | (with_reducible refine And.intro ?_ ?_) | intro _ | (with_reducible assumption) | omega
            all_goals (refine Fin.go hK ?_; clear hK K)
            simp only [Then_normal]
            refine Run.block ?_
            refine Run.seq ?_
            refine opsF oo27 fun K hK => ?_
            try simp
            repeat' first | ((refine evL_c ?_); simp [-List.map_set, hn, hk, hop, hkl, hw, hwd, hfl, hw1, hw2, hw3]) | (with_reducible refine And.intro ?_ ?_) | intro _ | (with_reducible assumption) | omega
            all_goals (refine Fin.go hK ?_; clear hK K)
            simp only [Then_normal]
            refine Run.cond rfl (fun h68 => ?_) (fun h68 => ?_)
            · skip
              refine Run.cut [13, 70, 71, 72, 73, 74, 75, 76, 77, 78, 79] [(13, .bool sb)] [(300, .vals ((encC c ++ [D.int c.nodes.length]).map .d)), (400, .vals ((encP p).map .d)), (1300, .vals [.rs 4200 1 0 (n + k)]), (4200, .data 1 (fb.map encB))] ?_ ?_
              · refine opsF [⟨Op.fieldAddr 27 (Operand.tmp 3) 2, some 70, none⟩, ⟨Op.load 3 (Operand.tmp 70), some 71, none⟩, ⟨Op.binOp BinOp.geq 3 (Operand.tmp 71) (Operand.const (Value.int IntKind.i64 0)) 3, some 72, none⟩, ⟨Op.move (Operand.tmp 72), some 73, none⟩, ⟨Op.fieldAddr 27 (Operand.tmp 3) 2, some 74, some (some 73, true)⟩, ⟨Op.load 3 (Operand.tmp 74), some 75, some (some 73, true)⟩, ⟨Op.fieldAddr 86 (Operand.tmp 2) 1, some 76, some (some 73, true)⟩, ⟨Op.load 3 (Operand.tmp 76), some 77, some (some 73, true)⟩, ⟨Op.binOp BinOp.lss 3 (Operand.tmp 75) (Operand.tmp 77) 3, some 78, some (some 73, true)⟩, ⟨Op.pick (Operand.tmp 73) (Operand.tmp 78) (Operand.const (Value.bool false)), some 79, none⟩, ⟨Op.assign (Operand.tmp 79), some 13, none⟩] fun K hK => ?_
                try simp
                repeat' first | ((first | refine evL_c ?_ | (refine evL_g rfl ?_; try simp only [gs_tt, gs_ff, gs_tf, gs_ft]) | refine evL_u rfl ?_ | (with_reducible refine gsplit (fun hg => ?_) (fun hg => ?_) <;> try simp at hg)) <;> try simp [-List.map_set, hn, hk, hop, hkl, hw, hwd, hfl, hw1, hw2, hw3, *]) | (with_reducible refine And.intro ?_ ?_) | intro _ | (with_reducible assumption) | omega
                all_goals (refine Fin.go hK ?_; clear hK K)
                all_goals
                  (try simp [← hsb, -List.map_set, hn, hk, hop, hkl, hw, hwd, hfl, hw1, hw2, hw3]) <;> (first | omega | (simp; done) | (rw [Bool.eq_iff_iff]; simp only [Bool.or_eq_true, Bool.and_eq_true, Bool.not_eq_true', decide_eq_true_eq, decide_eq_false_iff_not]; omega) | grind | (simp_all; done) | (simp_all; omega))
              · simp only [over, List.foldl, List.set]
                refine Run.seq ?_
                refine opsF [⟨Op.move (Operand.tmp 13), some 80, none⟩] fun K hK => ?_
                try simp
                repeat' first | ((refine evL_c ?_); simp [-List.map_set, hn, hk, hop, hkl, hw, hwd, hfl, hw1, hw2, hw3]) | (with_reducible refine And.intro ?_ ?_) | intro _ | (with_reducible assumption) | omega
                all_goals (refine Fin.go hK ?_; clear hK K)
                simp only [Then_normal]
                refine Run.cond rfl (fun h80 => ?_) (fun h80 => ?_)
                · rw [h80, decide_eq_true_eq] at hsb
                  obtain ⟨hs0, hs1⟩ := hsb
                  have hs2 : p.slot < (n : Int) + k := by omega
                  have hs3 : p.slot.toNat < n + k := by omega
                  refine opsF [⟨Op.load 60 (Operand.tmp 12), some 81, none⟩, ⟨Op.fieldAddr 27 (Operand.tmp 3) 2, some 82, none⟩, ⟨Op.load 3 (Operand.tmp 82), some 83, none⟩, ⟨Op.indexAddr 60 (Operand.tmp 81) (Operand.tmp 83), some 84, none⟩, ⟨Op.store 4 (Operand.tmp 84) (Operand.const (Value.bool true)), none, none⟩] fun K hK => ?_
                  try simp
                  repeat' first | ((refine evL_c ?_); simp [-List.map_set, hn, hk, hop, hkl, hw, hwd, hfl, hw1, hw2, hw3, h80, hs0, hs1, hs2, hs3]) | (with_reducible refine And.intro ?_ ?_) | intro _ | (with_reducible assumption) | omega
                  all_goals (refine Fin.go hK ?_; clear hK K)
                  simp only [Blok_normal]
                  simp only [Then_normal]
                  refine Run.seq ?_
                  refine Run.seq ?_
                  refine opsF oo30 fun K hK => ?_
                  try simp
                  repeat' first | ((refine evL_c ?_); simp [-List.map_set, hn, hk, hop, hkl, hw, hwd, hfl, hw1, hw2, hw3, h80, hs0, hs1, hs2, hs3]) | (with_reducible refine And.intro ?_ ?_) | intro _ | (with_reducible assumption) | omega
                  all_goals (refine Fin.go hK ?_; clear hK K)
                  simp only [Then_normal]
                  refine Run.cond rfl (fun h145 => ?_) (fun h145 => ?_)
                  · simp at h145
                  · skip
                    refine Run.skip ?_
                    simp only [Then_normal]
                    refine Run.seq ?_
                    refine opsF oo32 fun K hK => ?_
                    try simp
                    repeat' first | ((refine evL_c ?_); simp [-List.map_set, hn, hk, hop, hkl, hw, hwd, hfl, hw1, hw2, hw3, h80, hs0, hs1, hs2, hs3]) | (with_reducible refine And.intro ?_ ?_) | intro _ | (with_reducible assumption) | omega
                    all_goals (refine Fin.go hK ?_; clear hK K)
                    simp only [Then_normal]
                    refine Run.ret ?_
                    try simp only [Then_ret, Blok_ret]
                    first
                      | (have e : opS c p [] = none := by simp [opS, hop]; rw [hn]; omega
                         rw [e]
                         simp [resB, stoB, hn]; done)
                      | (have e : opS c p [] = some (fb.set p.slot.toNat true) := by simp [opS, hop, hn, hk, hfb, hs0, hs1]
                         rw [e]
                         simp [-List.map_set, resB, stoB, hn, hfl]; done)
                · rw [h80, decide_eq_false_iff_not] at hsb
                  refine Run.skip ?_
                  simp only [Blok_normal]
                  simp only [Then_normal]
                  refine Run.seq ?_
                  refine Run.seq ?_
                  refine opsF oo30 fun K hK => ?_
                  try simp
                  repeat' first | ((refine evL_c ?_); simp [-List.map_set, hn, hk, hop, hkl, hw, hwd, hfl, hw1, hw2, hw3, h80]) | (with_reducible refine And.intro ?_ ?_) | intro _ | (with_reducible assumption) | omega
                  all_goals (refine Fin.go hK ?_; clear hK K)
                  simp only [Then_normal]
                  refine Run.cond rfl (fun h145 => ?_) (fun h145 => ?_)
                  · skip
                    refine Run.seq ?_
                    refine opsF oo31 fun K hK => ?_
                    try simp
                    repeat' first | ((refine evL_c ?_); simp [-List.map_set, hn, hk, hop, hkl, hw, hwd, hfl, hw1, hw2, hw3, h80]) | (with_reducible refine And.intro ?_ ?_) | intro _ | (with_reducible assumption) | omega
                    all_goals (refine Fin.go hK ?_; clear hK K)
                    simp only [Then_normal]
                    refine Run.drop [] (by simp) ?_
                    refine Run.ret ?_
                    try simp only [Then_ret, Blok_ret]
                    first
                      | (have e : opS c p [] = none := by simp [opS, hop]; rw [hn]; omega
                         rw [e]
                         simp [resB, stoB, hn]; done)
                      | (have e : opS c p [] = some (fb.set p.slot.toNat true) := by simp [opS, hop, hn, hk, hfb, hs0, hs1]
                         rw [e]
                         simp [-List.map_set, resB, stoB, hn, hfl]; done)
                  · simp at h145
            · simp at h68

set_option maxHeartbeats 4000000 in
theorem boundN2_ok (c : CoreT) (p : PlanT) (hP : patS c.nodes c.edges = true) (hop : p.op = 2) (hkl : p.kids.length = 1) (IH : Snd P 37 [.d (.ag (encC c ++ [D.int c.nodes.length])), .d (.ag (encP (rdI p.kids 0)))] (resB (bndT c (rdI p.kids 0))) (stoB (bndT c (rdI p.kids 0)))) (hq : bndT c (rdI p.kids 0) = none) : Snd P 37 [.d (.ag (encC c ++ [D.int c.nodes.length])), .d (.ag (encP p))] vnil [] := by
  obtain ⟨hn1, hn8, hk8⟩ := pat_rng hP
  have hE := goodE_of hP
  obtain ⟨n, hn⟩ : ∃ k, c.nodes.length = k := ⟨_, rfl⟩
  obtain ⟨k, hk⟩ : ∃ k, c.edges.length = k := ⟨_, rfl⟩
  rw [hn] at hn1 hn8
  rw [hk] at hk8
  obtain ⟨fb, hfb⟩ : ∃ fb, List.replicate (n + k) false = fb := ⟨_, rfl⟩
  have hfl : fb.length = n + k := by rw [← hfb]; simp
  have hwd : ((n:Int) + k).toNat = n + k := by omega
  have hw : IntKind.i64.wrap ((n:Int) + k) = (n:Int) + k := wrap_id (by omega) (by omega)
  have hw1 : 0 < n + k := by omega
  have hw2 : (n:Int) + k ≤ 140737488355328 := by omega
  have hw3 : (0:Int) ≤ (n:Int) + k := by omega
  simp only [hq, resB, stoB, encP_cells, hn] at IH
  refine snd_of [] Try.func37 rfl (by kernel_rfl) Try.ntmps37 (by simp) ?_
  unfold Try.f37
  simp only [List.cons_append, List.nil_append, List.length_cons, List.length_nil, Nat.reduceAdd, Nat.reduceSub, List.replicate]
  refine Run.seq ?_
  refine opsF oo12 fun K hK => ?_
  try simp
  repeat' first | ((refine evL_c ?_); simp [-List.map_set, hn, hk, hop, hkl, hw, hwd, hfl, hw1, hw2, hw3]) | (with_reducible refine And.intro ?_ ?_) | intro _ | (with_reducible assumption) | omega
  all_goals (refine Fin.go hK ?_; clear hK K)
  simp only [Then_normal]
  refine Run.seq ?_
  refine opsF oo13 fun K hK => ?_
  try simp
  repeat' first | ((refine evL_c ?_); simp [-List.map_set, hn, hk, hop, hkl, hw, hwd, hfl, hw1, hw2, hw3]) | (with_reducible refine And.intro ?_ ?_) | intro _ | (with_reducible assumption) | omega
  all_goals (refine Fin.go hK ?_; clear hK K)
  simp only [Then_normal]
  refine Run.seq ?_
  refine Run.seq ?_
  refine opsF oo14 fun K hK => ?_
  try simp
  repeat' first | ((refine evL_c ?_); simp [-List.map_set, hn, hk, hop, hkl, hw, hwd, hfl, hw1, hw2, hw3]) | (with_reducible refine And.intro ?_ ?_) | intro _ | (with_reducible assumption) | omega
  all_goals (refine Fin.go hK ?_; clear hK K)
  simp only [Then_normal]
  refine Run.seq ?_
  refine opsF oo15 fun K hK => ?_
  try simp
  repeat' first | ((first | refine evL_c ?_ | (refine evL_g rfl ?_; try simp only [gs_tt, gs_ff, gs_tf, gs_ft]) | refine evL_u rfl ?_ | (with_reducible refine gsplit (fun hg => ?_) (fun hg => ?_) <;> try simp at hg)) <;> try simp [-List.map_set, hn, hk, hop, hkl, hw, hwd, hfl, hw1, hw2, hw3]) | (with_reducible refine And.intro ?_ ?_) | intro _ | (with_reducible assumption) | omega
  all_goals (refine Fin.go hK ?_; clear hK K)
  all_goals
    simp only [Then_normal]
    refine Run.cond rfl (fun h33 => ?_) (fun h33 => ?_)
    · simp at h33
    · skip
      refine Run.skip ?_
      simp only [Then_normal]
      refine Run.cut [8, 34, 35, 36, 37, 38, 39, 40, 41, 42] [(8, .rs 4300 1 0 1)] [(300, .vals ((encC c ++ [D.int c.nodes.length]).map .d)), (400, .vals ((encP p).map .d)), (4200, .data 1 (fb.map encB)), (4300, .vals [.rs 4200 1 0 (n + k)])] ?_ ?_
      · refine opsF oo16 fun K hK => ?_
        try simp
        repeat' first | ((refine evL_c ?_); simp [-List.map_set, hn, hk, hop, hkl, hw, hwd, hfl, hw1, hw2, hw3]) | (with_reducible refine And.intro ?_ ?_) | intro _ | (with_reducible assumption) | omega
        all_goals (refine Fin.go hK ?_; clear hK K)
        first | (simp [-List.map_set, hn, hk, hop, hkl, hw, hwd, hfl, hw1, hw2, hw3, ← hfb]; done)
      · simp only [over, List.foldl, List.set]
        refine Run.seq ?_
        refine Run.seq ?_
        refine opsF oo17 fun K hK => ?_
        try simp
        repeat' first | ((refine evL_c ?_); simp [-List.map_set, hn, hk, hop, hkl, hw, hwd, hfl, hw1, hw2, hw3]) | (with_reducible refine And.intro ?_ ?_) | intro _ | (with_reducible assumption) | omega
        all_goals (refine Fin.go hK ?_; clear hK K)
        simp only [Then_normal]
        refine Run.block ?_
        refine Run.loopO [4, 8, 10, 11, 46, 47, 48, 49, 50, 51, 52, 53, 54, 55, 56, 57, 58, 59] (fun (x : Nat) => [(46, .int x), (8, .rs 4300 1 0 1)]) (fun (x : Nat) => [(300, .vals ((encC c ++ [D.int c.nodes.length]).map .d)), (400, .vals ((encP p).map .d)), (4200, .data 1 (fb.map encB)), (4300, .vals [.rs 4200 1 0 (n + k)])]) (fun (x : Nat) => x = 0) (fun (x : Nat) => 0) 0 (by simp) (by simp [-List.map_set, hn, hk, hop, hkl, hw, hwd, hfl, hw1, hw2, hw3]) fun x hx => ?_
        rcases hx with rfl
        · simp only [over, List.foldl, List.set]
          refine Run.seq ?_
          refine opsF oo18 fun K hK => ?_
          try simp
          repeat' first | ((refine evL_c ?_); simp [-List.map_set, hn, hk, hop, hkl, hw, hwd, hfl, hw1, hw2, hw3]) | (with_reducible refine And.intro ?_ ?_) | intro _ | (with_reducible assumption) | omega
          all_goals (refine Fin.go hK ?_; clear hK K)
          simp only [Then_normal]
          refine Run.seq ?_
          refine Run.cond rfl (fun h47 => ?_) (fun h47 => ?_)
          · skip
            refine Run.skip ?_
            simp only [Then_normal]
            refine Run.seq ?_
            refine Run.block ?_
            refine Run.seq ?_
            refine opsF oo19 fun K hK => ?_
            try simp
            repeat' first | ((refine evL_c ?_); simp [-List.map_set, hn, hk, hop, hkl, hw, hwd, hfl, hw1, hw2, hw3]) | (with_reducible refine And.intro ?_ ?_) | intro _ | (with_reducible assumption) | omega
            all_goals (refine Fin.go hK ?_; clear hK K)
            simp only [Then_normal]
            refine Run.seq ?_
            refine opsF oo20 fun K hK => ?_
            try simp
            repeat' first | (refine ecall (by have h := IH; exact h) rfl ?_) | ((refine evL_c ?_); simp [-List.map_set, hn, hk, hop, hkl, hw, hwd, hfl, hw1, hw2, hw3]) | (with_reducible refine And.intro ?_ ?_) | intro _ | (with_reducible assumption) | omega
            all_goals (refine Fin.go hK ?_; clear hK K)
            simp only [Then_normal]
            refine Run.seq ?_
            refine Run.seq ?_
            refine opsF oo21 fun K hK => ?_
            try simp
            repeat' first | ((refine evL_c ?_); simp [-List.map_set, hn, hk, hop, hkl, hw, hwd, hfl, hw1, hw2, hw3]) | (with_reducible refine And.intro ?_ ?_) | intro _ | (with_reducible assumption) | omega
            all_goals (refine Fin.go hK ?_; clear hK K)
            simp only [Then_normal]
            refine Run.cond rfl (fun h54 => ?_) (fun h54 => ?_)
            · skip
              refine Run.seq ?_
              refine opsF oo31 fun K hK => ?_
              try simp
              repeat' first | ((refine evL_c ?_); simp [-List.map_set, hn, hk, hop, hkl, hw, hwd, hfl, hw1, hw2, hw3]) | (with_reducible refine And.intro ?_ ?_) | intro _ | (with_reducible assumption) | omega
              all_goals (refine Fin.go hK ?_; clear hK K)
              simp only [Then_normal]
              refine Run.drop [] (by simp) ?_
              refine Run.ret ?_
              try simp only [Then_ret, Blok_ret]
              simp
            · simp at h54
          · simp at h47

set_option maxHeartbeats 4000000 in
theorem boundN3_ok (c : CoreT) (p : PlanT) (hP : patS c.nodes c.edges = true) (hop : p.op = 3) (hkl : p.kids.length = 1) (IH : Snd P 37 [.d (.ag (encC c ++ [D.int c.nodes.length])), .d (.ag (encP (rdI p.kids 0)))] (resB (bndT c (rdI p.kids 0))) (stoB (bndT c (rdI p.kids 0)))) (hq : bndT c (rdI p.kids 0) = none) : Snd P 37 [.d (.ag (encC c ++ [D.int c.nodes.length])), .d (.ag (encP p))] vnil [] := by
  obtain ⟨hn1, hn8, hk8⟩ := pat_rng hP
  have hE := goodE_of hP
  obtain ⟨n, hn⟩ : ∃ k, c.nodes.length = k := ⟨_, rfl⟩
  obtain ⟨k, hk⟩ : ∃ k, c.edges.length = k := ⟨_, rfl⟩
  rw [hn] at hn1 hn8
  rw [hk] at hk8
  obtain ⟨fb, hfb⟩ : ∃ fb, List.replicate (n + k) false = fb := ⟨_, rfl⟩
  have hfl : fb.length = n + k := by rw [← hfb]; simp
  have hwd : ((n:Int) + k).toNat = n + k := by omega
  have hw : IntKind.i64.wrap ((n:Int) + k) = (n:Int) + k := wrap_id (by omega) (by omega)
  have hw1 : 0 < n + k := by omega
  have hw2 : (n:Int) + k ≤ 140737488355328 := by omega
  have hw3 : (0:Int) ≤ (n:Int) + k := by omega
  simp only [hq, resB, stoB, encP_cells, hn] at IH
  refine snd_of [] Try.func37 rfl (by kernel_rfl) Try.ntmps37 (by simp) ?_
  unfold Try.f37
  simp only [List.cons_append, List.nil_append, List.length_cons, List.length_nil, Nat.reduceAdd, Nat.reduceSub, List.replicate]
  refine Run.seq ?_
  refine opsF oo12 fun K hK => ?_
  try simp
  repeat' first | ((refine evL_c ?_); simp [-List.map_set, hn, hk, hop, hkl, hw, hwd, hfl, hw1, hw2, hw3]) | (with_reducible refine And.intro ?_ ?_) | intro _ | (with_reducible assumption) | omega
  all_goals (refine Fin.go hK ?_; clear hK K)
  simp only [Then_normal]
  refine Run.seq ?_
  refine opsF oo13 fun K hK => ?_
  try simp
  repeat' first | ((refine evL_c ?_); simp [-List.map_set, hn, hk, hop, hkl, hw, hwd, hfl, hw1, hw2, hw3]) | (with_reducible refine And.intro ?_ ?_) | intro _ | (with_reducible assumption) | omega
  all_goals (refine Fin.go hK ?_; clear hK K)
  simp only [Then_normal]
  refine Run.seq ?_
  refine Run.seq ?_
  refine opsF oo14 fun K hK => ?_
  try simp
  repeat' first | ((refine evL_c ?_); simp [-List.map_set, hn, hk, hop, hkl, hw, hwd, hfl, hw1, hw2, hw3]) | (with_reducible refine And.intro ?_ ?_) | intro _ | (with_reducible assumption) | omega
  all_goals (refine Fin.go hK ?_; clear hK K)
  simp only [Then_normal]
  refine Run.seq ?_
  refine opsF oo15 fun K hK => ?_
  try simp
  repeat' first | ((first | refine evL_c ?_ | (refine evL_g rfl ?_; try simp only [gs_tt, gs_ff, gs_tf, gs_ft]) | refine evL_u rfl ?_ | (with_reducible refine gsplit (fun hg => ?_) (fun hg => ?_) <;> try simp at hg)) <;> try simp [-List.map_set, hn, hk, hop, hkl, hw, hwd, hfl, hw1, hw2, hw3]) | (with_reducible refine And.intro ?_ ?_) | intro _ | (with_reducible assumption) | omega
  all_goals (refine Fin.go hK ?_; clear hK K)
  all_goals
    simp only [Then_normal]
    refine Run.cond rfl (fun h33 => ?_) (fun h33 => ?_)
    · simp at h33
    · skip
      refine Run.skip ?_
      simp only [Then_normal]
      refine Run.cut [8, 34, 35, 36, 37, 38, 39, 40, 41, 42] [(8, .rs 4300 1 0 1)] [(300, .vals ((encC c ++ [D.int c.nodes.length]).map .d)), (400, .vals ((encP p).map .d)), (4200, .data 1 (fb.map encB)), (4300, .vals [.rs 4200 1 0 (n + k)])] ?_ ?_
      · refine opsF oo16 fun K hK => ?_
        try simp
        repeat' first | ((refine evL_c ?_); simp [-List.map_set, hn, hk, hop, hkl, hw, hwd, hfl, hw1, hw2, hw3]) | (with_reducible refine And.intro ?_ ?_) | intro _ | (with_reducible assumption) | omega
        all_goals (refine Fin.go hK ?_; clear hK K)
        first | (simp [-List.map_set, hn, hk, hop, hkl, hw, hwd, hfl, hw1, hw2, hw3, ← hfb]; done)
      · simp only [over, List.foldl, List.set]
        refine Run.seq ?_
        refine Run.seq ?_
        refine opsF oo17 fun K hK => ?_
        try simp
        repeat' first | ((refine evL_c ?_); simp [-List.map_set, hn, hk, hop, hkl, hw, hwd, hfl, hw1, hw2, hw3]) | (with_reducible refine And.intro ?_ ?_) | intro _ | (with_reducible assumption) | omega
        all_goals (refine Fin.go hK ?_; clear hK K)
        simp only [Then_normal]
        refine Run.block ?_
        refine Run.loopO [4, 8, 10, 11, 46, 47, 48, 49, 50, 51, 52, 53, 54, 55, 56, 57, 58, 59] (fun (x : Nat) => [(46, .int x), (8, .rs 4300 1 0 1)]) (fun (x : Nat) => [(300, .vals ((encC c ++ [D.int c.nodes.length]).map .d)), (400, .vals ((encP p).map .d)), (4200, .data 1 (fb.map encB)), (4300, .vals [.rs 4200 1 0 (n + k)])]) (fun (x : Nat) => x = 0) (fun (x : Nat) => 0) 0 (by simp) (by simp [-List.map_set, hn, hk, hop, hkl, hw, hwd, hfl, hw1, hw2, hw3]) fun x hx => ?_
        rcases hx with rfl
        · simp only [over, List.foldl, List.set]
          refine Run.seq ?_
          refine opsF oo18 fun K hK => ?_
          try simp
          repeat' first | ((refine evL_c ?_); simp [-List.map_set, hn, hk, hop, hkl, hw, hwd, hfl, hw1, hw2, hw3]) | (with_reducible refine And.intro ?_ ?_) | intro _ | (with_reducible assumption) | omega
          all_goals (refine Fin.go hK ?_; clear hK K)
          simp only [Then_normal]
          refine Run.seq ?_
          refine Run.cond rfl (fun h47 => ?_) (fun h47 => ?_)
          · skip
            refine Run.skip ?_
            simp only [Then_normal]
            refine Run.seq ?_
            refine Run.block ?_
            refine Run.seq ?_
            refine opsF oo19 fun K hK => ?_
            try simp
            repeat' first | ((refine evL_c ?_); simp [-List.map_set, hn, hk, hop, hkl, hw, hwd, hfl, hw1, hw2, hw3]) | (with_reducible refine And.intro ?_ ?_) | intro _ | (with_reducible assumption) | omega
            all_goals (refine Fin.go hK ?_; clear hK K)
            simp only [Then_normal]
            refine Run.seq ?_
            refine opsF oo20 fun K hK => ?_
            try simp
            repeat' first | (refine ecall (by have h := IH; exact h) rfl ?_) | ((refine evL_c ?_); simp [-List.map_set, hn, hk, hop, hkl, hw, hwd, hfl, hw1, hw2, hw3]) | (with_reducible refine And.intro ?_ ?_) | intro _ | (with_reducible assumption) | omega
            all_goals (refine Fin.go hK ?_; clear hK K)
            simp only [Then_normal]
            refine Run.seq ?_
            refine Run.seq ?_
            refine opsF oo21 fun K hK => ?_
            try simp
            repeat' first | ((refine evL_c ?_); simp [-List.map_set, hn, hk, hop, hkl, hw, hwd, hfl, hw1, hw2, hw3]) | (with_reducible refine And.intro ?_ ?_) | intro _ | (with_reducible assumption) | omega
            all_goals (refine Fin.go hK ?_; clear hK K)
            simp only [Then_normal]
            refine Run.cond rfl (fun h54 => ?_) (fun h54 => ?_)
            · skip
              refine Run.seq ?_
              refine opsF oo31 fun K hK => ?_
              try simp
              repeat' first | ((refine evL_c ?_); simp [-List.map_set, hn, hk, hop, hkl, hw, hwd, hfl, hw1, hw2, hw3]) | (with_reducible refine And.intro ?_ ?_) | intro _ | (with_reducible assumption) | omega
              all_goals (refine Fin.go hK ?_; clear hK K)
              simp only [Then_normal]
              refine Run.drop [] (by simp) ?_
              refine Run.ret ?_
              try simp only [Then_ret, Blok_ret]
              simp
            · simp at h54
          · simp at h47

set_option maxHeartbeats 4000000 in
theorem boundN5_ok (c : CoreT) (p : PlanT) (hP : patS c.nodes c.edges = true) (hop : p.op = 5) (hkl : p.kids.length = 1) (IH : Snd P 37 [.d (.ag (encC c ++ [D.int c.nodes.length])), .d (.ag (encP (rdI p.kids 0)))] (resB (bndT c (rdI p.kids 0))) (stoB (bndT c (rdI p.kids 0)))) (hq : bndT c (rdI p.kids 0) = none) : Snd P 37 [.d (.ag (encC c ++ [D.int c.nodes.length])), .d (.ag (encP p))] vnil [] := by
  obtain ⟨hn1, hn8, hk8⟩ := pat_rng hP
  have hE := goodE_of hP
  obtain ⟨n, hn⟩ : ∃ k, c.nodes.length = k := ⟨_, rfl⟩
  obtain ⟨k, hk⟩ : ∃ k, c.edges.length = k := ⟨_, rfl⟩
  rw [hn] at hn1 hn8
  rw [hk] at hk8
  obtain ⟨fb, hfb⟩ : ∃ fb, List.replicate (n + k) false = fb := ⟨_, rfl⟩
  have hfl : fb.length = n + k := by rw [← hfb]; simp
  have hwd : ((n:Int) + k).toNat = n + k := by omega
  have hw : IntKind.i64.wrap ((n:Int) + k) = (n:Int) + k := wrap_id (by omega) (by omega)
  have hw1 : 0 < n + k := by omega
  have hw2 : (n:Int) + k ≤ 140737488355328 := by omega
  have hw3 : (0:Int) ≤ (n:Int) + k := by omega
  simp only [hq, resB, stoB, encP_cells, hn] at IH
  refine snd_of [] Try.func37 rfl (by kernel_rfl) Try.ntmps37 (by simp) ?_
  unfold Try.f37
  simp only [List.cons_append, List.nil_append, List.length_cons, List.length_nil, Nat.reduceAdd, Nat.reduceSub, List.replicate]
  refine Run.seq ?_
  refine opsF oo12 fun K hK => ?_
  try simp
  repeat' first | ((refine evL_c ?_); simp [-List.map_set, hn, hk, hop, hkl, hw, hwd, hfl, hw1, hw2, hw3]) | (with_reducible refine And.intro ?_ ?_) | intro _ | (with_reducible assumption) | omega
  all_goals (refine Fin.go hK ?_; clear hK K)
  simp only [Then_normal]
  refine Run.seq ?_
  refine opsF oo13 fun K hK => ?_
  try simp
  repeat' first | ((refine evL_c ?_); simp [-List.map_set, hn, hk, hop, hkl, hw, hwd, hfl, hw1, hw2, hw3]) | (with_reducible refine And.intro ?_ ?_) | intro _ | (with_reducible assumption) | omega
  all_goals (refine Fin.go hK ?_; clear hK K)
  simp only [Then_normal]
  refine Run.seq ?_
  refine Run.seq ?_
  refine opsF oo14 fun K hK => ?_
  try simp
  repeat' first | ((refine evL_c ?_); simp [-List.map_set, hn, hk, hop, hkl, hw, hwd, hfl, hw1, hw2, hw3]) | (with_reducible refine And.intro ?_ ?_) | intro _ | (with_reducible assumption) | omega
  all_goals (refine Fin.go hK ?_; clear hK K)
  simp only [Then_normal]
  refine Run.seq ?_
  refine opsF oo15 fun K hK => ?_
  try simp
  repeat' first | ((first | refine evL_c ?_ | (refine evL_g rfl ?_; try simp only [gs_tt, gs_ff, gs_tf, gs_ft]) | refine evL_u rfl ?_ | (with_reducible refine gsplit (fun hg => ?_) (fun hg => ?_) <;> try simp at hg)) <;> try simp [-List.map_set, hn, hk, hop, hkl, hw, hwd, hfl, hw1, hw2, hw3]) | (with_reducible refine And.intro ?_ ?_) | intro _ | (with_reducible assumption) | omega
  all_goals (refine Fin.go hK ?_; clear hK K)
  all_goals
    simp only [Then_normal]
    refine Run.cond rfl (fun h33 => ?_) (fun h33 => ?_)
    · simp at h33
    · skip
      refine Run.skip ?_
      simp only [Then_normal]
      refine Run.cut [8, 34, 35, 36, 37, 38, 39, 40, 41, 42] [(8, .rs 4300 1 0 1)] [(300, .vals ((encC c ++ [D.int c.nodes.length]).map .d)), (400, .vals ((encP p).map .d)), (4200, .data 1 (fb.map encB)), (4300, .vals [.rs 4200 1 0 (n + k)])] ?_ ?_
      · refine opsF oo16 fun K hK => ?_
        try simp
        repeat' first | ((refine evL_c ?_); simp [-List.map_set, hn, hk, hop, hkl, hw, hwd, hfl, hw1, hw2, hw3]) | (with_reducible refine And.intro ?_ ?_) | intro _ | (with_reducible assumption) | omega
        all_goals (refine Fin.go hK ?_; clear hK K)
        first | (simp [-List.map_set, hn, hk, hop, hkl, hw, hwd, hfl, hw1, hw2, hw3, ← hfb]; done)
      · simp only [over, List.foldl, List.set]
        refine Run.seq ?_
        refine Run.seq ?_
        refine opsF oo17 fun K hK => ?_
        try simp
        repeat' first | ((refine evL_c ?_); simp [-List.map_set, hn, hk, hop, hkl, hw, hwd, hfl, hw1, hw2, hw3]) | (with_reducible refine And.intro ?_ ?_) | intro _ | (with_reducible assumption) | omega
        all_goals (refine Fin.go hK ?_; clear hK K)
        simp only [Then_normal]
        refine Run.block ?_
        refine Run.loopO [4, 8, 10, 11, 46, 47, 48, 49, 50, 51, 52, 53, 54, 55, 56, 57, 58, 59] (fun (x : Nat) => [(46, .int x), (8, .rs 4300 1 0 1)]) (fun (x : Nat) => [(300, .vals ((encC c ++ [D.int c.nodes.length]).map .d)), (400, .vals ((encP p).map .d)), (4200, .data 1 (fb.map encB)), (4300, .vals [.rs 4200 1 0 (n + k)])]) (fun (x : Nat) => x = 0) (fun (x : Nat) => 0) 0 (by simp) (by simp [-List.map_set, hn, hk, hop, hkl, hw, hwd, hfl, hw1, hw2, hw3]) fun x hx => ?_
        rcases hx with rfl
        · simp only [over, List.foldl, List.set]
          refine Run.seq ?_
          refine opsF oo18 fun K hK => ?_
          try simp
          repeat' first | ((refine evL_c ?_); simp [-List.map_set, hn, hk, hop, hkl, hw, hwd, hfl, hw1, hw2, hw3]) | (with_reducible refine And.intro ?_ ?_) | intro _ | (with_reducible assumption) | omega
          all_goals (refine Fin.go hK ?_; clear hK K)
          simp only [Then_normal]
          refine Run.seq ?_
          refine Run.cond rfl (fun h47 => ?_) (fun h47 => ?_)
          · skip
            refine Run.skip ?_
            simp only [Then_normal]
            refine Run.seq ?_
            refine Run.block ?_
            refine Run.seq ?_
            refine opsF oo19 fun K hK => ?_
            try simp
            repeat' first | ((refine evL_c ?_); simp [-List.map_set, hn, hk, hop, hkl, hw, hwd, hfl, hw1, hw2, hw3]) | (with_reducible refine And.intro ?_ ?_) | intro _ | (with_reducible assumption) | omega
            all_goals (refine Fin.go hK ?_; clear hK K)
            simp only [Then_normal]
            refine Run.seq ?_
            refine opsF oo20 fun K hK => ?_
            try simp
            repeat' first | (refine ecall (by have h := IH; exact h) rfl ?_) | ((refine evL_c ?_); simp [-List.map_set, hn, hk, hop, hkl, hw, hwd, hfl, hw1, hw2, hw3]) | (with_reducible refine And.intro ?_ ?_) | intro _ | (with_reducible assumption) | omega
            all_goals (refine Fin.go hK ?_; clear hK K)
            simp only [Then_normal]
            refine Run.seq ?_
            refine Run.seq ?_
            refine opsF oo21 fun K hK => ?_
            try simp
            repeat' first | ((refine evL_c ?_); simp [-List.map_set, hn, hk, hop, hkl, hw, hwd, hfl, hw1, hw2, hw3]) | (with_reducible refine And.intro ?_ ?_) | intro _ | (with_reducible assumption) | omega
            all_goals (refine Fin.go hK ?_; clear hK K)
            simp only [Then_normal]
            refine Run.cond rfl (fun h54 => ?_) (fun h54 => ?_)
            · skip
              refine Run.seq ?_
              refine opsF oo31 fun K hK => ?_
              try simp
              repeat' first | ((refine evL_c ?_); simp [-List.map_set, hn, hk, hop, hkl, hw, hwd, hfl, hw1, hw2, hw3]) | (with_reducible refine And.intro ?_ ?_) | intro _ | (with_reducible assumption) | omega
              all_goals (refine Fin.go hK ?_; clear hK K)
              simp only [Then_normal]
              refine Run.drop [] (by simp) ?_
              refine Run.ret ?_
              try simp only [Then_ret, Blok_ret]
              simp
            · simp at h54
          · simp at h47

set_option maxHeartbeats 4000000 in
theorem boundN6_ok (c : CoreT) (p : PlanT) (hP : patS c.nodes c.edges = true) (hop : p.op = 6) (hkl : p.kids.length = 1) (IH : Snd P 37 [.d (.ag (encC c ++ [D.int c.nodes.length])), .d (.ag (encP (rdI p.kids 0)))] (resB (bndT c (rdI p.kids 0))) (stoB (bndT c (rdI p.kids 0)))) (hq : bndT c (rdI p.kids 0) = none) : Snd P 37 [.d (.ag (encC c ++ [D.int c.nodes.length])), .d (.ag (encP p))] vnil [] := by
  obtain ⟨hn1, hn8, hk8⟩ := pat_rng hP
  have hE := goodE_of hP
  obtain ⟨n, hn⟩ : ∃ k, c.nodes.length = k := ⟨_, rfl⟩
  obtain ⟨k, hk⟩ : ∃ k, c.edges.length = k := ⟨_, rfl⟩
  rw [hn] at hn1 hn8
  rw [hk] at hk8
  obtain ⟨fb, hfb⟩ : ∃ fb, List.replicate (n + k) false = fb := ⟨_, rfl⟩
  have hfl : fb.length = n + k := by rw [← hfb]; simp
  have hwd : ((n:Int) + k).toNat = n + k := by omega
  have hw : IntKind.i64.wrap ((n:Int) + k) = (n:Int) + k := wrap_id (by omega) (by omega)
  have hw1 : 0 < n + k := by omega
  have hw2 : (n:Int) + k ≤ 140737488355328 := by omega
  have hw3 : (0:Int) ≤ (n:Int) + k := by omega
  simp only [hq, resB, stoB, encP_cells, hn] at IH
  refine snd_of [] Try.func37 rfl (by kernel_rfl) Try.ntmps37 (by simp) ?_
  unfold Try.f37
  simp only [List.cons_append, List.nil_append, List.length_cons, List.length_nil, Nat.reduceAdd, Nat.reduceSub, List.replicate]
  refine Run.seq ?_
  refine opsF oo12 fun K hK => ?_
  try simp
  repeat' first | ((refine evL_c ?_); simp [-List.map_set, hn, hk, hop, hkl, hw, hwd, hfl, hw1, hw2, hw3]) | (with_reducible refine And.intro ?_ ?_) | intro _ | (with_reducible assumption) | omega
  all_goals (refine Fin.go hK ?_; clear hK K)
  simp only [Then_normal]
  refine Run.seq ?_
  refine opsF oo13 fun K hK => ?_
  try simp
  repeat' first | ((refine evL_c ?_); simp [-List.map_set, hn, hk, hop, hkl, hw, hwd, hfl, hw1, hw2, hw3]) | (with_reducible refine And.intro ?_ ?_) | intro _ | (with_reducible assumption) | omega
  all_goals (refine Fin.go hK ?_; clear hK K)
  simp only [Then_normal]
  refine Run.seq ?_
  refine Run.seq ?_
  refine opsF oo14 fun K hK => ?_
  try simp
  repeat' first | ((refine evL_c ?_); simp [-List.map_set, hn, hk, hop, hkl, hw, hwd, hfl, hw1, hw2, hw3]) | (with_reducible refine And.intro ?_ ?_) | intro _ | (with_reducible assumption) | omega
  all_goals (refine Fin.go hK ?_; clear hK K)
  simp only [Then_normal]
  refine Run.seq ?_
  refine opsF oo15 fun K hK => ?_
  try simp
  repeat' first | ((first | refine evL_c ?_ | (refine evL_g rfl ?_; try simp only [gs_tt, gs_ff, gs_tf, gs_ft]) | refine evL_u rfl ?_ | (with_reducible refine gsplit (fun hg => ?_) (fun hg => ?_) <;> try simp at hg)) <;> try simp [-List.map_set, hn, hk, hop, hkl, hw, hwd, hfl, hw1, hw2, hw3]) | (with_reducible refine And.intro ?_ ?_) | intro _ | (with_reducible assumption) | omega
  all_goals (refine Fin.go hK ?_; clear hK K)
  all_goals
    simp only [Then_normal]
    refine Run.cond rfl (fun h33 => ?_) (fun h33 => ?_)
    · simp at h33
    · skip
      refine Run.skip ?_
      simp only [Then_normal]
      refine Run.cut [8, 34, 35, 36, 37, 38, 39, 40, 41, 42] [(8, .rs 4300 1 0 1)] [(300, .vals ((encC c ++ [D.int c.nodes.length]).map .d)), (400, .vals ((encP p).map .d)), (4200, .data 1 (fb.map encB)), (4300, .vals [.rs 4200 1 0 (n + k)])] ?_ ?_
      · refine opsF oo16 fun K hK => ?_
        try simp
        repeat' first | ((refine evL_c ?_); simp [-List.map_set, hn, hk, hop, hkl, hw, hwd, hfl, hw1, hw2, hw3]) | (with_reducible refine And.intro ?_ ?_) | intro _ | (with_reducible assumption) | omega
        all_goals (refine Fin.go hK ?_; clear hK K)
        first | (simp [-List.map_set, hn, hk, hop, hkl, hw, hwd, hfl, hw1, hw2, hw3, ← hfb]; done)
      · simp only [over, List.foldl, List.set]
        refine Run.seq ?_
        refine Run.seq ?_
        refine opsF oo17 fun K hK => ?_
        try simp
        repeat' first | ((refine evL_c ?_); simp [-List.map_set, hn, hk, hop, hkl, hw, hwd, hfl, hw1, hw2, hw3]) | (with_reducible refine And.intro ?_ ?_) | intro _ | (with_reducible assumption) | omega
        all_goals (refine Fin.go hK ?_; clear hK K)
        simp only [Then_normal]
        refine Run.block ?_
        refine Run.loopO [4, 8, 10, 11, 46, 47, 48, 49, 50, 51, 52, 53, 54, 55, 56, 57, 58, 59] (fun (x : Nat) => [(46, .int x), (8, .rs 4300 1 0 1)]) (fun (x : Nat) => [(300, .vals ((encC c ++ [D.int c.nodes.length]).map .d)), (400, .vals ((encP p).map .d)), (4200, .data 1 (fb.map encB)), (4300, .vals [.rs 4200 1 0 (n + k)])]) (fun (x : Nat) => x = 0) (fun (x : Nat) => 0) 0 (by simp) (by simp [-List.map_set, hn, hk, hop, hkl, hw, hwd, hfl, hw1, hw2, hw3]) fun x hx => ?_
        rcases hx with rfl
        · simp only [over, List.foldl, List.set]
          refine Run.seq ?_
          refine opsF oo18 fun K hK => ?_
          try simp
          repeat' first | ((refine evL_c ?_); simp [-List.map_set, hn, hk, hop, hkl, hw, hwd, hfl, hw1, hw2, hw3]) | (with_reducible refine And.intro ?_ ?_) | intro _ | (with_reducible assumption) | omega
          all_goals (refine Fin.go hK ?_; clear hK K)
          simp only [Then_normal]
          refine Run.seq ?_
          refine Run.cond rfl (fun h47 => ?_) (fun h47 => ?_)
          · skip
            refine Run.skip ?_
            simp only [Then_normal]
            refine Run.seq ?_
            refine Run.block ?_
            refine Run.seq ?_
            refine opsF oo19 fun K hK => ?_
            try simp
            repeat' first | ((refine evL_c ?_); simp [-List.map_set, hn, hk, hop, hkl, hw, hwd, hfl, hw1, hw2, hw3]) | (with_reducible refine And.intro ?_ ?_) | intro _ | (with_reducible assumption) | omega
            all_goals (refine Fin.go hK ?_; clear hK K)
            simp only [Then_normal]
            refine Run.seq ?_
            refine opsF oo20 fun K hK => ?_
            try simp
            repeat' first | (refine ecall (by have h := IH; exact h) rfl ?_) | ((refine evL_c ?_); simp [-List.map_set, hn, hk, hop, hkl, hw, hwd, hfl, hw1, hw2, hw3]) | (with_reducible refine And.intro ?_ ?_) | intro _ | (with_reducible assumption) | omega
            all_goals (refine Fin.go hK ?_; clear hK K)
            simp only [Then_normal]
            refine Run.seq ?_
            refine Run.seq ?_
            refine opsF oo21 fun K hK => ?_
            try simp
            repeat' first | ((refine evL_c ?_); simp [-List.map_set, hn, hk, hop, hkl, hw, hwd, hfl, hw1, hw2, hw3]) | (with_reducible refine And.intro ?_ ?_) | intro _ | (with_reducible assumption) | omega
            all_goals (refine Fin.go hK ?_; clear hK K)
            simp only [Then_normal]
            refine Run.cond rfl (fun h54 => ?_) (fun h54 => ?_)
            · skip
              refine Run.seq ?_
              refine opsF oo31 fun K hK => ?_
              try simp
              repeat' first | ((refine evL_c ?_); simp [-List.map_set, hn, hk, hop, hkl, hw, hwd, hfl, hw1, hw2, hw3]) | (with_reducible refine And.intro ?_ ?_) | intro _ | (with_reducible assumption) | omega
              all_goals (refine Fin.go hK ?_; clear hK K)
              simp only [Then_normal]
              refine Run.drop [] (by simp) ?_
              refine Run.ret ?_
              try simp only [Then_ret, Blok_ret]
              simp
            · simp at h54
          · simp at h47

set_option maxHeartbeats 4000000 in
theorem boundN4_ok (c : CoreT) (p : PlanT) (hP : patS c.nodes c.edges = true) (hop : p.op = 4) (hkl : p.kids.length = 2) (IH : Snd P 37 [.d (.ag (encC c ++ [D.int c.nodes.length])), .d (.ag (encP (rdI p.kids 0)))] (resB (bndT c (rdI p.kids 0))) (stoB (bndT c (rdI p.kids 0)))) (hq : bndT c (rdI p.kids 0) = none) : Snd P 37 [.d (.ag (encC c ++ [D.int c.nodes.length])), .d (.ag (encP p))] vnil [] := by
  obtain ⟨hn1, hn8, hk8⟩ := pat_rng hP
  have hE := goodE_of hP
  obtain ⟨n, hn⟩ : ∃ k, c.nodes.length = k := ⟨_, rfl⟩
  obtain ⟨k, hk⟩ : ∃ k, c.edges.length = k := ⟨_, rfl⟩
  rw [hn] at hn1 hn8
  rw [hk] at hk8
  obtain ⟨fb, hfb⟩ : ∃ fb, List.replicate (n + k) false = fb := ⟨_, rfl⟩
  have hfl : fb.length = n + k := by rw [← hfb]; simp
  have hwd : ((n:Int) + k).toNat = n + k := by omega
  have hw : IntKind.i64.wrap ((n:Int) + k) = (n:Int) + k := wrap_id (by omega) (by omega)
  have hw1 : 0 < n + k := by omega
  have hw2 : (n:Int) + k ≤ 140737488355328 := by omega
  have hw3 : (0:Int) ≤ (n:Int) + k := by omega
  simp only [hq, resB, stoB, encP_cells, hn] at IH
  refine snd_of [] Try.func37 rfl (by kernel_rfl) Try.ntmps37 (by simp) ?_
  unfold Try.f37
  simp only [List.cons_append, List.nil_append, List.length_cons, List.length_nil, Nat.reduceAdd, Nat.reduceSub, List.replicate]
  refine Run.seq ?_
  refine opsF oo12 fun K hK => ?_
  try simp
  repeat' first | ((refine evL_c ?_); simp [-List.map_set, hn, hk, hop, hkl, hw, hwd, hfl, hw1, hw2, hw3]) | (with_reducible refine And.intro ?_ ?_) | intro _ | (with_reducible assumption) | omega
  all_goals (refine Fin.go hK ?_; clear hK K)
  simp only [Then_normal]
  refine Run.seq ?_
  refine opsF oo13 fun K hK => ?_
  try simp
  repeat' first | ((refine evL_c ?_); simp [-List.map_set, hn, hk, hop, hkl, hw, hwd, hfl, hw1, hw2, hw3]) | (with_reducible refine And.intro ?_ ?_) | intro _ | (with_reducible assumption) | omega
  all_goals (refine Fin.go hK ?_; clear hK K)
  simp only [Then_normal]
  refine Run.seq ?_
  refine Run.seq ?_
  refine opsF oo14 fun K hK => ?_
  try simp
  repeat' first | ((refine evL_c ?_); simp [-List.map_set, hn, hk, hop, hkl, hw, hwd, hfl, hw1, hw2, hw3]) | (with_reducible refine And.intro ?_ ?_) | intro _ | (with_reducible assumption) | omega
  all_goals (refine Fin.go hK ?_; clear hK K)
  simp only [Then_normal]
  refine Run.seq ?_
  refine opsF oo15 fun K hK => ?_
  try simp
  repeat' first | ((first | refine evL_c ?_ | (refine evL_g rfl ?_; try simp only [gs_tt, gs_ff, gs_tf, gs_ft]) | refine evL_u rfl ?_ | (with_reducible refine gsplit (fun hg => ?_) (fun hg => ?_) <;> try simp at hg)) <;> try simp [-List.map_set, hn, hk, hop, hkl, hw, hwd, hfl, hw1, hw2, hw3]) | (with_reducible refine And.intro ?_ ?_) | intro _ | (with_reducible assumption) | omega
  all_goals (refine Fin.go hK ?_; clear hK K)
  all_goals
    simp only [Then_normal]
    refine Run.cond rfl (fun h33 => ?_) (fun h33 => ?_)
    · simp at h33
    · skip
      refine Run.skip ?_
      simp only [Then_normal]
      refine Run.cut [8, 34, 35, 36, 37, 38, 39, 40, 41, 42] [(8, .rs 4300 1 0 1)] [(300, .vals ((encC c ++ [D.int c.nodes.length]).map .d)), (400, .vals ((encP p).map .d)), (4200, .data 1 (fb.map encB)), (4300, .vals [.rs 4200 1 0 (n + k)])] ?_ ?_
      · refine opsF oo16 fun K hK => ?_
        try simp
        repeat' first | ((refine evL_c ?_); simp [-List.map_set, hn, hk, hop, hkl, hw, hwd, hfl, hw1, hw2, hw3]) | (with_reducible refine And.intro ?_ ?_) | intro _ | (with_reducible assumption) | omega
        all_goals (refine Fin.go hK ?_; clear hK K)
        first | (simp [-List.map_set, hn, hk, hop, hkl, hw, hwd, hfl, hw1, hw2, hw3, ← hfb]; done)
      · simp only [over, List.foldl, List.set]
        refine Run.seq ?_
        refine Run.seq ?_
        refine opsF oo17 fun K hK => ?_
        try simp
        repeat' first | ((refine evL_c ?_); simp [-List.map_set, hn, hk, hop, hkl, hw, hwd, hfl, hw1, hw2, hw3]) | (with_reducible refine And.intro ?_ ?_) | intro _ | (with_reducible assumption) | omega
        all_goals (refine Fin.go hK ?_; clear hK K)
        simp only [Then_normal]
        refine Run.block ?_
        refine Run.loopO [4, 8, 10, 11, 46, 47, 48, 49, 50, 51, 52, 53, 54, 55, 56, 57, 58, 59] (fun (x : Nat) => [(46, .int x), (8, .rs 4300 1 0 1)]) (fun (x : Nat) => [(300, .vals ((encC c ++ [D.int c.nodes.length]).map .d)), (400, .vals ((encP p).map .d)), (4200, .data 1 (fb.map encB)), (4300, .vals [.rs 4200 1 0 (n + k)])]) (fun (x : Nat) => x = 0) (fun (x : Nat) => 0) 0 (by simp) (by simp [-List.map_set, hn, hk, hop, hkl, hw, hwd, hfl, hw1, hw2, hw3]) fun x hx => ?_
        rcases hx with rfl
        · simp only [over, List.foldl, List.set]
          refine Run.seq ?_
          refine opsF oo18 fun K hK => ?_
          try simp
          repeat' first | ((refine evL_c ?_); simp [-List.map_set, hn, hk, hop, hkl, hw, hwd, hfl, hw1, hw2, hw3]) | (with_reducible refine And.intro ?_ ?_) | intro _ | (with_reducible assumption) | omega
          all_goals (refine Fin.go hK ?_; clear hK K)
          simp only [Then_normal]
          refine Run.seq ?_
          refine Run.cond rfl (fun h47 => ?_) (fun h47 => ?_)
          · skip
            refine Run.skip ?_
            simp only [Then_normal]
            refine Run.seq ?_
            refine Run.block ?_
            refine Run.seq ?_
            refine opsF oo19 fun K hK => ?_
            try simp
            repeat' first | ((refine evL_c ?_); simp [-List.map_set, hn, hk, hop, hkl, hw, hwd, hfl, hw1, hw2, hw3]) | (with_reducible refine And.intro ?_ ?_) | intro _ | (with_reducible assumption) | omega
            all_goals (refine Fin.go hK ?_; clear hK K)
            simp only [Then_normal]
            refine Run.seq ?_
            refine opsF oo20 fun K hK => ?_
            try simp
            repeat' first | (refine ecall (by have h := IH; exact h) rfl ?_) | ((refine evL_c ?_); simp [-List.map_set, hn, hk, hop, hkl, hw, hwd, hfl, hw1, hw2, hw3]) | (with_reducible refine And.intro ?_ ?_) | intro _ | (with_reducible assumption) | omega
            all_goals (refine Fin.go hK ?_; clear hK K)
            simp only [Then_normal]
            refine Run.seq ?_
            refine Run.seq ?_
            refine opsF oo21 fun K hK => ?_
            try simp
            repeat' first | ((refine evL_c ?_); simp [-List.map_set, hn, hk, hop, hkl, hw, hwd, hfl, hw1, hw2, hw3]) | (with_reducible refine And.intro ?_ ?_) | intro _ | (with_reducible assumption) | omega
            all_goals (refine Fin.go hK ?_; clear hK K)
            simp only [Then_normal]
            refine Run.cond rfl (fun h54 => ?_) (fun h54 => ?_)
            · skip
              refine Run.seq ?_
              refine opsF oo31 fun K hK => ?_
              try simp
              repeat' first | ((refine evL_c ?_); simp [-List.map_set, hn, hk, hop, hkl, hw, hwd, hfl, hw1, hw2, hw3]) | (with_reducible refine And.intro ?_ ?_) | intro _ | (with_reducible assumption) | omega
              all_goals (refine Fin.go hK ?_; clear hK K)
              simp only [Then_normal]
              refine Run.drop [] (by simp) ?_
              refine Run.ret ?_
              try simp only [Then_ret, Blok_ret]
              simp
            · simp at h54
          · simp at h47

set_option maxHeartbeats 4000000 in
theorem boundX1_ok (c : CoreT) (p : PlanT) (hP : patS c.nodes c.edges = true) (hop : p.op = 1) (hkw : ¬ p.kids.length = 0) : Snd P 37 [.d (.ag (encC c ++ [D.int c.nodes.length])), .d (.ag (encP p))] vnil [] := by
  obtain ⟨hn1, hn8, hk8⟩ := pat_rng hP
  have hE := goodE_of hP
  obtain ⟨n, hn⟩ : ∃ k, c.nodes.length = k := ⟨_, rfl⟩
  obtain ⟨k, hk⟩ : ∃ k, c.edges.length = k := ⟨_, rfl⟩
  rw [hn] at hn1 hn8
  rw [hk] at hk8
  obtain ⟨fb, hfb⟩ : ∃ fb, List.replicate (n + k) false = fb := ⟨_, rfl⟩
  have hfl : fb.length = n + k := by rw [← hfb]; simp
  have hwd : ((n:Int) + k).toNat = n + k := by omega
  have hw : IntKind.i64.wrap ((n:Int) + k) = (n:Int) + k := wrap_id (by omega) (by omega)
  have hw1 : 0 < n + k := by omega
  have hw2 : (n:Int) + k ≤ 140737488355328 := by omega
  have hw3 : (0:Int) ≤ (n:Int) + k := by omega
  obtain ⟨kl, hkl⟩ : ∃ kl, p.kids.length = kl := ⟨_, rfl⟩
  have hkw' : ¬ (0 : Int) = kl := by omega
  refine snd_of [] Try.func37 rfl (by kernel_rfl) Try.ntmps37 (by simp) ?_
  unfold Try.f37
  simp only [List.cons_append, List.nil_append, List.length_cons, List.length_nil, Nat.reduceAdd, Nat.reduceSub, List.replicate]
  refine Run.seq ?_
  refine opsF oo12 fun K hK => ?_
  try simp
  repeat' first | ((refine evL_c ?_); simp [-List.map_set, hn, hk, hw, hwd, hfl, hw1, hw2, hw3, hop, hkw', hkl]) | (with_reducible refine And.intro ?_ ?_) | intro _ | (with_reducible assumption) | omega
  all_goals (refine Fin.go hK ?_; clear hK K)
  simp only [Then_normal]
  refine Run.seq ?_
  refine opsF oo13 fun K hK => ?_
  try simp
  repeat' first | ((refine evL_c ?_); simp [-List.map_set, hn, hk, hw, hwd, hfl, hw1, hw2, hw3, hop, hkw', hkl]) | (with_reducible refine And.intro ?_ ?_) | intro _ | (with_reducible assumption) | omega
  all_goals (refine Fin.go hK ?_; clear hK K)
  simp only [Then_normal]
  refine Run.seq ?_
  refine Run.seq ?_
  refine opsF oo14 fun K hK => ?_
  try simp
  repeat' first | ((refine evL_c ?_); simp [-List.map_set, hn, hk, hw, hwd, hfl, hw1, hw2, hw3, hop, hkw', hkl]) | (with_reducible refine And.intro ?_ ?_) | intro _ | (with_reducible assumption) | omega
  all_goals (refine Fin.go hK ?_; clear hK K)
  simp only [Then_normal]
  refine Run.seq ?_
  refine opsF oo15 fun K hK => ?_
  try simp
  repeat' first | ((first | refine evL_c ?_ | (refine evL_g rfl ?_; try simp only [gs_tt, gs_ff, gs_tf, gs_ft]) | refine evL_u rfl ?_ | (with_reducible refine gsplit (fun hg => ?_) (fun hg => ?_) <;> try simp at hg)) <;> try simp [-List.map_set, hn, hk, hw, hwd, hfl, hw1, hw2, hw3, hop, hkw', hkl]) | (with_reducible refine And.intro ?_ ?_) | intro _ | (with_reducible assumption) | omega
  all_goals (refine Fin.go hK ?_; clear hK K)
  all_goals
    simp only [Then_normal]
    refine Run.cond rfl (fun h33 => ?_) (fun h33 => ?_)
    · skip
      refine Run.seq ?_
      refine opsF oo31 fun K hK => ?_
      try simp
      repeat' first | ((refine evL_c ?_); simp [-List.map_set, hn, hk, hw, hwd, hfl, hw1, hw2, hw3, hop, hkw', hkl]) | (with_reducible refine And.intro ?_ ?_) | intro _ | (with_reducible assumption) | omega
      all_goals (refine Fin.go hK ?_; clear hK K)
      simp only [Then_normal]
      refine Run.ret ?_
      try simp only [Then_ret, Blok_ret]
      simp
    · simp at h33

set_option maxHeartbeats 4000000 in
theorem boundX2_ok (c : CoreT) (p : PlanT) (hP : patS c.nodes c.edges = true) (hop : p.op = 2) (hkw : ¬ p.kids.length = 1) : Snd P 37 [.d (.ag (encC c ++ [D.int c.nodes.length])), .d (.ag (encP p))] vnil [] := by
  obtain ⟨hn1, hn8, hk8⟩ := pat_rng hP
  have hE := goodE_of hP
  obtain ⟨n, hn⟩ : ∃ k, c.nodes.length = k := ⟨_, rfl⟩
  obtain ⟨k, hk⟩ : ∃ k, c.edges.length = k := ⟨_, rfl⟩
  rw [hn] at hn1 hn8
  rw [hk] at hk8
  obtain ⟨fb, hfb⟩ : ∃ fb, List.replicate (n + k) false = fb := ⟨_, rfl⟩
  have hfl : fb.length = n + k := by rw [← hfb]; simp
  have hwd : ((n:Int) + k).toNat = n + k := by omega
  have hw : IntKind.i64.wrap ((n:Int) + k) = (n:Int) + k := wrap_id (by omega) (by omega)
  have hw1 : 0 < n + k := by omega
  have hw2 : (n:Int) + k ≤ 140737488355328 := by omega
  have hw3 : (0:Int) ≤ (n:Int) + k := by omega
  obtain ⟨kl, hkl⟩ : ∃ kl, p.kids.length = kl := ⟨_, rfl⟩
  have hkw' : ¬ (1 : Int) = kl := by omega
  refine snd_of [] Try.func37 rfl (by kernel_rfl) Try.ntmps37 (by simp) ?_
  unfold Try.f37
  simp only [List.cons_append, List.nil_append, List.length_cons, List.length_nil, Nat.reduceAdd, Nat.reduceSub, List.replicate]
  refine Run.seq ?_
  refine opsF oo12 fun K hK => ?_
  try simp
  repeat' first | ((refine evL_c ?_); simp [-List.map_set, hn, hk, hw, hwd, hfl, hw1, hw2, hw3, hop, hkw', hkl]) | (with_reducible refine And.intro ?_ ?_) | intro _ | (with_reducible assumption) | omega
  all_goals (refine Fin.go hK ?_; clear hK K)
  simp only [Then_normal]
  refine Run.seq ?_
  refine opsF oo13 fun K hK => ?_
  try simp
  repeat' first | ((refine evL_c ?_); simp [-List.map_set, hn, hk, hw, hwd, hfl, hw1, hw2, hw3, hop, hkw', hkl]) | (with_reducible refine And.intro ?_ ?_) | intro _ | (with_reducible assumption) | omega
  all_goals (refine Fin.go hK ?_; clear hK K)
  simp only [Then_normal]
  refine Run.seq ?_
  refine Run.seq ?_
  refine opsF oo14 fun K hK => ?_
  try simp
  repeat' first | ((refine evL_c ?_); simp [-List.map_set, hn, hk, hw, hwd, hfl, hw1, hw2, hw3, hop, hkw', hkl]) | (with_reducible refine And.intro ?_ ?_) | intro _ | (with_reducible assumption) | omega
  all_goals (refine Fin.go hK ?_; clear hK K)
  simp only [Then_normal]
  refine Run.seq ?_
  refine opsF oo15 fun K hK => ?_
  try simp
  repeat' first | ((first | refine evL_c ?_ | (refine evL_g rfl ?_; try simp only [gs_tt, gs_ff, gs_tf, gs_ft]) | refine evL_u rfl ?_ | (with_reducible refine gsplit (fun hg => ?_) (fun hg => ?_) <;> try simp at hg)) <;> try simp [-List.map_set, hn, hk, hw, hwd, hfl, hw1, hw2, hw3, hop, hkw', hkl]) | (with_reducible refine And.intro ?_ ?_) | intro _ | (with_reducible assumption) | omega
  all_goals (refine Fin.go hK ?_; clear hK K)
  all_goals
    simp only [Then_normal]
    refine Run.cond rfl (fun h33 => ?_) (fun h33 => ?_)
    · skip
      refine Run.seq ?_
      refine opsF oo31 fun K hK => ?_
      try simp
      repeat' first | ((refine evL_c ?_); simp [-List.map_set, hn, hk, hw, hwd, hfl, hw1, hw2, hw3, hop, hkw', hkl]) | (with_reducible refine And.intro ?_ ?_) | intro _ | (with_reducible assumption) | omega
      all_goals (refine Fin.go hK ?_; clear hK K)
      simp only [Then_normal]
      refine Run.ret ?_
      try simp only [Then_ret, Blok_ret]
      simp
    · simp at h33

set_option maxHeartbeats 4000000 in
theorem boundX3_ok (c : CoreT) (p : PlanT) (hP : patS c.nodes c.edges = true) (hop : p.op = 3) (hkw : ¬ p.kids.length = 1) : Snd P 37 [.d (.ag (encC c ++ [D.int c.nodes.length])), .d (.ag (encP p))] vnil [] := by
  obtain ⟨hn1, hn8, hk8⟩ := pat_rng hP
  have hE := goodE_of hP
  obtain ⟨n, hn⟩ : ∃ k, c.nodes.length = k := ⟨_, rfl⟩
  obtain ⟨k, hk⟩ : ∃ k, c.edges.length = k := ⟨_, rfl⟩
  rw [hn] at hn1 hn8
  rw [hk] at hk8
  obtain ⟨fb, hfb⟩ : ∃ fb, List.replicate (n + k) false = fb := ⟨_, rfl⟩
  have hfl : fb.length = n + k := by rw [← hfb]; simp
  have hwd : ((n:Int) + k).toNat = n + k := by omega
  have hw : IntKind.i64.wrap ((n:Int) + k) = (n:Int) + k := wrap_id (by omega) (by omega)
  have hw1 : 0 < n + k := by omega
  have hw2 : (n:Int) + k ≤ 140737488355328 := by omega
  have hw3 : (0:Int) ≤ (n:Int) + k := by omega
  obtain ⟨kl, hkl⟩ : ∃ kl, p.kids.length = kl := ⟨_, rfl⟩
  have hkw' : ¬ (1 : Int) = kl := by omega
  refine snd_of [] Try.func37 rfl (by kernel_rfl) Try.ntmps37 (by simp) ?_
  unfold Try.f37
  simp only [List.cons_append, List.nil_append, List.length_cons, List.length_nil, Nat.reduceAdd, Nat.reduceSub, List.replicate]
  refine Run.seq ?_
  refine opsF oo12 fun K hK => ?_
  try simp
  repeat' first | ((refine evL_c ?_); simp [-List.map_set, hn, hk, hw, hwd, hfl, hw1, hw2, hw3, hop, hkw', hkl]) | (with_reducible refine And.intro ?_ ?_) | intro _ | (with_reducible assumption) | omega
  all_goals (refine Fin.go hK ?_; clear hK K)
  simp only [Then_normal]
  refine Run.seq ?_
  refine opsF oo13 fun K hK => ?_
  try simp
  repeat' first | ((refine evL_c ?_); simp [-List.map_set, hn, hk, hw, hwd, hfl, hw1, hw2, hw3, hop, hkw', hkl]) | (with_reducible refine And.intro ?_ ?_) | intro _ | (with_reducible assumption) | omega
  all_goals (refine Fin.go hK ?_; clear hK K)
  simp only [Then_normal]
  refine Run.seq ?_
  refine Run.seq ?_
  refine opsF oo14 fun K hK => ?_
  try simp
  repeat' first | ((refine evL_c ?_); simp [-List.map_set, hn, hk, hw, hwd, hfl, hw1, hw2, hw3, hop, hkw', hkl]) | (with_reducible refine And.intro ?_ ?_) | intro _ | (with_reducible assumption) | omega
  all_goals (refine Fin.go hK ?_; clear hK K)
  simp only [Then_normal]
  refine Run.seq ?_
  refine opsF oo15 fun K hK => ?_
  try simp
  repeat' first | ((first | refine evL_c ?_ | (refine evL_g rfl ?_; try simp only [gs_tt, gs_ff, gs_tf, gs_ft]) | refine evL_u rfl ?_ | (with_reducible refine gsplit (fun hg => ?_) (fun hg => ?_) <;> try simp at hg)) <;> try simp [-List.map_set, hn, hk, hw, hwd, hfl, hw1, hw2, hw3, hop, hkw', hkl]) | (with_reducible refine And.intro ?_ ?_) | intro _ | (with_reducible assumption) | omega
  all_goals (refine Fin.go hK ?_; clear hK K)
  all_goals
    simp only [Then_normal]
    refine Run.cond rfl (fun h33 => ?_) (fun h33 => ?_)
    · skip
      refine Run.seq ?_
      refine opsF oo31 fun K hK => ?_
      try simp
      repeat' first | ((refine evL_c ?_); simp [-List.map_set, hn, hk, hw, hwd, hfl, hw1, hw2, hw3, hop, hkw', hkl]) | (with_reducible refine And.intro ?_ ?_) | intro _ | (with_reducible assumption) | omega
      all_goals (refine Fin.go hK ?_; clear hK K)
      simp only [Then_normal]
      refine Run.ret ?_
      try simp only [Then_ret, Blok_ret]
      simp
    · simp at h33

set_option maxHeartbeats 4000000 in
theorem boundX4_ok (c : CoreT) (p : PlanT) (hP : patS c.nodes c.edges = true) (hop : p.op = 4) (hkw : ¬ p.kids.length = 2) : Snd P 37 [.d (.ag (encC c ++ [D.int c.nodes.length])), .d (.ag (encP p))] vnil [] := by
  obtain ⟨hn1, hn8, hk8⟩ := pat_rng hP
  have hE := goodE_of hP
  obtain ⟨n, hn⟩ : ∃ k, c.nodes.length = k := ⟨_, rfl⟩
  obtain ⟨k, hk⟩ : ∃ k, c.edges.length = k := ⟨_, rfl⟩
  rw [hn] at hn1 hn8
  rw [hk] at hk8
  obtain ⟨fb, hfb⟩ : ∃ fb, List.replicate (n + k) false = fb := ⟨_, rfl⟩
  have hfl : fb.length = n + k := by rw [← hfb]; simp
  have hwd : ((n:Int) + k).toNat = n + k := by omega
  have hw : IntKind.i64.wrap ((n:Int) + k) = (n:Int) + k := wrap_id (by omega) (by omega)
  have hw1 : 0 < n + k := by omega
  have hw2 : (n:Int) + k ≤ 140737488355328 := by omega
  have hw3 : (0:Int) ≤ (n:Int) + k := by omega
  obtain ⟨kl, hkl⟩ : ∃ kl, p.kids.length = kl := ⟨_, rfl⟩
  have hkw' : ¬ (2 : Int) = kl := by omega
  refine snd_of [] Try.func37 rfl (by kernel_rfl) Try.ntmps37 (by simp) ?_
  unfold Try.f37
  simp only [List.cons_append, List.nil_append, List.length_cons, List.length_nil, Nat.reduceAdd, Nat.reduceSub, List.replicate]
  refine Run.seq ?_
  refine opsF oo12 fun K hK => ?_
  try simp
  repeat' first | ((refine evL_c ?_); simp [-List.map_set, hn, hk, hw, hwd, hfl, hw1, hw2, hw3, hop, hkw', hkl]) | (with_reducible refine And.intro ?_ ?_) | intro _ | (with_reducible assumption) | omega
  all_goals (refine Fin.go hK ?_; clear hK K)
  simp only [Then_normal]
  refine Run.seq ?_
  refine opsF oo13 fun K hK => ?_
  try simp
  repeat' first | ((refine evL_c ?_); simp [-List.map_set, hn, hk, hw, hwd, hfl, hw1, hw2, hw3, hop, hkw', hkl]) | (with_reducible refine And.intro ?_ ?_) | intro _ | (with_reducible assumption) | omega
  all_goals (refine Fin.go hK ?_; clear hK K)
  simp only [Then_normal]
  refine Run.seq ?_
  refine Run.seq ?_
  refine opsF oo14 fun K hK => ?_
  try simp
  repeat' first | ((refine evL_c ?_); simp [-List.map_set, hn, hk, hw, hwd, hfl, hw1, hw2, hw3, hop, hkw', hkl]) | (with_reducible refine And.intro ?_ ?_) | intro _ | (with_reducible assumption) | omega
  all_goals (refine Fin.go hK ?_; clear hK K)
  simp only [Then_normal]
  refine Run.seq ?_
  refine opsF oo15 fun K hK => ?_
  try simp
  repeat' first | ((first | refine evL_c ?_ | (refine evL_g rfl ?_; try simp only [gs_tt, gs_ff, gs_tf, gs_ft]) | refine evL_u rfl ?_ | (with_reducible refine gsplit (fun hg => ?_) (fun hg => ?_) <;> try simp at hg)) <;> try simp [-List.map_set, hn, hk, hw, hwd, hfl, hw1, hw2, hw3, hop, hkw', hkl]) | (with_reducible refine And.intro ?_ ?_) | intro _ | (with_reducible assumption) | omega
  all_goals (refine Fin.go hK ?_; clear hK K)
  all_goals
    simp only [Then_normal]
    refine Run.cond rfl (fun h33 => ?_) (fun h33 => ?_)
    · skip
      refine Run.seq ?_
      refine opsF oo31 fun K hK => ?_
      try simp
      repeat' first | ((refine evL_c ?_); simp [-List.map_set, hn, hk, hw, hwd, hfl, hw1, hw2, hw3, hop, hkw', hkl]) | (with_reducible refine And.intro ?_ ?_) | intro _ | (with_reducible assumption) | omega
      all_goals (refine Fin.go hK ?_; clear hK K)
      simp only [Then_normal]
      refine Run.ret ?_
      try simp only [Then_ret, Blok_ret]
      simp
    · simp at h33

set_option maxHeartbeats 4000000 in
theorem boundX5_ok (c : CoreT) (p : PlanT) (hP : patS c.nodes c.edges = true) (hop : p.op = 5) (hkw : ¬ p.kids.length = 1) : Snd P 37 [.d (.ag (encC c ++ [D.int c.nodes.length])), .d (.ag (encP p))] vnil [] := by
  obtain ⟨hn1, hn8, hk8⟩ := pat_rng hP
  have hE := goodE_of hP
  obtain ⟨n, hn⟩ : ∃ k, c.nodes.length = k := ⟨_, rfl⟩
  obtain ⟨k, hk⟩ : ∃ k, c.edges.length = k := ⟨_, rfl⟩
  rw [hn] at hn1 hn8
  rw [hk] at hk8
  obtain ⟨fb, hfb⟩ : ∃ fb, List.replicate (n + k) false = fb := ⟨_, rfl⟩
  have hfl : fb.length = n + k := by rw [← hfb]; simp
  have hwd : ((n:Int) + k).toNat = n + k := by omega
  have hw : IntKind.i64.wrap ((n:Int) + k) = (n:Int) + k := wrap_id (by omega) (by omega)
  have hw1 : 0 < n + k := by omega
  have hw2 : (n:Int) + k ≤ 140737488355328 := by omega
  have hw3 : (0:Int) ≤ (n:Int) + k := by omega
  obtain ⟨kl, hkl⟩ : ∃ kl, p.kids.length = kl := ⟨_, rfl⟩
  have hkw' : ¬ (1 : Int) = kl := by omega
  refine snd_of [] Try.func37 rfl (by kernel_rfl) Try.ntmps37 (by simp) ?_
  unfold Try.f37
  simp only [List.cons_append, List.nil_append, List.length_cons, List.length_nil, Nat.reduceAdd, Nat.reduceSub, List.replicate]
  refine Run.seq ?_
  refine opsF oo12 fun K hK => ?_
  try simp
  repeat' first | ((refine evL_c ?_); simp [-List.map_set, hn, hk, hw, hwd, hfl, hw1, hw2, hw3, hop, hkw', hkl]) | (with_reducible refine And.intro ?_ ?_) | intro _ | (with_reducible assumption) | omega
  all_goals (refine Fin.go hK ?_; clear hK K)
  simp only [Then_normal]
  refine Run.seq ?_
  refine opsF oo13 fun K hK => ?_
  try simp
  repeat' first | ((refine evL_c ?_); simp [-List.map_set, hn, hk, hw, hwd, hfl, hw1, hw2, hw3, hop, hkw', hkl]) | (with_reducible refine And.intro ?_ ?_) | intro _ | (with_reducible assumption) | omega
  all_goals (refine Fin.go hK ?_; clear hK K)
  simp only [Then_normal]
  refine Run.seq ?_
  refine Run.seq ?_
  refine opsF oo14 fun K hK => ?_
  try simp
  repeat' first | ((refine evL_c ?_); simp [-List.map_set, hn, hk, hw, hwd, hfl, hw1, hw2, hw3, hop, hkw', hkl]) | (with_reducible refine And.intro ?_ ?_) | intro _ | (with_reducible assumption) | omega
  all_goals (refine Fin.go hK ?_; clear hK K)
  simp only [Then_normal]
  refine Run.seq ?_
  refine opsF oo15 fun K hK => ?_
  try simp
  repeat' first | ((first | refine evL_c ?_ | (refine evL_g rfl ?_; try simp only [gs_tt, gs_ff, gs_tf, gs_ft]) | refine evL_u rfl ?_ | (with_reducible refine gsplit (fun hg => ?_) (fun hg => ?_) <;> try simp at hg)) <;> try simp [-List.map_set, hn, hk, hw, hwd, hfl, hw1, hw2, hw3, hop, hkw', hkl]) | (with_reducible refine And.intro ?_ ?_) | intro _ | (with_reducible assumption) | omega
  all_goals (refine Fin.go hK ?_; clear hK K)
  all_goals
    simp only [Then_normal]
    refine Run.cond rfl (fun h33 => ?_) (fun h33 => ?_)
    · skip
      refine Run.seq ?_
      refine opsF oo31 fun K hK => ?_
      try simp
      repeat' first | ((refine evL_c ?_); simp [-List.map_set, hn, hk, hw, hwd, hfl, hw1, hw2, hw3, hop, hkw', hkl]) | (with_reducible refine And.intro ?_ ?_) | intro _ | (with_reducible assumption) | omega
      all_goals (refine Fin.go hK ?_; clear hK K)
      simp only [Then_normal]
      refine Run.ret ?_
      try simp only [Then_ret, Blok_ret]
      simp
    · simp at h33

set_option maxHeartbeats 4000000 in
theorem boundX6_ok (c : CoreT) (p : PlanT) (hP : patS c.nodes c.edges = true) (hop : p.op = 6) (hkw : ¬ p.kids.length = 1) : Snd P 37 [.d (.ag (encC c ++ [D.int c.nodes.length])), .d (.ag (encP p))] vnil [] := by
  obtain ⟨hn1, hn8, hk8⟩ := pat_rng hP
  have hE := goodE_of hP
  obtain ⟨n, hn⟩ : ∃ k, c.nodes.length = k := ⟨_, rfl⟩
  obtain ⟨k, hk⟩ : ∃ k, c.edges.length = k := ⟨_, rfl⟩
  rw [hn] at hn1 hn8
  rw [hk] at hk8
  obtain ⟨fb, hfb⟩ : ∃ fb, List.replicate (n + k) false = fb := ⟨_, rfl⟩
  have hfl : fb.length = n + k := by rw [← hfb]; simp
  have hwd : ((n:Int) + k).toNat = n + k := by omega
  have hw : IntKind.i64.wrap ((n:Int) + k) = (n:Int) + k := wrap_id (by omega) (by omega)
  have hw1 : 0 < n + k := by omega
  have hw2 : (n:Int) + k ≤ 140737488355328 := by omega
  have hw3 : (0:Int) ≤ (n:Int) + k := by omega
  obtain ⟨kl, hkl⟩ : ∃ kl, p.kids.length = kl := ⟨_, rfl⟩
  have hkw' : ¬ (1 : Int) = kl := by omega
  refine snd_of [] Try.func37 rfl (by kernel_rfl) Try.ntmps37 (by simp) ?_
  unfold Try.f37
  simp only [List.cons_append, List.nil_append, List.length_cons, List.length_nil, Nat.reduceAdd, Nat.reduceSub, List.replicate]
  refine Run.seq ?_
  refine opsF oo12 fun K hK => ?_
  try simp
  repeat' first | ((refine evL_c ?_); simp [-List.map_set, hn, hk, hw, hwd, hfl, hw1, hw2, hw3, hop, hkw', hkl]) | (with_reducible refine And.intro ?_ ?_) | intro _ | (with_reducible assumption) | omega
  all_goals (refine Fin.go hK ?_; clear hK K)
  simp only [Then_normal]
  refine Run.seq ?_
  refine opsF oo13 fun K hK => ?_
  try simp
  repeat' first | ((refine evL_c ?_); simp [-List.map_set, hn, hk, hw, hwd, hfl, hw1, hw2, hw3, hop, hkw', hkl]) | (with_reducible refine And.intro ?_ ?_) | intro _ | (with_reducible assumption) | omega
  all_goals (refine Fin.go hK ?_; clear hK K)
  simp only [Then_normal]
  refine Run.seq ?_
  refine Run.seq ?_
  refine opsF oo14 fun K hK => ?_
  try simp
  repeat' first | ((refine evL_c ?_); simp [-List.map_set, hn, hk, hw, hwd, hfl, hw1, hw2, hw3, hop, hkw', hkl]) | (with_reducible refine And.intro ?_ ?_) | intro _ | (with_reducible assumption) | omega
  all_goals (refine Fin.go hK ?_; clear hK K)
  simp only [Then_normal]
  refine Run.seq ?_
  refine opsF oo15 fun K hK => ?_
  try simp
  repeat' first | ((first | refine evL_c ?_ | (refine evL_g rfl ?_; try simp only [gs_tt, gs_ff, gs_tf, gs_ft]) | refine evL_u rfl ?_ | (with_reducible refine gsplit (fun hg => ?_) (fun hg => ?_) <;> try simp at hg)) <;> try simp [-List.map_set, hn, hk, hw, hwd, hfl, hw1, hw2, hw3, hop, hkw', hkl]) | (with_reducible refine And.intro ?_ ?_) | intro _ | (with_reducible assumption) | omega
  all_goals (refine Fin.go hK ?_; clear hK K)
  all_goals
    simp only [Then_normal]
    refine Run.cond rfl (fun h33 => ?_) (fun h33 => ?_)
    · skip
      refine Run.seq ?_
      refine opsF oo31 fun K hK => ?_
      try simp
      repeat' first | ((refine evL_c ?_); simp [-List.map_set, hn, hk, hw, hwd, hfl, hw1, hw2, hw3, hop, hkw', hkl]) | (with_reducible refine And.intro ?_ ?_) | intro _ | (with_reducible assumption) | omega
      all_goals (refine Fin.go hK ?_; clear hK K)
      simp only [Then_normal]
      refine Run.ret ?_
      try simp only [Then_ret, Blok_ret]
      simp
    · simp at h33

set_option maxHeartbeats 4000000 in
theorem boundX0_ok (c : CoreT) (p : PlanT) (hP : patS c.nodes c.edges = true) (ho1 : ¬ p.op = 1) (ho2 : ¬ p.op = 2) (ho3 : ¬ p.op = 3) (ho4 : ¬ p.op = 4) (ho5 : ¬ p.op = 5) (ho6 : ¬ p.op = 6)  : Snd P 37 [.d (.ag (encC c ++ [D.int c.nodes.length])), .d (.ag (encP p))] vnil [] := by
  obtain ⟨hn1, hn8, hk8⟩ := pat_rng hP
  have hE := goodE_of hP
  obtain ⟨n, hn⟩ : ∃ k, c.nodes.length = k := ⟨_, rfl⟩
  obtain ⟨k, hk⟩ : ∃ k, c.edges.length = k := ⟨_, rfl⟩
  rw [hn] at hn1 hn8
  rw [hk] at hk8
  obtain ⟨fb, hfb⟩ : ∃ fb, List.replicate (n + k) false = fb := ⟨_, rfl⟩
  have hfl : fb.length = n + k := by rw [← hfb]; simp
  have hwd : ((n:Int) + k).toNat = n + k := by omega
  have hw : IntKind.i64.wrap ((n:Int) + k) = (n:Int) + k := wrap_id (by omega) (by omega)
  have hw1 : 0 < n + k := by omega
  have hw2 : (n:Int) + k ≤ 140737488355328 := by omega
  have hw3 : (0:Int) ≤ (n:Int) + k := by omega
  refine snd_of [] Try.func37 rfl (by kernel_rfl) Try.ntmps37 (by simp) ?_
  unfold Try.f37
  simp only [List.cons_append, List.nil_append, List.length_cons, List.length_nil, Nat.reduceAdd, Nat.reduceSub, List.replicate]
  refine Run.seq ?_
  refine opsF oo12 fun K hK => ?_
  try simp
  repeat' first | ((refine evL_c ?_); simp [-List.map_set, hn, hk, hw, hwd, hfl, hw1, hw2, hw3, ho1, ho2, ho3, ho4, ho5, ho6]) | (with_reducible refine And.intro ?_ ?_) | intro _ | (with_reducible assumption) | omega
  all_goals (refine Fin.go hK ?_; clear hK K)
  simp only [Then_normal]
  refine Run.seq ?_
  refine opsF oo13 fun K hK => ?_
  try simp
  repeat' first | ((refine evL_c ?_); simp [-List.map_set, hn, hk, hw, hwd, hfl, hw1, hw2, hw3, ho1, ho2, ho3, ho4, ho5, ho6]) | (with_reducible refine And.intro ?_ ?_) | intro _ | (with_reducible assumption) | omega
  all_goals (refine Fin.go hK ?_; clear hK K)
  simp only [Then_normal]
  refine Run.seq ?_
  refine Run.seq ?_
  refine opsF oo14 fun K hK => ?_
  try simp
  repeat' first | ((refine evL_c ?_); simp [-List.map_set, hn, hk, hw, hwd, hfl, hw1, hw2, hw3, ho1, ho2, ho3, ho4, ho5, ho6]) | (with_reducible refine And.intro ?_ ?_) | intro _ | (with_reducible assumption) | omega
  all_goals (refine Fin.go hK ?_; clear hK K)
  simp only [Then_normal]
  refine Run.seq ?_
  refine opsF oo15 fun K hK => ?_
  try simp
  repeat' first | ((first | refine evL_c ?_ | (refine evL_g rfl ?_; try simp only [gs_tt, gs_ff, gs_tf, gs_ft]) | refine evL_u rfl ?_ | (with_reducible refine gsplit (fun hg => ?_) (fun hg => ?_) <;> try simp at hg)) <;> try simp [-List.map_set, hn, hk, hw, hwd, hfl, hw1, hw2, hw3, ho1, ho2, ho3, ho4, ho5, ho6]) | (with_reducible refine And.intro ?_ ?_) | intro _ | (with_reducible assumption) | omega
  all_goals (refine Fin.go hK ?_; clear hK K)
  all_goals
    simp only [Then_normal]
    refine Run.cond rfl (fun h33 => ?_) (fun h33 => ?_)
    · skip
      refine Run.seq ?_
      refine opsF oo31 fun K hK => ?_
      try simp
      repeat' first | ((refine evL_c ?_); simp [-List.map_set, hn, hk, hw, hwd, hfl, hw1, hw2, hw3, ho1, ho2, ho3, ho4, ho5, ho6]) | (with_reducible refine And.intro ?_ ?_) | intro _ | (with_reducible assumption) | omega
      all_goals (refine Fin.go hK ?_; clear hK K)
      simp only [Then_normal]
      refine Run.ret ?_
      try simp only [Then_ret, Blok_ret]
      simp
    · simp at h33


end Go.Proofs.Ytihbejpkfifplaa.Z
end
