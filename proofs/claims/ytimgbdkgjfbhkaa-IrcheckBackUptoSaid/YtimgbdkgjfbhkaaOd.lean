/- Texts of this claim, put together: Pj, Pk, Pl, Sx, Ta, Tb, Te, Fz, Ua. -/
import Derived.Test.YtimgbdkgjfbhkaaOc
set_option linter.unusedVariables false
set_option linter.unusedSimpArgs false
set_option maxRecDepth 100000
namespace Go.Proofs.Ytimgbdkgjfbhkaa.Z
open Go Go.Fw
abbrev oo37 : List LOp := [⟨.box 48 (.tmp 0), some 2, none⟩, ⟨.box 32 (.tmp 1), some 3, none⟩, ⟨.assign (.const (.slice none 0 0)), some 4, none⟩, ⟨.assign (.const (.int .i64 0)), some 5, none⟩]
abbrev oo38 : List LOp := [oL 32 3 7, oC 42 #[.tmp 7] #[32] 8, ⟨.unOp .not 4 (.tmp 8), some 9, none⟩]
abbrev oo39 : List LOp := [oL 32 3 10, oF 32 3 0 11, oL 26 11 12, oN 26 12 13, ⟨.build 112 #[(0, .tmp 10), (1, .tmp 13)], some 14, none⟩, oL 48 2 15, oC 43 #[.tmp 14, .tmp 15] #[112, 48] 16, oA 16 6]
abbrev oo40 : List LOp := [oM 6 17, ⟨.binOp .neq 34 (.tmp 17) (.const (.slice none 0 0)) 34, some 18, none⟩]
abbrev oo41 : List LOp := [⟨.box 89 (.tmp 0), some 1, none⟩, ⟨.assign (.const (.bool false)), some 2, none⟩]
abbrev oo42 : List LOp := [oK .add 3 38 1 3 54, oM 54 38]
end Go.Proofs.Ytimgbdkgjfbhkaa.Z
section
namespace Go.Proofs.Ytimgbdkgjfbhkaa.Z
open Go Go.Fw
set_option maxHeartbeats 4000000 in
theorem bound1_ok (c : CoreT) (p : PlanT) (hP : patS c.nodes c.edges = true) (hop : p.op = 1) (hkl : p.kids.length = 0) : Snd P 43 [.d (.ag (encC c ++ [D.int c.nodes.length])), .d (.ag (encP p))] (resB (opS c p [])) (stoB (opS c p [])) := by
 obtain ⟨hn1, hn8, hk8⟩ := pat_rng hP
 have hE := goodE_of hP
 obtain ⟨n, hn⟩ : ∃ k, c.nodes.length = k := ⟨_, rfl⟩
 obtain ⟨k, hk⟩ : ∃ k, c.edges.length = k := ⟨_, rfl⟩
 rw [hn] at hn1 hn8
 rw [hk] at hk8
 obtain ⟨fb, hfb⟩ : ∃ fb, List.replicate (n + k) false = fb := ⟨_, rfl⟩
 have hfl : fb.length = n + k := by rw [← hfb]; simp
 have hwd : ((n:Int) + k).toNat = n + k := by omega
 have hw : IntKind.i64.wrap ((n:Int) + k) = (n:Int) + k := wrap_id (by omega) (by omega)
 have hw1 : 0 < n + k := by omega
 have hw2 : (n:Int) + k ≤ 140737488355328 := by omega
 have hw3 : (0:Int) ≤ (n:Int) + k := by omega
 obtain ⟨sb, hsb⟩ : ∃ sb, decide (0 ≤ p.slot ∧ p.slot < (n : Int)) = sb := ⟨_, rfl⟩
 refine snd_of [4200] Try.func43 rfl (by kernel_rfl) Try.ntmps43 (by simp) ?_
 unfold Try.f43
 simp only [List.cons_append, List.nil_append, List.length_cons, List.length_nil, Nat.reduceAdd, Nat.reduceSub, List.replicate]
 apply Run.seq
 refine opsF oo13 fun K hK => ?_
 try simp
 repeat' first | (refine evL_c ?_; simp [-List.map_set, hn, hk, hop, hkl, hw, hwd, hfl, hw1, hw2, hw3]) | (with_reducible first | apply aI | intro _ | assumption) | omega
 all_goals (apply Fin.go hK; clear hK K)
 simp only [tN]
 apply Run.seq
 refine opsF oo14 fun K hK => ?_
 try simp
 repeat' first | (refine evL_c ?_; simp [-List.map_set, hn, hk, hop, hkl, hw, hwd, hfl, hw1, hw2, hw3]) | (with_reducible first | apply aI | intro _ | assumption) | omega
 all_goals (apply Fin.go hK; clear hK K)
 simp only [tN]
 apply Run.seq
 apply Run.seq
 refine opsF oo15 fun K hK => ?_
 try simp
 repeat' first | (refine evL_c ?_; simp [-List.map_set, hn, hk, hop, hkl, hw, hwd, hfl, hw1, hw2, hw3]) | (with_reducible first | apply aI | intro _ | assumption) | omega
 all_goals (apply Fin.go hK; clear hK K)
 simp only [tN]
 apply Run.seq
 refine opsF oo16 fun K hK => ?_
 try simp
 repeat' first | ((first | refine evL_c ?_ | (refine evL_g rfl ?_; try simp only [gs_tt, gs_ff, gs_tf, gs_ft]) | refine evL_u rfl ?_ | (with_reducible refine gsplit (fun hg => ?_) (fun hg => ?_) <;> try simp at hg)) <;> try simp [-List.map_set, hn, hk, hop, hkl, hw, hwd, hfl, hw1, hw2, hw3]) | (with_reducible first | apply aI | intro _ | assumption) | omega
 all_goals (apply Fin.go hK; clear hK K)
 all_goals
  simp only [tN]
  refine Run.cond rfl (fun h33 => ?_) (fun h33 => ?_)
  ·simp at h33
  ·skip
   apply Run.skip
   simp only [tN]
   refine Run.cut [8, 34, 35, 36, 37, 38, 39, 40, 41, 42] [(8, .rs 4300 1 0 1)] [(300, .vals ((encC c ++ [D.int c.nodes.length]).map .d)), (400, .vals ((encP p).map .d)), (4200, .data 1 (fb.map encB)), (4300, .vals [.rs 4200 1 0 (n + k)])] ?_ ?_
   ·refine opsF oo17 fun K hK => ?_
    try simp
    repeat' first | (refine evL_c ?_; simp [-List.map_set, hn, hk, hop, hkl, hw, hwd, hfl, hw1, hw2, hw3]) | (with_reducible first | apply aI | intro _ | assumption) | omega
    all_goals (apply Fin.go hK; clear hK K)
    first | (simp [-List.map_set, hn, hk, hop, hkl, hw, hwd, hfl, hw1, hw2, hw3, ← hfb]; done)
   ·simp only [over, List.foldl, List.set]
    apply Run.seq
    apply Run.seq
    refine opsF oo18 fun K hK => ?_
    try simp
    repeat' first | (refine evL_c ?_; simp [-List.map_set, hn, hk, hop, hkl, hw, hwd, hfl, hw1, hw2, hw3]) | (with_reducible first | apply aI | intro _ | assumption) | omega
    all_goals (apply Fin.go hK; clear hK K)
    simp only [tN]
    apply Run.block
    refine Run.loopO [4, 8, 10, 11, 46, 47, 48, 49, 50, 51, 52, 53, 54, 55, 56, 57, 58, 59] (fun (x : Nat) => [(46, .int x), (8, .rs 4300 1 0 1)]) (fun (x : Nat) => [(300, .vals ((encC c ++ [D.int c.nodes.length]).map .d)), (400, .vals ((encP p).map .d)), (4200, .data 1 (fb.map encB)), (4300, .vals [.rs 4200 1 0 (n + k)])]) (fun (x : Nat) => x = 0) (fun (x : Nat) => 0) 0 (by simp) (by simp [-List.map_set, hn, hk, hop, hkl, hw, hwd, hfl, hw1, hw2, hw3]) fun x hx => ?_
    rcases hx with rfl
    ·simp only [over, List.foldl, List.set]
     apply Run.seq
     refine opsF oo19 fun K hK => ?_
     try simp
     repeat' first | (refine evL_c ?_; simp [-List.map_set, hn, hk, hop, hkl, hw, hwd, hfl, hw1, hw2, hw3]) | (with_reducible first | apply aI | intro _ | assumption) | omega
     all_goals (apply Fin.go hK; clear hK K)
     simp only [tN]
     apply Run.seq
     refine Run.cond rfl (fun h47 => ?_) (fun h47 => ?_)
     ·simp at h47
     ·skip
      refine Run.exit ?_
      simp (decide := true) only [Then_exit, Blok_exit, if_true, if_false]
      simp only [tN]
      apply Run.seq
      refine opsF oo25 fun K hK => ?_
      try simp
      repeat' first | (refine evL_c ?_; simp [-List.map_set, hn, hk, hop, hkl, hw, hwd, hfl, hw1, hw2, hw3]) | (with_reducible first | apply aI | intro _ | assumption) | omega
      all_goals (apply Fin.go hK; clear hK K)
      simp only [tN]
      apply Run.seq
      refine opsF oo26 fun K hK => ?_
      try simp
      repeat' first | (refine evL_c ?_; simp [-List.map_set, hn, hk, hop, hkl, hw, hwd, hfl, hw1, hw2, hw3]) | (with_reducible first | apply aI | intro _ | assumption) | omega
      all_goals (apply Fin.go hK; clear hK K)
      simp only [tN]
      apply Run.seq
      apply Run.seq
      refine opsF oo27 fun K hK => ?_
      try simp
      repeat' first | (refine evL_c ?_; simp [-List.map_set, hn, hk, hop, hkl, hw, hwd, hfl, hw1, hw2, hw3]) | (with_reducible first | apply aI | intro _ | assumption) | omega
      all_goals (apply Fin.go hK; clear hK K)
      simp only [tN]
      apply Run.block
      apply Run.seq
      refine opsF oo28 fun K hK => ?_
      try simp
      repeat' first | (refine evL_c ?_; simp [-List.map_set, hn, hk, hop, hkl, hw, hwd, hfl, hw1, hw2, hw3]) | (with_reducible first | apply aI | intro _ | assumption) | omega
      all_goals (apply Fin.go hK; clear hK K)
      simp only [tN]
      refine Run.cond rfl (fun h68 => ?_) (fun h68 => ?_)
      ·skip
       refine Run.cut [13, 70, 71, 72, 73, 74, 75, 76, 77, 78, 79] [(13, .bool sb)] [(300, .vals ((encC c ++ [D.int c.nodes.length]).map .d)), (400, .vals ((encP p).map .d)), (1300, .vals [.rs 4200 1 0 (n + k)]), (4200, .data 1 (fb.map encB))] ?_ ?_
       ·refine opsF [oF 48 3 2 70, oL 3 70 71, oK .geq 3 71 0 3 72, oM 72 73, ⟨.fieldAddr 48 (.tmp 3) 2, some 74, some (some 73, true)⟩, ⟨.load 3 (.tmp 74), some 75, some (some 73, true)⟩, ⟨.fieldAddr 112 (.tmp 2) 1, some 76, some (some 73, true)⟩, ⟨.load 3 (.tmp 76), some 77, some (some 73, true)⟩, ⟨.binOp .lss 3 (.tmp 75) (.tmp 77) 3, some 78, some (some 73, true)⟩, ⟨.pick (.tmp 73) (.tmp 78) (.const (.bool false)), some 79, none⟩, oA 79 13] fun K hK => ?_
        try simp
        repeat' first | ((first | refine evL_c ?_ | (refine evL_g rfl ?_; try simp only [gs_tt, gs_ff, gs_tf, gs_ft]) | refine evL_u rfl ?_ | (with_reducible refine gsplit (fun hg => ?_) (fun hg => ?_) <;> try simp at hg)) <;> try simp [-List.map_set, hn, hk, hop, hkl, hw, hwd, hfl, hw1, hw2, hw3, *]) | (with_reducible first | apply aI | intro _ | assumption) | omega
        all_goals (apply Fin.go hK; clear hK K)
        all_goals
         (try simp [← hsb, -List.map_set, hn, hk, hop, hkl, hw, hwd, hfl, hw1, hw2, hw3]) <;> (first | omega | (simp; done) | (rw [Bool.eq_iff_iff]; simp only [Bool.or_eq_true, Bool.and_eq_true, Bool.not_eq_true', decide_eq_true_eq, decide_eq_false_iff_not]; omega) | grind | (simp_all; done) | (simp_all; omega))
       ·simp only [over, List.foldl, List.set]
        apply Run.seq
        refine opsF [oM 13 80] fun K hK => ?_
        try simp
        repeat' first | (refine evL_c ?_; simp [-List.map_set, hn, hk, hop, hkl, hw, hwd, hfl, hw1, hw2, hw3]) | (with_reducible first | apply aI | intro _ | assumption) | omega
        all_goals (apply Fin.go hK; clear hK K)
        simp only [tN]
        refine Run.cond rfl (fun h80 => ?_) (fun h80 => ?_)
        ·rw [h80, decide_eq_true_eq] at hsb
         obtain ⟨hs0, hs1⟩ := hsb
         have hs2 : p.slot < (n : Int) + k := by omega
         have hs3 : p.slot.toNat < n + k := by omega
         refine opsF [oL 34 12 81, oF 48 3 2 82, oL 3 82 83, oI 34 81 83 84, ⟨.store 4 (.tmp 84) (.const (.bool true)), none, none⟩] fun K hK => ?_
         try simp
         repeat' first | (refine evL_c ?_; simp [-List.map_set, hn, hk, hop, hkl, hw, hwd, hfl, hw1, hw2, hw3, h80, hs0, hs1, hs2, hs3]) | (with_reducible first | apply aI | intro _ | assumption) | omega
         all_goals (apply Fin.go hK; clear hK K)
         simp only [Blok_normal]
         simp only [tN]
         apply Run.seq
         apply Run.seq
         refine opsF oo31 fun K hK => ?_
         try simp
         repeat' first | (refine evL_c ?_; simp [-List.map_set, hn, hk, hop, hkl, hw, hwd, hfl, hw1, hw2, hw3, h80, hs0, hs1, hs2, hs3]) | (with_reducible first | apply aI | intro _ | assumption) | omega
         all_goals (apply Fin.go hK; clear hK K)
         simp only [tN]
         refine Run.cond rfl (fun h145 => ?_) (fun h145 => ?_)
         ·simp at h145
         ·skip
          apply Run.skip
          simp only [tN]
          apply Run.seq
          refine opsF oo33 fun K hK => ?_
          try simp
          repeat' first | (refine evL_c ?_; simp [-List.map_set, hn, hk, hop, hkl, hw, hwd, hfl, hw1, hw2, hw3, h80, hs0, hs1, hs2, hs3]) | (with_reducible first | apply aI | intro _ | assumption) | omega
          all_goals (apply Fin.go hK; clear hK K)
          simp only [tN]
          apply Run.ret
          try simp only [Then_ret, Blok_ret]
          first
           | (have e : opS c p [] = none := by simp [opS, hop]; rw [hn]; omega
              rw [e]
              simp [resB, stoB, hn]; done)
           | (have e : opS c p [] = some (fb.set p.slot.toNat true) := by simp [opS, hop, hn, hk, hfb, hs0, hs1]
              rw [e]
              simp [-List.map_set, resB, stoB, hn, hfl]; done)
        ·rw [h80, decide_eq_false_iff_not] at hsb
         apply Run.skip
         simp only [Blok_normal]
         simp only [tN]
         apply Run.seq
         apply Run.seq
         refine opsF oo31 fun K hK => ?_
         try simp
         repeat' first | (refine evL_c ?_; simp [-List.map_set, hn, hk, hop, hkl, hw, hwd, hfl, hw1, hw2, hw3, h80]) | (with_reducible first | apply aI | intro _ | assumption) | omega
         all_goals (apply Fin.go hK; clear hK K)
         simp only [tN]
         refine Run.cond rfl (fun h145 => ?_) (fun h145 => ?_)
         ·skip
          apply Run.seq
          refine opsF oo32 fun K hK => ?_
          try simp
          repeat' first | (refine evL_c ?_; simp [-List.map_set, hn, hk, hop, hkl, hw, hwd, hfl, hw1, hw2, hw3, h80]) | (with_reducible first | apply aI | intro _ | assumption) | omega
          all_goals (apply Fin.go hK; clear hK K)
          simp only [tN]
          refine Run.drop [] (by simp) ?_
          apply Run.ret
          try simp only [Then_ret, Blok_ret]
          first
           | (have e : opS c p [] = none := by simp [opS, hop]; rw [hn]; omega
              rw [e]
              simp [resB, stoB, hn]; done)
           | (have e : opS c p [] = some (fb.set p.slot.toNat true) := by simp [opS, hop, hn, hk, hfb, hs0, hs1]
              rw [e]
              simp [-List.map_set, resB, stoB, hn, hfl]; done)
         ·simp at h145
      ·simp at h68
set_option maxHeartbeats 4000000 in
theorem boundN2_ok (c : CoreT) (p : PlanT) (hP : patS c.nodes c.edges = true) (hop : p.op = 2) (hkl : p.kids.length = 1) (IH : Snd P 43 [.d (.ag (encC c ++ [D.int c.nodes.length])), .d (.ag (encP (rdI p.kids 0)))] (resB (bndT c (rdI p.kids 0))) (stoB (bndT c (rdI p.kids 0)))) (hq : bndT c (rdI p.kids 0) = none) : Snd P 43 [.d (.ag (encC c ++ [D.int c.nodes.length])), .d (.ag (encP p))] vnil [] := by
 obtain ⟨hn1, hn8, hk8⟩ := pat_rng hP
 have hE := goodE_of hP
 obtain ⟨n, hn⟩ : ∃ k, c.nodes.length = k := ⟨_, rfl⟩
 obtain ⟨k, hk⟩ : ∃ k, c.edges.length = k := ⟨_, rfl⟩
 rw [hn] at hn1 hn8
 rw [hk] at hk8
 obtain ⟨fb, hfb⟩ : ∃ fb, List.replicate (n + k) false = fb := ⟨_, rfl⟩
 have hfl : fb.length = n + k := by rw [← hfb]; simp
 have hwd : ((n:Int) + k).toNat = n + k := by omega
 have hw : IntKind.i64.wrap ((n:Int) + k) = (n:Int) + k := wrap_id (by omega) (by omega)
 have hw1 : 0 < n + k := by omega
 have hw2 : (n:Int) + k ≤ 140737488355328 := by omega
 have hw3 : (0:Int) ≤ (n:Int) + k := by omega
 simp only [hq, resB, stoB, encP_cells, hn] at IH
 refine snd_of [] Try.func43 rfl (by kernel_rfl) Try.ntmps43 (by simp) ?_
 unfold Try.f43
 simp only [List.cons_append, List.nil_append, List.length_cons, List.length_nil, Nat.reduceAdd, Nat.reduceSub, List.replicate]
 apply Run.seq
 refine opsF oo13 fun K hK => ?_
 try simp
 repeat' first | (refine evL_c ?_; simp [-List.map_set, hn, hk, hop, hkl, hw, hwd, hfl, hw1, hw2, hw3]) | (with_reducible first | apply aI | intro _ | assumption) | omega
 all_goals (apply Fin.go hK; clear hK K)
 simp only [tN]
 apply Run.seq
 refine opsF oo14 fun K hK => ?_
 try simp
 repeat' first | (refine evL_c ?_; simp [-List.map_set, hn, hk, hop, hkl, hw, hwd, hfl, hw1, hw2, hw3]) | (with_reducible first | apply aI | intro _ | assumption) | omega
 all_goals (apply Fin.go hK; clear hK K)
 simp only [tN]
 apply Run.seq
 apply Run.seq
 refine opsF oo15 fun K hK => ?_
 try simp
 repeat' first | (refine evL_c ?_; simp [-List.map_set, hn, hk, hop, hkl, hw, hwd, hfl, hw1, hw2, hw3]) | (with_reducible first | apply aI | intro _ | assumption) | omega
 all_goals (apply Fin.go hK; clear hK K)
 simp only [tN]
 apply Run.seq
 refine opsF oo16 fun K hK => ?_
 try simp
 repeat' first | ((first | refine evL_c ?_ | (refine evL_g rfl ?_; try simp only [gs_tt, gs_ff, gs_tf, gs_ft]) | refine evL_u rfl ?_ | (with_reducible refine gsplit (fun hg => ?_) (fun hg => ?_) <;> try simp at hg)) <;> try simp [-List.map_set, hn, hk, hop, hkl, hw, hwd, hfl, hw1, hw2, hw3]) | (with_reducible first | apply aI | intro _ | assumption) | omega
 all_goals (apply Fin.go hK; clear hK K)
 all_goals
  simp only [tN]
  refine Run.cond rfl (fun h33 => ?_) (fun h33 => ?_)
  ·simp at h33
  ·skip
   apply Run.skip
   simp only [tN]
   refine Run.cut [8, 34, 35, 36, 37, 38, 39, 40, 41, 42] [(8, .rs 4300 1 0 1)] [(300, .vals ((encC c ++ [D.int c.nodes.length]).map .d)), (400, .vals ((encP p).map .d)), (4200, .data 1 (fb.map encB)), (4300, .vals [.rs 4200 1 0 (n + k)])] ?_ ?_
   ·refine opsF oo17 fun K hK => ?_
    try simp
    repeat' first | (refine evL_c ?_; simp [-List.map_set, hn, hk, hop, hkl, hw, hwd, hfl, hw1, hw2, hw3]) | (with_reducible first | apply aI | intro _ | assumption) | omega
    all_goals (apply Fin.go hK; clear hK K)
    first | (simp [-List.map_set, hn, hk, hop, hkl, hw, hwd, hfl, hw1, hw2, hw3, ← hfb]; done)
   ·simp only [over, List.foldl, List.set]
    apply Run.seq
    apply Run.seq
    refine opsF oo18 fun K hK => ?_
    try simp
    repeat' first | (refine evL_c ?_; simp [-List.map_set, hn, hk, hop, hkl, hw, hwd, hfl, hw1, hw2, hw3]) | (with_reducible first | apply aI | intro _ | assumption) | omega
    all_goals (apply Fin.go hK; clear hK K)
    simp only [tN]
    apply Run.block
    refine Run.loopO [4, 8, 10, 11, 46, 47, 48, 49, 50, 51, 52, 53, 54, 55, 56, 57, 58, 59] (fun (x : Nat) => [(46, .int x), (8, .rs 4300 1 0 1)]) (fun (x : Nat) => [(300, .vals ((encC c ++ [D.int c.nodes.length]).map .d)), (400, .vals ((encP p).map .d)), (4200, .data 1 (fb.map encB)), (4300, .vals [.rs 4200 1 0 (n + k)])]) (fun (x : Nat) => x = 0) (fun (x : Nat) => 0) 0 (by simp) (by simp [-List.map_set, hn, hk, hop, hkl, hw, hwd, hfl, hw1, hw2, hw3]) fun x hx => ?_
    rcases hx with rfl
    ·simp only [over, List.foldl, List.set]
     apply Run.seq
     refine opsF oo19 fun K hK => ?_
     try simp
     repeat' first | (refine evL_c ?_; simp [-List.map_set, hn, hk, hop, hkl, hw, hwd, hfl, hw1, hw2, hw3]) | (with_reducible first | apply aI | intro _ | assumption) | omega
     all_goals (apply Fin.go hK; clear hK K)
     simp only [tN]
     apply Run.seq
     refine Run.cond rfl (fun h47 => ?_) (fun h47 => ?_)
     ·skip
      apply Run.skip
      simp only [tN]
      apply Run.seq
      apply Run.block
      apply Run.seq
      refine opsF oo20 fun K hK => ?_
      try simp
      repeat' first | (refine evL_c ?_; simp [-List.map_set, hn, hk, hop, hkl, hw, hwd, hfl, hw1, hw2, hw3]) | (with_reducible first | apply aI | intro _ | assumption) | omega
      all_goals (apply Fin.go hK; clear hK K)
      simp only [tN]
      apply Run.seq
      refine opsF oo21 fun K hK => ?_
      try simp
      repeat' first | (refine ecall (by have h := IH; exact h) rfl ?_) | (refine evL_c ?_; simp [-List.map_set, hn, hk, hop, hkl, hw, hwd, hfl, hw1, hw2, hw3]) | (with_reducible first | apply aI | intro _ | assumption) | omega
      all_goals (apply Fin.go hK; clear hK K)
      simp only [tN]
      apply Run.seq
      apply Run.seq
      refine opsF oo22 fun K hK => ?_
      try simp
      repeat' first | (refine evL_c ?_; simp [-List.map_set, hn, hk, hop, hkl, hw, hwd, hfl, hw1, hw2, hw3]) | (with_reducible first | apply aI | intro _ | assumption) | omega
      all_goals (apply Fin.go hK; clear hK K)
      simp only [tN]
      refine Run.cond rfl (fun h54 => ?_) (fun h54 => ?_)
      ·skip
       apply Run.seq
       refine opsF oo32 fun K hK => ?_
       try simp
       repeat' first | (refine evL_c ?_; simp [-List.map_set, hn, hk, hop, hkl, hw, hwd, hfl, hw1, hw2, hw3]) | (with_reducible first | apply aI | intro _ | assumption) | omega
       all_goals (apply Fin.go hK; clear hK K)
       simp only [tN]
       refine Run.drop [] (by simp) ?_
       apply Run.ret
       try simp only [Then_ret, Blok_ret]
       simp
      ·simp at h54
     ·simp at h47
set_option maxHeartbeats 4000000 in
theorem boundN3_ok (c : CoreT) (p : PlanT) (hP : patS c.nodes c.edges = true) (hop : p.op = 3) (hkl : p.kids.length = 1) (IH : Snd P 43 [.d (.ag (encC c ++ [D.int c.nodes.length])), .d (.ag (encP (rdI p.kids 0)))] (resB (bndT c (rdI p.kids 0))) (stoB (bndT c (rdI p.kids 0)))) (hq : bndT c (rdI p.kids 0) = none) : Snd P 43 [.d (.ag (encC c ++ [D.int c.nodes.length])), .d (.ag (encP p))] vnil [] := by
 obtain ⟨hn1, hn8, hk8⟩ := pat_rng hP
 have hE := goodE_of hP
 obtain ⟨n, hn⟩ : ∃ k, c.nodes.length = k := ⟨_, rfl⟩
 obtain ⟨k, hk⟩ : ∃ k, c.edges.length = k := ⟨_, rfl⟩
 rw [hn] at hn1 hn8
 rw [hk] at hk8
 obtain ⟨fb, hfb⟩ : ∃ fb, List.replicate (n + k) false = fb := ⟨_, rfl⟩
 have hfl : fb.length = n + k := by rw [← hfb]; simp
 have hwd : ((n:Int) + k).toNat = n + k := by omega
 have hw : IntKind.i64.wrap ((n:Int) + k) = (n:Int) + k := wrap_id (by omega) (by omega)
 have hw1 : 0 < n + k := by omega
 have hw2 : (n:Int) + k ≤ 140737488355328 := by omega
 have hw3 : (0:Int) ≤ (n:Int) + k := by omega
 simp only [hq, resB, stoB, encP_cells, hn] at IH
 refine snd_of [] Try.func43 rfl (by kernel_rfl) Try.ntmps43 (by simp) ?_
 unfold Try.f43
 simp only [List.cons_append, List.nil_append, List.length_cons, List.length_nil, Nat.reduceAdd, Nat.reduceSub, List.replicate]
 apply Run.seq
 refine opsF oo13 fun K hK => ?_
 try simp
 repeat' first | (refine evL_c ?_; simp [-List.map_set, hn, hk, hop, hkl, hw, hwd, hfl, hw1, hw2, hw3]) | (with_reducible first | apply aI | intro _ | assumption) | omega
 all_goals (apply Fin.go hK; clear hK K)
 simp only [tN]
 apply Run.seq
 refine opsF oo14 fun K hK => ?_
 try simp
 repeat' first | (refine evL_c ?_; simp [-List.map_set, hn, hk, hop, hkl, hw, hwd, hfl, hw1, hw2, hw3]) | (with_reducible first | apply aI | intro _ | assumption) | omega
 all_goals (apply Fin.go hK; clear hK K)
 simp only [tN]
 apply Run.seq
 apply Run.seq
 refine opsF oo15 fun K hK => ?_
 try simp
 repeat' first | (refine evL_c ?_; simp [-List.map_set, hn, hk, hop, hkl, hw, hwd, hfl, hw1, hw2, hw3]) | (with_reducible first | apply aI | intro _ | assumption) | omega
 all_goals (apply Fin.go hK; clear hK K)
 simp only [tN]
 apply Run.seq
 refine opsF oo16 fun K hK => ?_
 try simp
 repeat' first | ((first | refine evL_c ?_ | (refine evL_g rfl ?_; try simp only [gs_tt, gs_ff, gs_tf, gs_ft]) | refine evL_u rfl ?_ | (with_reducible refine gsplit (fun hg => ?_) (fun hg => ?_) <;> try simp at hg)) <;> try simp [-List.map_set, hn, hk, hop, hkl, hw, hwd, hfl, hw1, hw2, hw3]) | (with_reducible first | apply aI | intro _ | assumption) | omega
 all_goals (apply Fin.go hK; clear hK K)
 all_goals
  simp only [tN]
  refine Run.cond rfl (fun h33 => ?_) (fun h33 => ?_)
  ·simp at h33
  ·skip
   apply Run.skip
   simp only [tN]
   refine Run.cut [8, 34, 35, 36, 37, 38, 39, 40, 41, 42] [(8, .rs 4300 1 0 1)] [(300, .vals ((encC c ++ [D.int c.nodes.length]).map .d)), (400, .vals ((encP p).map .d)), (4200, .data 1 (fb.map encB)), (4300, .vals [.rs 4200 1 0 (n + k)])] ?_ ?_
   ·refine opsF oo17 fun K hK => ?_
    try simp
    repeat' first | (refine evL_c ?_; simp [-List.map_set, hn, hk, hop, hkl, hw, hwd, hfl, hw1, hw2, hw3]) | (with_reducible first | apply aI | intro _ | assumption) | omega
    all_goals (apply Fin.go hK; clear hK K)
    first | (simp [-List.map_set, hn, hk, hop, hkl, hw, hwd, hfl, hw1, hw2, hw3, ← hfb]; done)
   ·simp only [over, List.foldl, List.set]
    apply Run.seq
    apply Run.seq
    refine opsF oo18 fun K hK => ?_
    try simp
    repeat' first | (refine evL_c ?_; simp [-List.map_set, hn, hk, hop, hkl, hw, hwd, hfl, hw1, hw2, hw3]) | (with_reducible first | apply aI | intro _ | assumption) | omega
    all_goals (apply Fin.go hK; clear hK K)
    simp only [tN]
    apply Run.block
    refine Run.loopO [4, 8, 10, 11, 46, 47, 48, 49, 50, 51, 52, 53, 54, 55, 56, 57, 58, 59] (fun (x : Nat) => [(46, .int x), (8, .rs 4300 1 0 1)]) (fun (x : Nat) => [(300, .vals ((encC c ++ [D.int c.nodes.length]).map .d)), (400, .vals ((encP p).map .d)), (4200, .data 1 (fb.map encB)), (4300, .vals [.rs 4200 1 0 (n + k)])]) (fun (x : Nat) => x = 0) (fun (x : Nat) => 0) 0 (by simp) (by simp [-List.map_set, hn, hk, hop, hkl, hw, hwd, hfl, hw1, hw2, hw3]) fun x hx => ?_
    rcases hx with rfl
    ·simp only [over, List.foldl, List.set]
     apply Run.seq
     refine opsF oo19 fun K hK => ?_
     try simp
     repeat' first | (refine evL_c ?_; simp [-List.map_set, hn, hk, hop, hkl, hw, hwd, hfl, hw1, hw2, hw3]) | (with_reducible first | apply aI | intro _ | assumption) | omega
     all_goals (apply Fin.go hK; clear hK K)
     simp only [tN]
     apply Run.seq
     refine Run.cond rfl (fun h47 => ?_) (fun h47 => ?_)
     ·skip
      apply Run.skip
      simp only [tN]
      apply Run.seq
      apply Run.block
      apply Run.seq
      refine opsF oo20 fun K hK => ?_
      try simp
      repeat' first | (refine evL_c ?_; simp [-List.map_set, hn, hk, hop, hkl, hw, hwd, hfl, hw1, hw2, hw3]) | (with_reducible first | apply aI | intro _ | assumption) | omega
      all_goals (apply Fin.go hK; clear hK K)
      simp only [tN]
      apply Run.seq
      refine opsF oo21 fun K hK => ?_
      try simp
      repeat' first | (refine ecall (by have h := IH; exact h) rfl ?_) | (refine evL_c ?_; simp [-List.map_set, hn, hk, hop, hkl, hw, hwd, hfl, hw1, hw2, hw3]) | (with_reducible first | apply aI | intro _ | assumption) | omega
      all_goals (apply Fin.go hK; clear hK K)
      simp only [tN]
      apply Run.seq
      apply Run.seq
      refine opsF oo22 fun K hK => ?_
      try simp
      repeat' first | (refine evL_c ?_; simp [-List.map_set, hn, hk, hop, hkl, hw, hwd, hfl, hw1, hw2, hw3]) | (with_reducible first | apply aI | intro _ | assumption) | omega
      all_goals (apply Fin.go hK; clear hK K)
      simp only [tN]
      refine Run.cond rfl (fun h54 => ?_) (fun h54 => ?_)
      ·skip
       apply Run.seq
       refine opsF oo32 fun K hK => ?_
       try simp
       repeat' first | (refine evL_c ?_; simp [-List.map_set, hn, hk, hop, hkl, hw, hwd, hfl, hw1, hw2, hw3]) | (with_reducible first | apply aI | intro _ | assumption) | omega
       all_goals (apply Fin.go hK; clear hK K)
       simp only [tN]
       refine Run.drop [] (by simp) ?_
       apply Run.ret
       try simp only [Then_ret, Blok_ret]
       simp
      ·simp at h54
     ·simp at h47
set_option maxHeartbeats 4000000 in
theorem boundN5_ok (c : CoreT) (p : PlanT) (hP : patS c.nodes c.edges = true) (hop : p.op = 5) (hkl : p.kids.length = 1) (IH : Snd P 43 [.d (.ag (encC c ++ [D.int c.nodes.length])), .d (.ag (encP (rdI p.kids 0)))] (resB (bndT c (rdI p.kids 0))) (stoB (bndT c (rdI p.kids 0)))) (hq : bndT c (rdI p.kids 0) = none) : Snd P 43 [.d (.ag (encC c ++ [D.int c.nodes.length])), .d (.ag (encP p))] vnil [] := by
 obtain ⟨hn1, hn8, hk8⟩ := pat_rng hP
 have hE := goodE_of hP
 obtain ⟨n, hn⟩ : ∃ k, c.nodes.length = k := ⟨_, rfl⟩
 obtain ⟨k, hk⟩ : ∃ k, c.edges.length = k := ⟨_, rfl⟩
 rw [hn] at hn1 hn8
 rw [hk] at hk8
 obtain ⟨fb, hfb⟩ : ∃ fb, List.replicate (n + k) false = fb := ⟨_, rfl⟩
 have hfl : fb.length = n + k := by rw [← hfb]; simp
 have hwd : ((n:Int) + k).toNat = n + k := by omega
 have hw : IntKind.i64.wrap ((n:Int) + k) = (n:Int) + k := wrap_id (by omega) (by omega)
 have hw1 : 0 < n + k := by omega
 have hw2 : (n:Int) + k ≤ 140737488355328 := by omega
 have hw3 : (0:Int) ≤ (n:Int) + k := by omega
 simp only [hq, resB, stoB, encP_cells, hn] at IH
 refine snd_of [] Try.func43 rfl (by kernel_rfl) Try.ntmps43 (by simp) ?_
 unfold Try.f43
 simp only [List.cons_append, List.nil_append, List.length_cons, List.length_nil, Nat.reduceAdd, Nat.reduceSub, List.replicate]
 apply Run.seq
 refine opsF oo13 fun K hK => ?_
 try simp
 repeat' first | (refine evL_c ?_; simp [-List.map_set, hn, hk, hop, hkl, hw, hwd, hfl, hw1, hw2, hw3]) | (with_reducible first | apply aI | intro _ | assumption) | omega
 all_goals (apply Fin.go hK; clear hK K)
 simp only [tN]
 apply Run.seq
 refine opsF oo14 fun K hK => ?_
 try simp
 repeat' first | (refine evL_c ?_; simp [-List.map_set, hn, hk, hop, hkl, hw, hwd, hfl, hw1, hw2, hw3]) | (with_reducible first | apply aI | intro _ | assumption) | omega
 all_goals (apply Fin.go hK; clear hK K)
 simp only [tN]
 apply Run.seq
 apply Run.seq
 refine opsF oo15 fun K hK => ?_
 try simp
 repeat' first | (refine evL_c ?_; simp [-List.map_set, hn, hk, hop, hkl, hw, hwd, hfl, hw1, hw2, hw3]) | (with_reducible first | apply aI | intro _ | assumption) | omega
 all_goals (apply Fin.go hK; clear hK K)
 simp only [tN]
 apply Run.seq
 refine opsF oo16 fun K hK => ?_
 try simp
 repeat' first | ((first | refine evL_c ?_ | (refine evL_g rfl ?_; try simp only [gs_tt, gs_ff, gs_tf, gs_ft]) | refine evL_u rfl ?_ | (with_reducible refine gsplit (fun hg => ?_) (fun hg => ?_) <;> try simp at hg)) <;> try simp [-List.map_set, hn, hk, hop, hkl, hw, hwd, hfl, hw1, hw2, hw3]) | (with_reducible first | apply aI | intro _ | assumption) | omega
 all_goals (apply Fin.go hK; clear hK K)
 all_goals
  simp only [tN]
  refine Run.cond rfl (fun h33 => ?_) (fun h33 => ?_)
  ·simp at h33
  ·skip
   apply Run.skip
   simp only [tN]
   refine Run.cut [8, 34, 35, 36, 37, 38, 39, 40, 41, 42] [(8, .rs 4300 1 0 1)] [(300, .vals ((encC c ++ [D.int c.nodes.length]).map .d)), (400, .vals ((encP p).map .d)), (4200, .data 1 (fb.map encB)), (4300, .vals [.rs 4200 1 0 (n + k)])] ?_ ?_
   ·refine opsF oo17 fun K hK => ?_
    try simp
    repeat' first | (refine evL_c ?_; simp [-List.map_set, hn, hk, hop, hkl, hw, hwd, hfl, hw1, hw2, hw3]) | (with_reducible first | apply aI | intro _ | assumption) | omega
    all_goals (apply Fin.go hK; clear hK K)
    first | (simp [-List.map_set, hn, hk, hop, hkl, hw, hwd, hfl, hw1, hw2, hw3, ← hfb]; done)
   ·simp only [over, List.foldl, List.set]
    apply Run.seq
    apply Run.seq
    refine opsF oo18 fun K hK => ?_
    try simp
    repeat' first | (refine evL_c ?_; simp [-List.map_set, hn, hk, hop, hkl, hw, hwd, hfl, hw1, hw2, hw3]) | (with_reducible first | apply aI | intro _ | assumption) | omega
    all_goals (apply Fin.go hK; clear hK K)
    simp only [tN]
    apply Run.block
    refine Run.loopO [4, 8, 10, 11, 46, 47, 48, 49, 50, 51, 52, 53, 54, 55, 56, 57, 58, 59] (fun (x : Nat) => [(46, .int x), (8, .rs 4300 1 0 1)]) (fun (x : Nat) => [(300, .vals ((encC c ++ [D.int c.nodes.length]).map .d)), (400, .vals ((encP p).map .d)), (4200, .data 1 (fb.map encB)), (4300, .vals [.rs 4200 1 0 (n + k)])]) (fun (x : Nat) => x = 0) (fun (x : Nat) => 0) 0 (by simp) (by simp [-List.map_set, hn, hk, hop, hkl, hw, hwd, hfl, hw1, hw2, hw3]) fun x hx => ?_
    rcases hx with rfl
    ·simp only [over, List.foldl, List.set]
     apply Run.seq
     refine opsF oo19 fun K hK => ?_
     try simp
     repeat' first | (refine evL_c ?_; simp [-List.map_set, hn, hk, hop, hkl, hw, hwd, hfl, hw1, hw2, hw3]) | (with_reducible first | apply aI | intro _ | assumption) | omega
     all_goals (apply Fin.go hK; clear hK K)
     simp only [tN]
     apply Run.seq
     refine Run.cond rfl (fun h47 => ?_) (fun h47 => ?_)
     ·skip
      apply Run.skip
      simp only [tN]
      apply Run.seq
      apply Run.block
      apply Run.seq
      refine opsF oo20 fun K hK => ?_
      try simp
      repeat' first | (refine evL_c ?_; simp [-List.map_set, hn, hk, hop, hkl, hw, hwd, hfl, hw1, hw2, hw3]) | (with_reducible first | apply aI | intro _ | assumption) | omega
      all_goals (apply Fin.go hK; clear hK K)
      simp only [tN]
      apply Run.seq
      refine opsF oo21 fun K hK => ?_
      try simp
      repeat' first | (refine ecall (by have h := IH; exact h) rfl ?_) | (refine evL_c ?_; simp [-List.map_set, hn, hk, hop, hkl, hw, hwd, hfl, hw1, hw2, hw3]) | (with_reducible first | apply aI | intro _ | assumption) | omega
      all_goals (apply Fin.go hK; clear hK K)
      simp only [tN]
      apply Run.seq
      apply Run.seq
      refine opsF oo22 fun K hK => ?_
      try simp
      repeat' first | (refine evL_c ?_; simp [-List.map_set, hn, hk, hop, hkl, hw, hwd, hfl, hw1, hw2, hw3]) | (with_reducible first | apply aI | intro _ | assumption) | omega
      all_goals (apply Fin.go hK; clear hK K)
      simp only [tN]
      refine Run.cond rfl (fun h54 => ?_) (fun h54 => ?_)
      ·skip
       apply Run.seq
       refine opsF oo32 fun K hK => ?_
       try simp
       repeat' first | (refine evL_c ?_; simp [-List.map_set, hn, hk, hop, hkl, hw, hwd, hfl, hw1, hw2, hw3]) | (with_reducible first | apply aI | intro _ | assumption) | omega
       all_goals (apply Fin.go hK; clear hK K)
       simp only [tN]
       refine Run.drop [] (by simp) ?_
       apply Run.ret
       try simp only [Then_ret, Blok_ret]
       simp
      ·simp at h54
     ·simp at h47
set_option maxHeartbeats 4000000 in
theorem boundN6_ok (c : CoreT) (p : PlanT) (hP : patS c.nodes c.edges = true) (hop : p.op = 6) (hkl : p.kids.length = 1) (IH : Snd P 43 [.d (.ag (encC c ++ [D.int c.nodes.length])), .d (.ag (encP (rdI p.kids 0)))] (resB (bndT c (rdI p.kids 0))) (stoB (bndT c (rdI p.kids 0)))) (hq : bndT c (rdI p.kids 0) = none) : Snd P 43 [.d (.ag (encC c ++ [D.int c.nodes.length])), .d (.ag (encP p))] vnil [] := by
 obtain ⟨hn1, hn8, hk8⟩ := pat_rng hP
 have hE := goodE_of hP
 obtain ⟨n, hn⟩ : ∃ k, c.nodes.length = k := ⟨_, rfl⟩
 obtain ⟨k, hk⟩ : ∃ k, c.edges.length = k := ⟨_, rfl⟩
 rw [hn] at hn1 hn8
 rw [hk] at hk8
 obtain ⟨fb, hfb⟩ : ∃ fb, List.replicate (n + k) false = fb := ⟨_, rfl⟩
 have hfl : fb.length = n + k := by rw [← hfb]; simp
 have hwd : ((n:Int) + k).toNat = n + k := by omega
 have hw : IntKind.i64.wrap ((n:Int) + k) = (n:Int) + k := wrap_id (by omega) (by omega)
 have hw1 : 0 < n + k := by omega
 have hw2 : (n:Int) + k ≤ 140737488355328 := by omega
 have hw3 : (0:Int) ≤ (n:Int) + k := by omega
 simp only [hq, resB, stoB, encP_cells, hn] at IH
 refine snd_of [] Try.func43 rfl (by kernel_rfl) Try.ntmps43 (by simp) ?_
 unfold Try.f43
 simp only [List.cons_append, List.nil_append, List.length_cons, List.length_nil, Nat.reduceAdd, Nat.reduceSub, List.replicate]
 apply Run.seq
 refine opsF oo13 fun K hK => ?_
 try simp
 repeat' first | (refine evL_c ?_; simp [-List.map_set, hn, hk, hop, hkl, hw, hwd, hfl, hw1, hw2, hw3]) | (with_reducible first | apply aI | intro _ | assumption) | omega
 all_goals (apply Fin.go hK; clear hK K)
 simp only [tN]
 apply Run.seq
 refine opsF oo14 fun K hK => ?_
 try simp
 repeat' first | (refine evL_c ?_; simp [-List.map_set, hn, hk, hop, hkl, hw, hwd, hfl, hw1, hw2, hw3]) | (with_reducible first | apply aI | intro _ | assumption) | omega
 all_goals (apply Fin.go hK; clear hK K)
 simp only [tN]
 apply Run.seq
 apply Run.seq
 refine opsF oo15 fun K hK => ?_
 try simp
 repeat' first | (refine evL_c ?_; simp [-List.map_set, hn, hk, hop, hkl, hw, hwd, hfl, hw1, hw2, hw3]) | (with_reducible first | apply aI | intro _ | assumption) | omega
 all_goals (apply Fin.go hK; clear hK K)
 simp only [tN]
 apply Run.seq
 refine opsF oo16 fun K hK => ?_
 try simp
 repeat' first | ((first | refine evL_c ?_ | (refine evL_g rfl ?_; try simp only [gs_tt, gs_ff, gs_tf, gs_ft]) | refine evL_u rfl ?_ | (with_reducible refine gsplit (fun hg => ?_) (fun hg => ?_) <;> try simp at hg)) <;> try simp [-List.map_set, hn, hk, hop, hkl, hw, hwd, hfl, hw1, hw2, hw3]) | (with_reducible first | apply aI | intro _ | assumption) | omega
 all_goals (apply Fin.go hK; clear hK K)
 all_goals
  simp only [tN]
  refine Run.cond rfl (fun h33 => ?_) (fun h33 => ?_)
  ·simp at h33
  ·skip
   apply Run.skip
   simp only [tN]
   refine Run.cut [8, 34, 35, 36, 37, 38, 39, 40, 41, 42] [(8, .rs 4300 1 0 1)] [(300, .vals ((encC c ++ [D.int c.nodes.length]).map .d)), (400, .vals ((encP p).map .d)), (4200, .data 1 (fb.map encB)), (4300, .vals [.rs 4200 1 0 (n + k)])] ?_ ?_
   ·refine opsF oo17 fun K hK => ?_
    try simp
    repeat' first | (refine evL_c ?_; simp [-List.map_set, hn, hk, hop, hkl, hw, hwd, hfl, hw1, hw2, hw3]) | (with_reducible first | apply aI | intro _ | assumption) | omega
    all_goals (apply Fin.go hK; clear hK K)
    first | (simp [-List.map_set, hn, hk, hop, hkl, hw, hwd, hfl, hw1, hw2, hw3, ← hfb]; done)
   ·simp only [over, List.foldl, List.set]
    apply Run.seq
    apply Run.seq
    refine opsF oo18 fun K hK => ?_
    try simp
    repeat' first | (refine evL_c ?_; simp [-List.map_set, hn, hk, hop, hkl, hw, hwd, hfl, hw1, hw2, hw3]) | (with_reducible first | apply aI | intro _ | assumption) | omega
    all_goals (apply Fin.go hK; clear hK K)
    simp only [tN]
    apply Run.block
    refine Run.loopO [4, 8, 10, 11, 46, 47, 48, 49, 50, 51, 52, 53, 54, 55, 56, 57, 58, 59] (fun (x : Nat) => [(46, .int x), (8, .rs 4300 1 0 1)]) (fun (x : Nat) => [(300, .vals ((encC c ++ [D.int c.nodes.length]).map .d)), (400, .vals ((encP p).map .d)), (4200, .data 1 (fb.map encB)), (4300, .vals [.rs 4200 1 0 (n + k)])]) (fun (x : Nat) => x = 0) (fun (x : Nat) => 0) 0 (by simp) (by simp [-List.map_set, hn, hk, hop, hkl, hw, hwd, hfl, hw1, hw2, hw3]) fun x hx => ?_
    rcases hx with rfl
    ·simp only [over, List.foldl, List.set]
     apply Run.seq
     refine opsF oo19 fun K hK => ?_
     try simp
     repeat' first | (refine evL_c ?_; simp [-List.map_set, hn, hk, hop, hkl, hw, hwd, hfl, hw1, hw2, hw3]) | (with_reducible first | apply aI | intro _ | assumption) | omega
     all_goals (apply Fin.go hK; clear hK K)
     simp only [tN]
     apply Run.seq
     refine Run.cond rfl (fun h47 => ?_) (fun h47 => ?_)
     ·skip
      apply Run.skip
      simp only [tN]
      apply Run.seq
      apply Run.block
      apply Run.seq
      refine opsF oo20 fun K hK => ?_
      try simp
      repeat' first | (refine evL_c ?_; simp [-List.map_set, hn, hk, hop, hkl, hw, hwd, hfl, hw1, hw2, hw3]) | (with_reducible first | apply aI | intro _ | assumption) | omega
      all_goals (apply Fin.go hK; clear hK K)
      simp only [tN]
      apply Run.seq
      refine opsF oo21 fun K hK => ?_
      try simp
      repeat' first | (refine ecall (by have h := IH; exact h) rfl ?_) | (refine evL_c ?_; simp [-List.map_set, hn, hk, hop, hkl, hw, hwd, hfl, hw1, hw2, hw3]) | (with_reducible first | apply aI | intro _ | assumption) | omega
      all_goals (apply Fin.go hK; clear hK K)
      simp only [tN]
      apply Run.seq
      apply Run.seq
      refine opsF oo22 fun K hK => ?_
      try simp
      repeat' first | (refine evL_c ?_; simp [-List.map_set, hn, hk, hop, hkl, hw, hwd, hfl, hw1, hw2, hw3]) | (with_reducible first | apply aI | intro _ | assumption) | omega
      all_goals (apply Fin.go hK; clear hK K)
      simp only [tN]
      refine Run.cond rfl (fun h54 => ?_) (fun h54 => ?_)
      ·skip
       apply Run.seq
       refine opsF oo32 fun K hK => ?_
       try simp
       repeat' first | (refine evL_c ?_; simp [-List.map_set, hn, hk, hop, hkl, hw, hwd, hfl, hw1, hw2, hw3]) | (with_reducible first | apply aI | intro _ | assumption) | omega
       all_goals (apply Fin.go hK; clear hK K)
       simp only [tN]
       refine Run.drop [] (by simp) ?_
       apply Run.ret
       try simp only [Then_ret, Blok_ret]
       simp
      ·simp at h54
     ·simp at h47
set_option maxHeartbeats 4000000 in
theorem boundN4_ok (c : CoreT) (p : PlanT) (hP : patS c.nodes c.edges = true) (hop : p.op = 4) (hkl : p.kids.length = 2) (IH : Snd P 43 [.d (.ag (encC c ++ [D.int c.nodes.length])), .d (.ag (encP (rdI p.kids 0)))] (resB (bndT c (rdI p.kids 0))) (stoB (bndT c (rdI p.kids 0)))) (hq : bndT c (rdI p.kids 0) = none) : Snd P 43 [.d (.ag (encC c ++ [D.int c.nodes.length])), .d (.ag (encP p))] vnil [] := by
 obtain ⟨hn1, hn8, hk8⟩ := pat_rng hP
 have hE := goodE_of hP
 obtain ⟨n, hn⟩ : ∃ k, c.nodes.length = k := ⟨_, rfl⟩
 obtain ⟨k, hk⟩ : ∃ k, c.edges.length = k := ⟨_, rfl⟩
 rw [hn] at hn1 hn8
 rw [hk] at hk8
 obtain ⟨fb, hfb⟩ : ∃ fb, List.replicate (n + k) false = fb := ⟨_, rfl⟩
 have hfl : fb.length = n + k := by rw [← hfb]; simp
 have hwd : ((n:Int) + k).toNat = n + k := by omega
 have hw : IntKind.i64.wrap ((n:Int) + k) = (n:Int) + k := wrap_id (by omega) (by omega)
 have hw1 : 0 < n + k := by omega
 have hw2 : (n:Int) + k ≤ 140737488355328 := by omega
 have hw3 : (0:Int) ≤ (n:Int) + k := by omega
 simp only [hq, resB, stoB, encP_cells, hn] at IH
 refine snd_of [] Try.func43 rfl (by kernel_rfl) Try.ntmps43 (by simp) ?_
 unfold Try.f43
 simp only [List.cons_append, List.nil_append, List.length_cons, List.length_nil, Nat.reduceAdd, Nat.reduceSub, List.replicate]
 apply Run.seq
 refine opsF oo13 fun K hK => ?_
 try simp
 repeat' first | (refine evL_c ?_; simp [-List.map_set, hn, hk, hop, hkl, hw, hwd, hfl, hw1, hw2, hw3]) | (with_reducible first | apply aI | intro _ | assumption) | omega
 all_goals (apply Fin.go hK; clear hK K)
 simp only [tN]
 apply Run.seq
 refine opsF oo14 fun K hK => ?_
 try simp
 repeat' first | (refine evL_c ?_; simp [-List.map_set, hn, hk, hop, hkl, hw, hwd, hfl, hw1, hw2, hw3]) | (with_reducible first | apply aI | intro _ | assumption) | omega
 all_goals (apply Fin.go hK; clear hK K)
 simp only [tN]
 apply Run.seq
 apply Run.seq
 refine opsF oo15 fun K hK => ?_
 try simp
 repeat' first | (refine evL_c ?_; simp [-List.map_set, hn, hk, hop, hkl, hw, hwd, hfl, hw1, hw2, hw3]) | (with_reducible first | apply aI | intro _ | assumption) | omega
 all_goals (apply Fin.go hK; clear hK K)
 simp only [tN]
 apply Run.seq
 refine opsF oo16 fun K hK => ?_
 try simp
 repeat' first | ((first | refine evL_c ?_ | (refine evL_g rfl ?_; try simp only [gs_tt, gs_ff, gs_tf, gs_ft]) | refine evL_u rfl ?_ | (with_reducible refine gsplit (fun hg => ?_) (fun hg => ?_) <;> try simp at hg)) <;> try simp [-List.map_set, hn, hk, hop, hkl, hw, hwd, hfl, hw1, hw2, hw3]) | (with_reducible first | apply aI | intro _ | assumption) | omega
 all_goals (apply Fin.go hK; clear hK K)
 all_goals
  simp only [tN]
  refine Run.cond rfl (fun h33 => ?_) (fun h33 => ?_)
  ·simp at h33
  ·skip
   apply Run.skip
   simp only [tN]
   refine Run.cut [8, 34, 35, 36, 37, 38, 39, 40, 41, 42] [(8, .rs 4300 1 0 1)] [(300, .vals ((encC c ++ [D.int c.nodes.length]).map .d)), (400, .vals ((encP p).map .d)), (4200, .data 1 (fb.map encB)), (4300, .vals [.rs 4200 1 0 (n + k)])] ?_ ?_
   ·refine opsF oo17 fun K hK => ?_
    try simp
    repeat' first | (refine evL_c ?_; simp [-List.map_set, hn, hk, hop, hkl, hw, hwd, hfl, hw1, hw2, hw3]) | (with_reducible first | apply aI | intro _ | assumption) | omega
    all_goals (apply Fin.go hK; clear hK K)
    first | (simp [-List.map_set, hn, hk, hop, hkl, hw, hwd, hfl, hw1, hw2, hw3, ← hfb]; done)
   ·simp only [over, List.foldl, List.set]
    apply Run.seq
    apply Run.seq
    refine opsF oo18 fun K hK => ?_
    try simp
    repeat' first | (refine evL_c ?_; simp [-List.map_set, hn, hk, hop, hkl, hw, hwd, hfl, hw1, hw2, hw3]) | (with_reducible first | apply aI | intro _ | assumption) | omega
    all_goals (apply Fin.go hK; clear hK K)
    simp only [tN]
    apply Run.block
    refine Run.loopO [4, 8, 10, 11, 46, 47, 48, 49, 50, 51, 52, 53, 54, 55, 56, 57, 58, 59] (fun (x : Nat) => [(46, .int x), (8, .rs 4300 1 0 1)]) (fun (x : Nat) => [(300, .vals ((encC c ++ [D.int c.nodes.length]).map .d)), (400, .vals ((encP p).map .d)), (4200, .data 1 (fb.map encB)), (4300, .vals [.rs 4200 1 0 (n + k)])]) (fun (x : Nat) => x = 0) (fun (x : Nat) => 0) 0 (by simp) (by simp [-List.map_set, hn, hk, hop, hkl, hw, hwd, hfl, hw1, hw2, hw3]) fun x hx => ?_
    rcases hx with rfl
    ·simp only [over, List.foldl, List.set]
     apply Run.seq
     refine opsF oo19 fun K hK => ?_
     try simp
     repeat' first | (refine evL_c ?_; simp [-List.map_set, hn, hk, hop, hkl, hw, hwd, hfl, hw1, hw2, hw3]) | (with_reducible first | apply aI | intro _ | assumption) | omega
     all_goals (apply Fin.go hK; clear hK K)
     simp only [tN]
     apply Run.seq
     refine Run.cond rfl (fun h47 => ?_) (fun h47 => ?_)
     ·skip
      apply Run.skip
      simp only [tN]
      apply Run.seq
      apply Run.block
      apply Run.seq
      refine opsF oo20 fun K hK => ?_
      try simp
      repeat' first | (refine evL_c ?_; simp [-List.map_set, hn, hk, hop, hkl, hw, hwd, hfl, hw1, hw2, hw3]) | (with_reducible first | apply aI | intro _ | assumption) | omega
      all_goals (apply Fin.go hK; clear hK K)
      simp only [tN]
      apply Run.seq
      refine opsF oo21 fun K hK => ?_
      try simp
      repeat' first | (refine ecall (by have h := IH; exact h) rfl ?_) | (refine evL_c ?_; simp [-List.map_set, hn, hk, hop, hkl, hw, hwd, hfl, hw1, hw2, hw3]) | (with_reducible first | apply aI | intro _ | assumption) | omega
      all_goals (apply Fin.go hK; clear hK K)
      simp only [tN]
      apply Run.seq
      apply Run.seq
      refine opsF oo22 fun K hK => ?_
      try simp
      repeat' first | (refine evL_c ?_; simp [-List.map_set, hn, hk, hop, hkl, hw, hwd, hfl, hw1, hw2, hw3]) | (with_reducible first | apply aI | intro _ | assumption) | omega
      all_goals (apply Fin.go hK; clear hK K)
      simp only [tN]
      refine Run.cond rfl (fun h54 => ?_) (fun h54 => ?_)
      ·skip
       apply Run.seq
       refine opsF oo32 fun K hK => ?_
       try simp
       repeat' first | (refine evL_c ?_; simp [-List.map_set, hn, hk, hop, hkl, hw, hwd, hfl, hw1, hw2, hw3]) | (with_reducible first | apply aI | intro _ | assumption) | omega
       all_goals (apply Fin.go hK; clear hK K)
       simp only [tN]
       refine Run.drop [] (by simp) ?_
       apply Run.ret
       try simp only [Then_ret, Blok_ret]
       simp
      ·simp at h54
     ·simp at h47
set_option maxHeartbeats 4000000 in
theorem boundX1_ok (c : CoreT) (p : PlanT) (hP : patS c.nodes c.edges = true) (hop : p.op = 1) (hkw : ¬ p.kids.length = 0) : Snd P 43 [.d (.ag (encC c ++ [D.int c.nodes.length])), .d (.ag (encP p))] vnil [] := by
 obtain ⟨hn1, hn8, hk8⟩ := pat_rng hP
 have hE := goodE_of hP
 obtain ⟨n, hn⟩ : ∃ k, c.nodes.length = k := ⟨_, rfl⟩
 obtain ⟨k, hk⟩ : ∃ k, c.edges.length = k := ⟨_, rfl⟩
 rw [hn] at hn1 hn8
 rw [hk] at hk8
 obtain ⟨fb, hfb⟩ : ∃ fb, List.replicate (n + k) false = fb := ⟨_, rfl⟩
 have hfl : fb.length = n + k := by rw [← hfb]; simp
 have hwd : ((n:Int) + k).toNat = n + k := by omega
 have hw : IntKind.i64.wrap ((n:Int) + k) = (n:Int) + k := wrap_id (by omega) (by omega)
 have hw1 : 0 < n + k := by omega
 have hw2 : (n:Int) + k ≤ 140737488355328 := by omega
 have hw3 : (0:Int) ≤ (n:Int) + k := by omega
 obtain ⟨kl, hkl⟩ : ∃ kl, p.kids.length = kl := ⟨_, rfl⟩
 have hkw' : ¬ (0 : Int) = kl := by omega
 refine snd_of [] Try.func43 rfl (by kernel_rfl) Try.ntmps43 (by simp) ?_
 unfold Try.f43
 simp only [List.cons_append, List.nil_append, List.length_cons, List.length_nil, Nat.reduceAdd, Nat.reduceSub, List.replicate]
 apply Run.seq
 refine opsF oo13 fun K hK => ?_
 try simp
 repeat' first | (refine evL_c ?_; simp [-List.map_set, hn, hk, hw, hwd, hfl, hw1, hw2, hw3, hop, hkw', hkl]) | (with_reducible first | apply aI | intro _ | assumption) | omega
 all_goals (apply Fin.go hK; clear hK K)
 simp only [tN]
 apply Run.seq
 refine opsF oo14 fun K hK => ?_
 try simp
 repeat' first | (refine evL_c ?_; simp [-List.map_set, hn, hk, hw, hwd, hfl, hw1, hw2, hw3, hop, hkw', hkl]) | (with_reducible first | apply aI | intro _ | assumption) | omega
 all_goals (apply Fin.go hK; clear hK K)
 simp only [tN]
 apply Run.seq
 apply Run.seq
 refine opsF oo15 fun K hK => ?_
 try simp
 repeat' first | (refine evL_c ?_; simp [-List.map_set, hn, hk, hw, hwd, hfl, hw1, hw2, hw3, hop, hkw', hkl]) | (with_reducible first | apply aI | intro _ | assumption) | omega
 all_goals (apply Fin.go hK; clear hK K)
 simp only [tN]
 apply Run.seq
 refine opsF oo16 fun K hK => ?_
 try simp
 repeat' first | ((first | refine evL_c ?_ | (refine evL_g rfl ?_; try simp only [gs_tt, gs_ff, gs_tf, gs_ft]) | refine evL_u rfl ?_ | (with_reducible refine gsplit (fun hg => ?_) (fun hg => ?_) <;> try simp at hg)) <;> try simp [-List.map_set, hn, hk, hw, hwd, hfl, hw1, hw2, hw3, hop, hkw', hkl]) | (with_reducible first | apply aI | intro _ | assumption) | omega
 all_goals (apply Fin.go hK; clear hK K)
 all_goals
  simp only [tN]
  refine Run.cond rfl (fun h33 => ?_) (fun h33 => ?_)
  ·skip
   apply Run.seq
   refine opsF oo32 fun K hK => ?_
   try simp
   repeat' first | (refine evL_c ?_; simp [-List.map_set, hn, hk, hw, hwd, hfl, hw1, hw2, hw3, hop, hkw', hkl]) | (with_reducible first | apply aI | intro _ | assumption) | omega
   all_goals (apply Fin.go hK; clear hK K)
   simp only [tN]
   apply Run.ret
   try simp only [Then_ret, Blok_ret]
   simp
  ·simp at h33
set_option maxHeartbeats 4000000 in
theorem boundX2_ok (c : CoreT) (p : PlanT) (hP : patS c.nodes c.edges = true) (hop : p.op = 2) (hkw : ¬ p.kids.length = 1) : Snd P 43 [.d (.ag (encC c ++ [D.int c.nodes.length])), .d (.ag (encP p))] vnil [] := by
 obtain ⟨hn1, hn8, hk8⟩ := pat_rng hP
 have hE := goodE_of hP
 obtain ⟨n, hn⟩ : ∃ k, c.nodes.length = k := ⟨_, rfl⟩
 obtain ⟨k, hk⟩ : ∃ k, c.edges.length = k := ⟨_, rfl⟩
 rw [hn] at hn1 hn8
 rw [hk] at hk8
 obtain ⟨fb, hfb⟩ : ∃ fb, List.replicate (n + k) false = fb := ⟨_, rfl⟩
 have hfl : fb.length = n + k := by rw [← hfb]; simp
 have hwd : ((n:Int) + k).toNat = n + k := by omega
 have hw : IntKind.i64.wrap ((n:Int) + k) = (n:Int) + k := wrap_id (by omega) (by omega)
 have hw1 : 0 < n + k := by omega
 have hw2 : (n:Int) + k ≤ 140737488355328 := by omega
 have hw3 : (0:Int) ≤ (n:Int) + k := by omega
 obtain ⟨kl, hkl⟩ : ∃ kl, p.kids.length = kl := ⟨_, rfl⟩
 have hkw' : ¬ (1 : Int) = kl := by omega
 refine snd_of [] Try.func43 rfl (by kernel_rfl) Try.ntmps43 (by simp) ?_
 unfold Try.f43
 simp only [List.cons_append, List.nil_append, List.length_cons, List.length_nil, Nat.reduceAdd, Nat.reduceSub, List.replicate]
 apply Run.seq
 refine opsF oo13 fun K hK => ?_
 try simp
 repeat' first | (refine evL_c ?_; simp [-List.map_set, hn, hk, hw, hwd, hfl, hw1, hw2, hw3, hop, hkw', hkl]) | (with_reducible first | apply aI | intro _ | assumption) | omega
 all_goals (apply Fin.go hK; clear hK K)
 simp only [tN]
 apply Run.seq
 refine opsF oo14 fun K hK => ?_
 try simp
 repeat' first | (refine evL_c ?_; simp [-List.map_set, hn, hk, hw, hwd, hfl, hw1, hw2, hw3, hop, hkw', hkl]) | (with_reducible first | apply aI | intro _ | assumption) | omega
 all_goals (apply Fin.go hK; clear hK K)
 simp only [tN]
 apply Run.seq
 apply Run.seq
 refine opsF oo15 fun K hK => ?_
 try simp
 repeat' first | (refine evL_c ?_; simp [-List.map_set, hn, hk, hw, hwd, hfl, hw1, hw2, hw3, hop, hkw', hkl]) | (with_reducible first | apply aI | intro _ | assumption) | omega
 all_goals (apply Fin.go hK; clear hK K)
 simp only [tN]
 apply Run.seq
 refine opsF oo16 fun K hK => ?_
 try simp
 repeat' first | ((first | refine evL_c ?_ | (refine evL_g rfl ?_; try simp only [gs_tt, gs_ff, gs_tf, gs_ft]) | refine evL_u rfl ?_ | (with_reducible refine gsplit (fun hg => ?_) (fun hg => ?_) <;> try simp at hg)) <;> try simp [-List.map_set, hn, hk, hw, hwd, hfl, hw1, hw2, hw3, hop, hkw', hkl]) | (with_reducible first | apply aI | intro _ | assumption) | omega
 all_goals (apply Fin.go hK; clear hK K)
 all_goals
  simp only [tN]
  refine Run.cond rfl (fun h33 => ?_) (fun h33 => ?_)
  ·skip
   apply Run.seq
   refine opsF oo32 fun K hK => ?_
   try simp
   repeat' first | (refine evL_c ?_; simp [-List.map_set, hn, hk, hw, hwd, hfl, hw1, hw2, hw3, hop, hkw', hkl]) | (with_reducible first | apply aI | intro _ | assumption) | omega
   all_goals (apply Fin.go hK; clear hK K)
   simp only [tN]
   apply Run.ret
   try simp only [Then_ret, Blok_ret]
   simp
  ·simp at h33
set_option maxHeartbeats 4000000 in
theorem boundX3_ok (c : CoreT) (p : PlanT) (hP : patS c.nodes c.edges = true) (hop : p.op = 3) (hkw : ¬ p.kids.length = 1) : Snd P 43 [.d (.ag (encC c ++ [D.int c.nodes.length])), .d (.ag (encP p))] vnil [] := by
 obtain ⟨hn1, hn8, hk8⟩ := pat_rng hP
 have hE := goodE_of hP
 obtain ⟨n, hn⟩ : ∃ k, c.nodes.length = k := ⟨_, rfl⟩
 obtain ⟨k, hk⟩ : ∃ k, c.edges.length = k := ⟨_, rfl⟩
 rw [hn] at hn1 hn8
 rw [hk] at hk8
 obtain ⟨fb, hfb⟩ : ∃ fb, List.replicate (n + k) false = fb := ⟨_, rfl⟩
 have hfl : fb.length = n + k := by rw [← hfb]; simp
 have hwd : ((n:Int) + k).toNat = n + k := by omega
 have hw : IntKind.i64.wrap ((n:Int) + k) = (n:Int) + k := wrap_id (by omega) (by omega)
 have hw1 : 0 < n + k := by omega
 have hw2 : (n:Int) + k ≤ 140737488355328 := by omega
 have hw3 : (0:Int) ≤ (n:Int) + k := by omega
 obtain ⟨kl, hkl⟩ : ∃ kl, p.kids.length = kl := ⟨_, rfl⟩
 have hkw' : ¬ (1 : Int) = kl := by omega
 refine snd_of [] Try.func43 rfl (by kernel_rfl) Try.ntmps43 (by simp) ?_
 unfold Try.f43
 simp only [List.cons_append, List.nil_append, List.length_cons, List.length_nil, Nat.reduceAdd, Nat.reduceSub, List.replicate]
 apply Run.seq
 refine opsF oo13 fun K hK => ?_
 try simp
 repeat' first | (refine evL_c ?_; simp [-List.map_set, hn, hk, hw, hwd, hfl, hw1, hw2, hw3, hop, hkw', hkl]) | (with_reducible first | apply aI | intro _ | assumption) | omega
 all_goals (apply Fin.go hK; clear hK K)
 simp only [tN]
 apply Run.seq
 refine opsF oo14 fun K hK => ?_
 try simp
 repeat' first | (refine evL_c ?_; simp [-List.map_set, hn, hk, hw, hwd, hfl, hw1, hw2, hw3, hop, hkw', hkl]) | (with_reducible first | apply aI | intro _ | assumption) | omega
 all_goals (apply Fin.go hK; clear hK K)
 simp only [tN]
 apply Run.seq
 apply Run.seq
 refine opsF oo15 fun K hK => ?_
 try simp
 repeat' first | (refine evL_c ?_; simp [-List.map_set, hn, hk, hw, hwd, hfl, hw1, hw2, hw3, hop, hkw', hkl]) | (with_reducible first | apply aI | intro _ | assumption) | omega
 all_goals (apply Fin.go hK; clear hK K)
 simp only [tN]
 apply Run.seq
 refine opsF oo16 fun K hK => ?_
 try simp
 repeat' first | ((first | refine evL_c ?_ | (refine evL_g rfl ?_; try simp only [gs_tt, gs_ff, gs_tf, gs_ft]) | refine evL_u rfl ?_ | (with_reducible refine gsplit (fun hg => ?_) (fun hg => ?_) <;> try simp at hg)) <;> try simp [-List.map_set, hn, hk, hw, hwd, hfl, hw1, hw2, hw3, hop, hkw', hkl]) | (with_reducible first | apply aI | intro _ | assumption) | omega
 all_goals (apply Fin.go hK; clear hK K)
 all_goals
  simp only [tN]
  refine Run.cond rfl (fun h33 => ?_) (fun h33 => ?_)
  ·skip
   apply Run.seq
   refine opsF oo32 fun K hK => ?_
   try simp
   repeat' first | (refine evL_c ?_; simp [-List.map_set, hn, hk, hw, hwd, hfl, hw1, hw2, hw3, hop, hkw', hkl]) | (with_reducible first | apply aI | intro _ | assumption) | omega
   all_goals (apply Fin.go hK; clear hK K)
   simp only [tN]
   apply Run.ret
   try simp only [Then_ret, Blok_ret]
   simp
  ·simp at h33
set_option maxHeartbeats 4000000 in
theorem boundX4_ok (c : CoreT) (p : PlanT) (hP : patS c.nodes c.edges = true) (hop : p.op = 4) (hkw : ¬ p.kids.length = 2) : Snd P 43 [.d (.ag (encC c ++ [D.int c.nodes.length])), .d (.ag (encP p))] vnil [] := by
 obtain ⟨hn1, hn8, hk8⟩ := pat_rng hP
 have hE := goodE_of hP
 obtain ⟨n, hn⟩ : ∃ k, c.nodes.length = k := ⟨_, rfl⟩
 obtain ⟨k, hk⟩ : ∃ k, c.edges.length = k := ⟨_, rfl⟩
 rw [hn] at hn1 hn8
 rw [hk] at hk8
 obtain ⟨fb, hfb⟩ : ∃ fb, List.replicate (n + k) false = fb := ⟨_, rfl⟩
 have hfl : fb.length = n + k := by rw [← hfb]; simp
 have hwd : ((n:Int) + k).toNat = n + k := by omega
 have hw : IntKind.i64.wrap ((n:Int) + k) = (n:Int) + k := wrap_id (by omega) (by omega)
 have hw1 : 0 < n + k := by omega
 have hw2 : (n:Int) + k ≤ 140737488355328 := by omega
 have hw3 : (0:Int) ≤ (n:Int) + k := by omega
 obtain ⟨kl, hkl⟩ : ∃ kl, p.kids.length = kl := ⟨_, rfl⟩
 have hkw' : ¬ (2 : Int) = kl := by omega
 refine snd_of [] Try.func43 rfl (by kernel_rfl) Try.ntmps43 (by simp) ?_
 unfold Try.f43
 simp only [List.cons_append, List.nil_append, List.length_cons, List.length_nil, Nat.reduceAdd, Nat.reduceSub, List.replicate]
 apply Run.seq
 refine opsF oo13 fun K hK => ?_
 try simp
 repeat' first | (refine evL_c ?_; simp [-List.map_set, hn, hk, hw, hwd, hfl, hw1, hw2, hw3, hop, hkw', hkl]) | (with_reducible first | apply aI | intro _ | assumption) | omega
 all_goals (apply Fin.go hK; clear hK K)
 simp only [tN]
 apply Run.seq
 refine opsF oo14 fun K hK => ?_
 try simp
 repeat' first | (refine evL_c ?_; simp [-List.map_set, hn, hk, hw, hwd, hfl, hw1, hw2, hw3, hop, hkw', hkl]) | (with_reducible first | apply aI | intro _ | assumption) | omega
 all_goals (apply Fin.go hK; clear hK K)
 simp only [tN]
 apply Run.seq
 apply Run.seq
 refine opsF oo15 fun K hK => ?_
 try simp
 repeat' first | (refine evL_c ?_; simp [-List.map_set, hn, hk, hw, hwd, hfl, hw1, hw2, hw3, hop, hkw', hkl]) | (with_reducible first | apply aI | intro _ | assumption) | omega
 all_goals (apply Fin.go hK; clear hK K)
 simp only [tN]
 apply Run.seq
 refine opsF oo16 fun K hK => ?_
 try simp
 repeat' first | ((first | refine evL_c ?_ | (refine evL_g rfl ?_; try simp only [gs_tt, gs_ff, gs_tf, gs_ft]) | refine evL_u rfl ?_ | (with_reducible refine gsplit (fun hg => ?_) (fun hg => ?_) <;> try simp at hg)) <;> try simp [-List.map_set, hn, hk, hw, hwd, hfl, hw1, hw2, hw3, hop, hkw', hkl]) | (with_reducible first | apply aI | intro _ | assumption) | omega
 all_goals (apply Fin.go hK; clear hK K)
 all_goals
  simp only [tN]
  refine Run.cond rfl (fun h33 => ?_) (fun h33 => ?_)
  ·skip
   apply Run.seq
   refine opsF oo32 fun K hK => ?_
   try simp
   repeat' first | (refine evL_c ?_; simp [-List.map_set, hn, hk, hw, hwd, hfl, hw1, hw2, hw3, hop, hkw', hkl]) | (with_reducible first | apply aI | intro _ | assumption) | omega
   all_goals (apply Fin.go hK; clear hK K)
   simp only [tN]
   apply Run.ret
   try simp only [Then_ret, Blok_ret]
   simp
  ·simp at h33
set_option maxHeartbeats 4000000 in
theorem boundX5_ok (c : CoreT) (p : PlanT) (hP : patS c.nodes c.edges = true) (hop : p.op = 5) (hkw : ¬ p.kids.length = 1) : Snd P 43 [.d (.ag (encC c ++ [D.int c.nodes.length])), .d (.ag (encP p))] vnil [] := by
 obtain ⟨hn1, hn8, hk8⟩ := pat_rng hP
 have hE := goodE_of hP
 obtain ⟨n, hn⟩ : ∃ k, c.nodes.length = k := ⟨_, rfl⟩
 obtain ⟨k, hk⟩ : ∃ k, c.edges.length = k := ⟨_, rfl⟩
 rw [hn] at hn1 hn8
 rw [hk] at hk8
 obtain ⟨fb, hfb⟩ : ∃ fb, List.replicate (n + k) false = fb := ⟨_, rfl⟩
 have hfl : fb.length = n + k := by rw [← hfb]; simp
 have hwd : ((n:Int) + k).toNat = n + k := by omega
 have hw : IntKind.i64.wrap ((n:Int) + k) = (n:Int) + k := wrap_id (by omega) (by omega)
 have hw1 : 0 < n + k := by omega
 have hw2 : (n:Int) + k ≤ 140737488355328 := by omega
 have hw3 : (0:Int) ≤ (n:Int) + k := by omega
 obtain ⟨kl, hkl⟩ : ∃ kl, p.kids.length = kl := ⟨_, rfl⟩
 have hkw' : ¬ (1 : Int) = kl := by omega
 refine snd_of [] Try.func43 rfl (by kernel_rfl) Try.ntmps43 (by simp) ?_
 unfold Try.f43
 simp only [List.cons_append, List.nil_append, List.length_cons, List.length_nil, Nat.reduceAdd, Nat.reduceSub, List.replicate]
 apply Run.seq
 refine opsF oo13 fun K hK => ?_
 try simp
 repeat' first | (refine evL_c ?_; simp [-List.map_set, hn, hk, hw, hwd, hfl, hw1, hw2, hw3, hop, hkw', hkl]) | (with_reducible first | apply aI | intro _ | assumption) | omega
 all_goals (apply Fin.go hK; clear hK K)
 simp only [tN]
 apply Run.seq
 refine opsF oo14 fun K hK => ?_
 try simp
 repeat' first | (refine evL_c ?_; simp [-List.map_set, hn, hk, hw, hwd, hfl, hw1, hw2, hw3, hop, hkw', hkl]) | (with_reducible first | apply aI | intro _ | assumption) | omega
 all_goals (apply Fin.go hK; clear hK K)
 simp only [tN]
 apply Run.seq
 apply Run.seq
 refine opsF oo15 fun K hK => ?_
 try simp
 repeat' first | (refine evL_c ?_; simp [-List.map_set, hn, hk, hw, hwd, hfl, hw1, hw2, hw3, hop, hkw', hkl]) | (with_reducible first | apply aI | intro _ | assumption) | omega
 all_goals (apply Fin.go hK; clear hK K)
 simp only [tN]
 apply Run.seq
 refine opsF oo16 fun K hK => ?_
 try simp
 repeat' first | ((first | refine evL_c ?_ | (refine evL_g rfl ?_; try simp only [gs_tt, gs_ff, gs_tf, gs_ft]) | refine evL_u rfl ?_ | (with_reducible refine gsplit (fun hg => ?_) (fun hg => ?_) <;> try simp at hg)) <;> try simp [-List.map_set, hn, hk, hw, hwd, hfl, hw1, hw2, hw3, hop, hkw', hkl]) | (with_reducible first | apply aI | intro _ | assumption) | omega
 all_goals (apply Fin.go hK; clear hK K)
 all_goals
  simp only [tN]
  refine Run.cond rfl (fun h33 => ?_) (fun h33 => ?_)
  ·skip
   apply Run.seq
   refine opsF oo32 fun K hK => ?_
   try simp
   repeat' first | (refine evL_c ?_; simp [-List.map_set, hn, hk, hw, hwd, hfl, hw1, hw2, hw3, hop, hkw', hkl]) | (with_reducible first | apply aI | intro _ | assumption) | omega
   all_goals (apply Fin.go hK; clear hK K)
   simp only [tN]
   apply Run.ret
   try simp only [Then_ret, Blok_ret]
   simp
  ·simp at h33
set_option maxHeartbeats 4000000 in
theorem boundX6_ok (c : CoreT) (p : PlanT) (hP : patS c.nodes c.edges = true) (hop : p.op = 6) (hkw : ¬ p.kids.length = 1) : Snd P 43 [.d (.ag (encC c ++ [D.int c.nodes.length])), .d (.ag (encP p))] vnil [] := by
 obtain ⟨hn1, hn8, hk8⟩ := pat_rng hP
 have hE := goodE_of hP
 obtain ⟨n, hn⟩ : ∃ k, c.nodes.length = k := ⟨_, rfl⟩
 obtain ⟨k, hk⟩ : ∃ k, c.edges.length = k := ⟨_, rfl⟩
 rw [hn] at hn1 hn8
 rw [hk] at hk8
 obtain ⟨fb, hfb⟩ : ∃ fb, List.replicate (n + k) false = fb := ⟨_, rfl⟩
 have hfl : fb.length = n + k := by rw [← hfb]; simp
 have hwd : ((n:Int) + k).toNat = n + k := by omega
 have hw : IntKind.i64.wrap ((n:Int) + k) = (n:Int) + k := wrap_id (by omega) (by omega)
 have hw1 : 0 < n + k := by omega
 have hw2 : (n:Int) + k ≤ 140737488355328 := by omega
 have hw3 : (0:Int) ≤ (n:Int) + k := by omega
 obtain ⟨kl, hkl⟩ : ∃ kl, p.kids.length = kl := ⟨_, rfl⟩
 have hkw' : ¬ (1 : Int) = kl := by omega
 refine snd_of [] Try.func43 rfl (by kernel_rfl) Try.ntmps43 (by simp) ?_
 unfold Try.f43
 simp only [List.cons_append, List.nil_append, List.length_cons, List.length_nil, Nat.reduceAdd, Nat.reduceSub, List.replicate]
 apply Run.seq
 refine opsF oo13 fun K hK => ?_
 try simp
 repeat' first | (refine evL_c ?_; simp [-List.map_set, hn, hk, hw, hwd, hfl, hw1, hw2, hw3, hop, hkw', hkl]) | (with_reducible first | apply aI | intro _ | assumption) | omega
 all_goals (apply Fin.go hK; clear hK K)
 simp only [tN]
 apply Run.seq
 refine opsF oo14 fun K hK => ?_
 try simp
 repeat' first | (refine evL_c ?_; simp [-List.map_set, hn, hk, hw, hwd, hfl, hw1, hw2, hw3, hop, hkw', hkl]) | (with_reducible first | apply aI | intro _ | assumption) | omega
 all_goals (apply Fin.go hK; clear hK K)
 simp only [tN]
 apply Run.seq
 apply Run.seq
 refine opsF oo15 fun K hK => ?_
 try simp
 repeat' first | (refine evL_c ?_; simp [-List.map_set, hn, hk, hw, hwd, hfl, hw1, hw2, hw3, hop, hkw', hkl]) | (with_reducible first | apply aI | intro _ | assumption) | omega
 all_goals (apply Fin.go hK; clear hK K)
 simp only [tN]
 apply Run.seq
 refine opsF oo16 fun K hK => ?_
 try simp
 repeat' first | ((first | refine evL_c ?_ | (refine evL_g rfl ?_; try simp only [gs_tt, gs_ff, gs_tf, gs_ft]) | refine evL_u rfl ?_ | (with_reducible refine gsplit (fun hg => ?_) (fun hg => ?_) <;> try simp at hg)) <;> try simp [-List.map_set, hn, hk, hw, hwd, hfl, hw1, hw2, hw3, hop, hkw', hkl]) | (with_reducible first | apply aI | intro _ | assumption) | omega
 all_goals (apply Fin.go hK; clear hK K)
 all_goals
  simp only [tN]
  refine Run.cond rfl (fun h33 => ?_) (fun h33 => ?_)
  ·skip
   apply Run.seq
   refine opsF oo32 fun K hK => ?_
   try simp
   repeat' first | (refine evL_c ?_; simp [-List.map_set, hn, hk, hw, hwd, hfl, hw1, hw2, hw3, hop, hkw', hkl]) | (with_reducible first | apply aI | intro _ | assumption) | omega
   all_goals (apply Fin.go hK; clear hK K)
   simp only [tN]
   apply Run.ret
   try simp only [Then_ret, Blok_ret]
   simp
  ·simp at h33
set_option maxHeartbeats 4000000 in
theorem boundX0_ok (c : CoreT) (p : PlanT) (hP : patS c.nodes c.edges = true) (ho1 : ¬ p.op = 1) (ho2 : ¬ p.op = 2) (ho3 : ¬ p.op = 3) (ho4 : ¬ p.op = 4) (ho5 : ¬ p.op = 5) (ho6 : ¬ p.op = 6)  : Snd P 43 [.d (.ag (encC c ++ [D.int c.nodes.length])), .d (.ag (encP p))] vnil [] := by
 obtain ⟨hn1, hn8, hk8⟩ := pat_rng hP
 have hE := goodE_of hP
 obtain ⟨n, hn⟩ : ∃ k, c.nodes.length = k := ⟨_, rfl⟩
 obtain ⟨k, hk⟩ : ∃ k, c.edges.length = k := ⟨_, rfl⟩
 rw [hn] at hn1 hn8
 rw [hk] at hk8
 obtain ⟨fb, hfb⟩ : ∃ fb, List.replicate (n + k) false = fb := ⟨_, rfl⟩
 have hfl : fb.length = n + k := by rw [← hfb]; simp
 have hwd : ((n:Int) + k).toNat = n + k := by omega
 have hw : IntKind.i64.wrap ((n:Int) + k) = (n:Int) + k := wrap_id (by omega) (by omega)
 have hw1 : 0 < n + k := by omega
 have hw2 : (n:Int) + k ≤ 140737488355328 := by omega
 have hw3 : (0:Int) ≤ (n:Int) + k := by omega
 refine snd_of [] Try.func43 rfl (by kernel_rfl) Try.ntmps43 (by simp) ?_
 unfold Try.f43
 simp only [List.cons_append, List.nil_append, List.length_cons, List.length_nil, Nat.reduceAdd, Nat.reduceSub, List.replicate]
 apply Run.seq
 refine opsF oo13 fun K hK => ?_
 try simp
 repeat' first | (refine evL_c ?_; simp [-List.map_set, hn, hk, hw, hwd, hfl, hw1, hw2, hw3, ho1, ho2, ho3, ho4, ho5, ho6]) | (with_reducible first | apply aI | intro _ | assumption) | omega
 all_goals (apply Fin.go hK; clear hK K)
 simp only [tN]
 apply Run.seq
 refine opsF oo14 fun K hK => ?_
 try simp
 repeat' first | (refine evL_c ?_; simp [-List.map_set, hn, hk, hw, hwd, hfl, hw1, hw2, hw3, ho1, ho2, ho3, ho4, ho5, ho6]) | (with_reducible first | apply aI | intro _ | assumption) | omega
 all_goals (apply Fin.go hK; clear hK K)
 simp only [tN]
 apply Run.seq
 apply Run.seq
 refine opsF oo15 fun K hK => ?_
 try simp
 repeat' first | (refine evL_c ?_; simp [-List.map_set, hn, hk, hw, hwd, hfl, hw1, hw2, hw3, ho1, ho2, ho3, ho4, ho5, ho6]) | (with_reducible first | apply aI | intro _ | assumption) | omega
 all_goals (apply Fin.go hK; clear hK K)
 simp only [tN]
 apply Run.seq
 refine opsF oo16 fun K hK => ?_
 try simp
 repeat' first | ((first | refine evL_c ?_ | (refine evL_g rfl ?_; try simp only [gs_tt, gs_ff, gs_tf, gs_ft]) | refine evL_u rfl ?_ | (with_reducible refine gsplit (fun hg => ?_) (fun hg => ?_) <;> try simp at hg)) <;> try simp [-List.map_set, hn, hk, hw, hwd, hfl, hw1, hw2, hw3, ho1, ho2, ho3, ho4, ho5, ho6]) | (with_reducible first | apply aI | intro _ | assumption) | omega
 all_goals (apply Fin.go hK; clear hK K)
 all_goals
  simp only [tN]
  refine Run.cond rfl (fun h33 => ?_) (fun h33 => ?_)
  ·skip
   apply Run.seq
   refine opsF oo32 fun K hK => ?_
   try simp
   repeat' first | (refine evL_c ?_; simp [-List.map_set, hn, hk, hw, hwd, hfl, hw1, hw2, hw3, ho1, ho2, ho3, ho4, ho5, ho6]) | (with_reducible first | apply aI | intro _ | assumption) | omega
   all_goals (apply Fin.go hK; clear hK K)
   simp only [tN]
   apply Run.ret
   try simp only [Then_ret, Blok_ret]
   simp
  ·simp at h33
end Go.Proofs.Ytimgbdkgjfbhkaa.Z
end
section
namespace Go.Proofs.Ytimgbdkgjfbhkaa.Z
open Go Go.Fw
set_option maxHeartbeats 4000000 in
theorem boundN4b_ok (c : CoreT) (p : PlanT) (hP : patS c.nodes c.edges = true) (hop : p.op = 4) (hkl : p.kids.length = 2) (IH : Snd P 43 [.d (.ag (encC c ++ [D.int c.nodes.length])), .d (.ag (encP (rdI p.kids 0)))] (resB (bndT c (rdI p.kids 0))) (stoB (bndT c (rdI p.kids 0)))) (IH2 : Snd P 43 [.d (.ag (encC c ++ [D.int c.nodes.length])), .d (.ag (encP (rdI p.kids 1)))] (resB (bndT c (rdI p.kids 1))) (stoB (bndT c (rdI p.kids 1)))) (b0 : List Bool) (hq : bndT c (rdI p.kids 0) = some b0) (hb0 : b0.length = c.nodes.length + c.edges.length) (hr : bndT c (rdI p.kids 1) = none) : Snd P 43 [.d (.ag (encC c ++ [D.int c.nodes.length])), .d (.ag (encP p))] vnil [] := by
 obtain ⟨hn1, hn8, hk8⟩ := pat_rng hP
 have hE := goodE_of hP
 obtain ⟨n, hn⟩ : ∃ k, c.nodes.length = k := ⟨_, rfl⟩
 obtain ⟨k, hk⟩ : ∃ k, c.edges.length = k := ⟨_, rfl⟩
 rw [hn] at hn1 hn8
 rw [hk] at hk8
 obtain ⟨fb, hfb⟩ : ∃ fb, List.replicate (n + k) false = fb := ⟨_, rfl⟩
 have hfl : fb.length = n + k := by rw [← hfb]; simp
 have hwd : ((n:Int) + k).toNat = n + k := by omega
 have hw : IntKind.i64.wrap ((n:Int) + k) = (n:Int) + k := wrap_id (by omega) (by omega)
 have hw1 : 0 < n + k := by omega
 have hw2 : (n:Int) + k ≤ 140737488355328 := by omega
 have hw3 : (0:Int) ≤ (n:Int) + k := by omega
 have hb0n : b0.length = n + k := by rw [hb0, hn, hk]
 simp only [hq, resB, stoB, encP_cells, hn, hb0n] at IH
 simp only [hr, resB, stoB, encP_cells, hn] at IH2
 refine snd_of [] Try.func43 rfl (by kernel_rfl) Try.ntmps43 (by simp) ?_
 unfold Try.f43
 simp only [List.cons_append, List.nil_append, List.length_cons, List.length_nil, Nat.reduceAdd, Nat.reduceSub, List.replicate]
 apply Run.seq
 refine opsF oo13 fun K hK => ?_
 try simp
 repeat' first | (refine evL_c ?_; simp [-List.map_set, hn, hk, hop, hkl, hw, hwd, hfl, hw1, hw2, hw3]) | (with_reducible first | apply aI | intro _ | assumption) | omega
 all_goals (apply Fin.go hK; clear hK K)
 simp only [tN]
 apply Run.seq
 refine opsF oo14 fun K hK => ?_
 try simp
 repeat' first | (refine evL_c ?_; simp [-List.map_set, hn, hk, hop, hkl, hw, hwd, hfl, hw1, hw2, hw3]) | (with_reducible first | apply aI | intro _ | assumption) | omega
 all_goals (apply Fin.go hK; clear hK K)
 simp only [tN]
 apply Run.seq
 apply Run.seq
 refine opsF oo15 fun K hK => ?_
 try simp
 repeat' first | (refine evL_c ?_; simp [-List.map_set, hn, hk, hop, hkl, hw, hwd, hfl, hw1, hw2, hw3]) | (with_reducible first | apply aI | intro _ | assumption) | omega
 all_goals (apply Fin.go hK; clear hK K)
 simp only [tN]
 apply Run.seq
 refine opsF oo16 fun K hK => ?_
 try simp
 repeat' first | ((first | refine evL_c ?_ | (refine evL_g rfl ?_; try simp only [gs_tt, gs_ff, gs_tf, gs_ft]) | refine evL_u rfl ?_ | (with_reducible refine gsplit (fun hg => ?_) (fun hg => ?_) <;> try simp at hg)) <;> try simp [-List.map_set, hn, hk, hop, hkl, hw, hwd, hfl, hw1, hw2, hw3]) | (with_reducible first | apply aI | intro _ | assumption) | omega
 all_goals (apply Fin.go hK; clear hK K)
 all_goals
  simp only [tN]
  refine Run.cond rfl (fun h33 => ?_) (fun h33 => ?_)
  ·simp at h33
  ·skip
   apply Run.skip
   simp only [tN]
   refine Run.cut [8, 34, 35, 36, 37, 38, 39, 40, 41, 42] [(8, .rs 4300 1 0 1)] [(300, .vals ((encC c ++ [D.int c.nodes.length]).map .d)), (400, .vals ((encP p).map .d)), (4200, .data 1 (fb.map encB)), (4300, .vals [.rs 4200 1 0 (n + k)])] ?_ ?_
   ·refine opsF oo17 fun K hK => ?_
    try simp
    repeat' first | (refine evL_c ?_; simp [-List.map_set, hn, hk, hop, hkl, hw, hwd, hfl, hw1, hw2, hw3]) | (with_reducible first | apply aI | intro _ | assumption) | omega
    all_goals (apply Fin.go hK; clear hK K)
    first | (simp [-List.map_set, hn, hk, hop, hkl, hw, hwd, hfl, hw1, hw2, hw3, ← hfb]; done)
   ·simp only [over, List.foldl, List.set]
    apply Run.seq
    apply Run.seq
    refine opsF oo18 fun K hK => ?_
    try simp
    repeat' first | (refine evL_c ?_; simp [-List.map_set, hn, hk, hop, hkl, hw, hwd, hfl, hw1, hw2, hw3]) | (with_reducible first | apply aI | intro _ | assumption) | omega
    all_goals (apply Fin.go hK; clear hK K)
    simp only [tN]
    apply Run.block
    refine Run.loopO [4, 8, 10, 11, 46, 47, 48, 49, 50, 51, 52, 53, 54, 55, 56, 57, 58, 59] (fun (x : Nat) => [(46, .int x), (8, match x with | 0 => .rs 4300 1 0 1 | 1 => .rs 5900 1 0 2 | _ => .rs 5900 1 0 3)]) (fun (x : Nat) => match x with | 0 => [(300, .vals ((encC c ++ [D.int c.nodes.length]).map .d)), (400, .vals ((encP p).map .d)), (4200, .data 1 (fb.map encB)), (4300, .vals [.rs 4200 1 0 (n + k)])] | 1 => [(300, .vals ((encC c ++ [D.int c.nodes.length]).map .d)), (400, .vals ((encP p).map .d)), (4200, .data 1 (fb.map encB)), (5900, .vals [.rs 4200 1 0 (n + k), .rs 1100000 1 0 (n + k)]), (1100000, .data 1 (b0.map encB))] | _ => []) (fun (x : Nat) => x = 0 ∨ x = 1) (fun (x : Nat) => 2 - x) 0 (by simp) (by simp [-List.map_set, hn, hk, hop, hkl, hw, hwd, hfl, hw1, hw2, hw3]) fun x hx => ?_
    rcases hx with rfl | rfl
    ·simp only [over, List.foldl, List.set]
     apply Run.seq
     refine opsF oo19 fun K hK => ?_
     try simp
     repeat' first | (refine evL_c ?_; simp [-List.map_set, hn, hk, hop, hkl, hw, hwd, hfl, hw1, hw2, hw3]) | (with_reducible first | apply aI | intro _ | assumption) | omega
     all_goals (apply Fin.go hK; clear hK K)
     simp only [tN]
     apply Run.seq
     refine Run.cond rfl (fun h47 => ?_) (fun h47 => ?_)
     ·skip
      apply Run.skip
      simp only [tN]
      apply Run.seq
      apply Run.block
      apply Run.seq
      refine opsF oo20 fun K hK => ?_
      try simp
      repeat' first | (refine evL_c ?_; simp [-List.map_set, hn, hk, hop, hkl, hw, hwd, hfl, hw1, hw2, hw3]) | (with_reducible first | apply aI | intro _ | assumption) | omega
      all_goals (apply Fin.go hK; clear hK K)
      simp only [tN]
      apply Run.seq
      refine opsF oo21 fun K hK => ?_
      try simp
      repeat' first | (refine ecall (by have h := IH; exact h) rfl ?_) | (refine evL_c ?_; simp [-List.map_set, hn, hk, hop, hkl, hw, hwd, hfl, hw1, hw2, hw3]) | (with_reducible first | apply aI | intro _ | assumption) | omega
      all_goals (apply Fin.go hK; clear hK K)
      simp only [tN]
      apply Run.seq
      apply Run.seq
      refine opsF oo22 fun K hK => ?_
      try simp
      repeat' first | (refine evL_c ?_; simp [-List.map_set, hn, hk, hop, hkl, hw, hwd, hfl, hw1, hw2, hw3]) | (with_reducible first | apply aI | intro _ | assumption) | omega
      all_goals (apply Fin.go hK; clear hK K)
      simp only [tN]
      refine Run.cond rfl (fun h54 => ?_) (fun h54 => ?_)
      ·simp at h54
      ·skip
       apply Run.skip
       simp only [tN]
       refine opsF oo23 fun K hK => ?_
       try simp
       repeat' first | (refine evL_c ?_; simp [-List.map_set, hn, hk, hop, hkl, hw, hwd, hfl, hw1, hw2, hw3]) | (with_reducible first | apply aI | intro _ | assumption) | omega
       all_goals (apply Fin.go hK; clear hK K)
       simp only [Blok_normal]
       simp only [tN]
       refine Run.ren 5300 1100000 (by omega) (by omega) (by simp) (by simp) ?_
       refine opsF oo24 fun K hK => ?_
       try simp
       repeat' first | (refine evL_c ?_; simp [-List.map_set, hn, hk, hop, hkl, hw, hwd, hfl, hw1, hw2, hw3]) | (with_reducible first | apply aI | intro _ | assumption) | omega
       all_goals (apply Fin.go hK; clear hK K)
       refine ⟨1, .inr rfl, by omega, ?_⟩
       simp (disch := omega) [-List.map_set, hn, hk, hop, hkl, hw, hwd, hfl, hw1, hw2, hw3, hb0n, wrap_id]
     ·simp at h47
    ·simp only [over, List.foldl, List.set]
     apply Run.seq
     refine opsF oo19 fun K hK => ?_
     try simp
     repeat' first | (refine evL_c ?_; simp [-List.map_set, hn, hk, hop, hkl, hw, hwd, hfl, hw1, hw2, hw3]) | (with_reducible first | apply aI | intro _ | assumption) | omega
     all_goals (apply Fin.go hK; clear hK K)
     simp only [tN]
     apply Run.seq
     refine Run.cond rfl (fun h47 => ?_) (fun h47 => ?_)
     ·skip
      apply Run.skip
      simp only [tN]
      apply Run.seq
      apply Run.block
      apply Run.seq
      refine opsF oo20 fun K hK => ?_
      try simp
      repeat' first | (refine evL_c ?_; simp [-List.map_set, hn, hk, hop, hkl, hw, hwd, hfl, hw1, hw2, hw3]) | (with_reducible first | apply aI | intro _ | assumption) | omega
      all_goals (apply Fin.go hK; clear hK K)
      simp only [tN]
      apply Run.seq
      refine opsF oo21 fun K hK => ?_
      try simp
      repeat' first | (refine ecall (by have h := IH2; exact h) rfl ?_) | (refine evL_c ?_; simp [-List.map_set, hn, hk, hop, hkl, hw, hwd, hfl, hw1, hw2, hw3]) | (with_reducible first | apply aI | intro _ | assumption) | omega
      all_goals (apply Fin.go hK; clear hK K)
      simp only [tN]
      apply Run.seq
      apply Run.seq
      refine opsF oo22 fun K hK => ?_
      try simp
      repeat' first | (refine evL_c ?_; simp [-List.map_set, hn, hk, hop, hkl, hw, hwd, hfl, hw1, hw2, hw3]) | (with_reducible first | apply aI | intro _ | assumption) | omega
      all_goals (apply Fin.go hK; clear hK K)
      simp only [tN]
      refine Run.cond rfl (fun h54 => ?_) (fun h54 => ?_)
      ·skip
       apply Run.seq
       refine opsF oo32 fun K hK => ?_
       try simp
       repeat' first | (refine evL_c ?_; simp [-List.map_set, hn, hk, hop, hkl, hw, hwd, hfl, hw1, hw2, hw3]) | (with_reducible first | apply aI | intro _ | assumption) | omega
       all_goals (apply Fin.go hK; clear hK K)
       simp only [tN]
       refine Run.drop [] (by simp) ?_
       apply Run.ret
       try simp only [Then_ret, Blok_ret]
       simp
      ·simp at h54
     ·simp at h47
set_option maxHeartbeats 4000000 in
theorem bound4_ok (c : CoreT) (p : PlanT) (hP : patS c.nodes c.edges = true) (hop : p.op = 4) (hkl : p.kids.length = 2) (IH : Snd P 43 [.d (.ag (encC c ++ [D.int c.nodes.length])), .d (.ag (encP (rdI p.kids 0)))] (resB (bndT c (rdI p.kids 0))) (stoB (bndT c (rdI p.kids 0)))) (IH2 : Snd P 43 [.d (.ag (encC c ++ [D.int c.nodes.length])), .d (.ag (encP (rdI p.kids 1)))] (resB (bndT c (rdI p.kids 1))) (stoB (bndT c (rdI p.kids 1)))) (b0 b1 : List Bool) (hq : bndT c (rdI p.kids 0) = some b0) (hb0 : b0.length = c.nodes.length + c.edges.length) (hr : bndT c (rdI p.kids 1) = some b1) (hb1 : b1.length = c.nodes.length + c.edges.length) : Snd P 43 [.d (.ag (encC c ++ [D.int c.nodes.length])), .d (.ag (encP p))] (resB (opS c p [b0, b1])) (stoB (opS c p [b0, b1])) := by
 obtain ⟨hn1, hn8, hk8⟩ := pat_rng hP
 have hE := goodE_of hP
 obtain ⟨n, hn⟩ : ∃ k, c.nodes.length = k := ⟨_, rfl⟩
 obtain ⟨k, hk⟩ : ∃ k, c.edges.length = k := ⟨_, rfl⟩
 rw [hn] at hn1 hn8
 rw [hk] at hk8
 obtain ⟨fb, hfb⟩ : ∃ fb, List.replicate (n + k) false = fb := ⟨_, rfl⟩
 have hfl : fb.length = n + k := by rw [← hfb]; simp
 have hwd : ((n:Int) + k).toNat = n + k := by omega
 have hw : IntKind.i64.wrap ((n:Int) + k) = (n:Int) + k := wrap_id (by omega) (by omega)
 have hw1 : 0 < n + k := by omega
 have hw2 : (n:Int) + k ≤ 140737488355328 := by omega
 have hw3 : (0:Int) ≤ (n:Int) + k := by omega
 have hb0n : b0.length = n + k := by rw [hb0, hn, hk]
 have hb1n : b1.length = n + k := by rw [hb1, hn, hk]
 simp only [hq, resB, stoB, encP_cells, hn, hb0n] at IH
 simp only [hr, resB, stoB, encP_cells, hn, hb1n] at IH2
 refine snd_of [5300] Try.func43 rfl (by kernel_rfl) Try.ntmps43 (by simp) ?_
 unfold Try.f43
 simp only [List.cons_append, List.nil_append, List.length_cons, List.length_nil, Nat.reduceAdd, Nat.reduceSub, List.replicate]
 apply Run.seq
 refine opsF oo13 fun K hK => ?_
 try simp
 repeat' first | (refine evL_c ?_; simp [-List.map_set, hn, hk, hop, hkl, hw, hwd, hfl, hw1, hw2, hw3]) | (with_reducible first | apply aI | intro _ | assumption) | omega
 all_goals (apply Fin.go hK; clear hK K)
 simp only [tN]
 apply Run.seq
 refine opsF oo14 fun K hK => ?_
 try simp
 repeat' first | (refine evL_c ?_; simp [-List.map_set, hn, hk, hop, hkl, hw, hwd, hfl, hw1, hw2, hw3]) | (with_reducible first | apply aI | intro _ | assumption) | omega
 all_goals (apply Fin.go hK; clear hK K)
 simp only [tN]
 apply Run.seq
 apply Run.seq
 refine opsF oo15 fun K hK => ?_
 try simp
 repeat' first | (refine evL_c ?_; simp [-List.map_set, hn, hk, hop, hkl, hw, hwd, hfl, hw1, hw2, hw3]) | (with_reducible first | apply aI | intro _ | assumption) | omega
 all_goals (apply Fin.go hK; clear hK K)
 simp only [tN]
 apply Run.seq
 refine opsF oo16 fun K hK => ?_
 try simp
 repeat' first | ((first | refine evL_c ?_ | (refine evL_g rfl ?_; try simp only [gs_tt, gs_ff, gs_tf, gs_ft]) | refine evL_u rfl ?_ | (with_reducible refine gsplit (fun hg => ?_) (fun hg => ?_) <;> try simp at hg)) <;> try simp [-List.map_set, hn, hk, hop, hkl, hw, hwd, hfl, hw1, hw2, hw3]) | (with_reducible first | apply aI | intro _ | assumption) | omega
 all_goals (apply Fin.go hK; clear hK K)
 all_goals
  simp only [tN]
  refine Run.cond rfl (fun h33 => ?_) (fun h33 => ?_)
  ·simp at h33
  ·skip
   apply Run.skip
   simp only [tN]
   refine Run.cut [8, 34, 35, 36, 37, 38, 39, 40, 41, 42] [(8, .rs 4300 1 0 1)] [(300, .vals ((encC c ++ [D.int c.nodes.length]).map .d)), (400, .vals ((encP p).map .d)), (4200, .data 1 (fb.map encB)), (4300, .vals [.rs 4200 1 0 (n + k)])] ?_ ?_
   ·refine opsF oo17 fun K hK => ?_
    try simp
    repeat' first | (refine evL_c ?_; simp [-List.map_set, hn, hk, hop, hkl, hw, hwd, hfl, hw1, hw2, hw3]) | (with_reducible first | apply aI | intro _ | assumption) | omega
    all_goals (apply Fin.go hK; clear hK K)
    first | (simp [-List.map_set, hn, hk, hop, hkl, hw, hwd, hfl, hw1, hw2, hw3, ← hfb]; done)
   ·simp only [over, List.foldl, List.set]
    apply Run.seq
    apply Run.seq
    refine opsF oo18 fun K hK => ?_
    try simp
    repeat' first | (refine evL_c ?_; simp [-List.map_set, hn, hk, hop, hkl, hw, hwd, hfl, hw1, hw2, hw3]) | (with_reducible first | apply aI | intro _ | assumption) | omega
    all_goals (apply Fin.go hK; clear hK K)
    simp only [tN]
    apply Run.block
    refine Run.loopO [4, 8, 10, 11, 46, 47, 48, 49, 50, 51, 52, 53, 54, 55, 56, 57, 58, 59] (fun (x : Nat) => [(46, .int x), (8, match x with | 0 => .rs 4300 1 0 1 | 1 => .rs 5900 1 0 2 | _ => .rs 5900 1 0 3)]) (fun (x : Nat) => match x with | 0 => [(300, .vals ((encC c ++ [D.int c.nodes.length]).map .d)), (400, .vals ((encP p).map .d)), (4200, .data 1 (fb.map encB)), (4300, .vals [.rs 4200 1 0 (n + k)])] | 1 => [(300, .vals ((encC c ++ [D.int c.nodes.length]).map .d)), (400, .vals ((encP p).map .d)), (4200, .data 1 (fb.map encB)), (5900, .vals [.rs 4200 1 0 (n + k), .rs 1100000 1 0 (n + k)]), (1100000, .data 1 (b0.map encB))] | _ => [(300, .vals ((encC c ++ [D.int c.nodes.length]).map .d)), (400, .vals ((encP p).map .d)), (4200, .data 1 (fb.map encB)), (5300, .data 1 (b1.map encB)), (5900, .vals [.rs 4200 1 0 (n + k), .rs 1100000 1 0 (n + k), .rs 5300 1 0 (n + k)]), (1100000, .data 1 (b0.map encB))]) (fun (x : Nat) => x = 0 ∨ x = 1 ∨ x = 2) (fun (x : Nat) => 2 - x) 0 (by simp) (by simp [-List.map_set, hn, hk, hop, hkl, hw, hwd, hfl, hw1, hw2, hw3]) fun x hx => ?_
    rcases hx with rfl | rfl | rfl
    ·simp only [over, List.foldl, List.set]
     apply Run.seq
     refine opsF oo19 fun K hK => ?_
     try simp
     repeat' first | (refine evL_c ?_; simp [-List.map_set, hn, hk, hop, hkl, hw, hwd, hfl, hw1, hw2, hw3]) | (with_reducible first | apply aI | intro _ | assumption) | omega
     all_goals (apply Fin.go hK; clear hK K)
     simp only [tN]
     apply Run.seq
     refine Run.cond rfl (fun h47 => ?_) (fun h47 => ?_)
     ·skip
      apply Run.skip
      simp only [tN]
      apply Run.seq
      apply Run.block
      apply Run.seq
      refine opsF oo20 fun K hK => ?_
      try simp
      repeat' first | (refine evL_c ?_; simp [-List.map_set, hn, hk, hop, hkl, hw, hwd, hfl, hw1, hw2, hw3]) | (with_reducible first | apply aI | intro _ | assumption) | omega
      all_goals (apply Fin.go hK; clear hK K)
      simp only [tN]
      apply Run.seq
      refine opsF oo21 fun K hK => ?_
      try simp
      repeat' first | (refine ecall (by have h := IH; exact h) rfl ?_) | (refine evL_c ?_; simp [-List.map_set, hn, hk, hop, hkl, hw, hwd, hfl, hw1, hw2, hw3]) | (with_reducible first | apply aI | intro _ | assumption) | omega
      all_goals (apply Fin.go hK; clear hK K)
      simp only [tN]
      apply Run.seq
      apply Run.seq
      refine opsF oo22 fun K hK => ?_
      try simp
      repeat' first | (refine evL_c ?_; simp [-List.map_set, hn, hk, hop, hkl, hw, hwd, hfl, hw1, hw2, hw3]) | (with_reducible first | apply aI | intro _ | assumption) | omega
      all_goals (apply Fin.go hK; clear hK K)
      simp only [tN]
      refine Run.cond rfl (fun h54 => ?_) (fun h54 => ?_)
      ·simp at h54
      ·skip
       apply Run.skip
       simp only [tN]
       refine opsF oo23 fun K hK => ?_
       try simp
       repeat' first | (refine evL_c ?_; simp [-List.map_set, hn, hk, hop, hkl, hw, hwd, hfl, hw1, hw2, hw3]) | (with_reducible first | apply aI | intro _ | assumption) | omega
       all_goals (apply Fin.go hK; clear hK K)
       simp only [Blok_normal]
       simp only [tN]
       refine Run.ren 5300 1100000 (by omega) (by omega) (by simp) (by simp) ?_
       refine opsF oo24 fun K hK => ?_
       try simp
       repeat' first | (refine evL_c ?_; simp [-List.map_set, hn, hk, hop, hkl, hw, hwd, hfl, hw1, hw2, hw3]) | (with_reducible first | apply aI | intro _ | assumption) | omega
       all_goals (apply Fin.go hK; clear hK K)
       refine ⟨1, .inr (.inl rfl), by omega, ?_⟩
       simp (disch := omega) [-List.map_set, hn, hk, hop, hkl, hw, hwd, hfl, hw1, hw2, hw3, hb0n, wrap_id]
     ·simp at h47
    ·simp only [over, List.foldl, List.set]
     apply Run.seq
     refine opsF oo19 fun K hK => ?_
     try simp
     repeat' first | (refine evL_c ?_; simp [-List.map_set, hn, hk, hop, hkl, hw, hwd, hfl, hw1, hw2, hw3]) | (with_reducible first | apply aI | intro _ | assumption) | omega
     all_goals (apply Fin.go hK; clear hK K)
     simp only [tN]
     apply Run.seq
     refine Run.cond rfl (fun h47 => ?_) (fun h47 => ?_)
     ·skip
      apply Run.skip
      simp only [tN]
      apply Run.seq
      apply Run.block
      apply Run.seq
      refine opsF oo20 fun K hK => ?_
      try simp
      repeat' first | (refine evL_c ?_; simp [-List.map_set, hn, hk, hop, hkl, hw, hwd, hfl, hw1, hw2, hw3]) | (with_reducible first | apply aI | intro _ | assumption) | omega
      all_goals (apply Fin.go hK; clear hK K)
      simp only [tN]
      apply Run.seq
      refine opsF oo21 fun K hK => ?_
      try simp
      repeat' first | (refine ecall (by have h := IH2; exact h) rfl ?_) | (refine evL_c ?_; simp [-List.map_set, hn, hk, hop, hkl, hw, hwd, hfl, hw1, hw2, hw3]) | (with_reducible first | apply aI | intro _ | assumption) | omega
      all_goals (apply Fin.go hK; clear hK K)
      simp only [tN]
      apply Run.seq
      apply Run.seq
      refine opsF oo22 fun K hK => ?_
      try simp
      repeat' first | (refine evL_c ?_; simp [-List.map_set, hn, hk, hop, hkl, hw, hwd, hfl, hw1, hw2, hw3]) | (with_reducible first | apply aI | intro _ | assumption) | omega
      all_goals (apply Fin.go hK; clear hK K)
      simp only [tN]
      refine Run.cond rfl (fun h54 => ?_) (fun h54 => ?_)
      ·simp at h54
      ·skip
       apply Run.skip
       simp only [tN]
       refine opsF oo23 fun K hK => ?_
       try simp
       repeat' first | (refine evL_c ?_; simp [-List.map_set, hn, hk, hop, hkl, hw, hwd, hfl, hw1, hw2, hw3]) | (with_reducible first | apply aI | intro _ | assumption) | omega
       all_goals (apply Fin.go hK; clear hK K)
       simp only [Blok_normal]
       simp only [tN]
       refine opsF oo24 fun K hK => ?_
       try simp
       repeat' first | (refine evL_c ?_; simp [-List.map_set, hn, hk, hop, hkl, hw, hwd, hfl, hw1, hw2, hw3]) | (with_reducible first | apply aI | intro _ | assumption) | omega
       all_goals (apply Fin.go hK; clear hK K)
       refine ⟨2, .inr (.inr rfl), by omega, ?_⟩
       simp (disch := omega) [-List.map_set, hn, hk, hop, hkl, hw, hwd, hfl, hw1, hw2, hw3, hb0n, hb1n, wrap_id]
     ·simp at h47
    ·simp only [over, List.foldl, List.set]
     apply Run.seq
     refine opsF oo19 fun K hK => ?_
     try simp
     repeat' first | (refine evL_c ?_; simp [-List.map_set, hn, hk, hop, hkl, hw, hwd, hfl, hw1, hw2, hw3]) | (with_reducible first | apply aI | intro _ | assumption) | omega
     all_goals (apply Fin.go hK; clear hK K)
     simp only [tN]
     apply Run.seq
     refine Run.cond rfl (fun h47 => ?_) (fun h47 => ?_)
     ·simp at h47
     ·skip
      refine Run.exit ?_
      simp (decide := true) only [Then_exit, Blok_exit, if_true, if_false]
      simp only [tN]
      apply Run.seq
      refine opsF oo25 fun K hK => ?_
      try simp
      repeat' first | (refine evL_c ?_; simp [-List.map_set, hn, hk, hop, hkl, hw, hwd, hfl, hw1, hw2, hw3]) | (with_reducible first | apply aI | intro _ | assumption) | omega
      all_goals (apply Fin.go hK; clear hK K)
      simp only [tN]
      apply Run.seq
      refine opsF oo26 fun K hK => ?_
      try simp
      repeat' first | (refine evL_c ?_; simp [-List.map_set, hn, hk, hop, hkl, hw, hwd, hfl, hw1, hw2, hw3]) | (with_reducible first | apply aI | intro _ | assumption) | omega
      all_goals (apply Fin.go hK; clear hK K)
      simp only [tN]
      apply Run.seq
      apply Run.seq
      refine opsF oo27 fun K hK => ?_
      try simp
      repeat' first | (refine evL_c ?_; simp [-List.map_set, hn, hk, hop, hkl, hw, hwd, hfl, hw1, hw2, hw3]) | (with_reducible first | apply aI | intro _ | assumption) | omega
      all_goals (apply Fin.go hK; clear hK K)
      simp only [tN]
      apply Run.block
      apply Run.seq
      refine opsF oo28 fun K hK => ?_
      try simp
      repeat' first | (refine evL_c ?_; simp [-List.map_set, hn, hk, hop, hkl, hw, hwd, hfl, hw1, hw2, hw3]) | (with_reducible first | apply aI | intro _ | assumption) | omega
      all_goals (apply Fin.go hK; clear hK K)
      simp only [tN]
      refine Run.cond rfl (fun h68 => ?_) (fun h68 => ?_)
      ·simp at h68
      ·skip
       apply Run.seq
       apply Run.seq
       refine opsF oo29 fun K hK => ?_
       try simp
       repeat' first | (refine evL_c ?_; simp [-List.map_set, hn, hk, hop, hkl, hw, hwd, hfl, hw1, hw2, hw3]) | (with_reducible first | apply aI | intro _ | assumption) | omega
       all_goals (apply Fin.go hK; clear hK K)
       simp only [tN]
       refine Run.cond rfl (fun h85 => ?_) (fun h85 => ?_)
       ·simp at h85
       ·skip
        refine opsF oo34 fun K hK => ?_
        try simp
        repeat' first | (refine evL_c ?_; simp [-List.map_set, hn, hk, hop, hkl, hw, hwd, hfl, hw1, hw2, hw3]) | (with_reducible first | apply aI | intro _ | assumption) | omega
        all_goals (apply Fin.go hK; clear hK K)
        simp only [tN]
        refine Run.cond rfl (fun h85 => ?_) (fun h85 => ?_)
        ·simp at h85
        ·skip
         apply Run.seq
         refine opsF oo35 fun K hK => ?_
         try simp
         repeat' first | (refine evL_c ?_; simp [-List.map_set, hn, hk, hop, hkl, hw, hwd, hfl, hw1, hw2, hw3]) | (with_reducible first | apply aI | intro _ | assumption) | omega
         all_goals (apply Fin.go hK; clear hK K)
         simp only [tN]
         refine Run.cond rfl (fun h92 => ?_) (fun h92 => ?_)
         ·skip
          apply Run.seq
          refine opsF [oM 8 94, ⟨.indexAddr 77 (.tmp 94) (.const (.int .i64 1)), some 95, none⟩, oL 34 95 96, oN 34 96 97, ⟨.move (.const (.int .i64 0)), some 98, none⟩] fun K hK => ?_
          try simp
          repeat' first | (refine evL_c ?_; simp [-List.map_set, hn, hk, hop, hkl, hw, hwd, hfl, hw1, hw2, hw3]) | (with_reducible first | apply aI | intro _ | assumption) | omega
          all_goals (apply Fin.go hK; clear hK K)
          simp only [tN]
          apply Run.block
          refine Run.loopO [13, 14, 15, 98, 99, 100, 101, 102, 103, 104, 105, 106, 107, 108, 109, 110, 111, 112, 113, 114, 115, 116, 117, 118, 119, 120, 121, 122, 123, 124, 125, 126, 127, 128, 129, 130] (fun (i : Nat) => [(98, .int i), (13, .bool (jn n b0 b1 i).1)]) (fun (i : Nat) => [(300, .vals ((encC c ++ [D.int c.nodes.length]).map .d)), (400, .vals ((encP p).map .d)), (1300, .vals [.rs 5300 1 0 (n + k)]), (5300, .data 1 ((jn n b0 b1 i).2.map encB)), (1100000, .data 1 (b0.map encB))]) (fun (i : Nat) => i ≤ n + k) (fun (i : Nat) => n + k - i) 0 (by omega) (by simp [jn, -List.map_set, hn, hk, hop, hkl, hw, hwd, hfl, hw1, hw2, hw3]) fun i hi => ?_
          simp only [over, List.foldl, List.set]
          obtain ⟨⟨r, bb⟩, hj⟩ : ∃ x, jn n b0 b1 i = x := ⟨_, rfl⟩
          have hjl : bb.length = n + k := by have := jn_len n b0 b1 i; rw [hj] at this; exact this.trans hb1n
          apply Run.seq
          refine opsF [oB .lss 3 98 97 3 99] fun K hK => ?_
          try simp
          repeat' first | (refine evL_c ?_; simp [-List.map_set, hn, hk, hop, hkl, hw, hwd, hfl, hw1, hw2, hw3]) | (with_reducible first | apply aI | intro _ | assumption) | omega
          all_goals (apply Fin.go hK; clear hK K)
          simp only [tN]
          apply Run.seq
          refine Run.cond rfl (fun h99 => ?_) (fun h99 => ?_)
          ·try simp [hj] at h99
           have hi1 : i < n + k := by omega
           have hi2 : (i : Int) < (n : Int) + k := by omega
           apply Run.skip
           simp only [tN]
           apply Run.seq
           apply Run.block
           apply Run.seq
           refine opsF [oM 98 100, oI 34 96 98 101, oL 4 101 102, oA 100 14, oA 102 15] fun K hK => ?_
           try simp
           repeat' first | (refine evL_c ?_; simp [-List.map_set, hn, hk, hop, hkl, hw, hwd, hfl, hw1, hw2, hw3, hb0n, hi1, hj, hjl, hi2]) | (with_reducible first | apply aI | intro _ | assumption) | omega
           all_goals (apply Fin.go hK; clear hK K)
           simp only [tN]
           refine Run.cut [13, 103, 104, 105, 106, 107, 108, 109, 110, 111, 112, 113, 114, 115, 116, 117, 118, 119] [(13, .bool (r && !(rdI b0 i && (rdI bb i && decide ((n : Int) ≤ i)))))] [(300, .vals ((encC c ++ [D.int c.nodes.length]).map .d)), (400, .vals ((encP p).map .d)), (1300, .vals [.rs 5300 1 0 (n + k)]), (5300, .data 1 (bb.map encB)), (1100000, .data 1 (b0.map encB))] ?_ ?_
           ·refine opsF [oM 13 103, oM 103 104, ⟨.move (.tmp 15), some 105, some (some 104, true)⟩, ⟨.move (.tmp 105), some 106, some (some 104, true)⟩, ⟨.load 34 (.tmp 12), some 107, some (some 106, true)⟩, ⟨.move (.tmp 14), some 108, some (some 106, true)⟩, ⟨.indexAddr 34 (.tmp 107) (.tmp 108), some 109, some (some 106, true)⟩, ⟨.load 4 (.tmp 109), some 110, some (some 106, true)⟩, ⟨.pick (.tmp 106) (.tmp 110) (.const (.bool false)), some 111, some (some 104, true)⟩, ⟨.move (.tmp 111), some 112, some (some 104, true)⟩, ⟨.move (.tmp 14), some 113, some (some 112, true)⟩, ⟨.fieldAddr 112 (.tmp 2) 1, some 114, some (some 112, true)⟩, ⟨.load 3 (.tmp 114), some 115, some (some 112, true)⟩, ⟨.binOp .geq 3 (.tmp 113) (.tmp 115) 3, some 116, some (some 112, true)⟩, ⟨.pick (.tmp 112) (.tmp 116) (.const (.bool false)), some 117, some (some 104, true)⟩, ⟨.unOp .not 4 (.tmp 117), some 118, some (some 104, true)⟩, ⟨.pick (.tmp 104) (.tmp 118) (.const (.bool false)), some 119, none⟩, oA 119 13] fun K hK => ?_
            try simp
            repeat' first | ((first | refine evL_c ?_ | (refine evL_g rfl ?_; try simp only [gs_tt, gs_ff, gs_tf, gs_ft]) | refine evL_u rfl ?_ | (with_reducible refine gsplit (fun hg => ?_) (fun hg => ?_) <;> try simp at hg)) <;> try simp [-List.map_set, hn, hk, hop, hkl, hw, hwd, hfl, hw1, hw2, hw3, hb0n, hi1, hj, hjl, hi2, *]) | (with_reducible first | apply aI | intro _ | assumption) | omega
            all_goals (apply Fin.go hK; clear hK K)
            all_goals
             (try simp [-List.map_set, hn, hk, hop, hkl, hw, hwd, hfl, hw1, hw2, hw3, hb0n, hi1, hj, hjl, *]) <;> (first | omega | (simp; done) | grind | (simp_all; done) | (simp_all; omega))
           ·simp only [over, List.foldl, List.set]
            refine opsF [oL 34 12 120, oM 14 121, oL 34 12 122, oM 14 123, oI 34 122 123 124, oL 4 124 125, oM 125 126, ⟨.move (.tmp 15), some 127, some (some 126, false)⟩, ⟨.pick (.tmp 126) (.const (.bool true)) (.tmp 127), some 128, none⟩, oI 34 120 121 129, oS 4 129 128] fun K hK => ?_
            try simp
            repeat' first | ((first | refine evL_c ?_ | (refine evL_g rfl ?_; try simp only [gs_tt, gs_ff, gs_tf, gs_ft]) | refine evL_u rfl ?_ | (with_reducible refine gsplit (fun hg => ?_) (fun hg => ?_) <;> try simp at hg)) <;> try simp [-List.map_set, hn, hk, hop, hkl, hw, hwd, hfl, hw1, hw2, hw3, hb0n, hi1, hj, hjl, hi2]) | (with_reducible first | apply aI | intro _ | assumption) | omega
            all_goals (apply Fin.go hK; clear hK K)
            all_goals
             simp only [Blok_normal]
             simp only [tN]
             refine opsF [oK .add 3 98 1 3 130, oM 130 98] fun K hK => ?_
             try simp
             repeat' first | (refine evL_c ?_; simp [-List.map_set, hn, hk, hop, hkl, hw, hwd, hfl, hw1, hw2, hw3, hb0n, hi1, hj, hjl, hi2]) | (with_reducible first | apply aI | intro _ | assumption) | omega
             all_goals (apply Fin.go hK; clear hK K)
             refine ⟨i + 1, by omega, by omega, ?_⟩
             simp (disch := omega) [-List.map_set, hn, hk, hop, hkl, hw, hwd, hfl, hw1, hw2, hw3, hb0n, hi1, hj, hjl, wrap_id, jn, hg]
          ·try simp [hj] at h99
           have hi3 : i = n + k := by omega
           subst hi3
           refine Run.exit ?_
           simp (decide := true) only [Then_exit, Blok_exit, if_true, if_false]
           simp only [Blok_normal]
           simp only [tN]
           apply Run.seq
           apply Run.seq
           refine opsF oo31 fun K hK => ?_
           try simp
           repeat' first | (refine evL_c ?_; simp [-List.map_set, hn, hk, hop, hkl, hw, hwd, hfl, hw1, hw2, hw3, hj, hjl]) | (with_reducible first | apply aI | intro _ | assumption) | omega
           all_goals (apply Fin.go hK; clear hK K)
           simp only [tN]
           refine Run.cond rfl (fun h145 => ?_) (fun h145 => ?_)
           ·try simp at h145
            apply Run.seq
            refine opsF oo32 fun K hK => ?_
            try simp
            repeat' first | (refine evL_c ?_; simp [-List.map_set, hn, hk, hop, hkl, hw, hwd, hfl, hw1, hw2, hw3, hj, hjl]) | (with_reducible first | apply aI | intro _ | assumption) | omega
            all_goals (apply Fin.go hK; clear hK K)
            simp only [tN]
            refine Run.drop [] (by simp) ?_
            apply Run.ret
            try simp only [Then_ret, Blok_ret]
            first
             | (have e : opS c p [b0, b1] = none := by simp [opS, hop, hn, hk, hj]; simpa using h145
                rw [e]
                simp [resB, stoB, hn]; done)
             | (have e : opS c p [b0, b1] = some bb := by simp [opS, hop, hn, hk, hj]; simpa using h145
                rw [e]
                simp [-List.map_set, resB, stoB, hn, hjl]; done)
           ·try simp at h145
            apply Run.skip
            simp only [tN]
            apply Run.seq
            refine opsF oo33 fun K hK => ?_
            try simp
            repeat' first | (refine evL_c ?_; simp [-List.map_set, hn, hk, hop, hkl, hw, hwd, hfl, hw1, hw2, hw3, hj, hjl]) | (with_reducible first | apply aI | intro _ | assumption) | omega
            all_goals (apply Fin.go hK; clear hK K)
            simp only [tN]
            apply Run.ret
            try simp only [Then_ret, Blok_ret]
            first
             | (have e : opS c p [b0, b1] = none := by simp [opS, hop, hn, hk, hj]; simpa using h145
                rw [e]
                simp [resB, stoB, hn]; done)
             | (have e : opS c p [b0, b1] = some bb := by simp [opS, hop, hn, hk, hj]; simpa using h145
                rw [e]
                simp [-List.map_set, resB, stoB, hn, hjl]; done)
         ·simp at h92
end Go.Proofs.Ytimgbdkgjfbhkaa.Z
end
section
namespace Go.Proofs.Ytimgbdkgjfbhkaa.Z
open Go Go.Fw
theorem len_two {α : Type} {l : List α} (h : l.length = 2) : ∃ q r, l = [q, r] := by
 match l, h with
 | [q, r], _ => exact ⟨q, r, rfl⟩
theorem wants_op {o : Int} {w : Nat} (h : wants o = some w) : o = 1 ∨ o = 2 ∨ o = 3 ∨ o = 4 ∨ o = 5 ∨ o = 6 := by
 unfold wants at h
 split at h; · exact .inl ‹_›
 split at h; · exact .inr (.inl ‹_›)
 split at h; · exact .inr (.inr (.inl ‹_›))
 split at h; · exact .inr (.inr (.inr (.inl ‹_›)))
 split at h; · exact .inr (.inr (.inr (.inr (.inl ‹_›))))
 split at h; · exact .inr (.inr (.inr (.inr (.inr ‹_›))))
 cases h
theorem kids_lt {p q : PlanT} (h : q ∈ p.kids) : SizeOf.sizeOf q < SizeOf.sizeOf p := by
 cases p with
 | mk o k s e b t =>
   have := List.sizeOf_lt_of_mem (show q ∈ k from h)
   simp only [PlanT.mk.sizeOf_spec]
   omega
theorem opS_len {c : CoreT} {p : PlanT} {bs : List (List Bool)} {b : List Bool} (hw : wants p.op = some bs.length) (hb : ∀ x ∈ bs, x.length = c.nodes.length + c.edges.length) (h : opS c p bs = some b) : b.length = c.nodes.length + c.edges.length := by
 have g : ∀ i, i < bs.length → (bs.getD i []).length = c.nodes.length + c.edges.length := fun i hl => by
  rw [List.getD_eq_getElem?_getD, List.getElem?_eq_getElem hl]
  exact hb _ (List.getElem_mem hl)
 unfold opS at h
 split at h
 ·split at h
  ·obtain rfl := Option.some.inj h; simp
  ·cases h
 ·rename_i n1
  have h0 : p.op = 2 ∨ p.op = 3 ∨ p.op = 4 ∨ p.op = 5 ∨ p.op = 6 := (wants_op hw).resolve_left n1
  have hl : 0 < bs.length := by
   rcases h0 with e | e | e | e | e <;> · rw [e] at hw; simp [wants] at hw; omega
  split at h
  ·split at h
   ·obtain rfl := Option.some.inj h; rw [edgeL_len, g 0 hl]
   ·cases h
  ·split at h
   ·rename_i n3
    have hl2 : 1 < bs.length := by rw [n3] at hw; simp [wants] at hw; omega
    split at h
    ·obtain rfl := Option.some.inj h; rw [jn_len, g 1 hl2]
    ·cases h
   ·split at h
    ·split at h
     ·obtain rfl := Option.some.inj h; rw [meetR_len, g 0 hl]
     ·cases h
    ·split at h
     ·obtain rfl := Option.some.inj h; exact g 0 hl
     ·cases h
mutual
theorem bndT_len (c : CoreT) : ∀ (p : PlanT) (b : List Bool), bndT c p = some b → b.length = c.nodes.length + c.edges.length
 | .mk o k s e bk t, b, h => by
   rw [bndT] at h
   split at h
   ·rename_i hw
    obtain ⟨bs, h1, h2⟩ := Option.bind_eq_some_iff.1 h
    obtain ⟨h3, h4⟩ := bndL_len c k bs h1
    exact opS_len (p := .mk o k s e bk t) (by show wants o = _; rw [hw, h4]) h3 h2
   ·cases h
theorem bndL_len (c : CoreT) : ∀ (l : List PlanT) (bs : List (List Bool)), bndL c l = some bs → (∀ x ∈ bs, x.length = c.nodes.length + c.edges.length) ∧ bs.length = l.length
 | [], bs, h => by
   rw [bndL] at h
   obtain rfl := Option.some.inj h
   simp
 | p :: r, bs, h => by
   rw [bndL] at h
   obtain ⟨b, h1, h2⟩ := Option.bind_eq_some_iff.1 h
   obtain ⟨cs, h3, rfl⟩ := Option.map_eq_some_iff.1 h2
   have e1 := bndT_len c p b h1
   obtain ⟨e2, e3⟩ := bndL_len c r cs h3
   refine ⟨fun x hx => ?_, by simp [e3]⟩
   rcases List.mem_cons.1 hx with rfl | hx
   ·exact e1
   ·exact e2 x hx
end
theorem bnd_one {c : CoreT} {p : PlanT} (hl : p.kids.length = 1) (hw : wants p.op = some 1) : bndT c p = (bndT c (rdI p.kids 0)).bind fun b => opS c p [b] := by
 obtain ⟨q, hq⟩ := List.length_eq_one_iff.1 hl
 rw [bndT_eq, hl, if_pos hw, hq]
 show (bndL c [q]).bind _ = (bndT c q).bind _
 rw [bndL, bndL]
 cases bndT c q <;> rfl
theorem bnd_two {c : CoreT} {p : PlanT} (hl : p.kids.length = 2) (hw : wants p.op = some 2) : bndT c p = (bndT c (rdI p.kids 0)).bind fun a => (bndT c (rdI p.kids 1)).bind fun b => opS c p [a, b] := by
 obtain ⟨q, r, hq⟩ := len_two hl
 rw [bndT_eq, hl, if_pos hw, hq]
 show (bndL c [q, r]).bind _ = (bndT c q).bind fun a => (bndT c r).bind fun b => _
 rw [bndL, bndL, bndL]
 cases bndT c q <;> cases bndT c r <;> rfl
theorem kid_mem {p : PlanT} {i : Nat} (h : i < p.kids.length) : rdI p.kids (i : Int) ∈ p.kids := rdI_mem (by omega) (by omega)
mutual
def partsP : PlanT → Nat
 | .mk _ k _ e _ t => 1 + t.length + e.length + cntL t + partsL k
def partsL : List PlanT → Nat
 | [] => 0
 | p :: r => partsP p + partsL r
end
theorem partsP_eq (p : PlanT) : partsP p = 1 + p.terms.length + p.edges.length + cntL p.terms + partsL p.kids := by cases p; rw [partsP]; rfl
theorem cntL_mem {l : List TermT} {t : TermT} (h : t ∈ l) : cntT t ≤ cntL l := by
 induction l with
 | nil => cases h
 | cons x r ih =>
   rw [cntL]
   rcases List.mem_cons.1 h with rfl | h
   ·omega
   ·have := ih h; omega
theorem partsL_mem {l : List PlanT} {p : PlanT} (h : p ∈ l) : partsP p ≤ partsL l := by
 induction l with
 | nil => cases h
 | cons x r ih =>
   rw [partsL]
   rcases List.mem_cons.1 h with rfl | h
   ·omega
   ·have := ih h; omega
theorem term_fine {p : PlanT} {M : Nat} (hf : partsP p ≤ M) : ∀ t ∈ p.terms, cntT t ≤ M := fun t ht => by
 have := cntL_mem ht; rw [partsP_eq] at hf; omega
theorem kid_fine {p : PlanT} {M : Nat} (hf : partsP p ≤ M) {i : Nat} (hi : i < p.kids.length) : partsP (rdI p.kids (i : Int)) ≤ M := by
 have := partsL_mem (kid_mem hi); rw [partsP_eq] at hf; omega
theorem bound_ok (c : CoreT) (hP : patS c.nodes c.edges = true) (p : PlanT) (hf : partsP p ≤ 1100000) : Snd P 43 [.d (.ag (encC c ++ [D.int c.nodes.length])), .d (.ag (encP p))] (resB (bndT c p)) (stoB (bndT c p)) := by
 by_cases hw : wants p.op = some p.kids.length
 ·have h0 := wants_op hw
  have one : wants p.op = some 1 → p.kids.length = 1 → (∀ hq : bndT c (rdI p.kids 0) = none, Snd P 43 [.d (.ag (encC c ++ [D.int c.nodes.length])), .d (.ag (encP p))] vnil []) →
    (∀ b0, bndT c (rdI p.kids 0) = some b0 → b0.length = c.nodes.length + c.edges.length → Snd P 43 [.d (.ag (encC c ++ [D.int c.nodes.length])), .d (.ag (encP p))] (resB (opS c p [b0])) (stoB (opS c p [b0]))) → Snd P 43 [.d (.ag (encC c ++ [D.int c.nodes.length])), .d (.ag (encP p))] (resB (bndT c p)) (stoB (bndT c p)) := fun h1 h2 hn hs => by
   rw [bnd_one h2 h1]
   cases hq : bndT c (rdI p.kids 0) with
   | none => exact hn hq
   | some b0 => exact hs b0 hq (bndT_len c _ _ hq)
  have IH0 : 0 < p.kids.length → Snd P 43 [.d (.ag (encC c ++ [D.int c.nodes.length])), .d (.ag (encP (rdI p.kids 0)))] (resB (bndT c (rdI p.kids 0))) (stoB (bndT c (rdI p.kids 0))) := fun h =>
   have := kids_lt (kid_mem (i := 0) h)
   bound_ok c hP (rdI p.kids 0) (kid_fine (i := 0) hf h)
  have IH1 : 1 < p.kids.length → Snd P 43 [.d (.ag (encC c ++ [D.int c.nodes.length])), .d (.ag (encP (rdI p.kids 1)))] (resB (bndT c (rdI p.kids 1))) (stoB (bndT c (rdI p.kids 1))) := fun h =>
   have := kids_lt (kid_mem (i := 1) h)
   bound_ok c hP (rdI p.kids 1) (kid_fine (i := 1) hf h)
  rcases h0 with e | e | e | e | e | e
  ·have hl : p.kids.length = 0 := by rw [e] at hw; simp [wants] at hw; omega
   have h := bound1_ok c p hP e hl
   have e2 : bndT c p = opS c p [] := by
    rw [bndT_eq, if_pos hw, List.length_eq_zero_iff.1 hl, bndL]; rfl
   rw [e2]; exact h
  ·have hl : p.kids.length = 1 := by rw [e] at hw; simp [wants] at hw; omega
   exact one (by rw [hw, hl]) hl (fun hq => boundN2_ok c p hP e hl (IH0 (by omega)) hq) fun b0 hq hb => bound2_ok c p hP e hl (IH0 (by omega)) b0 hq hb
  ·have hl : p.kids.length = 1 := by rw [e] at hw; simp [wants] at hw; omega
   exact one (by rw [hw, hl]) hl (fun hq => boundN3_ok c p hP e hl (IH0 (by omega)) hq) fun b0 hq hb => bound3_ok c p hP e hl (IH0 (by omega)) b0 hq hb
  ·have hl : p.kids.length = 2 := by rw [e] at hw; simp [wants] at hw; omega
   rw [bnd_two hl (by rw [hw, hl])]
   cases hq : bndT c (rdI p.kids 0) with
   | none => exact boundN4_ok c p hP e hl (IH0 (by omega)) hq
   | some b0 =>
     have hb0 := bndT_len c _ _ hq
     cases hr : bndT c (rdI p.kids 1) with
     | none => exact boundN4b_ok c p hP e hl (IH0 (by omega)) (IH1 (by omega)) b0 hq hb0 hr
     | some b1 => exact bound4_ok c p hP e hl (IH0 (by omega)) (IH1 (by omega)) b0 b1 hq hb0 hr (bndT_len c _ _ hr)
  ·have hl : p.kids.length = 1 := by rw [e] at hw; simp [wants] at hw; omega
   exact one (by rw [hw, hl]) hl (fun hq => boundN5_ok c p hP e hl (IH0 (by omega)) hq) fun b0 hq hb => bound5_ok c p hP e hl (IH0 (by omega)) b0 hq hb
  ·have hl : p.kids.length = 1 := by rw [e] at hw; simp [wants] at hw; omega
   exact one (by rw [hw, hl]) hl (fun hq => boundN6_ok c p hP e hl (IH0 (by omega)) hq) fun b0 hq hb => bound6_ok c p hP e hl (IH0 (by omega)) b0 hq hb (term_fine hf)
 ·have e2 : bndT c p = none := by rw [bndT_eq, if_neg hw]
  rw [e2]
  show Snd P 43 _ vnil []
  by_cases e1 : p.op = 1
  ·exact boundX1_ok c p hP e1 (fun hl => hw (by rw [e1, hl]; rfl))
  by_cases e2 : p.op = 2
  ·exact boundX2_ok c p hP e2 (fun hl => hw (by rw [e2, hl]; rfl))
  by_cases e3 : p.op = 3
  ·exact boundX3_ok c p hP e3 (fun hl => hw (by rw [e3, hl]; rfl))
  by_cases e4 : p.op = 4
  ·exact boundX4_ok c p hP e4 (fun hl => hw (by rw [e4, hl]; rfl))
  by_cases e5 : p.op = 5
  ·exact boundX5_ok c p hP e5 (fun hl => hw (by rw [e5, hl]; rfl))
  by_cases e6 : p.op = 6
  ·exact boundX6_ok c p hP e6 (fun hl => hw (by rw [e6, hl]; rfl))
  exact boundX0_ok c p hP e1 e2 e3 e4 e5 e6
termination_by SizeOf.sizeOf p
def boundD (c : CoreT) (p : PlanT) : D × Int := if patS c.nodes c.edges then match bndT c p with
 | some b => (.sl false (b.map encB), 0)
 | none => (.lit (.slice none 0 0), 131) else (.lit (.slice none 0 0), 1)
theorem BoundA_ok (c : CoreT) (p : PlanT) (hf : partsP p ≤ 1100000) (hP : patS c.nodes c.edges = false) : Snd P 24 [.d (.ag (encP p)), .d (.ag (encC c))] (.tup [.d (.lit (.slice none 0 0)), .int 1]) [] := by
 have hP1 : Snd P 42 [.d (.ag (encC c))] (.bool false) [] := by rw [← hP]; exact pattern_ok c
 refine snd_of [] Try.func24 rfl (by kernel_rfl) Try.ntmps24 (by simp) ?_
 unfold Try.f24
 simp only [List.cons_append, List.nil_append, List.length_cons, List.length_nil, Nat.reduceAdd, Nat.reduceSub, List.replicate]
 apply Run.seq
 refine opsF oo37 fun K hK => ?_
 try simp
 repeat' first | (refine evL_c ?_; simp) | (with_reducible first | apply aI | intro _ | assumption) | omega
 all_goals (apply Fin.go hK; clear hK K)
 simp only [tN]
 apply Run.seq
 apply Run.seq
 refine opsF oo38 fun K hK => ?_
 try simp
 repeat' first | (refine ecallD (by exact hP1) ?_) | (refine evL_c ?_; simp) | (with_reducible first | apply aI | intro _ | assumption) | omega
 all_goals (apply Fin.go hK; clear hK K)
 simp only [tN]
 refine Run.cond rfl (fun h9 => ?_) (fun h9 => ?_)
 ·skip
  apply Run.seq
  refine opsF [⟨.assign (.const (.slice none 0 0)), some 4, none⟩, ⟨.assign (.const (.int .i64 1)), some 5, none⟩] fun K hK => ?_
  try simp
  repeat' first | (refine evL_c ?_; simp) | (with_reducible first | apply aI | intro _ | assumption) | omega
  all_goals (apply Fin.go hK; clear hK K)
  simp only [tN]
  apply Run.ret
  try simp only [Then_ret, Blok_ret]
  simp
 ·simp at h9
theorem BoundB_ok (c : CoreT) (p : PlanT) (hf : partsP p ≤ 1100000) (hP : patS c.nodes c.edges = true) (hb : bndT c p = none) : Snd P 24 [.d (.ag (encP p)), .d (.ag (encC c))] (.tup [.d (.lit (.slice none 0 0)), .int 131]) [] := by
 obtain ⟨hn1, hn8, hk8⟩ := pat_rng hP
 obtain ⟨n, hn⟩ : ∃ k, c.nodes.length = k := ⟨_, rfl⟩
 have hP1 : Snd P 42 [.d (.ag (encC c))] (.bool true) [] := by rw [← hP]; exact pattern_ok c
 have hB := bound_ok c hP p hf
 simp only [hb, resB, stoB, encP_cells, hn] at hB
 refine snd_of [] Try.func24 rfl (by kernel_rfl) Try.ntmps24 (by simp) ?_
 unfold Try.f24
 simp only [List.cons_append, List.nil_append, List.length_cons, List.length_nil, Nat.reduceAdd, Nat.reduceSub, List.replicate]
 apply Run.seq
 refine opsF oo37 fun K hK => ?_
 try simp
 repeat' first | (refine evL_c ?_; simp [hn]) | (with_reducible first | apply aI | intro _ | assumption) | omega
 all_goals (apply Fin.go hK; clear hK K)
 simp only [tN]
 apply Run.seq
 apply Run.seq
 refine opsF oo38 fun K hK => ?_
 try simp
 repeat' first | (refine ecallD (by exact hP1) ?_) | (refine evL_c ?_; simp [hn]) | (with_reducible first | apply aI | intro _ | assumption) | omega
 all_goals (apply Fin.go hK; clear hK K)
 simp only [tN]
 refine Run.cond rfl (fun h9 => ?_) (fun h9 => ?_)
 ·simp at h9
 ·skip
  apply Run.skip
  simp only [tN]
  apply Run.seq
  apply Run.seq
  refine opsF oo39 fun K hK => ?_
  try simp
  repeat' first | (refine ecall (by exact hB) rfl ?_) | (refine evL_c ?_; simp [hn]) | (with_reducible first | apply aI | intro _ | assumption) | omega
  all_goals (apply Fin.go hK; clear hK K)
  simp only [tN]
  apply Run.seq
  refine opsF oo40 fun K hK => ?_
  try simp
  repeat' first | (refine evL_c ?_; simp [hn]) | (with_reducible first | apply aI | intro _ | assumption) | omega
  all_goals (apply Fin.go hK; clear hK K)
  simp only [tN]
  refine Run.cond rfl (fun h18 => ?_) (fun h18 => ?_)
  ·simp at h18
  ·skip
   apply Run.skip
   simp only [tN]
   apply Run.seq
   refine opsF [⟨.assign (.const (.slice none 0 0)), some 4, none⟩, ⟨.assign (.const (.int .i64 131)), some 5, none⟩] fun K hK => ?_
   try simp
   repeat' first | (refine evL_c ?_; simp [hn]) | (with_reducible first | apply aI | intro _ | assumption) | omega
   all_goals (apply Fin.go hK; clear hK K)
   simp only [tN]
   apply Run.ret
   try simp only [Then_ret, Blok_ret]
   simp
theorem BoundC_ok (c : CoreT) (p : PlanT) (hf : partsP p ≤ 1100000) (hP : patS c.nodes c.edges = true) (b : List Bool) (hb : bndT c p = some b) : Snd P 24 [.d (.ag (encP p)), .d (.ag (encC c))] (.tup [.d (.sl false (b.map encB)), .int 0]) [] := by
 obtain ⟨hn1, hn8, hk8⟩ := pat_rng hP
 obtain ⟨n, hn⟩ : ∃ k, c.nodes.length = k := ⟨_, rfl⟩
 have hP1 : Snd P 42 [.d (.ag (encC c))] (.bool true) [] := by rw [← hP]; exact pattern_ok c
 have hB := bound_ok c hP p hf
 have hl := bndT_len c p b hb
 have hl0 : 0 < b.length := by omega
 obtain ⟨m, hm⟩ : ∃ m, b.length = m := ⟨_, rfl⟩
 rw [hm] at hl0
 simp only [hb, resB, stoB, encP_cells, hn, hm] at hB
 refine snd_of [] Try.func24 rfl (by kernel_rfl) Try.ntmps24 (by simp) ?_
 unfold Try.f24
 simp only [List.cons_append, List.nil_append, List.length_cons, List.length_nil, Nat.reduceAdd, Nat.reduceSub, List.replicate]
 apply Run.seq
 refine opsF oo37 fun K hK => ?_
 try simp
 repeat' first | (refine evL_c ?_; simp [hn, hm, hl0]) | (with_reducible first | apply aI | intro _ | assumption) | omega
 all_goals (apply Fin.go hK; clear hK K)
 simp only [tN]
 apply Run.seq
 apply Run.seq
 refine opsF oo38 fun K hK => ?_
 try simp
 repeat' first | (refine ecallD (by exact hP1) ?_) | (refine evL_c ?_; simp [hn, hm, hl0]) | (with_reducible first | apply aI | intro _ | assumption) | omega
 all_goals (apply Fin.go hK; clear hK K)
 simp only [tN]
 refine Run.cond rfl (fun h9 => ?_) (fun h9 => ?_)
 ·simp at h9
 ·skip
  apply Run.skip
  simp only [tN]
  apply Run.seq
  apply Run.seq
  refine opsF oo39 fun K hK => ?_
  try simp
  repeat' first | (refine ecall (by exact hB) rfl ?_) | (refine evL_c ?_; simp [hn, hm, hl0]) | (with_reducible first | apply aI | intro _ | assumption) | omega
  all_goals (apply Fin.go hK; clear hK K)
  simp only [tN]
  apply Run.seq
  refine opsF oo40 fun K hK => ?_
  try simp
  repeat' first | (refine evL_c ?_; simp [hn, hm, hl0]) | (with_reducible first | apply aI | intro _ | assumption) | omega
  all_goals (apply Fin.go hK; clear hK K)
  simp only [tN]
  refine Run.cond rfl (fun h18 => ?_) (fun h18 => ?_)
  ·skip
   apply Run.seq
   refine opsF [oM 6 19, oA 19 4, ⟨.assign (.const (.int .i64 0)), some 5, none⟩] fun K hK => ?_
   try simp
   repeat' first | (refine evL_c ?_; simp [hn, hm, hl0]) | (with_reducible first | apply aI | intro _ | assumption) | omega
   all_goals (apply Fin.go hK; clear hK K)
   simp only [tN]
   apply Run.ret
   try simp only [Then_ret, Blok_ret]
   simp [hm, List.take_of_length_le]
  ·simp at h18
theorem Bound_ok (c : CoreT) (p : PlanT) (hf : partsP p ≤ 1100000) : Snd P 24 [.d (.ag (encP p)), .d (.ag (encC c))] (.tup [.d (boundD c p).1, .int (boundD c p).2]) [] := by
 unfold boundD
 cases hP : patS c.nodes c.edges with
 | false => exact BoundA_ok c p hf hP
 | true =>
   cases hb : bndT c p with
   | none => exact BoundB_ok c p hf hP hb
   | some b => exact BoundC_ok c p hf hP b hb
end Go.Proofs.Ytimgbdkgjfbhkaa.Z
end
section
namespace Go.Proofs.Ytimgbdkgjfbhkaa.Z
open Go Go.Fw
def keyN (a b : List Bool) : Nat → List Int
 | 0 => []
 | i + 1 => if rdI a i && rdI b i then keyN a b i ++ [(i : Int)] else keyN a b i
@[simp] theorem lost3 (a b c : Nat) (s1 : Store) (id : Nat) : lost [a, b, c] s1 id = ((a == id && (getB s1 0).isNone) || (b == id && (getB s1 1).isNone) || (c == id && (getB s1 2).isNone)) := by
 have : List.range 3 = [0, 1, 2] := rfl
 simp only [lost, List.length_cons, List.length_nil, Nat.reduceAdd, this, List.any_cons, List.any_nil, Bool.or_false, Bool.or_assoc]
 rfl
attribute [-simp] lost
theorem keyN_len (a b : List Bool) (i : Nat) : (keyN a b i).length ≤ i := by
 induction i with
 | zero => simp [keyN]
 | succ i ih => rw [keyN]; split <;> (try simp) <;> omega
theorem bound_some {c : CoreT} {p : PlanT} {b : List Bool} (hP : patS c.nodes c.edges = true) (hf : partsP p ≤ 1100000) (hb : bndT c p = some b) : Snd P 24 [.d (.ag (encP p)), .d (.ag (encC c))] (.tup [.d (.sl false (b.map encB)), .int 0]) [] := by
 have h := Bound_ok c p hf
 simp only [boundD, hP, hb, if_true] at h
 exact h
end Go.Proofs.Ytimgbdkgjfbhkaa.Z
end
section
/- Terms that are safe: the program's, the document's. -/
namespace Go.Proofs.Ytimgbdkgjfbhkaa.Z
open Go Go.Fw
def riskO (op : Int) : Bool := decide (12 ≤ op ∧ op ≤ 16 ∨ op = 18)
mutual
def safeT : TermT → Bool
 | .mk op k _ _ _ => !riskO op && safeL k
def safeL : List TermT → Bool
 | [] => true
 | t :: r => safeT t && safeL r
end
theorem safeT_eq (t : TermT) : safeT t = (!riskO t.op && safeL t.kids) := by cases t; rw [safeT]; rfl
theorem safeL_any (l : List TermT) : safeL l = !(l.any fun e => !safeT e) := by
 induction l with
 | nil => rfl
 | cons t r ih => rw [safeL, ih, List.any_cons]; cases safeT t <;> simp
theorem mem_rdT {α : Type} [Inhabited α] {l : List α} {x : α} (h : x ∈ l) : ∃ j : Nat, j < l.length ∧ rdI l j = x := by
 obtain ⟨j, hj⟩ := List.getElem?_of_mem h
 obtain ⟨h1, h2⟩ := List.getElem?_eq_some_iff.1 hj
 exact ⟨j, h1, by simp [rdI, List.getD_eq_getElem?_getD, hj]⟩
theorem findP_ok (nn : Bool) (l : List TermT) (fn : FuncId) (p : TermT → Bool) (hp : ∀ e ∈ l, Snd P fn [.d (.ag (encT e))] (.bool (p e)) []) : Snd P 95 [.d (.sl nn (l.map encT)), .fn fn []] (.int (findS p l)) [] := by
 refine Snd.ok 0 rfl (by kernel_rfl) fun hl => ?_
 simp only [D.ok, List.length_map] at hl
 obtain ⟨hl, -⟩ := hl
 refine snd_of [] Try.func95 rfl (by kernel_rfl) Try.ntmps95 (by simp) ?_
 unfold Try.f95
 simp only [List.cons_append, List.nil_append, List.length_cons, List.length_nil, Nat.reduceAdd, Nat.reduceSub, List.replicate]
 apply Run.seq
 refine opsF oo3 fun K hK => ?_
 try simp
 repeat' first | (refine evL_c ?_; simp) | (with_reducible first | apply aI | intro _ | assumption) | omega
 all_goals (apply Fin.go hK; clear hK K)
 simp only [tN]
 apply Run.seq
 apply Run.seq
 refine opsF oo4 fun K hK => ?_
 try simp
 repeat' first | (refine evL_c ?_; simp) | (with_reducible first | apply aI | intro _ | assumption) | omega
 all_goals (apply Fin.go hK; clear hK K)
 simp only [tN]
 apply Run.block
 refine Run.loopO [4, 5, 8, 9, 10, 11, 12, 13, 14, 15, 16, 17, 18] (fun (i : Nat) => [(8, .int i)]) (fun (i : Nat) => []) (fun (i : Nat) => i ≤ l.length ∧ ∀ j, j < i → p (rdI l (j : Nat)) = false) (fun (i : Nat) => l.length - i) 0 (by simp) (by simp) fun i ⟨hi, hz⟩ => ?_
 simp only [over, List.foldl, List.set]
 apply Run.seq
 refine opsF oo5 fun K hK => ?_
 try simp
 repeat' first | (refine evL_c ?_; simp) | (with_reducible first | apply aI | intro _ | assumption) | omega
 all_goals (apply Fin.go hK; clear hK K)
 simp only [tN]
 apply Run.seq
 refine Run.cond rfl (fun h9 => ?_) (fun h9 => ?_)
 ·try simp at h9
  apply Run.skip
  simp only [tN]
  apply Run.seq
  apply Run.block
  apply Run.seq
  refine opsF oo6 fun K hK => ?_
  try simp
  repeat' first | (refine evL_c ?_; simp [h9]) | (with_reducible first | apply aI | intro _ | assumption) | omega
  all_goals (apply Fin.go hK; clear hK K)
  simp only [tN]
  apply Run.seq
  refine opsF oo7 fun K hK => ?_
  try simp
  repeat' first | (refine ecallD (by have h := hp _ (rdI_mem (l := l) (i := i) (by omega) (by omega)); rw [encT_cells] at h; exact h) ?_) | (refine evL_c ?_; simp [h9]) | (with_reducible first | apply aI | intro _ | assumption) | omega
  all_goals (apply Fin.go hK; clear hK K)
  simp only [tN]
  refine Run.cond rfl (fun h16 => ?_) (fun h16 => ?_)
  ·try simp at h16
   apply Run.seq
   refine opsF oo8 fun K hK => ?_
   try simp
   repeat' first | (refine evL_c ?_; simp [h9, h16]) | (with_reducible first | apply aI | intro _ | assumption) | omega
   all_goals (apply Fin.go hK; clear hK K)
   simp only [tN]
   apply Run.ret
   try simp only [Then_ret, Blok_ret]
   first
    | (have e := findS_some h9 hz h16; simp [e]; done)
    | (have e := findS_none (p := p) (l := l) (fun j hj => hz j (by omega)); simp [e])
  ·try simp at h16
   apply Run.skip
   simp only [Blok_normal]
   simp only [tN]
   refine opsF oo9 fun K hK => ?_
   try simp
   repeat' first | (refine evL_c ?_; simp [h9, h16]) | (with_reducible first | apply aI | intro _ | assumption) | omega
   all_goals (apply Fin.go hK; clear hK K)
   refine ⟨i + 1, ⟨by omega, fun j hj => ?_⟩, by omega, ?_⟩
   ·by_cases e : j = i
    ·subst e; exact h16
    ·exact hz j (by omega)
   ·simp (disch := omega) [wrap_id]
 ·try simp at h9
  refine Run.exit ?_
  simp (decide := true) only [Then_exit, Blok_exit, if_true, if_false]
  simp only [tN]
  apply Run.seq
  refine opsF oo10 fun K hK => ?_
  try simp
  repeat' first | (refine evL_c ?_; simp [h9]) | (with_reducible first | apply aI | intro _ | assumption) | omega
  all_goals (apply Fin.go hK; clear hK K)
  simp only [tN]
  apply Run.ret
  try simp only [Then_ret, Blok_ret]
  first
   | (have e := findS_some h9 hz h16; simp [e]; done)
   | (have e := findS_none (p := p) (l := l) (fun j hj => hz j (by omega)); simp [e])
theorem anyP_ok (nn : Bool) (l : List TermT) (fn : FuncId) (p : TermT → Bool) (hp : ∀ e ∈ l, Snd P fn [.d (.ag (encT e))] (.bool (p e)) []) : Snd P 72 [.d (.sl nn (l.map encT)), .fn fn []] (.bool (l.any p)) [] := by
 refine snd_of [] Try.func72 rfl (by kernel_rfl) Try.ntmps72 (by simp) ?_
 unfold Try.f72
 simp only [List.cons_append, List.nil_append, List.length_cons, List.length_nil, Nat.reduceAdd, Nat.reduceSub, List.replicate]
 apply Run.seq
 refine opsF oo11 fun K hK => ?_
 try simp
 repeat' first | (refine evL_c ?_; simp) | (with_reducible first | apply aI | intro _ | assumption) | omega
 all_goals (apply Fin.go hK; clear hK K)
 simp only [tN]
 apply Run.seq
 refine opsF oo12 fun K hK => ?_
 try simp
 repeat' first | (refine ecallD (findP_ok nn l fn p hp) ?_) | (refine evL_c ?_; simp) | (with_reducible first | apply aI | intro _ | assumption) | omega
 all_goals (apply Fin.go hK; clear hK K)
 simp only [tN]
 apply Run.ret
 try simp only [Then_ret, Blok_ret]
 simp [findS_any]
theorem safeN_ok (t : TermT) (IH : Snd P 59 [.d (.ag (encT t))] (.bool (safeT t)) []) : Snd P 88 [.d (.ag (encT t))] (.bool (!safeT t)) [] := by
 rw [encT_cells] at IH
 refine snd_of [] Try.func88 rfl (by kernel_rfl) Try.ntmps88 (by simp) ?_
 unfold Try.f88
 simp only [List.cons_append, List.nil_append, List.length_cons, List.length_nil, Nat.reduceAdd, Nat.reduceSub, List.replicate]
 apply Run.seq
 refine opsF oo41 fun K hK => ?_
 try simp
 repeat' first | (refine evL_c ?_; simp) | (with_reducible first | apply aI | intro _ | assumption) | omega
 all_goals (apply Fin.go hK; clear hK K)
 simp only [tN]
 apply Run.seq
 refine opsF [oL 89 1 3, oC 59 #[.tmp 3] #[89] 4, ⟨.unOp .not 4 (.tmp 4), some 5, none⟩, oA 5 2] fun K hK => ?_
 try simp
 repeat' first | (refine ecallD (by exact IH) ?_) | (refine evL_c ?_; simp) | (with_reducible first | apply aI | intro _ | assumption) | omega
 all_goals (apply Fin.go hK; clear hK K)
 simp only [tN]
 apply Run.ret
 try simp only [Then_ret, Blok_ret]
 simp
set_option maxHeartbeats 4000000 in
theorem safe1_ok (t : TermT) (IH : ∀ i : Nat, i < t.kids.length → Snd P 59 [.d (.ag (encT (rdI t.kids i)))] (.bool (safeT (rdI t.kids i))) []) : Snd P 59 [.d (.ag (encT t))] (.bool (safeT t)) [] := by
 have hA := anyP_ok false t.kids 88 (fun e => !safeT e) (fun e he => by
  obtain ⟨j, hj, rfl⟩ := mem_rdT he
  exact safeN_ok _ (IH j hj))
 have he := safeT_eq t
 rw [safeL_any] at he
 obtain ⟨an, han⟩ : ∃ x, (t.kids.any fun e => !safeT e) = x := ⟨_, rfl⟩
 obtain ⟨r, hr⟩ : ∃ x, safeT t = x := ⟨_, rfl⟩
 obtain ⟨ri, hri⟩ : ∃ x, riskO t.op = x := ⟨_, rfl⟩
 rw [hr, hri, han] at he
 rw [han] at hA
 rw [hr]
 refine snd_of [] Try.func59 rfl (by kernel_rfl) Try.ntmps59 (by simp) ?_
 unfold Try.f59
 simp only [List.cons_append, List.nil_append, List.length_cons, List.length_nil, Nat.reduceAdd, Nat.reduceSub, List.replicate]
 apply Run.seq
 refine opsF oo41 fun K hK => ?_
 try simp
 repeat' first | (refine evL_c ?_; simp) | (with_reducible first | apply aI | intro _ | assumption) | omega
 all_goals (apply Fin.go hK; clear hK K)
 simp only [tN]
 refine Run.cut [3, 4, 5, 6, 7, 8, 9, 10, 11, 12, 13, 14, 15, 16] [(3, .bool ri)] [(200, .vals ((encT t).map .d))] ?_ ?_
 ·refine opsF [oF 89 1 0 4, oL 84 4 5, oK .geq 84 5 12 84 6, oM 6 7, ⟨.fieldAddr 89 (.tmp 1) 0, some 8, some (some 7, true)⟩, ⟨.load 84 (.tmp 8), some 9, some (some 7, true)⟩, ⟨.binOp .leq 84 (.tmp 9) (.const (.int .i64 16)) 84, some 10, some (some 7, true)⟩, ⟨.pick (.tmp 7) (.tmp 10) (.const (.bool false)), some 11, none⟩, oM 11 12, ⟨.fieldAddr 89 (.tmp 1) 0, some 13, some (some 12, false)⟩, ⟨.load 84 (.tmp 13), some 14, some (some 12, false)⟩, ⟨.binOp .eql 84 (.tmp 14) (.const (.int .i64 18)) 84, some 15, some (some 12, false)⟩, ⟨.pick (.tmp 12) (.const (.bool true)) (.tmp 15), some 16, none⟩, oA 16 3] fun K hK => ?_
  try simp
  repeat' first | ((first | refine evL_c ?_ | (refine evL_g rfl ?_; try simp only [gs_tt, gs_ff, gs_tf, gs_ft]) | refine evL_u rfl ?_ | (with_reducible refine gsplit (fun hg => ?_) (fun hg => ?_) <;> try simp at hg)) <;> try simp) | (with_reducible first | apply aI | intro _ | assumption) | omega
  all_goals (apply Fin.go hK; clear hK K)
  all_goals
   rw [← hri]
   (try simp [riskO]) <;> (first | omega | (simp; done) | (rw [Bool.eq_iff_iff]; simp only [Bool.or_eq_true, Bool.and_eq_true, Bool.not_eq_true', decide_eq_true_eq, decide_eq_false_iff_not]; omega) | (simp_all; done) | (simp_all; omega) | grind)
 ·simp only [over, List.foldl, List.set]
  apply Run.seq
  refine opsF [oM 3 17, ⟨.unOp .not 4 (.tmp 17), some 18, none⟩, oM 18 19, ⟨.fieldAddr 89 (.tmp 1) 1, some 20, some (some 19, true)⟩, ⟨.load 28 (.tmp 20), some 21, some (some 19, true)⟩, ⟨.call { callee := .value (.func 72), args := #[.tmp 21, .func 88], argTypes := #[28, 131] }, some 22, some (some 19, true)⟩, ⟨.unOp .not 4 (.tmp 22), some 23, some (some 19, true)⟩, ⟨.pick (.tmp 19) (.tmp 23) (.const (.bool false)), some 24, none⟩, oA 24 2] fun K hK => ?_
  try simp
  repeat' first | (refine ecallD (by exact hA) ?_) | ((first | refine evL_c ?_ | (refine evL_g rfl ?_; try simp only [gs_tt, gs_ff, gs_tf, gs_ft]) | refine evL_u rfl ?_ | (with_reducible refine gsplit (fun hg => ?_) (fun hg => ?_) <;> try simp at hg)) <;> try simp [*]) | (with_reducible first | apply aI | intro _ | assumption) | omega
  all_goals (apply Fin.go hK; clear hK K)
  all_goals
   simp only [tN]
   apply Run.ret
   try simp only [Then_ret, Blok_ret]
   (try simp [he]) <;> (first | omega | (simp; done) | (rw [Bool.eq_iff_iff]; simp only [Bool.or_eq_true, Bool.and_eq_true, Bool.not_eq_true', decide_eq_true_eq, decide_eq_false_iff_not]; omega) | (simp_all; done) | (simp_all; omega) | grind)
theorem safe_ok (t : TermT) : Snd P 59 [.d (.ag (encT t))] (.bool (safeT t)) [] :=
 safe1_ok t fun i hi =>
  have := kidT_lt (rdI_mem (l := t.kids) (i := i) (by omega) (by omega))
  safe_ok (rdI t.kids i)
termination_by SizeOf.sizeOf t
end Go.Proofs.Ytimgbdkgjfbhkaa.Z
end
section
/- The first plan: plain functions; scans and steps, walked. -/
namespace Go.Proofs.Ytimgbdkgjfbhkaa.Z
open Go Go.Fw
def scanQ (n : Int) : PlanT := .mk 1 [] n [] false []
def joinQ (p : PlanT) (n : Int) : PlanT := .mk 4 [p, scanQ n] 0 [] false []
def stepQ (c : CoreT) (p : PlanT) (k : Int) (b : Bool) : PlanT := .mk (if (rdI c.edges k).mode = 0 then 2 else 3) [p] 0 [k] b []
def filtQ (p : PlanT) (l : List TermT) : PlanT := .mk 6 [p] 0 [] false l
abbrev TrS := PlanT × List Int
def trAdd (l : List Int) (n : Int) : List Int := if n ∈ l then l else l ++ [n]
def trJoin (s : TrS) (n : Int) : TrS := if n ∈ s.2 then s else (joinQ s.1 n, trAdd s.2 n)
def trBack (c : CoreT) (k : Int) (l : List Int) : Bool := !decide ((rdI c.edges k).src ∈ l) && decide ((rdI c.edges k).dst ∈ l)
def trEdge (c : CoreT) (k : Int) (s : TrS) : TrS :=
 (stepQ c (if trBack c k s.2 then s else trJoin s (rdI c.edges k).src).1 k (trBack c k s.2), trAdd (trAdd (if trBack c k s.2 then s else trJoin s (rdI c.edges k).src).2 (rdI c.edges k).src) (rdI c.edges k).dst)
def edgesN (c : CoreT) : Nat → TrS
 | 0 => (scanQ 0, [0])
 | i + 1 => trEdge c i (edgesN c i)
def nodesN (c : CoreT) : Nat → TrS
 | 0 => edgesN c c.edges.length
 | i + 1 => trJoin (nodesN c i) i
def filtO (p : PlanT) (l : List TermT) : PlanT := if l.length = 0 then p else filtQ p l
def filtB (p : PlanT) (l : List TermT) : PlanT := filtO (filtO p (l.filter safeT)) (l.filter fun t => !safeT t)
def zeroQ : PlanT := .mk 0 [] 0 [] false []
def transS (c : CoreT) : PlanT := if patS c.nodes c.edges then filtB (nodesN c c.nodes.length).1 c.wher else zeroQ
@[simp] theorem scanQ_op (n : Int) : (scanQ n).op = 1 := rfl
@[simp] theorem scanQ_kids (n : Int) : (scanQ n).kids = [] := rfl
@[simp] theorem scanQ_slot (n : Int) : (scanQ n).slot = n := rfl
@[simp] theorem scanQ_edges (n : Int) : (scanQ n).edges = [] := rfl
@[simp] theorem scanQ_back (n : Int) : (scanQ n).back = false := rfl
@[simp] theorem scanQ_terms (n : Int) : (scanQ n).terms = [] := rfl
@[simp] theorem joinQ_op (p : PlanT) (n : Int) : (joinQ p n).op = 4 := rfl
@[simp] theorem joinQ_kids (p : PlanT) (n : Int) : (joinQ p n).kids = [p, scanQ n] := rfl
@[simp] theorem joinQ_slot (p : PlanT) (n : Int) : (joinQ p n).slot = 0 := rfl
@[simp] theorem joinQ_edges (p : PlanT) (n : Int) : (joinQ p n).edges = [] := rfl
@[simp] theorem joinQ_back (p : PlanT) (n : Int) : (joinQ p n).back = false := rfl
@[simp] theorem joinQ_terms (p : PlanT) (n : Int) : (joinQ p n).terms = [] := rfl
@[simp] theorem stepQ_op (c : CoreT) (p : PlanT) (k : Int) (b : Bool) : (stepQ c p k b).op = (if (rdI c.edges k).mode = 0 then 2 else 3) := rfl
@[simp] theorem stepQ_kids (c : CoreT) (p : PlanT) (k : Int) (b : Bool) : (stepQ c p k b).kids = [p] := rfl
@[simp] theorem stepQ_slot (c : CoreT) (p : PlanT) (k : Int) (b : Bool) : (stepQ c p k b).slot = 0 := rfl
@[simp] theorem stepQ_edges (c : CoreT) (p : PlanT) (k : Int) (b : Bool) : (stepQ c p k b).edges = [k] := rfl
@[simp] theorem stepQ_back (c : CoreT) (p : PlanT) (k : Int) (b : Bool) : (stepQ c p k b).back = b := rfl
@[simp] theorem stepQ_terms (c : CoreT) (p : PlanT) (k : Int) (b : Bool) : (stepQ c p k b).terms = [] := rfl
@[simp] theorem filtQ_op (p : PlanT) (l : List TermT) : (filtQ p l).op = 6 := rfl
@[simp] theorem filtQ_kids (p : PlanT) (l : List TermT) : (filtQ p l).kids = [p] := rfl
@[simp] theorem filtQ_slot (p : PlanT) (l : List TermT) : (filtQ p l).slot = 0 := rfl
@[simp] theorem filtQ_edges (p : PlanT) (l : List TermT) : (filtQ p l).edges = [] := rfl
@[simp] theorem filtQ_back (p : PlanT) (l : List TermT) : (filtQ p l).back = false := rfl
@[simp] theorem filtQ_terms (p : PlanT) (l : List TermT) : (filtQ p l).terms = l := rfl
@[simp] theorem zeroQ_op  : (zeroQ).op = 0 := rfl
@[simp] theorem zeroQ_kids  : (zeroQ).kids = [] := rfl
@[simp] theorem zeroQ_slot  : (zeroQ).slot = 0 := rfl
@[simp] theorem zeroQ_edges  : (zeroQ).edges = [] := rfl
@[simp] theorem zeroQ_back  : (zeroQ).back = false := rfl
@[simp] theorem zeroQ_terms  : (zeroQ).terms = [] := rfl
def kb (n : Nat) (l : List Int) : List Bool := (List.range n).map fun (j : Nat) => decide ((j : Int) ∈ l)
theorem trAdd_same {l : List Int} {n : Int} (h : n ∈ l) : trAdd l n = l := by rw [trAdd, if_pos h]
theorem scanP_ok (n : Int) : Snd P 57 [.int n] (.d (.ag (encP (scanQ n)))) [] := by
 refine snd_of [] Try.func57 rfl (by kernel_rfl) Try.ntmps57 (by simp) ?_
 unfold Try.f57
 simp only [List.cons_append, List.nil_append, List.length_cons, List.length_nil, Nat.reduceAdd, Nat.reduceSub, List.replicate]
 apply Run.seq
 refine opsF [⟨.alloc 48, some 2, none⟩] fun K hK => ?_
 try simp
 repeat' first | (refine evL_c ?_; simp) | (with_reducible first | apply aI | intro _ | assumption) | omega
 all_goals (apply Fin.go hK; clear hK K)
 simp only [tN]
 apply Run.seq
 refine opsF [oM 0 3, ⟨.build 48 #[(0, .const (.int .i64 1)), (2, .tmp 3)], some 4, none⟩, oS 48 2 4] fun K hK => ?_
 try simp
 repeat' first | (refine evL_c ?_; simp) | (with_reducible first | apply aI | intro _ | assumption) | omega
 all_goals (apply Fin.go hK; clear hK K)
 simp only [tN]
 refine Run.subB 300 1 (.d (.sl false [])) rfl rfl nil_sl ?_
 simp
 refine Run.subB 300 3 (.d (.sl false [])) rfl rfl nil_sl ?_
 simp
 refine Run.subB 300 5 (.d (.sl false [])) rfl rfl nil_sl ?_
 simp
 apply Run.ret
 try simp only [Then_ret, Blok_ret]
 simp
end Go.Proofs.Ytimgbdkgjfbhkaa.Z
end
section
namespace Go.Proofs.Ytimgbdkgjfbhkaa.Z
open Go Go.Fw
def mpK (l : List Int) : Blk := .mp (l.map (Value.int .i64)) (l.map fun _ => V.bool true)
theorem fgtL_K (p : Nat → Bool) (l : List Int) : V.fgtL p (l.map fun _ => V.bool true) = l.map fun _ => V.bool true := by
 induction l with
 | nil => rfl
 | cons n r ih => simp [V.fgtL, V.fgt, ih]
theorem renL_K (p : Nat → Nat) (l : List Int) : V.renL p (l.map fun _ => V.bool true) = l.map fun _ => V.bool true := by
 induction l with
 | nil => rfl
 | cons n r ih => simp [V.renL, V.ren, ih]
theorem menL_K (p : Nat → Bool) (l : List Int) : V.menL p (l.map fun _ => V.bool true) = false := by
 induction l with
 | nil => rfl
 | cons n r ih => simp [V.menL, V.men, ih]
theorem fraL_K (i : Nat) (s : Store) (l : List Int) : V.fraL i s (l.map fun _ => V.bool true) = l.map fun _ => V.bool true := by
 induction l with
 | nil => rfl
 | cons n r ih => simp [V.fraL, V.fra, ih]
theorem finL_K (k : List Nat) (s : Store) (l : List Int) : V.finL k s (l.map fun _ => V.bool true) = l.map fun _ => V.bool true := by
 induction l with
 | nil => rfl
 | cons n r ih => simp [V.finL, V.fin, ih]
@[simp] theorem K_fgt (p : Nat → Bool) (l : List Int) : (mpK l).fgt p = mpK l := by simp only [mpK, Blk.fgt, fgtL_K]
@[simp] theorem K_ren (p : Nat → Nat) (l : List Int) : (mpK l).ren p = mpK l := by simp only [mpK, Blk.ren, renL_K]
@[simp] theorem K_men (p : Nat → Bool) (l : List Int) : (mpK l).men p = false := by simp only [mpK, Blk.men, menL_K]
@[simp] theorem K_fra (i : Nat) (s : Store) (l : List Int) : (mpK l).fra i s = mpK l := by simp only [mpK, Blk.fra, fraL_K]
@[simp] theorem K_fin (k : List Nat) (s : Store) (l : List Int) : (mpK l).fin k s = mpK l := by simp only [mpK, Blk.fin, finL_K]
theorem findK_I (n : Int) (l : List Int) (j : Nat) : findK (.int .i64) (.int .i64 n) (l.map (Value.int .i64)) j = some (if n ∈ l then some (j + l.idxOf n) else none) := by
 induction l generalizing j with
 | nil => rfl
 | cons m r ih =>
   rw [List.map_cons, findK]
   have e : Instr.sameNow (.int .i64) (.int .i64 n) (.int .i64 m) = some (decide (n = m)) := by simp [Instr.sameNow]
   rw [e]
   by_cases h : n = m
   ·subst h; simp
   ·rw [decide_eq_false h]
    simp only [ih]
    by_cases h2 : n ∈ r
    ·rw [if_pos h2, if_pos (by simp [h2])]
     have : (m :: r).idxOf n = r.idxOf n + 1 := by rw [List.idxOf_cons]; simp [Ne.symm h]
     rw [this]; congr 2; omega
    ·rw [if_neg h2, if_neg (by simp [h, h2])]
def lookB (b : Blk) (n : Int) : Option (Prop × V) := match b with
 | .mp ks vs => match findK (.int .i64) (.int .i64 n) ks 0 with
   | some (some i) => match vs[i]? with | some v => some (True, v) | none => none
   | some none => some (True, .bool false)
   | none => none
 | _ => none
def updB (b : Blk) (n : Int) (x : V) : Option Blk := match b with
 | .mp ks vs => match findK (.int .i64) (.int .i64 n) ks 0 with
   | some (some i) => some (.mp (ks.set i (.int .i64 n)) (vs.set i x))
   | some none => some (.mp (ks ++ [.int .i64 n]) (vs ++ [x]))
   | none => none
 | _ => none
theorem look101 (id : Nat) (n : Int) (s : Store) : lookV P 118 (.mp id) (.d (.lit (.int .i64 n))) false s = (getB s id).bind fun b => lookB b n := by
 simp only [lookV, ty_map118, ty_key3, ty_zv4]
 cases getB s id with
 | none => rfl
 | some b => cases b <;> rfl
theorem upd101 (id : Nat) (n : Int) (x : V) (s : Store) : updV P 118 (.mp id) (.d (.lit (.int .i64 n))) x s = (getB s id).bind fun b => (updB b n x).map fun c => (True, putB s id c) := by
 simp only [updV, ty_map118, ty_key3]
 cases getB s id with
 | none => rfl
 | some b =>
   cases b with
   | mp ks vs =>
     simp only [Option.bind_some, updB]
     rcases hf : findK (.int .i64) (.int .i64 n) ks 0 with _ | (_ | i) <;> simp [hf]
   | _ => rfl
theorem idx_lt {l : List Int} {n : Int} (h : n ∈ l) : l.idxOf n < l.length := List.idxOf_lt_length_iff.2 h
@[simp] theorem look_K (l : List Int) (n : Int) : lookB (mpK l) n = some (True, .bool (decide (n ∈ l))) := by
 simp only [lookB, mpK, findK_I]
 by_cases h : n ∈ l
 ·rw [if_pos h]
  have := idx_lt h
  simp [h, this]
 ·rw [if_neg h]
  simp [h]
@[simp] theorem upd_K (l : List Int) (n : Int) : updB (mpK l) n (.bool true) = some (mpK (trAdd l n)) := by
 simp only [updB, mpK, findK_I]
 by_cases h : n ∈ l
 ·rw [if_pos h, trAdd_same h]
  have hl := idx_lt h
  simp only [Nat.zero_add]
  congr 2
  ·apply List.ext_getElem (by simp)
   intro j h1 h2
   rw [List.getElem_set]
   split
   ·rename_i e; subst e; simp [List.getElem_idxOf]
   ·rfl
  ·apply List.ext_getElem (by simp)
   intro j h1 h2
   rw [List.getElem_set]
   split <;> simp
 ·rw [if_neg h, trAdd, if_neg h]
  simp
@[simp] theorem fgt_vals (p : Nat → Bool) (c : List V) : (Blk.vals c).fgt p = .vals (V.fgtL p c) := rfl
@[simp] theorem fgt_data (p : Nat → Bool) (n : Nat) (r : List (List D)) : (Blk.data n r).fgt p = .data n r := rfl
@[simp] theorem fgt_mp (p : Nat → Bool) (ks : List Value) (vs : List V) : (Blk.mp ks vs).fgt p = .mp ks (V.fgtL p vs) := rfl
@[simp] theorem ren_vals (p : Nat → Nat) (c : List V) : (Blk.vals c).ren p = .vals (V.renL p c) := rfl
@[simp] theorem ren_data (p : Nat → Nat) (n : Nat) (r : List (List D)) : (Blk.data n r).ren p = .data n r := rfl
@[simp] theorem ren_mp (p : Nat → Nat) (ks : List Value) (vs : List V) : (Blk.mp ks vs).ren p = .mp ks (V.renL p vs) := rfl
@[simp] theorem men_vals (p : Nat → Bool) (c : List V) : (Blk.vals c).men p = V.menL p c := rfl
@[simp] theorem men_data (p : Nat → Bool) (n : Nat) (r : List (List D)) : (Blk.data n r).men p = false := rfl
@[simp] theorem men_mp (p : Nat → Bool) (ks : List Value) (vs : List V) : (Blk.mp ks vs).men p = V.menL p vs := rfl
@[simp] theorem fin_vals (k : List Nat) (s : Store) (c : List V) : (Blk.vals c).fin k s = .vals (V.finL k s c) := rfl
@[simp] theorem fin_data (k : List Nat) (s : Store) (n : Nat) (r : List (List D)) : (Blk.data n r).fin k s = .data n r := rfl
@[simp] theorem fin_mp (k : List Nat) (s : Store) (ks : List Value) (vs : List V) : (Blk.mp ks vs).fin k s = .mp ks (V.finL k s vs) := rfl
@[simp] theorem fra_vals (i : Nat) (s : Store) (c : List V) : (Blk.vals c).fra i s = .vals (V.fraL i s c) := rfl
@[simp] theorem fra_data (i : Nat) (s : Store) (n : Nat) (r : List (List D)) : (Blk.data n r).fra i s = .data n r := rfl
@[simp] theorem fra_mp (i : Nat) (s : Store) (ks : List Value) (vs : List V) : (Blk.mp ks vs).fra i s = .mp ks (V.fraL i s vs) := rfl
attribute [-simp] lookV updV Blk.fgt Blk.ren Blk.men Blk.fin
attribute [local simp] look101 upd101
set_option maxHeartbeats 4000000 in
theorem joinF_ok (q : PlanT) (l : List Int) (n : Int) : SndW P 58 [.int n, .pt 0 0 0 0, .pt 2 0 0 0, .pt 3 0 0 0] [(0, .vals [.mp 1]), (1, mpK l), (2, .vals ((encP q).map .d)), (3, .vals [.fn 57 []])] (.tup []) [(0, .vals [.mp 1]), (1, mpK (trJoin (q, l) n).2), (2, .vals ((encP (trJoin (q, l) n).1).map .d)), (3, .vals [.fn 57 []])] := by
 have hs := scanP_ok n
 rw [encP_cells] at hs
 obtain ⟨j, hj⟩ : ∃ x, trJoin (q, l) n = x := ⟨_, rfl⟩
 rw [hj]
 rw [trJoin] at hj
 obtain ⟨kn, hkn⟩ : ∃ x, decide (n ∈ l) = x := ⟨_, rfl⟩
 refine sndW_of [0, 1, 2, 3] Try.func58 rfl (by kernel_rfl) Try.ntmps58 (by simp) (by simp) ?_
 unfold Try.f58
 simp only [List.cons_append, List.nil_append, List.length_cons, List.length_nil, Nat.reduceAdd, Nat.reduceSub, List.replicate]
 apply Run.seq
 refine opsF [oL 118 1 5, oM 0 6, ⟨.lookup 118 (.tmp 5) (.tmp 6) false, some 7, none⟩, ⟨.unOp .not 4 (.tmp 7), some 8, none⟩] fun K hK => ?_
 try simp
 repeat' first | (refine evL_c ?_; simp [hkn]) | (with_reducible first | apply aI | intro _ | assumption) | omega
 all_goals (apply Fin.go hK; clear hK K)
 simp only [tN]
 refine Run.cond rfl (fun h8 => ?_) (fun h8 => ?_)
 ·try simp at h8
  subst h8
  rw [if_neg (of_decide_eq_false hkn)] at hj
  subst hj
  apply Run.seq
  refine opsF [oL 48 2 9, oL 128 3 10, oM 0 11, ⟨.call { callee := .value (.tmp 10), args := #[.tmp 11], argTypes := #[3] }, some 12, none⟩, ⟨.buildSlice 45 2 #[(0, .tmp 9), (1, .tmp 12)], some 13, none⟩, ⟨.build 48 #[(0, .const (.int .i64 4)), (1, .tmp 13)], some 14, none⟩, oS 48 2 14] fun K hK => ?_
  try simp
  repeat' first | (refine ecallD (by exact hs) ?_) | (refine evL_c ?_; simp [hkn]) | (with_reducible first | apply aI | intro _ | assumption) | omega
  all_goals (apply Fin.go hK; clear hK K)
  simp only [tN]
  refine Run.fra 1400 ?_
  simp [V.fra, V.fraL, fraS, frz]
  refine Run.subB 2 3 (.d (.sl false [])) rfl rfl nil_sl ?_
  simp
  refine Run.subB 2 5 (.d (.sl false [])) rfl rfl nil_sl ?_
  simp
  refine opsF [oL 118 1 15, oM 0 16, ⟨.mapUpdate 118 (.tmp 15) (.tmp 16) (.const (.bool true)), none, none⟩] fun K hK => ?_
  try simp
  repeat' first | (refine evL_c ?_; simp [hkn]) | (with_reducible first | apply aI | intro _ | assumption) | omega
  all_goals (apply Fin.go hK; clear hK K)
  simp
 ·try simp at h8
  subst h8
  rw [if_pos (of_decide_eq_true hkn)] at hj
  subst hj
  apply Run.skip
  simp
end Go.Proofs.Ytimgbdkgjfbhkaa.Z
end
section
namespace Go.Fw
variable {P : Program}
def V.at? : V → Option (Option Nat)
 | .pt i _ _ _ => some (some i)
 | .d _ => some none
 | _ => none
def twoB (e : Env) (a b : Nat) : Bool := match (e.getD a .top).at?, (e.getD b .top).at? with
 | some (some i), some (some j) => i != j
 | some none, some _ => true
 | _, _ => false
def Two (na : List (Nat × Nat)) (e : Env) : Prop := na.all (fun q => twoB e q.1 q.2) = true
def loadAt (o : Oper) : Option Nat := if o.guard.isNone then (match o.op with | .load _ (.tmp a) => some a | _ => none) else none
def storeAt (o : Oper) : Option Nat := if o.guard.isNone then (match o.op with | .store _ (.tmp a) _ => some a | _ => none) else none
def pairAt (na : List (Nat × Nat)) (x y : Oper) : Option (Nat × Nat) := match loadAt x, storeAt y with
 | some a, some b => if na.contains (a, b) then some (a, b) else none
 | _, _ => match storeAt x, loadAt y with
   | some a, some b => if na.contains (b, a) then some (a, b) else none
   | _, _ => none
def commN (im : Op → Bool) (na : List (Nat × Nat)) (all : List Oper) (j i : Nat) (x y : Oper) : Bool := comm im all x y || (apart all x y && x.dst.isNone != y.dst.isNone && match pairAt na x y with
 | some (a, b) => x.dst != some a && y.dst != some b && (List.range all.length).all fun k => match all[k]? with
   | some z => (decide (k ≤ j) || k == i || z.dst != some a) && (decide (k ≤ i) || z.dst != some b)
   | none => true
 | none => false)
def indepN (im : Op → Bool) (na : List (Nat × Nat)) (all : List Oper) : Bool := ahead all && (List.range all.length).all fun i => (List.range i).all fun j => dep all all.length j i || (match all[j]?, all[i]? with | some x, some y => commN im na all j i x y | _, _ => true)
theorem commN_apart {im : Op → Bool} {na : List (Nat × Nat)} {all : List Oper} {j i : Nat} {x y : Oper} (h : commN im na all j i x y = true) : apart all x y = true := by
 simp only [commN, Bool.or_eq_true, Bool.and_eq_true] at h
 rcases h with h | h
 ·simp only [comm, Bool.and_eq_true] at h; exact h.1
 ·exact h.1.1
theorem at_fgt {p : Nat → Bool} {v : V} {r : Option Nat} (h : (v.fgt p).at? = some r) : v.at? = some r := by
 cases v <;> simp only [V.fgt] at h <;> first | exact h | (split at h <;> first | exact h | cases h)
theorem at_fgtL {p : Nat → Bool} {e : Env} {k : Nat} {r : Option Nat} (h : ((V.fgtL p e).getD k .top).at? = some r) : (e.getD k .top).at? = some r := by
 rw [List.getD_eq_getElem?_getD, fgtL_at] at h
 rw [List.getD_eq_getElem?_getD]
 cases hk : e[k]? with
 | none => rw [hk] at h; exact h
 | some v => rw [hk] at h; exact at_fgt h
theorem stp_at {im : Op → Bool} {all : List Oper} {o : Oper} {E E' : St} (h : Stp P im all o E E') {k : Nat} (hk : o.dst ≠ some k) {r : Option Nat} (hr : (E'.e.getD k .top).at? = some r) : (E.e.getD k .top).at? = some r := by
 have hdo : Do P o E E' → (E.e.getD k .top).at? = some r := by
  intro h
  unfold Do at h
  split at h
  ·obtain ⟨c, s', _, _, rfl⟩ := h; simp only at hr; rwa [put_getD hk] at hr
  ·obtain ⟨cl, ho, hcal, k', c, sz, n, blk, h1, hc, rfl⟩ := h
   simp only at hr
   rw [put_getD hk] at hr
   exact at_fgtL hr
  ·obtain ⟨v, s', _, rfl⟩ := h; simp only at hr; rwa [put_getD hk] at hr
 have hdi : DoI P im o E E' → (E.e.getD k .top).at? = some r := by
  intro h
  unfold DoI at h
  split at h
  ·obtain ⟨g, args, ids, s0, r', s1, hds, hco, hm0, hok, _, rfl⟩ := h
   simp only at hr; rwa [put_getD hk] at hr
  ·exact hdo h
 unfold Stp at h
 split at h
 ·exact h.elim
 ·exact hdi h
 ·rename_i want b hg
  rcases bool_or b want with hb | hb
  ·exact hdi (h.1 hb)
  ·rw [h.2 hb] at hr; simp only at hr; rwa [put_getD hk] at hr
theorem steps_at {im : Op → Bool} {all : List Oper} {k : Nat} : ∀ {R : List Nat} {E E' : St}, Steps P im all R E E' → (∀ j ∈ R, ∀ x, all[j]? = some x → x.dst ≠ some k) → ∀ {r : Option Nat}, (E'.e.getD k .top).at? = some r → (E.e.getD k .top).at? = some r := by
 intro R
 induction R with
 | nil => intro E E' h _ r hr; cases h; exact hr
 | cons j R ih =>
   intro E E' h hd r hr
   obtain ⟨o, hj, E1, h1, h2⟩ := h
   exact stp_at h1 (hd j (by simp) o hj) (ih h2 (fun i hi => hd i (by simp [hi])) hr)
theorem two_at {e e' : Env} {a b : Nat} (h : twoB e' a b = true) (ha : ∀ r, (e'.getD a .top).at? = some r → (e.getD a .top).at? = some r) (hb : ∀ r, (e'.getD b .top).at? = some r → (e.getD b .top).at? = some r) : twoB e a b = true := by
 unfold twoB at h ⊢
 split at h
 ·rename_i i j q1 q2; rw [ha _ q1, hb _ q2]; exact h
 ·rename_i r q1 q2; rw [ha _ q1, hb _ q2]
 ·cases h
theorem load_store {t t2 : TypeId} {a b : Nat} {y : Operand} {e : Env} {s s' : Store} {c : Prop} (h : twoB e a b = true) (hw : opW P (.store t2 (.tmp b) y) (look e) s = some (c, s')) : opR P (.load t (.tmp a)) (look e) s' = opR P (.load t (.tmp a)) (look e) s := by
 have key : ∃ i sz r cl blk, look e (.tmp b) = .pt i sz r cl ∧ s' = putB s i blk := by
  simp only [opW] at hw
  split at hw
  ·rename_i id sz r cl vs q1 q2
   split at hw
   ·split at hw
    ·split at hw
     ·cases hw; exact ⟨_, _, _, _, _, q1, rfl⟩
     ·cases hw
    ·split at hw
     ·split at hw
      ·cases hw; exact ⟨_, _, _, _, _, q1, rfl⟩
      ·cases hw
     ·cases hw
    ·cases hw
   ·cases hw
  ·cases hw
 obtain ⟨i, sz, r, cl, blk, q1, rfl⟩ := key
 have q1' : e.getD b .top = .pt i sz r cl := q1
 unfold twoB at h
 rw [q1'] at h
 simp only [opR]
 show (match e.getD a .top with | _ => _) = _
 have ea : look e (.tmp a) = e.getD a .top := rfl
 rw [ea]
 generalize e.getD a .top = va at h ⊢
 cases va with
 | pt i2 sz2 r2 c2 =>
   simp only [V.at?, bne_iff_ne, ne_eq] at h
   simp only [getB_putB]
   rw [if_neg h]
 | d x => cases x <;> rfl
 | _ => rfl
theorem exchangeN {im : Op → Bool} {na : List (Nat × Nat)} {all : List Oper} {x y : Oper} (ha : apart all x y = true) {a b : Nat} (hp : pairAt na x y = some (a, b)) {E E1 E2 : St} (ht : (twoB E.e a b = true ∧ na.contains (a, b) = true) ∨ (twoB E.e b a = true ∧ na.contains (b, a) = true)) (hn : x.dst.isNone ≠ y.dst.isNone)
  (ht2 : (loadAt x = some a ∧ storeAt y = some b ∧ twoB E.e a b = true) ∨ (storeAt x = some a ∧ loadAt y = some b ∧ twoB E.e b a = true)) (h1 : Stp P im all x E E1) (h2 : Stp P im all y E1 E2) : ∃ E1', Stp P im all y E E1' ∧ Stp P im all x E1' E2 := by
 have hl : ∀ {o : Oper} {a : Nat}, loadAt o = some a → (∃ t, o.op = .load t (.tmp a)) ∧ o.guard = none := fun {o a} q => by
  unfold loadAt at q
  split at q
  ·rename_i hg
   refine ⟨?_, by simpa using hg⟩
   split at q
   ·cases q; exact ⟨_, by assumption⟩
   ·cases q
  ·cases q
 have hu : ∀ {o : Oper} {a : Nat}, storeAt o = some a → (∃ t y, o.op = .store t (.tmp a) y) ∧ o.guard = none := fun {o a} q => by
  unfold storeAt at q
  split at q
  ·rename_i hg
   refine ⟨?_, by simpa using hg⟩
   split at q
   ·cases q; exact ⟨_, _, by assumption⟩
   ·cases q
  ·cases q
 have dl : ∀ {o : Oper} {a : Nat} {E E' : St}, loadAt o = some a → (Stp P im all o E E' ↔ ∃ c v, opR P o.op (look E.e) E.s = some (c, v) ∧ c ∧ E' = ⟨put E.e o.dst v, E.s⟩) := fun {o a E E'} q => by
  obtain ⟨⟨t, e⟩, g⟩ := hl q
  have hc : cls o.op = .r := by rw [e]; rfl
  unfold Stp
  rw [show guardOf all E.e o.guard = some none by rw [g]; rfl]
  show DoI P im o E E' ↔ _
  rw [doI_do (fun _ => by rw [hc]; simp)]
  unfold Do Loc
  rw [hc]
  simp only
  constructor
  ·rintro ⟨v, s', ⟨c, q1, q2, rfl⟩, rfl⟩; exact ⟨c, v, q1, q2, rfl⟩
  ·rintro ⟨c, v, q1, q2, rfl⟩; exact ⟨v, _, ⟨c, q1, q2, rfl⟩, rfl⟩
 have du : ∀ {o : Oper} {a : Nat} {E E' : St}, storeAt o = some a → (Stp P im all o E E' ↔ ∃ c s', opW P o.op (look E.e) E.s = some (c, s') ∧ c ∧ E' = ⟨put E.e o.dst vundef, s'⟩) := fun {o a E E'} q => by
  obtain ⟨⟨t, k, e⟩, g⟩ := hu q
  have hc : cls o.op = .w := by rw [e]; rfl
  unfold Stp
  rw [show guardOf all E.e o.guard = some none by rw [g]; rfl]
  show DoI P im o E E' ↔ _
  rw [doI_do (fun _ => by rw [hc]; simp)]
  unfold Do
  rw [hc]
 simp only [apart, Bool.and_eq_true] at ha
 have hne : ∀ q, x.dst = some q → y.dst ≠ some q := fun q e => by
  have := ha.1; rw [e] at this; simp at this; exact this.2
 have hlx : ∀ q, looks all y q = true → x.dst ≠ some q := fun q hk e => by
  have := ha.1; rw [e] at this; simp [hk] at this
 have hly : ∀ q, looks all x q = true → y.dst ≠ some q := fun q hk e => by
  have := ha.2; rw [e] at this; simp [hk] at this
 have opx : ∀ (v : V), ∀ z ∈ x.op.operands, look (put E.e y.dst v) z = look E.e z := fun v z hz => by
  cases z with
  | tmp t => exact put_getD (hly t (by unfold looks; rw [Bool.or_eq_true]; exact .inl (List.any_eq_true.2 ⟨.tmp t, by simpa using hz, by simp⟩)))
  | _ => rfl
 have opy : ∀ (v : V), ∀ z ∈ y.op.operands, look (put E.e x.dst v) z = look E.e z := fun v z hz => by
  cases z with
  | tmp t => exact put_getD (hlx t (by unfold looks; rw [Bool.or_eq_true]; exact .inl (List.any_eq_true.2 ⟨.tmp t, by simpa using hz, by simp⟩)))
  | _ => rfl
 rcases ht2 with ⟨qx, qy, tw⟩ | ⟨qx, qy, tw⟩
 ·obtain ⟨c1, v, g1, g2, rfl⟩ := (dl qx).1 h1
  obtain ⟨c2, s', g3, g4, rfl⟩ := (du qy).1 h2
  obtain ⟨⟨t, ex⟩, _⟩ := hl qx
  obtain ⟨⟨t2, v2, ey⟩, _⟩ := hu qy
  simp only at g3
  rw [opW_congr (opy v)] at g3
  refine ⟨⟨put E.e y.dst vundef, s'⟩, (du qy).2 ⟨c2, s', g3, g4, rfl⟩, (dl qx).2 ⟨c1, v, ?_, g2, ?_⟩⟩
  ·rw [ey] at g3
   simp only
   rw [opR_congr (opx vundef)]
   rw [ex] at g1 ⊢
   rw [load_store tw g3]; exact g1
  ·simp only; rw [put_comm hne]
 ·obtain ⟨c1, s', g1, g2, rfl⟩ := (du qx).1 h1
  obtain ⟨c2, v, g3, g4, rfl⟩ := (dl qy).1 h2
  obtain ⟨⟨t, v2, ex⟩, _⟩ := hu qx
  obtain ⟨⟨t2, ey⟩, _⟩ := hl qy
  simp only at g3
  rw [opR_congr (opy vundef)] at g3
  have g1' := g1
  rw [ex] at g1'
  rw [ey, load_store tw g1', ← ey] at g3
  refine ⟨⟨put E.e y.dst v, E.s⟩, (dl qy).2 ⟨c2, v, g3, g4, rfl⟩, (du qx).2 ⟨c1, s', ?_, g2, ?_⟩⟩
  ·simp only; rw [opW_congr (opx v)]; exact g1
  ·simp only; rw [put_comm hne]
theorem to_frontN {im : Op → Bool} {na : List (Nat × Nat)} {all : List Oper} (ha : alone all = true) {i : Nat} {o : Oper} (hi : all[i]? = some o) : ∀ {R : List Nat} {E E' : St}, Two na E'.e → R.Pairwise (· < ·) → i ∈ R → FreshAll all R E → (∀ j ∈ R.takeWhile (· != i), ∀ x, all[j]? = some x → commN im na all j i x o = true) → Steps P im all R E E' →
  ∃ E1, Stp P im all o E E1 ∧ Steps P im all (R.erase i) E1 E' := by
 intro R
 induction R with
 | nil => intro E E' _ _ h; cases h
 | cons j r ih =>
   intro E E' htwo hpw hm hf hc hs
   have hnd : (j :: r).Nodup := hpw.imp fun h => Nat.ne_of_lt h
   obtain ⟨x, hx, E1, h1, h2⟩ := hs
   by_cases e : j = i
   ·subst e
    rw [hx] at hi; cases hi
    exact ⟨E1, h1, by simpa using h2⟩
   ·have hmr : i ∈ r := (List.mem_cons.1 hm).resolve_left (Ne.symm e)
    have hnd' := List.nodup_cons.1 hnd
    have hpw' := List.pairwise_cons.1 hpw
    have hfr : FreshAll all r E1 := freshAll_step ha hx hnd'.1 (fun k hk => hf k (by simp [hk])) h1
    have htw : (j :: r).takeWhile (· != i) = j :: r.takeWhile (· != i) := by simp [e]
    rw [htw] at hc
    obtain ⟨E2, g1, g2⟩ := ih htwo hpw'.2 hmr hfr (fun k hk => hc k (by simp [hk])) h2
    have hcj := hc j (by simp) x hx
    have hex : ∃ E3, Stp P im all o E E3 ∧ Stp P im all x E3 E2 := by
     have hap := commN_apart hcj
     simp only [commN, Bool.or_eq_true, Bool.and_eq_true] at hcj
     rcases hcj with hcj | ⟨⟨_, hnn⟩, hcj⟩
     ·exact exchange hcj (hf j (by simp) x hx) (hf i hm o hi) (fun m1 m2 k hk => alone_mine ha (Ne.symm e) hi hx m2 k hk) h1 g1
     ·cases hp : pairAt na x o with
      | none => rw [hp] at hcj; cases hcj
      | some q =>
        obtain ⟨a, b⟩ := q
        rw [hp] at hcj
        simp only [Bool.and_eq_true, bne_iff_ne, ne_eq, List.all_eq_true, List.mem_range] at hcj
        obtain ⟨⟨hxa, hob⟩, hks⟩ := hcj
        have hlen : ∀ {k : Nat} {z : Oper}, all[k]? = some z → k < all.length := fun h => (List.getElem?_eq_some_iff.1 h).1
        -- what is left writes neither
        have la : ∀ k ∈ r.erase i, ∀ z, all[k]? = some z → z.dst ≠ some a := fun k hk z hz => by
         have hkr : k ∈ r := List.mem_of_mem_erase hk
         have hki : k ≠ i := fun e => List.Nodup.not_mem_erase hnd'.2 (e ▸ hk)
         have := hks k (hlen hz)
         rw [hz] at this
         simp only [Bool.and_eq_true, Bool.or_eq_true, decide_eq_true_eq, beq_iff_eq, bne_iff_ne, ne_eq] at this
         rcases this.1 with (h | h) | h
         ·have := hpw'.1 k hkr; omega
         ·exact absurd h hki
         ·exact h
        have hlb : looks all o b = true := by
         unfold pairAt at hp
         have st : ∀ {b : Nat}, storeAt o = some b → looks all o b = true := fun {b} q => by
          unfold storeAt at q
          split at q
          ·split at q
           ·rename_i h; cases q; unfold looks; rw [Bool.or_eq_true]; exact .inl (List.any_eq_true.2 ⟨.tmp b, by rw [h]; simp [Op.operands], by simp⟩)
           ·cases q
          ·cases q
         have lo : ∀ {b : Nat}, loadAt o = some b → looks all o b = true := fun {b} q => by
          unfold loadAt at q
          split at q
          ·split at q
           ·rename_i h; cases q; unfold looks; rw [Bool.or_eq_true]; exact .inl (List.any_eq_true.2 ⟨.tmp b, by rw [h]; simp [Op.operands], by simp⟩)
           ·cases q
          ·cases q
         split at hp
         ·rename_i q1 q2
          split at hp
          ·cases hp; exact st q2
          ·cases hp
         ·split at hp
          ·rename_i q1 q2
           split at hp
           ·cases hp; exact lo q2
           ·cases hp
          ·cases hp
        have lb : ∀ k ∈ r.erase i, ∀ z, all[k]? = some z → z.dst ≠ some b := fun k hk z hz => by
         have hkr : k ∈ r := List.mem_of_mem_erase hk
         have hki : k ≠ i := fun e => List.Nodup.not_mem_erase hnd'.2 (e ▸ hk)
         by_cases hlt : k < i
         ·have hkt : k ∈ r.takeWhile (· != i) := by
           have : ∀ (R : List Nat), R.Pairwise (· < ·) → i ∈ R → k ∈ R → k < i → k ∈ R.takeWhile (· != i) := by
            intro R
            induction R with
            | nil => intro _ h; cases h
            | cons c R ih =>
              intro hp hm hk2 hl
              have hp' := List.pairwise_cons.1 hp
              by_cases e : c = i
              ·subst e
               rcases List.mem_cons.1 hk2 with e | hk2
               ·omega
               ·have := hp'.1 k hk2; omega
              ·have hmr : i ∈ R := (List.mem_cons.1 hm).resolve_left (Ne.symm e)
               rw [List.takeWhile_cons, if_pos (by simpa using e)]
               rcases List.mem_cons.1 hk2 with rfl | hk2
               ·simp
               ·exact List.mem_cons_of_mem _ (ih hp'.2 hmr hk2 hl)
           exact this r hpw'.2 hmr hkr hlt
          have hap2 := commN_apart (hc k (by simp [hkt]) z hz)
          intro ed
          simp only [apart, Bool.and_eq_true] at hap2
          have := hap2.1
          rw [ed] at this
          simp [hlb] at this
         ·have := hks k (hlen hz)
          rw [hz] at this
          simp only [Bool.and_eq_true, Bool.or_eq_true, decide_eq_true_eq, beq_iff_eq, bne_iff_ne, ne_eq] at this
          rcases this.2 with h | h
          ·omega
          ·exact h
        -- so both point where they point at the end
        have hoa : o.dst ≠ some a := fun ed => by
         simp only [apart, Bool.and_eq_true] at hap
         have h2 := hap.2
         rw [ed] at h2
         simp only [Bool.not_eq_true'] at h2
         have : looks all x a = true := by
          unfold pairAt at hp
          split at hp
          ·rename_i q1 q2
           split at hp
           ·cases hp
            unfold loadAt at q1
            split at q1
            ·split at q1
             ·rename_i h; cases q1; unfold looks; rw [Bool.or_eq_true]; exact .inl (List.any_eq_true.2 ⟨.tmp a, by rw [h]; simp [Op.operands], by simp⟩)
             ·cases q1
            ·cases q1
           ·cases hp
          ·split at hp
           ·rename_i q1 q2
            split at hp
            ·cases hp
             unfold storeAt at q1
             split at q1
             ·split at q1
              ·rename_i h; cases q1; unfold looks; rw [Bool.or_eq_true]; exact .inl (List.any_eq_true.2 ⟨.tmp a, by rw [h]; simp [Op.operands], by simp⟩)
              ·cases q1
             ·cases q1
            ·cases hp
           ·cases hp
         rw [this] at h2; cases h2
        have hxb : x.dst ≠ some b := fun ed => by
         simp only [apart, Bool.and_eq_true] at hap
         have h1 := hap.1
         rw [ed] at h1
         simp [hlb] at h1
        have ba : ∀ q, (E'.e.getD a .top).at? = some q → (E.e.getD a .top).at? = some q := fun q hq => stp_at h1 hxa (stp_at g1 hoa (steps_at g2 la hq))
        have bb : ∀ q, (E'.e.getD b .top).at? = some q → (E.e.getD b .top).at? = some q := fun q hq => stp_at h1 hxb (stp_at g1 hob (steps_at g2 lb hq))
        have two : ∀ u v, na.contains (u, v) = true → twoB E'.e u v = true := fun u v h => by
         have := List.all_eq_true.1 htwo (u, v) (by simpa using h)
         exact this
        have hnn' : x.dst.isNone ≠ o.dst.isNone := by simpa using hnn
        have hp0 := hp
        unfold pairAt at hp
        split at hp
        ·rename_i a' b' q1 q2
         split at hp
         ·rename_i hin
          cases hp
          have t := two_at (two _ _ hin) ba bb
          exact exchangeN hap hp0 (.inl ⟨t, hin⟩) hnn' (.inl ⟨q1, q2, t⟩) h1 g1
         ·cases hp
        ·split at hp
         ·rename_i q1 q2
          split at hp
          ·rename_i hin
           cases hp
           have t := two_at (two _ _ hin) bb ba
           exact exchangeN hap hp0 (.inr ⟨t, hin⟩) hnn' (.inr ⟨q1, q2, t⟩) h1 g1
          ·cases hp
         ·cases hp
    obtain ⟨E3, g3, g4⟩ := hex
    refine ⟨E3, g3, ?_⟩
    rw [List.erase_cons_tail (by simpa using e)]
    exact ⟨x, hx, E2, g4, g2⟩
section
variable {w0 : World} {L0 : Par} {X : Nat → Prop}
theorem any_opsN {im : Op → Bool} {na : List (Nat × Nat)} {all : List Oper} (ha : alone all = true) (hi : indepN im na all = true) : ∀ (fuel : Nat) {listed : Array Bool} {m : Nat → Option Nat} {a : Act} {w : World} {E E' : St}, Two na E'.e → listed.size = all.length → (undone all.length listed).length ≤ fuel →
  (∀ i o, all[i]? = some o → listed.getD i true = true → i < all.length → ∀ e ∈ o.after.toList, Region.binds .any e = true → listed.getD e.on false = true) →
  FreshAll all (undone all.length listed) E → Rel w0 L0 X m E.e E.s a w → Steps P im all (undone all.length listed) E E' → ∀ {Q : Exit → Act → World → Prop}, (∀ m' a' w', Rel w0 L0 X m' E'.e E'.s a' w' → Q .normal a' w') → wpAny P .any all.toArray Q fuel listed a w := by
 simp only [indepN, Bool.and_eq_true] at hi
 obtain ⟨hah, hco⟩ := hi
 intro fuel
 have rdy : ∀ {listed : Array Bool}, listed.size = all.length → ∀ i, i ∈ Region.ready .any all.toArray listed ↔ i ∈ undone all.length listed ∧ ∃ o, all[i]? = some o ∧ ∀ e ∈ o.after.toList, Region.binds .any e = true → listed.getD e.on false = true := by
  intro listed hl i
  simp only [Region.ready, undone, List.mem_filter, List.size_toArray, List.getElem?_toArray, Bool.and_eq_true]
  constructor
  ·rintro ⟨h1, h2, h3⟩
   refine ⟨⟨h1, h2⟩, ?_⟩
   cases ho : all[i]? with
   | none => rw [ho] at h3; cases h3
   | some o =>
     rw [ho] at h3
     refine ⟨o, rfl, fun e he hb => ?_⟩
     simp only [Option.map_some, Option.getD_some, Array.all_eq_true_iff_forall_mem] at h3
     have := h3 e (by simpa using he)
     simpa [hb] using this
  ·rintro ⟨⟨h1, h2⟩, o, ho, h3⟩
   refine ⟨h1, h2, ?_⟩
   rw [ho]
   simp only [Option.map_some, Option.getD_some, Array.all_eq_true_iff_forall_mem]
   intro e he
   by_cases hb : Region.binds .any e = true
   ·simp [h3 e (by simpa using he) hb]
   ·simp [hb]
 -- as long as one is left, one may be taken
 have least : ∀ {listed : Array Bool}, listed.size = all.length → Region.ready .any all.toArray listed = [] → undone all.length listed = [] := by
  intro listed hl hr
  cases hu : undone all.length listed with
  | nil => rfl
  | cons i r =>
    exfalso
    have hmem : ∀ k, k ∈ undone all.length listed ↔ k < all.length ∧ listed.getD k true = false := fun k => by simp [undone]
    have hmin : ∀ k, k < i → listed.getD k false = true := by
     intro k hk
     have hii : i < all.length := ((hmem i).1 (by rw [hu]; simp)).1
     have hsort : (undone all.length listed).Pairwise (· < ·) := List.pairwise_lt_range.filter _
     rw [hu] at hsort
     have hks : k < listed.size := by omega
     cases hq : listed.getD k true with
     | true => simp [Array.getD, hks] at hq ⊢; exact hq
     | false =>
       have : k ∈ undone all.length listed := (hmem k).2 ⟨by omega, hq⟩
       rw [hu] at this
       rcases List.mem_cons.1 this with e | hm
       ·omega
       ·have := (List.pairwise_cons.1 hsort).1 k hm
        omega
    have hii : i < all.length := ((hmem i).1 (by rw [hu]; simp)).1
    have : i ∈ Region.ready .any all.toArray listed := (rdy hl i).2 ⟨by rw [hu]; simp, all[i], List.getElem?_eq_getElem hii, fun e he hb => by
     have h1 := List.all_eq_true.1 hah i (List.mem_range.2 hii)
     rw [List.getElem?_eq_getElem hii] at h1
     have h2 := List.all_eq_true.1 h1 e he
     simp only [hb, Bool.not_true, Bool.false_or, decide_eq_true_eq] at h2
     exact hmin _ h2⟩
    rw [hr] at this; cases this
 induction fuel with
 | zero =>
   intro listed m a w E E' htwo hl hn hcl hf h hs Q hQ
   have hu : undone all.length listed = [] := List.eq_nil_of_length_eq_zero (by omega)
   rw [hu] at hs
   cases hs
   refine ⟨?_, hQ m a w h⟩
   cases hr : Region.ready .any all.toArray listed with
   | nil => rfl
   | cons i r =>
     have := ((rdy hl i).1 (by rw [hr]; simp)).1
     rw [hu] at this; cases this
 | succ n ih =>
   intro listed m a w E E' htwo hl hn hcl hf h hs Q hQ
   refine ⟨fun hr => ?_, fun i hri => ?_⟩
   ·have hu := least hl hr
    rw [hu] at hs
    cases hs
    exact hQ m a w h
   ·obtain ⟨hu, o, ho, hd⟩ := (rdy hl i).1 hri
    have hii : i < all.length := (List.getElem?_eq_some_iff.1 ho).1
    have hnd : (undone all.length listed).Nodup := List.nodup_range.filter _
    have hsort : (undone all.length listed).Pairwise (· < ·) := List.pairwise_lt_range.filter _
    obtain ⟨E1, g1, g2⟩ := to_frontN ha ho htwo hsort hu hf (fun j hj x hx => by
     have hju : j ∈ undone all.length listed := (List.takeWhile_prefix _).subset hj
     have hne : j ≠ i := by have := List.all_eq_true.1 List.all_takeWhile j hj; simpa using this
     have hji : j < i := by
      have : ∀ (R : List Nat), R.Pairwise (· < ·) → i ∈ R → j ∈ R.takeWhile (· != i) → j < i := by
       intro R
       induction R with
       | nil => intro _ h; cases h
       | cons k r ih =>
         intro hp hm hj
         have hp' := List.pairwise_cons.1 hp
         by_cases e : k = i
         ·simp [e] at hj
         ·have hmr : i ∈ r := (List.mem_cons.1 hm).resolve_left (Ne.symm e)
          simp only [List.takeWhile_cons, bne_iff_ne, ne_eq, e, not_false_eq_true, if_true, List.mem_cons] at hj
          rcases hj with rfl | hj
          ·exact hp'.1 i hmr
          ·exact ih hp'.2 hmr hj
      exact this _ hsort hu hj
     have h1 := List.all_eq_true.1 (List.all_eq_true.1 hco i (List.mem_range.2 hii)) j (List.mem_range.2 hji)
     simp only [hx, ho, Bool.or_eq_true] at h1
     rcases h1 with h1 | h1
     ·have := dep_listed hcl hl _ j i o ho hd h1
      have hjl : j < listed.size := by omega
      have h2 : listed.getD j true = false := by have := hju; simp only [undone, List.mem_filter, Bool.not_eq_true'] at this; exact this.2
      simp [Array.getD, hjl] at this h2
      rw [this] at h2; cases h2
     ·exact h1) hs
    refine stp_op ho h (hf i hu o ho) g1 fun m' a' w' h' => ?_
    have hue := undone_set (listed := listed) hl hii
    refine ih htwo (by simpa using hl) ?_ ?_ ?_ h' (by rw [hue]; exact g2) hQ
    ·rw [hue, List.length_erase_of_mem hu]; omega
    ·intro k x hx hk hkl e he hb
     by_cases e1 : i = k
     ·subst e1
      rw [ho] at hx; cases hx
      have := hd e he hb
      have hne : e.on < all.length := by
       have hlt : e.on < listed.size := by
        rcases Nat.lt_or_ge e.on listed.size with h | h
        ·exact h
        ·simp [Array.getD, Nat.not_lt.2 h] at this
       omega
      simp [Array.getD_eq_getD_getElem?, Array.getElem?_setIfInBounds] at this ⊢
      split
      ·split <;> simp_all
      ·exact this
     ·have hk' : listed.getD k true = true := by
       simpa [Array.getD_eq_getD_getElem?, Array.getElem?_setIfInBounds, e1] using hk
      have := hcl k x hx hk' hkl e he hb
      simp [Array.getD_eq_getD_getElem?, Array.getElem?_setIfInBounds] at this ⊢
      split
      ·split <;> simp_all
      ·exact this
    ·rw [hue]
     have hf' : FreshAll all ((undone all.length listed).erase i) E := fun k hk => hf k (List.mem_of_mem_erase hk)
     exact freshAll_step ha ho (List.Nodup.not_mem_erase hnd) hf' g1
end
variable {E : St} {Q : Exit → St → Prop}
def okRegN (im : Op → Bool) (na : List (Nat × Nat)) (draw : Bool) (all : List Oper) : Bool := alone all && (!draw || indepN im na all)
theorem Run.regionN {im : Op → Bool} (na : List (Nat × Nat)) {id : Nat} {ops : Array Oper} {draw : Bool} (hm : P.follows .mixedOrders = true) (hk : okRegN im na draw ops.toList = true) {e : Env} {s : Store} {E' : St}
  (hs : Steps P im ops.toList (List.range ops.toList.length) ⟨enterE ops.toList e, enterS ops.toList s⟩ E') (htwo : Two na E'.e) (hq : Q .normal E') : Run P (.region id ops draw) ⟨e, s⟩ Q := fun w0 L0 X m a w hr => by
 simp only [okRegN, Bool.and_eq_true, Bool.or_eq_true, Bool.not_eq_true'] at hk
 obtain ⟨ha, hd⟩ := hk
 have henter : Rel w0 L0 X m (enterE ops.toList e) (enterS ops.toList s) a w ∧ FreshAll ops.toList (List.range ops.toList.length) ⟨enterE ops.toList e, enterS ops.toList s⟩ := by
  unfold enterE enterS
  by_cases h : (ks ops.toList).isEmpty = true
  ·simp only [h, if_true]
   refine ⟨hr, fun i _ o ho hm => ?_⟩
   have := ks_nil h o (List.mem_of_getElem? ho)
   rw [this] at hm; cases hm
  ·simp only [h, if_false]
   exact ⟨hr.fgt _, fresh_enter⟩
 obtain ⟨h1, h2⟩ := henter
 have fin : ∀ m' a' w', Rel w0 L0 X m' E'.e E'.s a' w' → ∃ E'' m'', Q .normal E'' ∧ Rel w0 L0 X m'' E''.e E''.s a' w' := fun m' a' w' h => ⟨E', m', hq, h⟩
 cases draw with
 | false =>
   refine wp_region ?_
   have := seq_ops (P := P) (w0 := w0) (L0 := L0) (X := X) ha List.nodup_range h2 h1 hs (Q := fun x a' w' => ∃ E' m', Q x E' ∧ Rel w0 L0 X m' E'.e E'.s a' w') fin
   simpa using this
 | true =>
   have hi : indepN im na ops.toList = true := by rcases hd with h | h; exact absurd h (by simp); exact h
   refine wp_region_any hm ?_
   have hu : undone ops.toList.length (Array.replicate ops.size false) = List.range ops.toList.length := by
    unfold undone
    rw [List.filter_eq_self]
    intro k hk
    have := List.mem_range.1 hk
    simp at this
    simp [Array.getD, this]
   have h3 : Rel w0 L0 X m (enterE ops.toList e) (enterS ops.toList s) a { w with drawn := w.drawn + 1 } := by
    have hk : CellsKept (Live X m (enterS ops.toList s)) w { w with drawn := w.drawn + 1 } := fun _ _ _ q => q
    have hz : SizesKept w { w with drawn := w.drawn + 1 } := fun _ cs _ _ q => ⟨cs, q, rfl⟩
    refine ⟨⟨h1.env.len, fun j x v q1 q2 => VRel.mono' hk hz (fun b hb => .inl hb) (h1.env.at_ j x v q1 q2)⟩, ⟨fun i blk hi => ?_, h1.sto.inj⟩, h1.dfr, ⟨h1.ext.os, h1.ext.tape, h1.ext.output, h1.ext.size, h1.ext.block, h1.ext.sizes⟩, h1.liv, h1.old, h1.par⟩
    rcases h1.sto.blk i blk hi with ⟨b, r1, r2⟩ | r
    ·exact .inl ⟨b, r1, BRel.mono (p := fun _ => false) hk hz (fun b hb => .inl hb) (fun _ _ => rfl) rfl (by cases blk <;> first | exact menL_false _ | trivial) r2⟩
    ·exact .inr r
   have := any_opsN (P := P) (na := na) (w0 := w0) (L0 := L0) (X := X) ha hi ops.size (listed := Array.replicate ops.size false) htwo (by simp) (by rw [hu]; simp) (fun i o ho hl hlt e he hb => by
    simp at hlt
    simp [Array.getD, hlt] at hl) (by rw [hu]; exact h2) h3 (by rw [hu]; exact hs) (Q := fun x a' w' => ∃ E' m', Q x E' ∧ Rel w0 L0 X m' E'.e E'.s a' w') fin
   simpa using this
theorem Run.opsN (l : List FuncId) (na : List (Nat × Nat)) {id : Nat} {ops : Array Oper} {draw : Bool} (los : List LOp) (hm : P.follows .mixedOrders = true) (hk : okRegN (imp l) na draw ops.toList = true) (hl : ops.toList.map (lite ops.toList) = los) {e : Env} {s : Store}
  (h : ∀ K : Env → Store → Prop, (∀ e s, Two na e → Q .normal ⟨e, s⟩ → K e s) → EvL P (imp l) K los (enterE ops.toList e) (enterS ops.toList s)) : Run P (.region id ops draw) ⟨e, s⟩ Q := by
 have h0 : EvO P (imp l) ops.toList (fun e s => Two na e ∧ Q .normal ⟨e, s⟩) ops.toList (enterE ops.toList e) (enterS ops.toList s) := by
  subst hl; exact evL_evO (h _ fun _ _ h1 h2 => ⟨h1, h2⟩)
 obtain ⟨E', h1, h2⟩ := evO_steps (P := P) (im := imp l) (n := 0) (List.drop_zero ..) h0
 rw [← List.range_eq_range'] at h1
 exact Run.regionN na hm hk h1 h2.1 h2.2
end Go.Fw
end
section
namespace Go.Proofs.Ytimgbdkgjfbhkaa.Z
open Go Go.Fw
attribute [-simp] lookV updV Blk.fgt Blk.ren Blk.men Blk.fin lost
set_option maxHeartbeats 8000000 in
theorem keys_ok (c : CoreT) (p : PlanT) (tb pp : V) (htb : ∃ x, tb = .d x) (hpp : ∃ x, pp = .d x) (np : Nat) (ps : List PlanT) (l : List Int) (b0 b1 : List Bool) (hk2 : p.kids.length = 2) (hw : c.nodes.length + c.edges.length ≤ 16) (hB0 : Snd P 24 [.d (.ag (encP (rdI p.kids 0))), .d (.ag (encC c))] (.tup [.d (.sl false (b0.map encB)), .int 0]) []) (hb0 : b0.length = c.nodes.length + c.edges.length) (hB1 : Snd P 24 [.d (.ag (encP (rdI p.kids 1))), .d (.ag (encC c))] (.tup [.d (.sl false (b1.map encB)), .int 0]) []) (hb1 : b1.length = c.nodes.length + c.edges.length) : SndW P 99 [.pt 0 0 0 0, .d (.ag (encP p))] [(0, .vals ((encC c).map .d ++ [tb, pp, .rs 1 6 0 np, .mp 2])), (1, .data 6 (ps.map encP)), (2, mpK l)] (.d (.sl false ((keyN b0 b1 (c.nodes.length + c.edges.length)).map encI))) [(0, .vals ((encC c).map .d ++ [tb, pp, .rs 1 6 0 np, .mp 2])), (1, .data 6 (ps.map encP)), (2, mpK l)] := by
 obtain ⟨xt, rfl⟩ := htb
 obtain ⟨xp, rfl⟩ := hpp
 obtain ⟨n, hn⟩ : ∃ z, c.nodes.length + c.edges.length = z := ⟨_, rfl⟩
 have hkl : p.kids.length = 2 := hk2
 have hb0n : b0.length = n := by rw [hb0, hn]
 have hb1n : b1.length = n := by rw [hb1, hn]
 rw [hn] at hw
 rw [hn]
 have hJ0 := hB0
 have hJ1 := hB1
 rw [encP_cells] at hJ0 hJ1
 refine sndW_of [0, 1, 2] Try.func99 rfl (by kernel_rfl) Try.ntmps99 (by simp) (by simp) ?_
 unfold Try.f99
 simp only [List.cons_append, List.nil_append, List.length_cons, List.length_nil, Nat.reduceAdd, Nat.reduceSub, List.replicate]
 apply Run.seq
 refine opsF [⟨.box 48 (.tmp 1), some 3, none⟩, ⟨.assign (.const (.slice none 0 0)), some 4, none⟩] fun K hK => ?_
 try simp
 repeat' first | (refine evL_c ?_; simp [hkl, hb0n, hb1n]) | (with_reducible first | apply aI | intro _ | assumption) | omega
 all_goals (apply Fin.go hK; clear hK K)
 simp only [tN]
 apply Run.seq
 refine opsF [oF 48 3 1 13, oL 45 13 14, ⟨.indexAddr 45 (.tmp 14) (.const (.int .i64 0)), some 15, none⟩, oL 48 15 16, oM 0 17, oV 17 18, oF 120 18 0 19, oL 32 19 20, oC 24 #[.tmp 16, .tmp 20] #[48, 32] 21, oM 21 12, oX 12 0 22, oX 12 1 23, oA 22 5, oA 23 6] fun K hK => ?_
 try simp
 repeat' first | (refine ecall (by exact hJ0) rfl ?_) | (refine evL_c ?_; simp [hkl, hb0n, hb1n]) | (with_reducible first | apply aI | intro _ | assumption) | omega
 all_goals (apply Fin.go hK; clear hK K)
 simp only [tN]
 apply Run.seq
 refine opsF [oF 48 3 1 25, oL 45 25 26, ⟨.indexAddr 45 (.tmp 26) (.const (.int .i64 1)), some 27, none⟩, oL 48 27 28, oM 0 29, oV 29 30, oF 120 30 0 31, oL 32 31 32, oC 24 #[.tmp 28, .tmp 32] #[48, 32] 33, oM 33 24, oX 24 0 34, oX 24 1 35, oA 34 7, oA 35 8] fun K hK => ?_
 try simp
 repeat' first | (refine ecall (by exact hJ1) rfl ?_) | (refine evL_c ?_; simp [hkl, hb0n, hb1n]) | (with_reducible first | apply aI | intro _ | assumption) | omega
 all_goals (apply Fin.go hK; clear hK K)
 simp only [tN]
 apply Run.seq
 refine opsF [⟨.assign (.const (.slice none 0 0)), some 9, none⟩] fun K hK => ?_
 try simp
 repeat' first | (refine evL_c ?_; simp [hkl, hb0n, hb1n]) | (with_reducible first | apply aI | intro _ | assumption) | omega
 all_goals (apply Fin.go hK; clear hK K)
 simp only [tN]
 refine Run.vir 5400 1 (by omega) ?_
 simp
 refine Run.subV 9 (.rs 5400 1 0 0) rfl (nil_rs 5400 1) ?_
 simp
 apply Run.seq
 apply Run.seq
 refine opsF [oM 5 36, oN 34 36 37, ⟨.move (.const (.int .i64 0)), some 38, none⟩] fun K hK => ?_
 try simp
 repeat' first | (refine evL_c ?_; simp [hkl, hb0n, hb1n]) | (with_reducible first | apply aI | intro _ | assumption) | omega
 all_goals (apply Fin.go hK; clear hK K)
 simp only [tN]
 apply Run.block
 refine Run.loopO [9, 10, 11, 38, 39, 40, 41, 42, 43, 44, 45, 46, 47, 48, 49, 50, 51, 52, 53, 54] (fun (i : Nat) => [(38, .int i), (9, .rs 5400 1 0 (keyN b0 b1 i).length)]) (fun (i : Nat) => [(0, .vals ((encC c).map .d ++ [.d xt, .d xp, .rs 1 6 0 np, .mp 2])), (1, .data 6 (ps.map encP)), (2, mpK l), (400, .vals ((encP p).map .d)), (5400, .data 1 ((keyN b0 b1 i).map encI))]) (fun (i : Nat) => i ≤ n) (fun (i : Nat) => n - i) 0 (by omega) (by simp [keyN, hkl, hb0n, hb1n]) fun i hi => ?_
 simp only [over, List.foldl, List.set]
 have hkn := keyN_len b0 b1 i
 have hju : keyN b0 b1 (i + 1) = if rdI b0 i && rdI b1 i then keyN b0 b1 i ++ [(i : Int)] else keyN b0 b1 i := rfl
 obtain ⟨ks, hks⟩ : ∃ z, keyN b0 b1 i = z := ⟨_, rfl⟩
 rw [hks] at hkn hju
 obtain ⟨kn, hkl2⟩ : ∃ z, ks.length = z := ⟨_, rfl⟩
 rw [hkl2] at hkn
 have htk : (ks.map encI).take kn = ks.map encI := List.take_of_length_le (by simp [hkl2])
 apply Run.seq
 refine opsF [oB .lss 3 38 37 3 39] fun K hK => ?_
 try simp
 repeat' first | (refine evL_c ?_; simp [hkl, hb0n, hb1n]) | (with_reducible first | apply aI | intro _ | assumption) | omega
 all_goals (apply Fin.go hK; clear hK K)
 simp only [tN]
 apply Run.seq
 refine Run.cond rfl (fun h39 => ?_) (fun h39 => ?_)
 ·try simp at h39
  have hi1 : i < n := by omega
  have hi2 : (i : Int) < n := by omega
  apply Run.skip
  simp only [tN]
  apply Run.seq
  apply Run.block
  apply Run.seq
  refine opsF [oM 38 40, oI 34 36 38 41, oL 4 41 42, oA 40 10, oA 42 11] fun K hK => ?_
  try simp
  repeat' first | (refine evL_c ?_; simp [hkl, hb0n, hb1n, hi1, hi2, hks, hkl2, htk]) | (with_reducible first | apply aI | intro _ | assumption) | omega
  all_goals (apply Fin.go hK; clear hK K)
  simp only [tN]
  refine Run.cut [43, 44, 45, 46, 47, 48, 49] [(49, .bool (rdI b0 i && rdI b1 i))] [(0, .vals ((encC c).map .d ++ [.d xt, .d xp, .rs 1 6 0 np, .mp 2])), (1, .data 6 (ps.map encP)), (2, mpK l), (400, .vals ((encP p).map .d)), (5400, .data 1 (ks.map encI))] ?_ ?_
  ·refine opsF [oM 11 43, oM 43 44, ⟨.move (.tmp 7), some 45, some (some 44, true)⟩, ⟨.move (.tmp 10), some 46, some (some 44, true)⟩, ⟨.indexAddr 34 (.tmp 45) (.tmp 46), some 47, some (some 44, true)⟩, ⟨.load 4 (.tmp 47), some 48, some (some 44, true)⟩, ⟨.pick (.tmp 44) (.tmp 48) (.const (.bool false)), some 49, none⟩] fun K hK => ?_
   try simp
   repeat' first | ((first | refine evL_c ?_ | (refine evL_g rfl ?_; try simp only [gs_tt, gs_ff, gs_tf, gs_ft]) | refine evL_u rfl ?_ | (with_reducible refine gsplit (fun hg => ?_) (fun hg => ?_) <;> try simp at hg)) <;> try simp [hkl, hb0n, hb1n, hi1, hi2, hks, hkl2, htk, *]) | (with_reducible first | apply aI | intro _ | assumption) | omega
   all_goals (apply Fin.go hK; clear hK K)
   all_goals
    (try simp [*]) <;> (first | omega | (simp; done) | grind)
  ·simp only [over, List.foldl, List.set]
   refine Run.cond rfl (fun h49 => ?_) (fun h49 => ?_)
   ·try simp at h49
    refine opsF [oM 9 50, oM 10 51, ⟨.buildSlice 46 1 #[(0, .tmp 51)], some 52, none⟩, ⟨.call { callee := .builtin .append, args := #[.tmp 50, .tmp 52], argTypes := #[46, 46] }, some 53, none⟩, oA 53 9] fun K hK => ?_
    try simp
    repeat' first | (refine evL_c ?_; simp [hkl, hb0n, hb1n, hi1, hi2, hks, hkl2, htk]) | (with_reducible first | apply aI | intro _ | assumption) | omega
    all_goals (apply Fin.go hK; clear hK K)
    simp only [Blok_normal]
    simp only [tN]
    refine opsF oo42 fun K hK => ?_
    try simp
    repeat' first | (refine evL_c ?_; simp [hkl, hb0n, hb1n, hi1, hi2, hks, hkl2, htk]) | (with_reducible first | apply aI | intro _ | assumption) | omega
    all_goals (apply Fin.go hK; clear hK K)
    refine ⟨i + 1, by omega, by omega, ?_⟩
    (try simp at h49)
    (try simp (disch := omega) [wrap_id, hju, h49, hks, hkl2, htk, hkl, hb0n, hb1n]) <;> (first | done | grind)
   ·try simp at h49
    apply Run.skip
    simp only [Blok_normal]
    simp only [tN]
    refine opsF oo42 fun K hK => ?_
    try simp
    repeat' first | (refine evL_c ?_; simp [hkl, hb0n, hb1n, hi1, hi2, hks, hkl2, htk]) | (with_reducible first | apply aI | intro _ | assumption) | omega
    all_goals (apply Fin.go hK; clear hK K)
    refine ⟨i + 1, by omega, by omega, ?_⟩
    (try simp at h49)
    (try simp (disch := omega) [wrap_id, hju, h49, hks, hkl2, htk, hkl, hb0n, hb1n]) <;> (first | done | grind)
 ·try simp at h39
  have hi3 : i = n := by omega
  subst hi3
  refine Run.exit ?_
  simp (decide := true) only [Then_exit, Blok_exit, if_true, if_false]
  simp only [tN]
  apply Run.seq
  refine opsF [oM 9 55, oA 55 4] fun K hK => ?_
  try simp
  repeat' first | (refine evL_c ?_; simp [hkl, hb0n, hb1n, hks, hkl2]) | (with_reducible first | apply aI | intro _ | assumption) | omega
  all_goals (apply Fin.go hK; clear hK K)
  simp only [tN]
  apply Run.ret
  try simp only [Then_ret, Blok_ret]
  simp [hkl, hb0n, hb1n, hks, hkl2, htk]
end Go.Proofs.Ytimgbdkgjfbhkaa.Z
end
