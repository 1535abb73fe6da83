/- Texts of this claim, put together: Pj, Pk, Pl, Sx. -/
import Derived.Test.YtimgbdkgjfbhkaaMd
set_option linter.unusedVariables false
set_option linter.unusedSimpArgs false
namespace Go.Proofs.Ytimgbdkgjfbhkaa.Z
open Go Go.Fw
abbrev oo37 : List LOp := [⟨Op.box 48 (Operand.tmp 0), some 2, none⟩, ⟨Op.box 32 (Operand.tmp 1), some 3, none⟩, ⟨Op.assign (Operand.const (Value.slice none 0 0)), some 4, none⟩, ⟨Op.assign (Operand.const (Value.int IntKind.i64 0)), some 5, none⟩]
abbrev oo38 : List LOp := [⟨Op.load 32 (Operand.tmp 3), some 7, none⟩, ⟨Op.call { callee := Callee.value (Operand.func 42), args := #[Operand.tmp 7], argTypes := #[32] }, some 8, none⟩, ⟨Op.unOp UnOp.not 4 (Operand.tmp 8), some 9, none⟩]
abbrev oo39 : List LOp := [⟨Op.load 32 (Operand.tmp 3), some 10, none⟩, ⟨Op.fieldAddr 32 (Operand.tmp 3) 0, some 11, none⟩, ⟨Op.load 26 (Operand.tmp 11), some 12, none⟩, ⟨Op.call { callee := Callee.builtin Builtin.len, args := #[Operand.tmp 12], argTypes := #[26] }, some 13, none⟩, ⟨Op.build 112 #[(0, Operand.tmp 10), (1, Operand.tmp 13)], some 14, none⟩, ⟨Op.load 48 (Operand.tmp 2), some 15, none⟩, ⟨Op.call { callee := Callee.value (Operand.func 43), args := #[Operand.tmp 14, Operand.tmp 15], argTypes := #[112, 48] }, some 16, none⟩, ⟨Op.assign (Operand.tmp 16), some 6, none⟩]
abbrev oo40 : List LOp := [⟨Op.move (Operand.tmp 6), some 17, none⟩, ⟨Op.binOp BinOp.neq 34 (Operand.tmp 17) (Operand.const (Value.slice none 0 0)) 34, some 18, none⟩]
end Go.Proofs.Ytimgbdkgjfbhkaa.Z
section
set_option maxRecDepth 100000
namespace Go.Proofs.Ytimgbdkgjfbhkaa.Z
open Go Go.Fw
set_option maxHeartbeats 4000000 in
theorem bound1_ok (c : CoreT) (p : PlanT) (hP : patS c.nodes c.edges = true) (hop : p.op = 1) (hkl : p.kids.length = 0) : Snd P 43 [.d (.ag (encC c ++ [D.int c.nodes.length])), .d (.ag (encP p))] (resB (opS c p [])) (stoB (opS c p [])) := by
  obtain ⟨hn1, hn8, hk8⟩ := pat_rng hP
  have hE := goodE_of hP
  obtain ⟨n, hn⟩ : ∃ k, c.nodes.length = k := ⟨_, rfl⟩
  obtain ⟨k, hk⟩ : ∃ k, c.edges.length = k := ⟨_, rfl⟩
  rw [hn] at hn1 hn8
  rw [hk] at hk8
  obtain ⟨fb, hfb⟩ : ∃ fb, List.replicate (n + k) false = fb := ⟨_, rfl⟩
  have hfl : fb.length = n + k := by rw [← hfb]; simp
  have hwd : ((n:Int) + k).toNat = n + k := by omega
  have hw : IntKind.i64.wrap ((n:Int) + k) = (n:Int) + k := wrap_id (by omega) (by omega)
  have hw1 : 0 < n + k := by omega
  have hw2 : (n:Int) + k ≤ 140737488355328 := by omega
  have hw3 : (0:Int) ≤ (n:Int) + k := by omega
  obtain ⟨sb, hsb⟩ : ∃ sb, decide (0 ≤ p.slot ∧ p.slot < (n : Int)) = sb := ⟨_, rfl⟩
  refine snd_of [4200] Try.func43 rfl (by kernel_rfl) Try.ntmps43 (by simp) ?_
  unfold Try.f43
  simp only [List.cons_append, List.nil_append, List.length_cons, List.length_nil, Nat.reduceAdd, Nat.reduceSub, List.replicate]
  refine Run.seq ?_
  refine opsF oo13 fun K hK => ?_
  try simp
  repeat' first | ((refine evL_c ?_); simp [-List.map_set, hn, hk, hop, hkl, hw, hwd, hfl, hw1, hw2, hw3]) | (with_reducible refine And.intro ?_ ?_) | intro _ | (with_reducible assumption) | omega
  all_goals (refine Fin.go hK ?_; clear hK K)
  simp only [Then_normal]
  refine Run.seq ?_
  refine opsF oo14 fun K hK => ?_
  try simp
  repeat' first | ((refine evL_c ?_); simp [-List.map_set, hn, hk, hop, hkl, hw, hwd, hfl, hw1, hw2, hw3]) | (with_reducible refine And.intro ?_ ?_) | intro _ | (with_reducible assumption) | omega
  all_goals (refine Fin.go hK ?_; clear hK K)
  simp only [Then_normal]
  refine Run.seq ?_
  refine Run.seq ?_
  refine opsF oo15 fun K hK => ?_
  try simp
  repeat' first | ((refine evL_c ?_); simp [-List.map_set, hn, hk, hop, hkl, hw, hwd, hfl, hw1, hw2, hw3]) | (with_reducible refine And.intro ?_ ?_) | intro _ | (with_reducible assumption) | omega
  all_goals (refine Fin.go hK ?_; clear hK K)
  simp only [Then_normal]
  refine Run.seq ?_
  refine opsF oo16 fun K hK => ?_
  try simp
  repeat' first | ((first | refine evL_c ?_ | (refine evL_g rfl ?_; try simp only [gs_tt, gs_ff, gs_tf, gs_ft]) | refine evL_u rfl ?_ | (with_reducible refine gsplit (fun hg => ?_) (fun hg => ?_) <;> try simp at hg)) <;> try simp [-List.map_set, hn, hk, hop, hkl, hw, hwd, hfl, hw1, hw2, hw3]) | (with_reducible refine And.intro ?_ ?_) | intro _ | (with_reducible assumption) | omega
  all_goals (refine Fin.go hK ?_; clear hK K)
  all_goals
    simp only [Then_normal]
    refine Run.cond rfl (fun h33 => ?_) (fun h33 => ?_)
    · simp at h33
    · skip
      refine Run.skip ?_
      simp only [Then_normal]
      refine Run.cut [8, 34, 35, 36, 37, 38, 39, 40, 41, 42] [(8, .rs 4300 1 0 1)] [(300, .vals ((encC c ++ [D.int c.nodes.length]).map .d)), (400, .vals ((encP p).map .d)), (4200, .data 1 (fb.map encB)), (4300, .vals [.rs 4200 1 0 (n + k)])] ?_ ?_
      · refine opsF oo17 fun K hK => ?_
        try simp
        repeat' first | ((refine evL_c ?_); simp [-List.map_set, hn, hk, hop, hkl, hw, hwd, hfl, hw1, hw2, hw3]) | (with_reducible refine And.intro ?_ ?_) | intro _ | (with_reducible assumption) | omega
        all_goals (refine Fin.go hK ?_; clear hK K)
        first | (simp [-List.map_set, hn, hk, hop, hkl, hw, hwd, hfl, hw1, hw2, hw3, ← hfb]; done)
      · simp only [over, List.foldl, List.set]
        refine Run.seq ?_
        refine Run.seq ?_
        refine opsF oo18 fun K hK => ?_
        try simp
        repeat' first | ((refine evL_c ?_); simp [-List.map_set, hn, hk, hop, hkl, hw, hwd, hfl, hw1, hw2, hw3]) | (with_reducible refine And.intro ?_ ?_) | intro _ | (with_reducible assumption) | omega
        all_goals (refine Fin.go hK ?_; clear hK K)
        simp only [Then_normal]
        refine Run.block ?_
        refine Run.loopO [4, 8, 10, 11, 46, 47, 48, 49, 50, 51, 52, 53, 54, 55, 56, 57, 58, 59] (fun (x : Nat) => [(46, .int x), (8, .rs 4300 1 0 1)]) (fun (x : Nat) => [(300, .vals ((encC c ++ [D.int c.nodes.length]).map .d)), (400, .vals ((encP p).map .d)), (4200, .data 1 (fb.map encB)), (4300, .vals [.rs 4200 1 0 (n + k)])]) (fun (x : Nat) => x = 0) (fun (x : Nat) => 0) 0 (by simp) (by simp [-List.map_set, hn, hk, hop, hkl, hw, hwd, hfl, hw1, hw2, hw3]) fun x hx => ?_
        rcases hx with rfl
        · simp only [over, List.foldl, List.set]
          refine Run.seq ?_
          refine opsF oo19 fun K hK => ?_
          try simp
          repeat' first | ((refine evL_c ?_); simp [-List.map_set, hn, hk, hop, hkl, hw, hwd, hfl, hw1, hw2, hw3]) | (with_reducible refine And.intro ?_ ?_) | intro _ | (with_reducible assumption) | omega
          all_goals (refine Fin.go hK ?_; clear hK K)
          simp only [Then_normal]
          refine Run.seq ?_
          refine Run.cond rfl (fun h47 => ?_) (fun h47 => ?_)
          · simp at h47
          · skip
            refine Run.exit ?_
            simp (decide := true) only [Then_exit, Blok_exit, if_true, if_false]
            simp only [Then_normal]
            refine Run.seq ?_
            refine opsF oo25 fun K hK => ?_
            try simp
            repeat' first | ((refine evL_c ?_); simp [-List.map_set, hn, hk, hop, hkl, hw, hwd, hfl, hw1, hw2, hw3]) | (with_reducible refine And.intro ?_ ?_) | intro _ | (with_reducible assumption) | omega
            all_goals (refine Fin.go hK ?_; clear hK K)
            simp only [Then_normal]
            refine Run.seq ?_
            refine opsF oo26 fun K hK => ?_
            try simp
            repeat' first | ((refine evL_c ?_); simp [-List.map_set, hn, hk, hop, hkl, hw, hwd, hfl, hw1, hw2, hw3]) | (with_reducible refine And.intro ?_ ?_) | intro _ | (with_reducible assumption) | omega
            all_goals (refine Fin.go hK ?_; clear hK K)
            simp only [Then_normal]
            refine Run.seq ?_
            refine Run.seq ?_
            refine opsF oo27 fun K hK => ?_
            try simp
            repeat' first | ((refine evL_c ?_); simp [-List.map_set, hn, hk, hop, hkl, hw, hwd, hfl, hw1, hw2, hw3]) | (with_reducible refine And.intro ?_ ?_) | intro _ | (with_reducible assumption) | omega
            all_goals (refine Fin.go hK ?_; clear hK K)
            simp only [Then_normal]
            refine Run.block ?_
            refine Run.seq ?_
            refine opsF oo28 fun K hK => ?_
            try simp
            repeat' first | ((refine evL_c ?_); simp [-List.map_set, hn, hk, hop, hkl, hw, hwd, hfl, hw1, hw2, hw3]) | (with_reducible refine And.intro ?_ ?_) | intro _ | (with_reducible assumption) | omega
            all_goals (refine Fin.go hK ?_; clear hK K)
            simp only [Then_normal]
            refine Run.cond rfl (fun h68 => ?_) (fun h68 => ?_)
            · skip
              refine Run.cut [13, 70, 71, 72, 73, 74, 75, 76, 77, 78, 79] [(13, .bool sb)] [(300, .vals ((encC c ++ [D.int c.nodes.length]).map .d)), (400, .vals ((encP p).map .d)), (1300, .vals [.rs 4200 1 0 (n + k)]), (4200, .data 1 (fb.map encB))] ?_ ?_
              · refine opsF [⟨Op.fieldAddr 48 (Operand.tmp 3) 2, some 70, none⟩, ⟨Op.load 3 (Operand.tmp 70), some 71, none⟩, ⟨Op.binOp BinOp.geq 3 (Operand.tmp 71) (Operand.const (Value.int IntKind.i64 0)) 3, some 72, none⟩, ⟨Op.move (Operand.tmp 72), some 73, none⟩, ⟨Op.fieldAddr 48 (Operand.tmp 3) 2, some 74, some (some 73, true)⟩, ⟨Op.load 3 (Operand.tmp 74), some 75, some (some 73, true)⟩, ⟨Op.fieldAddr 112 (Operand.tmp 2) 1, some 76, some (some 73, true)⟩, ⟨Op.load 3 (Operand.tmp 76), some 77, some (some 73, true)⟩, ⟨Op.binOp BinOp.lss 3 (Operand.tmp 75) (Operand.tmp 77) 3, some 78, some (some 73, true)⟩, ⟨Op.pick (Operand.tmp 73) (Operand.tmp 78) (Operand.const (Value.bool false)), some 79, none⟩, ⟨Op.assign (Operand.tmp 79), some 13, none⟩] fun K hK => ?_
                try simp
                repeat' first | ((first | refine evL_c ?_ | (refine evL_g rfl ?_; try simp only [gs_tt, gs_ff, gs_tf, gs_ft]) | refine evL_u rfl ?_ | (with_reducible refine gsplit (fun hg => ?_) (fun hg => ?_) <;> try simp at hg)) <;> try simp [-List.map_set, hn, hk, hop, hkl, hw, hwd, hfl, hw1, hw2, hw3, *]) | (with_reducible refine And.intro ?_ ?_) | intro _ | (with_reducible assumption) | omega
                all_goals (refine Fin.go hK ?_; clear hK K)
                all_goals
                  (try simp [← hsb, -List.map_set, hn, hk, hop, hkl, hw, hwd, hfl, hw1, hw2, hw3]) <;> (first | omega | (simp; done) | (rw [Bool.eq_iff_iff]; simp only [Bool.or_eq_true, Bool.and_eq_true, Bool.not_eq_true', decide_eq_true_eq, decide_eq_false_iff_not]; omega) | grind | (simp_all; done) | (simp_all; omega))
              · simp only [over, List.foldl, List.set]
                refine Run.seq ?_
                refine opsF [⟨Op.move (Operand.tmp 13), some 80, none⟩] fun K hK => ?_
                try simp
                repeat' first | ((refine evL_c ?_); simp [-List.map_set, hn, hk, hop, hkl, hw, hwd, hfl, hw1, hw2, hw3]) | (with_reducible refine And.intro ?_ ?_) | intro _ | (with_reducible assumption) | omega
                all_goals (refine Fin.go hK ?_; clear hK K)
                simp only [Then_normal]
                refine Run.cond rfl (fun h80 => ?_) (fun h80 => ?_)
                · rw [h80, decide_eq_true_eq] at hsb
                  obtain ⟨hs0, hs1⟩ := hsb
                  have hs2 : p.slot < (n : Int) + k := by omega
                  have hs3 : p.slot.toNat < n + k := by omega
                  refine opsF [⟨Op.load 34 (Operand.tmp 12), some 81, none⟩, ⟨Op.fieldAddr 48 (Operand.tmp 3) 2, some 82, none⟩, ⟨Op.load 3 (Operand.tmp 82), some 83, none⟩, ⟨Op.indexAddr 34 (Operand.tmp 81) (Operand.tmp 83), some 84, none⟩, ⟨Op.store 4 (Operand.tmp 84) (Operand.const (Value.bool true)), none, none⟩] fun K hK => ?_
                  try simp
                  repeat' first | ((refine evL_c ?_); simp [-List.map_set, hn, hk, hop, hkl, hw, hwd, hfl, hw1, hw2, hw3, h80, hs0, hs1, hs2, hs3]) | (with_reducible refine And.intro ?_ ?_) | intro _ | (with_reducible assumption) | omega
                  all_goals (refine Fin.go hK ?_; clear hK K)
                  simp only [Blok_normal]
                  simp only [Then_normal]
                  refine Run.seq ?_
                  refine Run.seq ?_
                  refine opsF oo31 fun K hK => ?_
                  try simp
                  repeat' first | ((refine evL_c ?_); simp [-List.map_set, hn, hk, hop, hkl, hw, hwd, hfl, hw1, hw2, hw3, h80, hs0, hs1, hs2, hs3]) | (with_reducible refine And.intro ?_ ?_) | intro _ | (with_reducible assumption) | omega
                  all_goals (refine Fin.go hK ?_; clear hK K)
                  simp only [Then_normal]
                  refine Run.cond rfl (fun h145 => ?_) (fun h145 => ?_)
                  · simp at h145
                  · skip
                    refine Run.skip ?_
                    simp only [Then_normal]
                    refine Run.seq ?_
                    refine opsF oo33 fun K hK => ?_
                    try simp
                    repeat' first | ((refine evL_c ?_); simp [-List.map_set, hn, hk, hop, hkl, hw, hwd, hfl, hw1, hw2, hw3, h80, hs0, hs1, hs2, hs3]) | (with_reducible refine And.intro ?_ ?_) | intro _ | (with_reducible assumption) | omega
                    all_goals (refine Fin.go hK ?_; clear hK K)
                    simp only [Then_normal]
                    refine Run.ret ?_
                    try simp only [Then_ret, Blok_ret]
                    first
                      | (have e : opS c p [] = none := by simp [opS, hop]; rw [hn]; omega
                         rw [e]
                         simp [resB, stoB, hn]; done)
                      | (have e : opS c p [] = some (fb.set p.slot.toNat true) := by simp [opS, hop, hn, hk, hfb, hs0, hs1]
                         rw [e]
                         simp [-List.map_set, resB, stoB, hn, hfl]; done)
                · rw [h80, decide_eq_false_iff_not] at hsb
                  refine Run.skip ?_
                  simp only [Blok_normal]
                  simp only [Then_normal]
                  refine Run.seq ?_
                  refine Run.seq ?_
                  refine opsF oo31 fun K hK => ?_
                  try simp
                  repeat' first | ((refine evL_c ?_); simp [-List.map_set, hn, hk, hop, hkl, hw, hwd, hfl, hw1, hw2, hw3, h80]) | (with_reducible refine And.intro ?_ ?_) | intro _ | (with_reducible assumption) | omega
                  all_goals (refine Fin.go hK ?_; clear hK K)
                  simp only [Then_normal]
                  refine Run.cond rfl (fun h145 => ?_) (fun h145 => ?_)
                  · skip
                    refine Run.seq ?_
                    refine opsF oo32 fun K hK => ?_
                    try simp
                    repeat' first | ((refine evL_c ?_); simp [-List.map_set, hn, hk, hop, hkl, hw, hwd, hfl, hw1, hw2, hw3, h80]) | (with_reducible refine And.intro ?_ ?_) | intro _ | (with_reducible assumption) | omega
                    all_goals (refine Fin.go hK ?_; clear hK K)
                    simp only [Then_normal]
                    refine Run.drop [] (by simp) ?_
                    refine Run.ret ?_
                    try simp only [Then_ret, Blok_ret]
                    first
                      | (have e : opS c p [] = none := by simp [opS, hop]; rw [hn]; omega
                         rw [e]
                         simp [resB, stoB, hn]; done)
                      | (have e : opS c p [] = some (fb.set p.slot.toNat true) := by simp [opS, hop, hn, hk, hfb, hs0, hs1]
                         rw [e]
                         simp [-List.map_set, resB, stoB, hn, hfl]; done)
                  · simp at h145
            · simp at h68

set_option maxHeartbeats 4000000 in
theorem boundN2_ok (c : CoreT) (p : PlanT) (hP : patS c.nodes c.edges = true) (hop : p.op = 2) (hkl : p.kids.length = 1) (IH : Snd P 43 [.d (.ag (encC c ++ [D.int c.nodes.length])), .d (.ag (encP (rdI p.kids 0)))] (resB (bndT c (rdI p.kids 0))) (stoB (bndT c (rdI p.kids 0)))) (hq : bndT c (rdI p.kids 0) = none) : Snd P 43 [.d (.ag (encC c ++ [D.int c.nodes.length])), .d (.ag (encP p))] vnil [] := by
  obtain ⟨hn1, hn8, hk8⟩ := pat_rng hP
  have hE := goodE_of hP
  obtain ⟨n, hn⟩ : ∃ k, c.nodes.length = k := ⟨_, rfl⟩
  obtain ⟨k, hk⟩ : ∃ k, c.edges.length = k := ⟨_, rfl⟩
  rw [hn] at hn1 hn8
  rw [hk] at hk8
  obtain ⟨fb, hfb⟩ : ∃ fb, List.replicate (n + k) false = fb := ⟨_, rfl⟩
  have hfl : fb.length = n + k := by rw [← hfb]; simp
  have hwd : ((n:Int) + k).toNat = n + k := by omega
  have hw : IntKind.i64.wrap ((n:Int) + k) = (n:Int) + k := wrap_id (by omega) (by omega)
  have hw1 : 0 < n + k := by omega
  have hw2 : (n:Int) + k ≤ 140737488355328 := by omega
  have hw3 : (0:Int) ≤ (n:Int) + k := by omega
  simp only [hq, resB, stoB, encP_cells, hn] at IH
  refine snd_of [] Try.func43 rfl (by kernel_rfl) Try.ntmps43 (by simp) ?_
  unfold Try.f43
  simp only [List.cons_append, List.nil_append, List.length_cons, List.length_nil, Nat.reduceAdd, Nat.reduceSub, List.replicate]
  refine Run.seq ?_
  refine opsF oo13 fun K hK => ?_
  try simp
  repeat' first | ((refine evL_c ?_); simp [-List.map_set, hn, hk, hop, hkl, hw, hwd, hfl, hw1, hw2, hw3]) | (with_reducible refine And.intro ?_ ?_) | intro _ | (with_reducible assumption) | omega
  all_goals (refine Fin.go hK ?_; clear hK K)
  simp only [Then_normal]
  refine Run.seq ?_
  refine opsF oo14 fun K hK => ?_
  try simp
  repeat' first | ((refine evL_c ?_); simp [-List.map_set, hn, hk, hop, hkl, hw, hwd, hfl, hw1, hw2, hw3]) | (with_reducible refine And.intro ?_ ?_) | intro _ | (with_reducible assumption) | omega
  all_goals (refine Fin.go hK ?_; clear hK K)
  simp only [Then_normal]
  refine Run.seq ?_
  refine Run.seq ?_
  refine opsF oo15 fun K hK => ?_
  try simp
  repeat' first | ((refine evL_c ?_); simp [-List.map_set, hn, hk, hop, hkl, hw, hwd, hfl, hw1, hw2, hw3]) | (with_reducible refine And.intro ?_ ?_) | intro _ | (with_reducible assumption) | omega
  all_goals (refine Fin.go hK ?_; clear hK K)
  simp only [Then_normal]
  refine Run.seq ?_
  refine opsF oo16 fun K hK => ?_
  try simp
  repeat' first | ((first | refine evL_c ?_ | (refine evL_g rfl ?_; try simp only [gs_tt, gs_ff, gs_tf, gs_ft]) | refine evL_u rfl ?_ | (with_reducible refine gsplit (fun hg => ?_) (fun hg => ?_) <;> try simp at hg)) <;> try simp [-List.map_set, hn, hk, hop, hkl, hw, hwd, hfl, hw1, hw2, hw3]) | (with_reducible refine And.intro ?_ ?_) | intro _ | (with_reducible assumption) | omega
  all_goals (refine Fin.go hK ?_; clear hK K)
  all_goals
    simp only [Then_normal]
    refine Run.cond rfl (fun h33 => ?_) (fun h33 => ?_)
    · simp at h33
    · skip
      refine Run.skip ?_
      simp only [Then_normal]
      refine Run.cut [8, 34, 35, 36, 37, 38, 39, 40, 41, 42] [(8, .rs 4300 1 0 1)] [(300, .vals ((encC c ++ [D.int c.nodes.length]).map .d)), (400, .vals ((encP p).map .d)), (4200, .data 1 (fb.map encB)), (4300, .vals [.rs 4200 1 0 (n + k)])] ?_ ?_
      · refine opsF oo17 fun K hK => ?_
        try simp
        repeat' first | ((refine evL_c ?_); simp [-List.map_set, hn, hk, hop, hkl, hw, hwd, hfl, hw1, hw2, hw3]) | (with_reducible refine And.intro ?_ ?_) | intro _ | (with_reducible assumption) | omega
        all_goals (refine Fin.go hK ?_; clear hK K)
        first | (simp [-List.map_set, hn, hk, hop, hkl, hw, hwd, hfl, hw1, hw2, hw3, ← hfb]; done)
      · simp only [over, List.foldl, List.set]
        refine Run.seq ?_
        refine Run.seq ?_
        refine opsF oo18 fun K hK => ?_
        try simp
        repeat' first | ((refine evL_c ?_); simp [-List.map_set, hn, hk, hop, hkl, hw, hwd, hfl, hw1, hw2, hw3]) | (with_reducible refine And.intro ?_ ?_) | intro _ | (with_reducible assumption) | omega
        all_goals (refine Fin.go hK ?_; clear hK K)
        simp only [Then_normal]
        refine Run.block ?_
        refine Run.loopO [4, 8, 10, 11, 46, 47, 48, 49, 50, 51, 52, 53, 54, 55, 56, 57, 58, 59] (fun (x : Nat) => [(46, .int x), (8, .rs 4300 1 0 1)]) (fun (x : Nat) => [(300, .vals ((encC c ++ [D.int c.nodes.length]).map .d)), (400, .vals ((encP p).map .d)), (4200, .data 1 (fb.map encB)), (4300, .vals [.rs 4200 1 0 (n + k)])]) (fun (x : Nat) => x = 0) (fun (x : Nat) => 0) 0 (by simp) (by simp [-List.map_set, hn, hk, hop, hkl, hw, hwd, hfl, hw1, hw2, hw3]) fun x hx => ?_
        rcases hx with rfl
        · simp only [over, List.foldl, List.set]
          refine Run.seq ?_
          refine opsF oo19 fun K hK => ?_
          try simp
          repeat' first | ((refine evL_c ?_); simp [-List.map_set, hn, hk, hop, hkl, hw, hwd, hfl, hw1, hw2, hw3]) | (with_reducible refine And.intro ?_ ?_) | intro _ | (with_reducible assumption) | omega
          all_goals (refine Fin.go hK ?_; clear hK K)
          simp only [Then_normal]
          refine Run.seq ?_
          refine Run.cond rfl (fun h47 => ?_) (fun h47 => ?_)
          · skip
            refine Run.skip ?_
            simp only [Then_normal]
            refine Run.seq ?_
            refine Run.block ?_
            refine Run.seq ?_
            refine opsF oo20 fun K hK => ?_
            try simp
            repeat' first | ((refine evL_c ?_); simp [-List.map_set, hn, hk, hop, hkl, hw, hwd, hfl, hw1, hw2, hw3]) | (with_reducible refine And.intro ?_ ?_) | intro _ | (with_reducible assumption) | omega
            all_goals (refine Fin.go hK ?_; clear hK K)
            simp only [Then_normal]
            refine Run.seq ?_
            refine opsF oo21 fun K hK => ?_
            try simp
            repeat' first | (refine ecall (by have h := IH; exact h) rfl ?_) | ((refine evL_c ?_); simp [-List.map_set, hn, hk, hop, hkl, hw, hwd, hfl, hw1, hw2, hw3]) | (with_reducible refine And.intro ?_ ?_) | intro _ | (with_reducible assumption) | omega
            all_goals (refine Fin.go hK ?_; clear hK K)
            simp only [Then_normal]
            refine Run.seq ?_
            refine Run.seq ?_
            refine opsF oo22 fun K hK => ?_
            try simp
            repeat' first | ((refine evL_c ?_); simp [-List.map_set, hn, hk, hop, hkl, hw, hwd, hfl, hw1, hw2, hw3]) | (with_reducible refine And.intro ?_ ?_) | intro _ | (with_reducible assumption) | omega
            all_goals (refine Fin.go hK ?_; clear hK K)
            simp only [Then_normal]
            refine Run.cond rfl (fun h54 => ?_) (fun h54 => ?_)
            · skip
              refine Run.seq ?_
              refine opsF oo32 fun K hK => ?_
              try simp
              repeat' first | ((refine evL_c ?_); simp [-List.map_set, hn, hk, hop, hkl, hw, hwd, hfl, hw1, hw2, hw3]) | (with_reducible refine And.intro ?_ ?_) | intro _ | (with_reducible assumption) | omega
              all_goals (refine Fin.go hK ?_; clear hK K)
              simp only [Then_normal]
              refine Run.drop [] (by simp) ?_
              refine Run.ret ?_
              try simp only [Then_ret, Blok_ret]
              simp
            · simp at h54
          · simp at h47

set_option maxHeartbeats 4000000 in
theorem boundN3_ok (c : CoreT) (p : PlanT) (hP : patS c.nodes c.edges = true) (hop : p.op = 3) (hkl : p.kids.length = 1) (IH : Snd P 43 [.d (.ag (encC c ++ [D.int c.nodes.length])), .d (.ag (encP (rdI p.kids 0)))] (resB (bndT c (rdI p.kids 0))) (stoB (bndT c (rdI p.kids 0)))) (hq : bndT c (rdI p.kids 0) = none) : Snd P 43 [.d (.ag (encC c ++ [D.int c.nodes.length])), .d (.ag (encP p))] vnil [] := by
  obtain ⟨hn1, hn8, hk8⟩ := pat_rng hP
  have hE := goodE_of hP
  obtain ⟨n, hn⟩ : ∃ k, c.nodes.length = k := ⟨_, rfl⟩
  obtain ⟨k, hk⟩ : ∃ k, c.edges.length = k := ⟨_, rfl⟩
  rw [hn] at hn1 hn8
  rw [hk] at hk8
  obtain ⟨fb, hfb⟩ : ∃ fb, List.replicate (n + k) false = fb := ⟨_, rfl⟩
  have hfl : fb.length = n + k := by rw [← hfb]; simp
  have hwd : ((n:Int) + k).toNat = n + k := by omega
  have hw : IntKind.i64.wrap ((n:Int) + k) = (n:Int) + k := wrap_id (by omega) (by omega)
  have hw1 : 0 < n + k := by omega
  have hw2 : (n:Int) + k ≤ 140737488355328 := by omega
  have hw3 : (0:Int) ≤ (n:Int) + k := by omega
  simp only [hq, resB, stoB, encP_cells, hn] at IH
  refine snd_of [] Try.func43 rfl (by kernel_rfl) Try.ntmps43 (by simp) ?_
  unfold Try.f43
  simp only [List.cons_append, List.nil_append, List.length_cons, List.length_nil, Nat.reduceAdd, Nat.reduceSub, List.replicate]
  refine Run.seq ?_
  refine opsF oo13 fun K hK => ?_
  try simp
  repeat' first | ((refine evL_c ?_); simp [-List.map_set, hn, hk, hop, hkl, hw, hwd, hfl, hw1, hw2, hw3]) | (with_reducible refine And.intro ?_ ?_) | intro _ | (with_reducible assumption) | omega
  all_goals (refine Fin.go hK ?_; clear hK K)
  simp only [Then_normal]
  refine Run.seq ?_
  refine opsF oo14 fun K hK => ?_
  try simp
  repeat' first | ((refine evL_c ?_); simp [-List.map_set, hn, hk, hop, hkl, hw, hwd, hfl, hw1, hw2, hw3]) | (with_reducible refine And.intro ?_ ?_) | intro _ | (with_reducible assumption) | omega
  all_goals (refine Fin.go hK ?_; clear hK K)
  simp only [Then_normal]
  refine Run.seq ?_
  refine Run.seq ?_
  refine opsF oo15 fun K hK => ?_
  try simp
  repeat' first | ((refine evL_c ?_); simp [-List.map_set, hn, hk, hop, hkl, hw, hwd, hfl, hw1, hw2, hw3]) | (with_reducible refine And.intro ?_ ?_) | intro _ | (with_reducible assumption) | omega
  all_goals (refine Fin.go hK ?_; clear hK K)
  simp only [Then_normal]
  refine Run.seq ?_
  refine opsF oo16 fun K hK => ?_
  try simp
  repeat' first | ((first | refine evL_c ?_ | (refine evL_g rfl ?_; try simp only [gs_tt, gs_ff, gs_tf, gs_ft]) | refine evL_u rfl ?_ | (with_reducible refine gsplit (fun hg => ?_) (fun hg => ?_) <;> try simp at hg)) <;> try simp [-List.map_set, hn, hk, hop, hkl, hw, hwd, hfl, hw1, hw2, hw3]) | (with_reducible refine And.intro ?_ ?_) | intro _ | (with_reducible assumption) | omega
  all_goals (refine Fin.go hK ?_; clear hK K)
  all_goals
    simp only [Then_normal]
    refine Run.cond rfl (fun h33 => ?_) (fun h33 => ?_)
    · simp at h33
    · skip
      refine Run.skip ?_
      simp only [Then_normal]
      refine Run.cut [8, 34, 35, 36, 37, 38, 39, 40, 41, 42] [(8, .rs 4300 1 0 1)] [(300, .vals ((encC c ++ [D.int c.nodes.length]).map .d)), (400, .vals ((encP p).map .d)), (4200, .data 1 (fb.map encB)), (4300, .vals [.rs 4200 1 0 (n + k)])] ?_ ?_
      · refine opsF oo17 fun K hK => ?_
        try simp
        repeat' first | ((refine evL_c ?_); simp [-List.map_set, hn, hk, hop, hkl, hw, hwd, hfl, hw1, hw2, hw3]) | (with_reducible refine And.intro ?_ ?_) | intro _ | (with_reducible assumption) | omega
        all_goals (refine Fin.go hK ?_; clear hK K)
        first | (simp [-List.map_set, hn, hk, hop, hkl, hw, hwd, hfl, hw1, hw2, hw3, ← hfb]; done)
      · simp only [over, List.foldl, List.set]
        refine Run.seq ?_
        refine Run.seq ?_
        refine opsF oo18 fun K hK => ?_
        try simp
        repeat' first | ((refine evL_c ?_); simp [-List.map_set, hn, hk, hop, hkl, hw, hwd, hfl, hw1, hw2, hw3]) | (with_reducible refine And.intro ?_ ?_) | intro _ | (with_reducible assumption) | omega
        all_goals (refine Fin.go hK ?_; clear hK K)
        simp only [Then_normal]
        refine Run.block ?_
        refine Run.loopO [4, 8, 10, 11, 46, 47, 48, 49, 50, 51, 52, 53, 54, 55, 56, 57, 58, 59] (fun (x : Nat) => [(46, .int x), (8, .rs 4300 1 0 1)]) (fun (x : Nat) => [(300, .vals ((encC c ++ [D.int c.nodes.length]).map .d)), (400, .vals ((encP p).map .d)), (4200, .data 1 (fb.map encB)), (4300, .vals [.rs 4200 1 0 (n + k)])]) (fun (x : Nat) => x = 0) (fun (x : Nat) => 0) 0 (by simp) (by simp [-List.map_set, hn, hk, hop, hkl, hw, hwd, hfl, hw1, hw2, hw3]) fun x hx => ?_
        rcases hx with rfl
        · simp only [over, List.foldl, List.set]
          refine Run.seq ?_
          refine opsF oo19 fun K hK => ?_
          try simp
          repeat' first | ((refine evL_c ?_); simp [-List.map_set, hn, hk, hop, hkl, hw, hwd, hfl, hw1, hw2, hw3]) | (with_reducible refine And.intro ?_ ?_) | intro _ | (with_reducible assumption) | omega
          all_goals (refine Fin.go hK ?_; clear hK K)
          simp only [Then_normal]
          refine Run.seq ?_
          refine Run.cond rfl (fun h47 => ?_) (fun h47 => ?_)
          · skip
            refine Run.skip ?_
            simp only [Then_normal]
            refine Run.seq ?_
            refine Run.block ?_
            refine Run.seq ?_
            refine opsF oo20 fun K hK => ?_
            try simp
            repeat' first | ((refine evL_c ?_); simp [-List.map_set, hn, hk, hop, hkl, hw, hwd, hfl, hw1, hw2, hw3]) | (with_reducible refine And.intro ?_ ?_) | intro _ | (with_reducible assumption) | omega
            all_goals (refine Fin.go hK ?_; clear hK K)
            simp only [Then_normal]
            refine Run.seq ?_
            refine opsF oo21 fun K hK => ?_
            try simp
            repeat' first | (refine ecall (by have h := IH; exact h) rfl ?_) | ((refine evL_c ?_); simp [-List.map_set, hn, hk, hop, hkl, hw, hwd, hfl, hw1, hw2, hw3]) | (with_reducible refine And.intro ?_ ?_) | intro _ | (with_reducible assumption) | omega
            all_goals (refine Fin.go hK ?_; clear hK K)
            simp only [Then_normal]
            refine Run.seq ?_
            refine Run.seq ?_
            refine opsF oo22 fun K hK => ?_
            try simp
            repeat' first | ((refine evL_c ?_); simp [-List.map_set, hn, hk, hop, hkl, hw, hwd, hfl, hw1, hw2, hw3]) | (with_reducible refine And.intro ?_ ?_) | intro _ | (with_reducible assumption) | omega
            all_goals (refine Fin.go hK ?_; clear hK K)
            simp only [Then_normal]
            refine Run.cond rfl (fun h54 => ?_) (fun h54 => ?_)
            · skip
              refine Run.seq ?_
              refine opsF oo32 fun K hK => ?_
              try simp
              repeat' first | ((refine evL_c ?_); simp [-List.map_set, hn, hk, hop, hkl, hw, hwd, hfl, hw1, hw2, hw3]) | (with_reducible refine And.intro ?_ ?_) | intro _ | (with_reducible assumption) | omega
              all_goals (refine Fin.go hK ?_; clear hK K)
              simp only [Then_normal]
              refine Run.drop [] (by simp) ?_
              refine Run.ret ?_
              try simp only [Then_ret, Blok_ret]
              simp
            · simp at h54
          · simp at h47

set_option maxHeartbeats 4000000 in
theorem boundN5_ok (c : CoreT) (p : PlanT) (hP : patS c.nodes c.edges = true) (hop : p.op = 5) (hkl : p.kids.length = 1) (IH : Snd P 43 [.d (.ag (encC c ++ [D.int c.nodes.length])), .d (.ag (encP (rdI p.kids 0)))] (resB (bndT c (rdI p.kids 0))) (stoB (bndT c (rdI p.kids 0)))) (hq : bndT c (rdI p.kids 0) = none) : Snd P 43 [.d (.ag (encC c ++ [D.int c.nodes.length])), .d (.ag (encP p))] vnil [] := by
  obtain ⟨hn1, hn8, hk8⟩ := pat_rng hP
  have hE := goodE_of hP
  obtain ⟨n, hn⟩ : ∃ k, c.nodes.length = k := ⟨_, rfl⟩
  obtain ⟨k, hk⟩ : ∃ k, c.edges.length = k := ⟨_, rfl⟩
  rw [hn] at hn1 hn8
  rw [hk] at hk8
  obtain ⟨fb, hfb⟩ : ∃ fb, List.replicate (n + k) false = fb := ⟨_, rfl⟩
  have hfl : fb.length = n + k := by rw [← hfb]; simp
  have hwd : ((n:Int) + k).toNat = n + k := by omega
  have hw : IntKind.i64.wrap ((n:Int) + k) = (n:Int) + k := wrap_id (by omega) (by omega)
  have hw1 : 0 < n + k := by omega
  have hw2 : (n:Int) + k ≤ 140737488355328 := by omega
  have hw3 : (0:Int) ≤ (n:Int) + k := by omega
  simp only [hq, resB, stoB, encP_cells, hn] at IH
  refine snd_of [] Try.func43 rfl (by kernel_rfl) Try.ntmps43 (by simp) ?_
  unfold Try.f43
  simp only [List.cons_append, List.nil_append, List.length_cons, List.length_nil, Nat.reduceAdd, Nat.reduceSub, List.replicate]
  refine Run.seq ?_
  refine opsF oo13 fun K hK => ?_
  try simp
  repeat' first | ((refine evL_c ?_); simp [-List.map_set, hn, hk, hop, hkl, hw, hwd, hfl, hw1, hw2, hw3]) | (with_reducible refine And.intro ?_ ?_) | intro _ | (with_reducible assumption) | omega
  all_goals (refine Fin.go hK ?_; clear hK K)
  simp only [Then_normal]
  refine Run.seq ?_
  refine opsF oo14 fun K hK => ?_
  try simp
  repeat' first | ((refine evL_c ?_); simp [-List.map_set, hn, hk, hop, hkl, hw, hwd, hfl, hw1, hw2, hw3]) | (with_reducible refine And.intro ?_ ?_) | intro _ | (with_reducible assumption) | omega
  all_goals (refine Fin.go hK ?_; clear hK K)
  simp only [Then_normal]
  refine Run.seq ?_
  refine Run.seq ?_
  refine opsF oo15 fun K hK => ?_
  try simp
  repeat' first | ((refine evL_c ?_); simp [-List.map_set, hn, hk, hop, hkl, hw, hwd, hfl, hw1, hw2, hw3]) | (with_reducible refine And.intro ?_ ?_) | intro _ | (with_reducible assumption) | omega
  all_goals (refine Fin.go hK ?_; clear hK K)
  simp only [Then_normal]
  refine Run.seq ?_
  refine opsF oo16 fun K hK => ?_
  try simp
  repeat' first | ((first | refine evL_c ?_ | (refine evL_g rfl ?_; try simp only [gs_tt, gs_ff, gs_tf, gs_ft]) | refine evL_u rfl ?_ | (with_reducible refine gsplit (fun hg => ?_) (fun hg => ?_) <;> try simp at hg)) <;> try simp [-List.map_set, hn, hk, hop, hkl, hw, hwd, hfl, hw1, hw2, hw3]) | (with_reducible refine And.intro ?_ ?_) | intro _ | (with_reducible assumption) | omega
  all_goals (refine Fin.go hK ?_; clear hK K)
  all_goals
    simp only [Then_normal]
    refine Run.cond rfl (fun h33 => ?_) (fun h33 => ?_)
    · simp at h33
    · skip
      refine Run.skip ?_
      simp only [Then_normal]
      refine Run.cut [8, 34, 35, 36, 37, 38, 39, 40, 41, 42] [(8, .rs 4300 1 0 1)] [(300, .vals ((encC c ++ [D.int c.nodes.length]).map .d)), (400, .vals ((encP p).map .d)), (4200, .data 1 (fb.map encB)), (4300, .vals [.rs 4200 1 0 (n + k)])] ?_ ?_
      · refine opsF oo17 fun K hK => ?_
        try simp
        repeat' first | ((refine evL_c ?_); simp [-List.map_set, hn, hk, hop, hkl, hw, hwd, hfl, hw1, hw2, hw3]) | (with_reducible refine And.intro ?_ ?_) | intro _ | (with_reducible assumption) | omega
        all_goals (refine Fin.go hK ?_; clear hK K)
        first | (simp [-List.map_set, hn, hk, hop, hkl, hw, hwd, hfl, hw1, hw2, hw3, ← hfb]; done)
      · simp only [over, List.foldl, List.set]
        refine Run.seq ?_
        refine Run.seq ?_
        refine opsF oo18 fun K hK => ?_
        try simp
        repeat' first | ((refine evL_c ?_); simp [-List.map_set, hn, hk, hop, hkl, hw, hwd, hfl, hw1, hw2, hw3]) | (with_reducible refine And.intro ?_ ?_) | intro _ | (with_reducible assumption) | omega
        all_goals (refine Fin.go hK ?_; clear hK K)
        simp only [Then_normal]
        refine Run.block ?_
        refine Run.loopO [4, 8, 10, 11, 46, 47, 48, 49, 50, 51, 52, 53, 54, 55, 56, 57, 58, 59] (fun (x : Nat) => [(46, .int x), (8, .rs 4300 1 0 1)]) (fun (x : Nat) => [(300, .vals ((encC c ++ [D.int c.nodes.length]).map .d)), (400, .vals ((encP p).map .d)), (4200, .data 1 (fb.map encB)), (4300, .vals [.rs 4200 1 0 (n + k)])]) (fun (x : Nat) => x = 0) (fun (x : Nat) => 0) 0 (by simp) (by simp [-List.map_set, hn, hk, hop, hkl, hw, hwd, hfl, hw1, hw2, hw3]) fun x hx => ?_
        rcases hx with rfl
        · simp only [over, List.foldl, List.set]
          refine Run.seq ?_
          refine opsF oo19 fun K hK => ?_
          try simp
          repeat' first | ((refine evL_c ?_); simp [-List.map_set, hn, hk, hop, hkl, hw, hwd, hfl, hw1, hw2, hw3]) | (with_reducible refine And.intro ?_ ?_) | intro _ | (with_reducible assumption) | omega
          all_goals (refine Fin.go hK ?_; clear hK K)
          simp only [Then_normal]
          refine Run.seq ?_
          refine Run.cond rfl (fun h47 => ?_) (fun h47 => ?_)
          · skip
            refine Run.skip ?_
            simp only [Then_normal]
            refine Run.seq ?_
            refine Run.block ?_
            refine Run.seq ?_
            refine opsF oo20 fun K hK => ?_
            try simp
            repeat' first | ((refine evL_c ?_); simp [-List.map_set, hn, hk, hop, hkl, hw, hwd, hfl, hw1, hw2, hw3]) | (with_reducible refine And.intro ?_ ?_) | intro _ | (with_reducible assumption) | omega
            all_goals (refine Fin.go hK ?_; clear hK K)
            simp only [Then_normal]
            refine Run.seq ?_
            refine opsF oo21 fun K hK => ?_
            try simp
            repeat' first | (refine ecall (by have h := IH; exact h) rfl ?_) | ((refine evL_c ?_); simp [-List.map_set, hn, hk, hop, hkl, hw, hwd, hfl, hw1, hw2, hw3]) | (with_reducible refine And.intro ?_ ?_) | intro _ | (with_reducible assumption) | omega
            all_goals (refine Fin.go hK ?_; clear hK K)
            simp only [Then_normal]
            refine Run.seq ?_
            refine Run.seq ?_
            refine opsF oo22 fun K hK => ?_
            try simp
            repeat' first | ((refine evL_c ?_); simp [-List.map_set, hn, hk, hop, hkl, hw, hwd, hfl, hw1, hw2, hw3]) | (with_reducible refine And.intro ?_ ?_) | intro _ | (with_reducible assumption) | omega
            all_goals (refine Fin.go hK ?_; clear hK K)
            simp only [Then_normal]
            refine Run.cond rfl (fun h54 => ?_) (fun h54 => ?_)
            · skip
              refine Run.seq ?_
              refine opsF oo32 fun K hK => ?_
              try simp
              repeat' first | ((refine evL_c ?_); simp [-List.map_set, hn, hk, hop, hkl, hw, hwd, hfl, hw1, hw2, hw3]) | (with_reducible refine And.intro ?_ ?_) | intro _ | (with_reducible assumption) | omega
              all_goals (refine Fin.go hK ?_; clear hK K)
              simp only [Then_normal]
              refine Run.drop [] (by simp) ?_
              refine Run.ret ?_
              try simp only [Then_ret, Blok_ret]
              simp
            · simp at h54
          · simp at h47

set_option maxHeartbeats 4000000 in
theorem boundN6_ok (c : CoreT) (p : PlanT) (hP : patS c.nodes c.edges = true) (hop : p.op = 6) (hkl : p.kids.length = 1) (IH : Snd P 43 [.d (.ag (encC c ++ [D.int c.nodes.length])), .d (.ag (encP (rdI p.kids 0)))] (resB (bndT c (rdI p.kids 0))) (stoB (bndT c (rdI p.kids 0)))) (hq : bndT c (rdI p.kids 0) = none) : Snd P 43 [.d (.ag (encC c ++ [D.int c.nodes.length])), .d (.ag (encP p))] vnil [] := by
  obtain ⟨hn1, hn8, hk8⟩ := pat_rng hP
  have hE := goodE_of hP
  obtain ⟨n, hn⟩ : ∃ k, c.nodes.length = k := ⟨_, rfl⟩
  obtain ⟨k, hk⟩ : ∃ k, c.edges.length = k := ⟨_, rfl⟩
  rw [hn] at hn1 hn8
  rw [hk] at hk8
  obtain ⟨fb, hfb⟩ : ∃ fb, List.replicate (n + k) false = fb := ⟨_, rfl⟩
  have hfl : fb.length = n + k := by rw [← hfb]; simp
  have hwd : ((n:Int) + k).toNat = n + k := by omega
  have hw : IntKind.i64.wrap ((n:Int) + k) = (n:Int) + k := wrap_id (by omega) (by omega)
  have hw1 : 0 < n + k := by omega
  have hw2 : (n:Int) + k ≤ 140737488355328 := by omega
  have hw3 : (0:Int) ≤ (n:Int) + k := by omega
  simp only [hq, resB, stoB, encP_cells, hn] at IH
  refine snd_of [] Try.func43 rfl (by kernel_rfl) Try.ntmps43 (by simp) ?_
  unfold Try.f43
  simp only [List.cons_append, List.nil_append, List.length_cons, List.length_nil, Nat.reduceAdd, Nat.reduceSub, List.replicate]
  refine Run.seq ?_
  refine opsF oo13 fun K hK => ?_
  try simp
  repeat' first | ((refine evL_c ?_); simp [-List.map_set, hn, hk, hop, hkl, hw, hwd, hfl, hw1, hw2, hw3]) | (with_reducible refine And.intro ?_ ?_) | intro _ | (with_reducible assumption) | omega
  all_goals (refine Fin.go hK ?_; clear hK K)
  simp only [Then_normal]
  refine Run.seq ?_
  refine opsF oo14 fun K hK => ?_
  try simp
  repeat' first | ((refine evL_c ?_); simp [-List.map_set, hn, hk, hop, hkl, hw, hwd, hfl, hw1, hw2, hw3]) | (with_reducible refine And.intro ?_ ?_) | intro _ | (with_reducible assumption) | omega
  all_goals (refine Fin.go hK ?_; clear hK K)
  simp only [Then_normal]
  refine Run.seq ?_
  refine Run.seq ?_
  refine opsF oo15 fun K hK => ?_
  try simp
  repeat' first | ((refine evL_c ?_); simp [-List.map_set, hn, hk, hop, hkl, hw, hwd, hfl, hw1, hw2, hw3]) | (with_reducible refine And.intro ?_ ?_) | intro _ | (with_reducible assumption) | omega
  all_goals (refine Fin.go hK ?_; clear hK K)
  simp only [Then_normal]
  refine Run.seq ?_
  refine opsF oo16 fun K hK => ?_
  try simp
  repeat' first | ((first | refine evL_c ?_ | (refine evL_g rfl ?_; try simp only [gs_tt, gs_ff, gs_tf, gs_ft]) | refine evL_u rfl ?_ | (with_reducible refine gsplit (fun hg => ?_) (fun hg => ?_) <;> try simp at hg)) <;> try simp [-List.map_set, hn, hk, hop, hkl, hw, hwd, hfl, hw1, hw2, hw3]) | (with_reducible refine And.intro ?_ ?_) | intro _ | (with_reducible assumption) | omega
  all_goals (refine Fin.go hK ?_; clear hK K)
  all_goals
    simp only [Then_normal]
    refine Run.cond rfl (fun h33 => ?_) (fun h33 => ?_)
    · simp at h33
    · skip
      refine Run.skip ?_
      simp only [Then_normal]
      refine Run.cut [8, 34, 35, 36, 37, 38, 39, 40, 41, 42] [(8, .rs 4300 1 0 1)] [(300, .vals ((encC c ++ [D.int c.nodes.length]).map .d)), (400, .vals ((encP p).map .d)), (4200, .data 1 (fb.map encB)), (4300, .vals [.rs 4200 1 0 (n + k)])] ?_ ?_
      · refine opsF oo17 fun K hK => ?_
        try simp
        repeat' first | ((refine evL_c ?_); simp [-List.map_set, hn, hk, hop, hkl, hw, hwd, hfl, hw1, hw2, hw3]) | (with_reducible refine And.intro ?_ ?_) | intro _ | (with_reducible assumption) | omega
        all_goals (refine Fin.go hK ?_; clear hK K)
        first | (simp [-List.map_set, hn, hk, hop, hkl, hw, hwd, hfl, hw1, hw2, hw3, ← hfb]; done)
      · simp only [over, List.foldl, List.set]
        refine Run.seq ?_
        refine Run.seq ?_
        refine opsF oo18 fun K hK => ?_
        try simp
        repeat' first | ((refine evL_c ?_); simp [-List.map_set, hn, hk, hop, hkl, hw, hwd, hfl, hw1, hw2, hw3]) | (with_reducible refine And.intro ?_ ?_) | intro _ | (with_reducible assumption) | omega
        all_goals (refine Fin.go hK ?_; clear hK K)
        simp only [Then_normal]
        refine Run.block ?_
        refine Run.loopO [4, 8, 10, 11, 46, 47, 48, 49, 50, 51, 52, 53, 54, 55, 56, 57, 58, 59] (fun (x : Nat) => [(46, .int x), (8, .rs 4300 1 0 1)]) (fun (x : Nat) => [(300, .vals ((encC c ++ [D.int c.nodes.length]).map .d)), (400, .vals ((encP p).map .d)), (4200, .data 1 (fb.map encB)), (4300, .vals [.rs 4200 1 0 (n + k)])]) (fun (x : Nat) => x = 0) (fun (x : Nat) => 0) 0 (by simp) (by simp [-List.map_set, hn, hk, hop, hkl, hw, hwd, hfl, hw1, hw2, hw3]) fun x hx => ?_
        rcases hx with rfl
        · simp only [over, List.foldl, List.set]
          refine Run.seq ?_
          refine opsF oo19 fun K hK => ?_
          try simp
          repeat' first | ((refine evL_c ?_); simp [-List.map_set, hn, hk, hop, hkl, hw, hwd, hfl, hw1, hw2, hw3]) | (with_reducible refine And.intro ?_ ?_) | intro _ | (with_reducible assumption) | omega
          all_goals (refine Fin.go hK ?_; clear hK K)
          simp only [Then_normal]
          refine Run.seq ?_
          refine Run.cond rfl (fun h47 => ?_) (fun h47 => ?_)
          · skip
            refine Run.skip ?_
            simp only [Then_normal]
            refine Run.seq ?_
            refine Run.block ?_
            refine Run.seq ?_
            refine opsF oo20 fun K hK => ?_
            try simp
            repeat' first | ((refine evL_c ?_); simp [-List.map_set, hn, hk, hop, hkl, hw, hwd, hfl, hw1, hw2, hw3]) | (with_reducible refine And.intro ?_ ?_) | intro _ | (with_reducible assumption) | omega
            all_goals (refine Fin.go hK ?_; clear hK K)
            simp only [Then_normal]
            refine Run.seq ?_
            refine opsF oo21 fun K hK => ?_
            try simp
            repeat' first | (refine ecall (by have h := IH; exact h) rfl ?_) | ((refine evL_c ?_); simp [-List.map_set, hn, hk, hop, hkl, hw, hwd, hfl, hw1, hw2, hw3]) | (with_reducible refine And.intro ?_ ?_) | intro _ | (with_reducible assumption) | omega
            all_goals (refine Fin.go hK ?_; clear hK K)
            simp only [Then_normal]
            refine Run.seq ?_
            refine Run.seq ?_
            refine opsF oo22 fun K hK => ?_
            try simp
            repeat' first | ((refine evL_c ?_); simp [-List.map_set, hn, hk, hop, hkl, hw, hwd, hfl, hw1, hw2, hw3]) | (with_reducible refine And.intro ?_ ?_) | intro _ | (with_reducible assumption) | omega
            all_goals (refine Fin.go hK ?_; clear hK K)
            simp only [Then_normal]
            refine Run.cond rfl (fun h54 => ?_) (fun h54 => ?_)
            · skip
              refine Run.seq ?_
              refine opsF oo32 fun K hK => ?_
              try simp
              repeat' first | ((refine evL_c ?_); simp [-List.map_set, hn, hk, hop, hkl, hw, hwd, hfl, hw1, hw2, hw3]) | (with_reducible refine And.intro ?_ ?_) | intro _ | (with_reducible assumption) | omega
              all_goals (refine Fin.go hK ?_; clear hK K)
              simp only [Then_normal]
              refine Run.drop [] (by simp) ?_
              refine Run.ret ?_
              try simp only [Then_ret, Blok_ret]
              simp
            · simp at h54
          · simp at h47

set_option maxHeartbeats 4000000 in
theorem boundN4_ok (c : CoreT) (p : PlanT) (hP : patS c.nodes c.edges = true) (hop : p.op = 4) (hkl : p.kids.length = 2) (IH : Snd P 43 [.d (.ag (encC c ++ [D.int c.nodes.length])), .d (.ag (encP (rdI p.kids 0)))] (resB (bndT c (rdI p.kids 0))) (stoB (bndT c (rdI p.kids 0)))) (hq : bndT c (rdI p.kids 0) = none) : Snd P 43 [.d (.ag (encC c ++ [D.int c.nodes.length])), .d (.ag (encP p))] vnil [] := by
  obtain ⟨hn1, hn8, hk8⟩ := pat_rng hP
  have hE := goodE_of hP
  obtain ⟨n, hn⟩ : ∃ k, c.nodes.length = k := ⟨_, rfl⟩
  obtain ⟨k, hk⟩ : ∃ k, c.edges.length = k := ⟨_, rfl⟩
  rw [hn] at hn1 hn8
  rw [hk] at hk8
  obtain ⟨fb, hfb⟩ : ∃ fb, List.replicate (n + k) false = fb := ⟨_, rfl⟩
  have hfl : fb.length = n + k := by rw [← hfb]; simp
  have hwd : ((n:Int) + k).toNat = n + k := by omega
  have hw : IntKind.i64.wrap ((n:Int) + k) = (n:Int) + k := wrap_id (by omega) (by omega)
  have hw1 : 0 < n + k := by omega
  have hw2 : (n:Int) + k ≤ 140737488355328 := by omega
  have hw3 : (0:Int) ≤ (n:Int) + k := by omega
  simp only [hq, resB, stoB, encP_cells, hn] at IH
  refine snd_of [] Try.func43 rfl (by kernel_rfl) Try.ntmps43 (by simp) ?_
  unfold Try.f43
  simp only [List.cons_append, List.nil_append, List.length_cons, List.length_nil, Nat.reduceAdd, Nat.reduceSub, List.replicate]
  refine Run.seq ?_
  refine opsF oo13 fun K hK => ?_
  try simp
  repeat' first | ((refine evL_c ?_); simp [-List.map_set, hn, hk, hop, hkl, hw, hwd, hfl, hw1, hw2, hw3]) | (with_reducible refine And.intro ?_ ?_) | intro _ | (with_reducible assumption) | omega
  all_goals (refine Fin.go hK ?_; clear hK K)
  simp only [Then_normal]
  refine Run.seq ?_
  refine opsF oo14 fun K hK => ?_
  try simp
  repeat' first | ((refine evL_c ?_); simp [-List.map_set, hn, hk, hop, hkl, hw, hwd, hfl, hw1, hw2, hw3]) | (with_reducible refine And.intro ?_ ?_) | intro _ | (with_reducible assumption) | omega
  all_goals (refine Fin.go hK ?_; clear hK K)
  simp only [Then_normal]
  refine Run.seq ?_
  refine Run.seq ?_
  refine opsF oo15 fun K hK => ?_
  try simp
  repeat' first | ((refine evL_c ?_); simp [-List.map_set, hn, hk, hop, hkl, hw, hwd, hfl, hw1, hw2, hw3]) | (with_reducible refine And.intro ?_ ?_) | intro _ | (with_reducible assumption) | omega
  all_goals (refine Fin.go hK ?_; clear hK K)
  simp only [Then_normal]
  refine Run.seq ?_
  refine opsF oo16 fun K hK => ?_
  try simp
  repeat' first | ((first | refine evL_c ?_ | (refine evL_g rfl ?_; try simp only [gs_tt, gs_ff, gs_tf, gs_ft]) | refine evL_u rfl ?_ | (with_reducible refine gsplit (fun hg => ?_) (fun hg => ?_) <;> try simp at hg)) <;> try simp [-List.map_set, hn, hk, hop, hkl, hw, hwd, hfl, hw1, hw2, hw3]) | (with_reducible refine And.intro ?_ ?_) | intro _ | (with_reducible assumption) | omega
  all_goals (refine Fin.go hK ?_; clear hK K)
  all_goals
    simp only [Then_normal]
    refine Run.cond rfl (fun h33 => ?_) (fun h33 => ?_)
    · simp at h33
    · skip
      refine Run.skip ?_
      simp only [Then_normal]
      refine Run.cut [8, 34, 35, 36, 37, 38, 39, 40, 41, 42] [(8, .rs 4300 1 0 1)] [(300, .vals ((encC c ++ [D.int c.nodes.length]).map .d)), (400, .vals ((encP p).map .d)), (4200, .data 1 (fb.map encB)), (4300, .vals [.rs 4200 1 0 (n + k)])] ?_ ?_
      · refine opsF oo17 fun K hK => ?_
        try simp
        repeat' first | ((refine evL_c ?_); simp [-List.map_set, hn, hk, hop, hkl, hw, hwd, hfl, hw1, hw2, hw3]) | (with_reducible refine And.intro ?_ ?_) | intro _ | (with_reducible assumption) | omega
        all_goals (refine Fin.go hK ?_; clear hK K)
        first | (simp [-List.map_set, hn, hk, hop, hkl, hw, hwd, hfl, hw1, hw2, hw3, ← hfb]; done)
      · simp only [over, List.foldl, List.set]
        refine Run.seq ?_
        refine Run.seq ?_
        refine opsF oo18 fun K hK => ?_
        try simp
        repeat' first | ((refine evL_c ?_); simp [-List.map_set, hn, hk, hop, hkl, hw, hwd, hfl, hw1, hw2, hw3]) | (with_reducible refine And.intro ?_ ?_) | intro _ | (with_reducible assumption) | omega
        all_goals (refine Fin.go hK ?_; clear hK K)
        simp only [Then_normal]
        refine Run.block ?_
        refine Run.loopO [4, 8, 10, 11, 46, 47, 48, 49, 50, 51, 52, 53, 54, 55, 56, 57, 58, 59] (fun (x : Nat) => [(46, .int x), (8, .rs 4300 1 0 1)]) (fun (x : Nat) => [(300, .vals ((encC c ++ [D.int c.nodes.length]).map .d)), (400, .vals ((encP p).map .d)), (4200, .data 1 (fb.map encB)), (4300, .vals [.rs 4200 1 0 (n + k)])]) (fun (x : Nat) => x = 0) (fun (x : Nat) => 0) 0 (by simp) (by simp [-List.map_set, hn, hk, hop, hkl, hw, hwd, hfl, hw1, hw2, hw3]) fun x hx => ?_
        rcases hx with rfl
        · simp only [over, List.foldl, List.set]
          refine Run.seq ?_
          refine opsF oo19 fun K hK => ?_
          try simp
          repeat' first | ((refine evL_c ?_); simp [-List.map_set, hn, hk, hop, hkl, hw, hwd, hfl, hw1, hw2, hw3]) | (with_reducible refine And.intro ?_ ?_) | intro _ | (with_reducible assumption) | omega
          all_goals (refine Fin.go hK ?_; clear hK K)
          simp only [Then_normal]
          refine Run.seq ?_
          refine Run.cond rfl (fun h47 => ?_) (fun h47 => ?_)
          · skip
            refine Run.skip ?_
            simp only [Then_normal]
            refine Run.seq ?_
            refine Run.block ?_
            refine Run.seq ?_
            refine opsF oo20 fun K hK => ?_
            try simp
            repeat' first | ((refine evL_c ?_); simp [-List.map_set, hn, hk, hop, hkl, hw, hwd, hfl, hw1, hw2, hw3]) | (with_reducible refine And.intro ?_ ?_) | intro _ | (with_reducible assumption) | omega
            all_goals (refine Fin.go hK ?_; clear hK K)
            simp only [Then_normal]
            refine Run.seq ?_
            refine opsF oo21 fun K hK => ?_
            try simp
            repeat' first | (refine ecall (by have h := IH; exact h) rfl ?_) | ((refine evL_c ?_); simp [-List.map_set, hn, hk, hop, hkl, hw, hwd, hfl, hw1, hw2, hw3]) | (with_reducible refine And.intro ?_ ?_) | intro _ | (with_reducible assumption) | omega
            all_goals (refine Fin.go hK ?_; clear hK K)
            simp only [Then_normal]
            refine Run.seq ?_
            refine Run.seq ?_
            refine opsF oo22 fun K hK => ?_
            try simp
            repeat' first | ((refine evL_c ?_); simp [-List.map_set, hn, hk, hop, hkl, hw, hwd, hfl, hw1, hw2, hw3]) | (with_reducible refine And.intro ?_ ?_) | intro _ | (with_reducible assumption) | omega
            all_goals (refine Fin.go hK ?_; clear hK K)
            simp only [Then_normal]
            refine Run.cond rfl (fun h54 => ?_) (fun h54 => ?_)
            · skip
              refine Run.seq ?_
              refine opsF oo32 fun K hK => ?_
              try simp
              repeat' first | ((refine evL_c ?_); simp [-List.map_set, hn, hk, hop, hkl, hw, hwd, hfl, hw1, hw2, hw3]) | (with_reducible refine And.intro ?_ ?_) | intro _ | (with_reducible assumption) | omega
              all_goals (refine Fin.go hK ?_; clear hK K)
              simp only [Then_normal]
              refine Run.drop [] (by simp) ?_
              refine Run.ret ?_
              try simp only [Then_ret, Blok_ret]
              simp
            · simp at h54
          · simp at h47

set_option maxHeartbeats 4000000 in
theorem boundX1_ok (c : CoreT) (p : PlanT) (hP : patS c.nodes c.edges = true) (hop : p.op = 1) (hkw : ¬ p.kids.length = 0) : Snd P 43 [.d (.ag (encC c ++ [D.int c.nodes.length])), .d (.ag (encP p))] vnil [] := by
  obtain ⟨hn1, hn8, hk8⟩ := pat_rng hP
  have hE := goodE_of hP
  obtain ⟨n, hn⟩ : ∃ k, c.nodes.length = k := ⟨_, rfl⟩
  obtain ⟨k, hk⟩ : ∃ k, c.edges.length = k := ⟨_, rfl⟩
  rw [hn] at hn1 hn8
  rw [hk] at hk8
  obtain ⟨fb, hfb⟩ : ∃ fb, List.replicate (n + k) false = fb := ⟨_, rfl⟩
  have hfl : fb.length = n + k := by rw [← hfb]; simp
  have hwd : ((n:Int) + k).toNat = n + k := by omega
  have hw : IntKind.i64.wrap ((n:Int) + k) = (n:Int) + k := wrap_id (by omega) (by omega)
  have hw1 : 0 < n + k := by omega
  have hw2 : (n:Int) + k ≤ 140737488355328 := by omega
  have hw3 : (0:Int) ≤ (n:Int) + k := by omega
  obtain ⟨kl, hkl⟩ : ∃ kl, p.kids.length = kl := ⟨_, rfl⟩
  have hkw' : ¬ (0 : Int) = kl := by omega
  refine snd_of [] Try.func43 rfl (by kernel_rfl) Try.ntmps43 (by simp) ?_
  unfold Try.f43
  simp only [List.cons_append, List.nil_append, List.length_cons, List.length_nil, Nat.reduceAdd, Nat.reduceSub, List.replicate]
  refine Run.seq ?_
  refine opsF oo13 fun K hK => ?_
  try simp
  repeat' first | ((refine evL_c ?_); simp [-List.map_set, hn, hk, hw, hwd, hfl, hw1, hw2, hw3, hop, hkw', hkl]) | (with_reducible refine And.intro ?_ ?_) | intro _ | (with_reducible assumption) | omega
  all_goals (refine Fin.go hK ?_; clear hK K)
  simp only [Then_normal]
  refine Run.seq ?_
  refine opsF oo14 fun K hK => ?_
  try simp
  repeat' first | ((refine evL_c ?_); simp [-List.map_set, hn, hk, hw, hwd, hfl, hw1, hw2, hw3, hop, hkw', hkl]) | (with_reducible refine And.intro ?_ ?_) | intro _ | (with_reducible assumption) | omega
  all_goals (refine Fin.go hK ?_; clear hK K)
  simp only [Then_normal]
  refine Run.seq ?_
  refine Run.seq ?_
  refine opsF oo15 fun K hK => ?_
  try simp
  repeat' first | ((refine evL_c ?_); simp [-List.map_set, hn, hk, hw, hwd, hfl, hw1, hw2, hw3, hop, hkw', hkl]) | (with_reducible refine And.intro ?_ ?_) | intro _ | (with_reducible assumption) | omega
  all_goals (refine Fin.go hK ?_; clear hK K)
  simp only [Then_normal]
  refine Run.seq ?_
  refine opsF oo16 fun K hK => ?_
  try simp
  repeat' first | ((first | refine evL_c ?_ | (refine evL_g rfl ?_; try simp only [gs_tt, gs_ff, gs_tf, gs_ft]) | refine evL_u rfl ?_ | (with_reducible refine gsplit (fun hg => ?_) (fun hg => ?_) <;> try simp at hg)) <;> try simp [-List.map_set, hn, hk, hw, hwd, hfl, hw1, hw2, hw3, hop, hkw', hkl]) | (with_reducible refine And.intro ?_ ?_) | intro _ | (with_reducible assumption) | omega
  all_goals (refine Fin.go hK ?_; clear hK K)
  all_goals
    simp only [Then_normal]
    refine Run.cond rfl (fun h33 => ?_) (fun h33 => ?_)
    · skip
      refine Run.seq ?_
      refine opsF oo32 fun K hK => ?_
      try simp
      repeat' first | ((refine evL_c ?_); simp [-List.map_set, hn, hk, hw, hwd, hfl, hw1, hw2, hw3, hop, hkw', hkl]) | (with_reducible refine And.intro ?_ ?_) | intro _ | (with_reducible assumption) | omega
      all_goals (refine Fin.go hK ?_; clear hK K)
      simp only [Then_normal]
      refine Run.ret ?_
      try simp only [Then_ret, Blok_ret]
      simp
    · simp at h33

set_option maxHeartbeats 4000000 in
theorem boundX2_ok (c : CoreT) (p : PlanT) (hP : patS c.nodes c.edges = true) (hop : p.op = 2) (hkw : ¬ p.kids.length = 1) : Snd P 43 [.d (.ag (encC c ++ [D.int c.nodes.length])), .d (.ag (encP p))] vnil [] := by
  obtain ⟨hn1, hn8, hk8⟩ := pat_rng hP
  have hE := goodE_of hP
  obtain ⟨n, hn⟩ : ∃ k, c.nodes.length = k := ⟨_, rfl⟩
  obtain ⟨k, hk⟩ : ∃ k, c.edges.length = k := ⟨_, rfl⟩
  rw [hn] at hn1 hn8
  rw [hk] at hk8
  obtain ⟨fb, hfb⟩ : ∃ fb, List.replicate (n + k) false = fb := ⟨_, rfl⟩
  have hfl : fb.length = n + k := by rw [← hfb]; simp
  have hwd : ((n:Int) + k).toNat = n + k := by omega
  have hw : IntKind.i64.wrap ((n:Int) + k) = (n:Int) + k := wrap_id (by omega) (by omega)
  have hw1 : 0 < n + k := by omega
  have hw2 : (n:Int) + k ≤ 140737488355328 := by omega
  have hw3 : (0:Int) ≤ (n:Int) + k := by omega
  obtain ⟨kl, hkl⟩ : ∃ kl, p.kids.length = kl := ⟨_, rfl⟩
  have hkw' : ¬ (1 : Int) = kl := by omega
  refine snd_of [] Try.func43 rfl (by kernel_rfl) Try.ntmps43 (by simp) ?_
  unfold Try.f43
  simp only [List.cons_append, List.nil_append, List.length_cons, List.length_nil, Nat.reduceAdd, Nat.reduceSub, List.replicate]
  refine Run.seq ?_
  refine opsF oo13 fun K hK => ?_
  try simp
  repeat' first | ((refine evL_c ?_); simp [-List.map_set, hn, hk, hw, hwd, hfl, hw1, hw2, hw3, hop, hkw', hkl]) | (with_reducible refine And.intro ?_ ?_) | intro _ | (with_reducible assumption) | omega
  all_goals (refine Fin.go hK ?_; clear hK K)
  simp only [Then_normal]
  refine Run.seq ?_
  refine opsF oo14 fun K hK => ?_
  try simp
  repeat' first | ((refine evL_c ?_); simp [-List.map_set, hn, hk, hw, hwd, hfl, hw1, hw2, hw3, hop, hkw', hkl]) | (with_reducible refine And.intro ?_ ?_) | intro _ | (with_reducible assumption) | omega
  all_goals (refine Fin.go hK ?_; clear hK K)
  simp only [Then_normal]
  refine Run.seq ?_
  refine Run.seq ?_
  refine opsF oo15 fun K hK => ?_
  try simp
  repeat' first | ((refine evL_c ?_); simp [-List.map_set, hn, hk, hw, hwd, hfl, hw1, hw2, hw3, hop, hkw', hkl]) | (with_reducible refine And.intro ?_ ?_) | intro _ | (with_reducible assumption) | omega
  all_goals (refine Fin.go hK ?_; clear hK K)
  simp only [Then_normal]
  refine Run.seq ?_
  refine opsF oo16 fun K hK => ?_
  try simp
  repeat' first | ((first | refine evL_c ?_ | (refine evL_g rfl ?_; try simp only [gs_tt, gs_ff, gs_tf, gs_ft]) | refine evL_u rfl ?_ | (with_reducible refine gsplit (fun hg => ?_) (fun hg => ?_) <;> try simp at hg)) <;> try simp [-List.map_set, hn, hk, hw, hwd, hfl, hw1, hw2, hw3, hop, hkw', hkl]) | (with_reducible refine And.intro ?_ ?_) | intro _ | (with_reducible assumption) | omega
  all_goals (refine Fin.go hK ?_; clear hK K)
  all_goals
    simp only [Then_normal]
    refine Run.cond rfl (fun h33 => ?_) (fun h33 => ?_)
    · skip
      refine Run.seq ?_
      refine opsF oo32 fun K hK => ?_
      try simp
      repeat' first | ((refine evL_c ?_); simp [-List.map_set, hn, hk, hw, hwd, hfl, hw1, hw2, hw3, hop, hkw', hkl]) | (with_reducible refine And.intro ?_ ?_) | intro _ | (with_reducible assumption) | omega
      all_goals (refine Fin.go hK ?_; clear hK K)
      simp only [Then_normal]
      refine Run.ret ?_
      try simp only [Then_ret, Blok_ret]
      simp
    · simp at h33

set_option maxHeartbeats 4000000 in
theorem boundX3_ok (c : CoreT) (p : PlanT) (hP : patS c.nodes c.edges = true) (hop : p.op = 3) (hkw : ¬ p.kids.length = 1) : Snd P 43 [.d (.ag (encC c ++ [D.int c.nodes.length])), .d (.ag (encP p))] vnil [] := by
  obtain ⟨hn1, hn8, hk8⟩ := pat_rng hP
  have hE := goodE_of hP
  obtain ⟨n, hn⟩ : ∃ k, c.nodes.length = k := ⟨_, rfl⟩
  obtain ⟨k, hk⟩ : ∃ k, c.edges.length = k := ⟨_, rfl⟩
  rw [hn] at hn1 hn8
  rw [hk] at hk8
  obtain ⟨fb, hfb⟩ : ∃ fb, List.replicate (n + k) false = fb := ⟨_, rfl⟩
  have hfl : fb.length = n + k := by rw [← hfb]; simp
  have hwd : ((n:Int) + k).toNat = n + k := by omega
  have hw : IntKind.i64.wrap ((n:Int) + k) = (n:Int) + k := wrap_id (by omega) (by omega)
  have hw1 : 0 < n + k := by omega
  have hw2 : (n:Int) + k ≤ 140737488355328 := by omega
  have hw3 : (0:Int) ≤ (n:Int) + k := by omega
  obtain ⟨kl, hkl⟩ : ∃ kl, p.kids.length = kl := ⟨_, rfl⟩
  have hkw' : ¬ (1 : Int) = kl := by omega
  refine snd_of [] Try.func43 rfl (by kernel_rfl) Try.ntmps43 (by simp) ?_
  unfold Try.f43
  simp only [List.cons_append, List.nil_append, List.length_cons, List.length_nil, Nat.reduceAdd, Nat.reduceSub, List.replicate]
  refine Run.seq ?_
  refine opsF oo13 fun K hK => ?_
  try simp
  repeat' first | ((refine evL_c ?_); simp [-List.map_set, hn, hk, hw, hwd, hfl, hw1, hw2, hw3, hop, hkw', hkl]) | (with_reducible refine And.intro ?_ ?_) | intro _ | (with_reducible assumption) | omega
  all_goals (refine Fin.go hK ?_; clear hK K)
  simp only [Then_normal]
  refine Run.seq ?_
  refine opsF oo14 fun K hK => ?_
  try simp
  repeat' first | ((refine evL_c ?_); simp [-List.map_set, hn, hk, hw, hwd, hfl, hw1, hw2, hw3, hop, hkw', hkl]) | (with_reducible refine And.intro ?_ ?_) | intro _ | (with_reducible assumption) | omega
  all_goals (refine Fin.go hK ?_; clear hK K)
  simp only [Then_normal]
  refine Run.seq ?_
  refine Run.seq ?_
  refine opsF oo15 fun K hK => ?_
  try simp
  repeat' first | ((refine evL_c ?_); simp [-List.map_set, hn, hk, hw, hwd, hfl, hw1, hw2, hw3, hop, hkw', hkl]) | (with_reducible refine And.intro ?_ ?_) | intro _ | (with_reducible assumption) | omega
  all_goals (refine Fin.go hK ?_; clear hK K)
  simp only [Then_normal]
  refine Run.seq ?_
  refine opsF oo16 fun K hK => ?_
  try simp
  repeat' first | ((first | refine evL_c ?_ | (refine evL_g rfl ?_; try simp only [gs_tt, gs_ff, gs_tf, gs_ft]) | refine evL_u rfl ?_ | (with_reducible refine gsplit (fun hg => ?_) (fun hg => ?_) <;> try simp at hg)) <;> try simp [-List.map_set, hn, hk, hw, hwd, hfl, hw1, hw2, hw3, hop, hkw', hkl]) | (with_reducible refine And.intro ?_ ?_) | intro _ | (with_reducible assumption) | omega
  all_goals (refine Fin.go hK ?_; clear hK K)
  all_goals
    simp only [Then_normal]
    refine Run.cond rfl (fun h33 => ?_) (fun h33 => ?_)
    · skip
      refine Run.seq ?_
      refine opsF oo32 fun K hK => ?_
      try simp
      repeat' first | ((refine evL_c ?_); simp [-List.map_set, hn, hk, hw, hwd, hfl, hw1, hw2, hw3, hop, hkw', hkl]) | (with_reducible refine And.intro ?_ ?_) | intro _ | (with_reducible assumption) | omega
      all_goals (refine Fin.go hK ?_; clear hK K)
      simp only [Then_normal]
      refine Run.ret ?_
      try simp only [Then_ret, Blok_ret]
      simp
    · simp at h33

set_option maxHeartbeats 4000000 in
theorem boundX4_ok (c : CoreT) (p : PlanT) (hP : patS c.nodes c.edges = true) (hop : p.op = 4) (hkw : ¬ p.kids.length = 2) : Snd P 43 [.d (.ag (encC c ++ [D.int c.nodes.length])), .d (.ag (encP p))] vnil [] := by
  obtain ⟨hn1, hn8, hk8⟩ := pat_rng hP
  have hE := goodE_of hP
  obtain ⟨n, hn⟩ : ∃ k, c.nodes.length = k := ⟨_, rfl⟩
  obtain ⟨k, hk⟩ : ∃ k, c.edges.length = k := ⟨_, rfl⟩
  rw [hn] at hn1 hn8
  rw [hk] at hk8
  obtain ⟨fb, hfb⟩ : ∃ fb, List.replicate (n + k) false = fb := ⟨_, rfl⟩
  have hfl : fb.length = n + k := by rw [← hfb]; simp
  have hwd : ((n:Int) + k).toNat = n + k := by omega
  have hw : IntKind.i64.wrap ((n:Int) + k) = (n:Int) + k := wrap_id (by omega) (by omega)
  have hw1 : 0 < n + k := by omega
  have hw2 : (n:Int) + k ≤ 140737488355328 := by omega
  have hw3 : (0:Int) ≤ (n:Int) + k := by omega
  obtain ⟨kl, hkl⟩ : ∃ kl, p.kids.length = kl := ⟨_, rfl⟩
  have hkw' : ¬ (2 : Int) = kl := by omega
  refine snd_of [] Try.func43 rfl (by kernel_rfl) Try.ntmps43 (by simp) ?_
  unfold Try.f43
  simp only [List.cons_append, List.nil_append, List.length_cons, List.length_nil, Nat.reduceAdd, Nat.reduceSub, List.replicate]
  refine Run.seq ?_
  refine opsF oo13 fun K hK => ?_
  try simp
  repeat' first | ((refine evL_c ?_); simp [-List.map_set, hn, hk, hw, hwd, hfl, hw1, hw2, hw3, hop, hkw', hkl]) | (with_reducible refine And.intro ?_ ?_) | intro _ | (with_reducible assumption) | omega
  all_goals (refine Fin.go hK ?_; clear hK K)
  simp only [Then_normal]
  refine Run.seq ?_
  refine opsF oo14 fun K hK => ?_
  try simp
  repeat' first | ((refine evL_c ?_); simp [-List.map_set, hn, hk, hw, hwd, hfl, hw1, hw2, hw3, hop, hkw', hkl]) | (with_reducible refine And.intro ?_ ?_) | intro _ | (with_reducible assumption) | omega
  all_goals (refine Fin.go hK ?_; clear hK K)
  simp only [Then_normal]
  refine Run.seq ?_
  refine Run.seq ?_
  refine opsF oo15 fun K hK => ?_
  try simp
  repeat' first | ((refine evL_c ?_); simp [-List.map_set, hn, hk, hw, hwd, hfl, hw1, hw2, hw3, hop, hkw', hkl]) | (with_reducible refine And.intro ?_ ?_) | intro _ | (with_reducible assumption) | omega
  all_goals (refine Fin.go hK ?_; clear hK K)
  simp only [Then_normal]
  refine Run.seq ?_
  refine opsF oo16 fun K hK => ?_
  try simp
  repeat' first | ((first | refine evL_c ?_ | (refine evL_g rfl ?_; try simp only [gs_tt, gs_ff, gs_tf, gs_ft]) | refine evL_u rfl ?_ | (with_reducible refine gsplit (fun hg => ?_) (fun hg => ?_) <;> try simp at hg)) <;> try simp [-List.map_set, hn, hk, hw, hwd, hfl, hw1, hw2, hw3, hop, hkw', hkl]) | (with_reducible refine And.intro ?_ ?_) | intro _ | (with_reducible assumption) | omega
  all_goals (refine Fin.go hK ?_; clear hK K)
  all_goals
    simp only [Then_normal]
    refine Run.cond rfl (fun h33 => ?_) (fun h33 => ?_)
    · skip
      refine Run.seq ?_
      refine opsF oo32 fun K hK => ?_
      try simp
      repeat' first | ((refine evL_c ?_); simp [-List.map_set, hn, hk, hw, hwd, hfl, hw1, hw2, hw3, hop, hkw', hkl]) | (with_reducible refine And.intro ?_ ?_) | intro _ | (with_reducible assumption) | omega
      all_goals (refine Fin.go hK ?_; clear hK K)
      simp only [Then_normal]
      refine Run.ret ?_
      try simp only [Then_ret, Blok_ret]
      simp
    · simp at h33

set_option maxHeartbeats 4000000 in
theorem boundX5_ok (c : CoreT) (p : PlanT) (hP : patS c.nodes c.edges = true) (hop : p.op = 5) (hkw : ¬ p.kids.length = 1) : Snd P 43 [.d (.ag (encC c ++ [D.int c.nodes.length])), .d (.ag (encP p))] vnil [] := by
  obtain ⟨hn1, hn8, hk8⟩ := pat_rng hP
  have hE := goodE_of hP
  obtain ⟨n, hn⟩ : ∃ k, c.nodes.length = k := ⟨_, rfl⟩
  obtain ⟨k, hk⟩ : ∃ k, c.edges.length = k := ⟨_, rfl⟩
  rw [hn] at hn1 hn8
  rw [hk] at hk8
  obtain ⟨fb, hfb⟩ : ∃ fb, List.replicate (n + k) false = fb := ⟨_, rfl⟩
  have hfl : fb.length = n + k := by rw [← hfb]; simp
  have hwd : ((n:Int) + k).toNat = n + k := by omega
  have hw : IntKind.i64.wrap ((n:Int) + k) = (n:Int) + k := wrap_id (by omega) (by omega)
  have hw1 : 0 < n + k := by omega
  have hw2 : (n:Int) + k ≤ 140737488355328 := by omega
  have hw3 : (0:Int) ≤ (n:Int) + k := by omega
  obtain ⟨kl, hkl⟩ : ∃ kl, p.kids.length = kl := ⟨_, rfl⟩
  have hkw' : ¬ (1 : Int) = kl := by omega
  refine snd_of [] Try.func43 rfl (by kernel_rfl) Try.ntmps43 (by simp) ?_
  unfold Try.f43
  simp only [List.cons_append, List.nil_append, List.length_cons, List.length_nil, Nat.reduceAdd, Nat.reduceSub, List.replicate]
  refine Run.seq ?_
  refine opsF oo13 fun K hK => ?_
  try simp
  repeat' first | ((refine evL_c ?_); simp [-List.map_set, hn, hk, hw, hwd, hfl, hw1, hw2, hw3, hop, hkw', hkl]) | (with_reducible refine And.intro ?_ ?_) | intro _ | (with_reducible assumption) | omega
  all_goals (refine Fin.go hK ?_; clear hK K)
  simp only [Then_normal]
  refine Run.seq ?_
  refine opsF oo14 fun K hK => ?_
  try simp
  repeat' first | ((refine evL_c ?_); simp [-List.map_set, hn, hk, hw, hwd, hfl, hw1, hw2, hw3, hop, hkw', hkl]) | (with_reducible refine And.intro ?_ ?_) | intro _ | (with_reducible assumption) | omega
  all_goals (refine Fin.go hK ?_; clear hK K)
  simp only [Then_normal]
  refine Run.seq ?_
  refine Run.seq ?_
  refine opsF oo15 fun K hK => ?_
  try simp
  repeat' first | ((refine evL_c ?_); simp [-List.map_set, hn, hk, hw, hwd, hfl, hw1, hw2, hw3, hop, hkw', hkl]) | (with_reducible refine And.intro ?_ ?_) | intro _ | (with_reducible assumption) | omega
  all_goals (refine Fin.go hK ?_; clear hK K)
  simp only [Then_normal]
  refine Run.seq ?_
  refine opsF oo16 fun K hK => ?_
  try simp
  repeat' first | ((first | refine evL_c ?_ | (refine evL_g rfl ?_; try simp only [gs_tt, gs_ff, gs_tf, gs_ft]) | refine evL_u rfl ?_ | (with_reducible refine gsplit (fun hg => ?_) (fun hg => ?_) <;> try simp at hg)) <;> try simp [-List.map_set, hn, hk, hw, hwd, hfl, hw1, hw2, hw3, hop, hkw', hkl]) | (with_reducible refine And.intro ?_ ?_) | intro _ | (with_reducible assumption) | omega
  all_goals (refine Fin.go hK ?_; clear hK K)
  all_goals
    simp only [Then_normal]
    refine Run.cond rfl (fun h33 => ?_) (fun h33 => ?_)
    · skip
      refine Run.seq ?_
      refine opsF oo32 fun K hK => ?_
      try simp
      repeat' first | ((refine evL_c ?_); simp [-List.map_set, hn, hk, hw, hwd, hfl, hw1, hw2, hw3, hop, hkw', hkl]) | (with_reducible refine And.intro ?_ ?_) | intro _ | (with_reducible assumption) | omega
      all_goals (refine Fin.go hK ?_; clear hK K)
      simp only [Then_normal]
      refine Run.ret ?_
      try simp only [Then_ret, Blok_ret]
      simp
    · simp at h33

set_option maxHeartbeats 4000000 in
theorem boundX6_ok (c : CoreT) (p : PlanT) (hP : patS c.nodes c.edges = true) (hop : p.op = 6) (hkw : ¬ p.kids.length = 1) : Snd P 43 [.d (.ag (encC c ++ [D.int c.nodes.length])), .d (.ag (encP p))] vnil [] := by
  obtain ⟨hn1, hn8, hk8⟩ := pat_rng hP
  have hE := goodE_of hP
  obtain ⟨n, hn⟩ : ∃ k, c.nodes.length = k := ⟨_, rfl⟩
  obtain ⟨k, hk⟩ : ∃ k, c.edges.length = k := ⟨_, rfl⟩
  rw [hn] at hn1 hn8
  rw [hk] at hk8
  obtain ⟨fb, hfb⟩ : ∃ fb, List.replicate (n + k) false = fb := ⟨_, rfl⟩
  have hfl : fb.length = n + k := by rw [← hfb]; simp
  have hwd : ((n:Int) + k).toNat = n + k := by omega
  have hw : IntKind.i64.wrap ((n:Int) + k) = (n:Int) + k := wrap_id (by omega) (by omega)
  have hw1 : 0 < n + k := by omega
  have hw2 : (n:Int) + k ≤ 140737488355328 := by omega
  have hw3 : (0:Int) ≤ (n:Int) + k := by omega
  obtain ⟨kl, hkl⟩ : ∃ kl, p.kids.length = kl := ⟨_, rfl⟩
  have hkw' : ¬ (1 : Int) = kl := by omega
  refine snd_of [] Try.func43 rfl (by kernel_rfl) Try.ntmps43 (by simp) ?_
  unfold Try.f43
  simp only [List.cons_append, List.nil_append, List.length_cons, List.length_nil, Nat.reduceAdd, Nat.reduceSub, List.replicate]
  refine Run.seq ?_
  refine opsF oo13 fun K hK => ?_
  try simp
  repeat' first | ((refine evL_c ?_); simp [-List.map_set, hn, hk, hw, hwd, hfl, hw1, hw2, hw3, hop, hkw', hkl]) | (with_reducible refine And.intro ?_ ?_) | intro _ | (with_reducible assumption) | omega
  all_goals (refine Fin.go hK ?_; clear hK K)
  simp only [Then_normal]
  refine Run.seq ?_
  refine opsF oo14 fun K hK => ?_
  try simp
  repeat' first | ((refine evL_c ?_); simp [-List.map_set, hn, hk, hw, hwd, hfl, hw1, hw2, hw3, hop, hkw', hkl]) | (with_reducible refine And.intro ?_ ?_) | intro _ | (with_reducible assumption) | omega
  all_goals (refine Fin.go hK ?_; clear hK K)
  simp only [Then_normal]
  refine Run.seq ?_
  refine Run.seq ?_
  refine opsF oo15 fun K hK => ?_
  try simp
  repeat' first | ((refine evL_c ?_); simp [-List.map_set, hn, hk, hw, hwd, hfl, hw1, hw2, hw3, hop, hkw', hkl]) | (with_reducible refine And.intro ?_ ?_) | intro _ | (with_reducible assumption) | omega
  all_goals (refine Fin.go hK ?_; clear hK K)
  simp only [Then_normal]
  refine Run.seq ?_
  refine opsF oo16 fun K hK => ?_
  try simp
  repeat' first | ((first | refine evL_c ?_ | (refine evL_g rfl ?_; try simp only [gs_tt, gs_ff, gs_tf, gs_ft]) | refine evL_u rfl ?_ | (with_reducible refine gsplit (fun hg => ?_) (fun hg => ?_) <;> try simp at hg)) <;> try simp [-List.map_set, hn, hk, hw, hwd, hfl, hw1, hw2, hw3, hop, hkw', hkl]) | (with_reducible refine And.intro ?_ ?_) | intro _ | (with_reducible assumption) | omega
  all_goals (refine Fin.go hK ?_; clear hK K)
  all_goals
    simp only [Then_normal]
    refine Run.cond rfl (fun h33 => ?_) (fun h33 => ?_)
    · skip
      refine Run.seq ?_
      refine opsF oo32 fun K hK => ?_
      try simp
      repeat' first | ((refine evL_c ?_); simp [-List.map_set, hn, hk, hw, hwd, hfl, hw1, hw2, hw3, hop, hkw', hkl]) | (with_reducible refine And.intro ?_ ?_) | intro _ | (with_reducible assumption) | omega
      all_goals (refine Fin.go hK ?_; clear hK K)
      simp only [Then_normal]
      refine Run.ret ?_
      try simp only [Then_ret, Blok_ret]
      simp
    · simp at h33

set_option maxHeartbeats 4000000 in
theorem boundX0_ok (c : CoreT) (p : PlanT) (hP : patS c.nodes c.edges = true) (ho1 : ¬ p.op = 1) (ho2 : ¬ p.op = 2) (ho3 : ¬ p.op = 3) (ho4 : ¬ p.op = 4) (ho5 : ¬ p.op = 5) (ho6 : ¬ p.op = 6)  : Snd P 43 [.d (.ag (encC c ++ [D.int c.nodes.length])), .d (.ag (encP p))] vnil [] := by
  obtain ⟨hn1, hn8, hk8⟩ := pat_rng hP
  have hE := goodE_of hP
  obtain ⟨n, hn⟩ : ∃ k, c.nodes.length = k := ⟨_, rfl⟩
  obtain ⟨k, hk⟩ : ∃ k, c.edges.length = k := ⟨_, rfl⟩
  rw [hn] at hn1 hn8
  rw [hk] at hk8
  obtain ⟨fb, hfb⟩ : ∃ fb, List.replicate (n + k) false = fb := ⟨_, rfl⟩
  have hfl : fb.length = n + k := by rw [← hfb]; simp
  have hwd : ((n:Int) + k).toNat = n + k := by omega
  have hw : IntKind.i64.wrap ((n:Int) + k) = (n:Int) + k := wrap_id (by omega) (by omega)
  have hw1 : 0 < n + k := by omega
  have hw2 : (n:Int) + k ≤ 140737488355328 := by omega
  have hw3 : (0:Int) ≤ (n:Int) + k := by omega
  refine snd_of [] Try.func43 rfl (by kernel_rfl) Try.ntmps43 (by simp) ?_
  unfold Try.f43
  simp only [List.cons_append, List.nil_append, List.length_cons, List.length_nil, Nat.reduceAdd, Nat.reduceSub, List.replicate]
  refine Run.seq ?_
  refine opsF oo13 fun K hK => ?_
  try simp
  repeat' first | ((refine evL_c ?_); simp [-List.map_set, hn, hk, hw, hwd, hfl, hw1, hw2, hw3, ho1, ho2, ho3, ho4, ho5, ho6]) | (with_reducible refine And.intro ?_ ?_) | intro _ | (with_reducible assumption) | omega
  all_goals (refine Fin.go hK ?_; clear hK K)
  simp only [Then_normal]
  refine Run.seq ?_
  refine opsF oo14 fun K hK => ?_
  try simp
  repeat' first | ((refine evL_c ?_); simp [-List.map_set, hn, hk, hw, hwd, hfl, hw1, hw2, hw3, ho1, ho2, ho3, ho4, ho5, ho6]) | (with_reducible refine And.intro ?_ ?_) | intro _ | (with_reducible assumption) | omega
  all_goals (refine Fin.go hK ?_; clear hK K)
  simp only [Then_normal]
  refine Run.seq ?_
  refine Run.seq ?_
  refine opsF oo15 fun K hK => ?_
  try simp
  repeat' first | ((refine evL_c ?_); simp [-List.map_set, hn, hk, hw, hwd, hfl, hw1, hw2, hw3, ho1, ho2, ho3, ho4, ho5, ho6]) | (with_reducible refine And.intro ?_ ?_) | intro _ | (with_reducible assumption) | omega
  all_goals (refine Fin.go hK ?_; clear hK K)
  simp only [Then_normal]
  refine Run.seq ?_
  refine opsF oo16 fun K hK => ?_
  try simp
  repeat' first | ((first | refine evL_c ?_ | (refine evL_g rfl ?_; try simp only [gs_tt, gs_ff, gs_tf, gs_ft]) | refine evL_u rfl ?_ | (with_reducible refine gsplit (fun hg => ?_) (fun hg => ?_) <;> try simp at hg)) <;> try simp [-List.map_set, hn, hk, hw, hwd, hfl, hw1, hw2, hw3, ho1, ho2, ho3, ho4, ho5, ho6]) | (with_reducible refine And.intro ?_ ?_) | intro _ | (with_reducible assumption) | omega
  all_goals (refine Fin.go hK ?_; clear hK K)
  all_goals
    simp only [Then_normal]
    refine Run.cond rfl (fun h33 => ?_) (fun h33 => ?_)
    · skip
      refine Run.seq ?_
      refine opsF oo32 fun K hK => ?_
      try simp
      repeat' first | ((refine evL_c ?_); simp [-List.map_set, hn, hk, hw, hwd, hfl, hw1, hw2, hw3, ho1, ho2, ho3, ho4, ho5, ho6]) | (with_reducible refine And.intro ?_ ?_) | intro _ | (with_reducible assumption) | omega
      all_goals (refine Fin.go hK ?_; clear hK K)
      simp only [Then_normal]
      refine Run.ret ?_
      try simp only [Then_ret, Blok_ret]
      simp
    · simp at h33


end Go.Proofs.Ytimgbdkgjfbhkaa.Z
end
section
set_option maxRecDepth 100000
namespace Go.Proofs.Ytimgbdkgjfbhkaa.Z
open Go Go.Fw
set_option maxHeartbeats 4000000 in
theorem boundN4b_ok (c : CoreT) (p : PlanT) (hP : patS c.nodes c.edges = true) (hop : p.op = 4) (hkl : p.kids.length = 2) (IH : Snd P 43 [.d (.ag (encC c ++ [D.int c.nodes.length])), .d (.ag (encP (rdI p.kids 0)))] (resB (bndT c (rdI p.kids 0))) (stoB (bndT c (rdI p.kids 0)))) (IH2 : Snd P 43 [.d (.ag (encC c ++ [D.int c.nodes.length])), .d (.ag (encP (rdI p.kids 1)))] (resB (bndT c (rdI p.kids 1))) (stoB (bndT c (rdI p.kids 1)))) (b0 : List Bool) (hq : bndT c (rdI p.kids 0) = some b0) (hb0 : b0.length = c.nodes.length + c.edges.length) (hr : bndT c (rdI p.kids 1) = none) : Snd P 43 [.d (.ag (encC c ++ [D.int c.nodes.length])), .d (.ag (encP p))] vnil [] := by
  obtain ⟨hn1, hn8, hk8⟩ := pat_rng hP
  have hE := goodE_of hP
  obtain ⟨n, hn⟩ : ∃ k, c.nodes.length = k := ⟨_, rfl⟩
  obtain ⟨k, hk⟩ : ∃ k, c.edges.length = k := ⟨_, rfl⟩
  rw [hn] at hn1 hn8
  rw [hk] at hk8
  obtain ⟨fb, hfb⟩ : ∃ fb, List.replicate (n + k) false = fb := ⟨_, rfl⟩
  have hfl : fb.length = n + k := by rw [← hfb]; simp
  have hwd : ((n:Int) + k).toNat = n + k := by omega
  have hw : IntKind.i64.wrap ((n:Int) + k) = (n:Int) + k := wrap_id (by omega) (by omega)
  have hw1 : 0 < n + k := by omega
  have hw2 : (n:Int) + k ≤ 140737488355328 := by omega
  have hw3 : (0:Int) ≤ (n:Int) + k := by omega
  have hb0n : b0.length = n + k := by rw [hb0, hn, hk]
  simp only [hq, resB, stoB, encP_cells, hn, hb0n] at IH
  simp only [hr, resB, stoB, encP_cells, hn] at IH2
  refine snd_of [] Try.func43 rfl (by kernel_rfl) Try.ntmps43 (by simp) ?_
  unfold Try.f43
  simp only [List.cons_append, List.nil_append, List.length_cons, List.length_nil, Nat.reduceAdd, Nat.reduceSub, List.replicate]
  refine Run.seq ?_
  refine opsF oo13 fun K hK => ?_
  try simp
  repeat' first | ((refine evL_c ?_); simp [-List.map_set, hn, hk, hop, hkl, hw, hwd, hfl, hw1, hw2, hw3]) | (with_reducible refine And.intro ?_ ?_) | intro _ | (with_reducible assumption) | omega
  all_goals (refine Fin.go hK ?_; clear hK K)
  simp only [Then_normal]
  refine Run.seq ?_
  refine opsF oo14 fun K hK => ?_
  try simp
  repeat' first | ((refine evL_c ?_); simp [-List.map_set, hn, hk, hop, hkl, hw, hwd, hfl, hw1, hw2, hw3]) | (with_reducible refine And.intro ?_ ?_) | intro _ | (with_reducible assumption) | omega
  all_goals (refine Fin.go hK ?_; clear hK K)
  simp only [Then_normal]
  refine Run.seq ?_
  refine Run.seq ?_
  refine opsF oo15 fun K hK => ?_
  try simp
  repeat' first | ((refine evL_c ?_); simp [-List.map_set, hn, hk, hop, hkl, hw, hwd, hfl, hw1, hw2, hw3]) | (with_reducible refine And.intro ?_ ?_) | intro _ | (with_reducible assumption) | omega
  all_goals (refine Fin.go hK ?_; clear hK K)
  simp only [Then_normal]
  refine Run.seq ?_
  refine opsF oo16 fun K hK => ?_
  try simp
  repeat' first | ((first | refine evL_c ?_ | (refine evL_g rfl ?_; try simp only [gs_tt, gs_ff, gs_tf, gs_ft]) | refine evL_u rfl ?_ | (with_reducible refine gsplit (fun hg => ?_) (fun hg => ?_) <;> try simp at hg)) <;> try simp [-List.map_set, hn, hk, hop, hkl, hw, hwd, hfl, hw1, hw2, hw3]) | (with_reducible refine And.intro ?_ ?_) | intro _ | (with_reducible assumption) | omega
  all_goals (refine Fin.go hK ?_; clear hK K)
  all_goals
    simp only [Then_normal]
    refine Run.cond rfl (fun h33 => ?_) (fun h33 => ?_)
    · simp at h33
    · skip
      refine Run.skip ?_
      simp only [Then_normal]
      refine Run.cut [8, 34, 35, 36, 37, 38, 39, 40, 41, 42] [(8, .rs 4300 1 0 1)] [(300, .vals ((encC c ++ [D.int c.nodes.length]).map .d)), (400, .vals ((encP p).map .d)), (4200, .data 1 (fb.map encB)), (4300, .vals [.rs 4200 1 0 (n + k)])] ?_ ?_
      · refine opsF oo17 fun K hK => ?_
        try simp
        repeat' first | ((refine evL_c ?_); simp [-List.map_set, hn, hk, hop, hkl, hw, hwd, hfl, hw1, hw2, hw3]) | (with_reducible refine And.intro ?_ ?_) | intro _ | (with_reducible assumption) | omega
        all_goals (refine Fin.go hK ?_; clear hK K)
        first | (simp [-List.map_set, hn, hk, hop, hkl, hw, hwd, hfl, hw1, hw2, hw3, ← hfb]; done)
      · simp only [over, List.foldl, List.set]
        refine Run.seq ?_
        refine Run.seq ?_
        refine opsF oo18 fun K hK => ?_
        try simp
        repeat' first | ((refine evL_c ?_); simp [-List.map_set, hn, hk, hop, hkl, hw, hwd, hfl, hw1, hw2, hw3]) | (with_reducible refine And.intro ?_ ?_) | intro _ | (with_reducible assumption) | omega
        all_goals (refine Fin.go hK ?_; clear hK K)
        simp only [Then_normal]
        refine Run.block ?_
        refine Run.loopO [4, 8, 10, 11, 46, 47, 48, 49, 50, 51, 52, 53, 54, 55, 56, 57, 58, 59] (fun (x : Nat) => [(46, .int x), (8, match x with | 0 => .rs 4300 1 0 1 | 1 => .rs 5900 1 0 2 | _ => .rs 5900 1 0 3)]) (fun (x : Nat) => match x with | 0 => [(300, .vals ((encC c ++ [D.int c.nodes.length]).map .d)), (400, .vals ((encP p).map .d)), (4200, .data 1 (fb.map encB)), (4300, .vals [.rs 4200 1 0 (n + k)])] | 1 => [(300, .vals ((encC c ++ [D.int c.nodes.length]).map .d)), (400, .vals ((encP p).map .d)), (4200, .data 1 (fb.map encB)), (5900, .vals [.rs 4200 1 0 (n + k), .rs 1100000 1 0 (n + k)]), (1100000, .data 1 (b0.map encB))] | _ => []) (fun (x : Nat) => x = 0 ∨ x = 1) (fun (x : Nat) => 2 - x) 0 (by simp) (by simp [-List.map_set, hn, hk, hop, hkl, hw, hwd, hfl, hw1, hw2, hw3]) fun x hx => ?_
        rcases hx with rfl | rfl
        · simp only [over, List.foldl, List.set]
          refine Run.seq ?_
          refine opsF oo19 fun K hK => ?_
          try simp
          repeat' first | ((refine evL_c ?_); simp [-List.map_set, hn, hk, hop, hkl, hw, hwd, hfl, hw1, hw2, hw3]) | (with_reducible refine And.intro ?_ ?_) | intro _ | (with_reducible assumption) | omega
          all_goals (refine Fin.go hK ?_; clear hK K)
          simp only [Then_normal]
          refine Run.seq ?_
          refine Run.cond rfl (fun h47 => ?_) (fun h47 => ?_)
          · skip
            refine Run.skip ?_
            simp only [Then_normal]
            refine Run.seq ?_
            refine Run.block ?_
            refine Run.seq ?_
            refine opsF oo20 fun K hK => ?_
            try simp
            repeat' first | ((refine evL_c ?_); simp [-List.map_set, hn, hk, hop, hkl, hw, hwd, hfl, hw1, hw2, hw3]) | (with_reducible refine And.intro ?_ ?_) | intro _ | (with_reducible assumption) | omega
            all_goals (refine Fin.go hK ?_; clear hK K)
            simp only [Then_normal]
            refine Run.seq ?_
            refine opsF oo21 fun K hK => ?_
            try simp
            repeat' first | (refine ecall (by have h := IH; exact h) rfl ?_) | ((refine evL_c ?_); simp [-List.map_set, hn, hk, hop, hkl, hw, hwd, hfl, hw1, hw2, hw3]) | (with_reducible refine And.intro ?_ ?_) | intro _ | (with_reducible assumption) | omega
            all_goals (refine Fin.go hK ?_; clear hK K)
            simp only [Then_normal]
            refine Run.seq ?_
            refine Run.seq ?_
            refine opsF oo22 fun K hK => ?_
            try simp
            repeat' first | ((refine evL_c ?_); simp [-List.map_set, hn, hk, hop, hkl, hw, hwd, hfl, hw1, hw2, hw3]) | (with_reducible refine And.intro ?_ ?_) | intro _ | (with_reducible assumption) | omega
            all_goals (refine Fin.go hK ?_; clear hK K)
            simp only [Then_normal]
            refine Run.cond rfl (fun h54 => ?_) (fun h54 => ?_)
            · simp at h54
            · skip
              refine Run.skip ?_
              simp only [Then_normal]
              refine opsF oo23 fun K hK => ?_
              try simp
              repeat' first | ((refine evL_c ?_); simp [-List.map_set, hn, hk, hop, hkl, hw, hwd, hfl, hw1, hw2, hw3]) | (with_reducible refine And.intro ?_ ?_) | intro _ | (with_reducible assumption) | omega
              all_goals (refine Fin.go hK ?_; clear hK K)
              simp only [Blok_normal]
              simp only [Then_normal]
              refine Run.ren 5300 1100000 (by omega) (by omega) (by simp) (by simp) ?_
              refine opsF oo24 fun K hK => ?_
              try simp
              repeat' first | ((refine evL_c ?_); simp [-List.map_set, hn, hk, hop, hkl, hw, hwd, hfl, hw1, hw2, hw3]) | (with_reducible refine And.intro ?_ ?_) | intro _ | (with_reducible assumption) | omega
              all_goals (refine Fin.go hK ?_; clear hK K)
              refine ⟨1, .inr rfl, by omega, ?_⟩
              simp (disch := omega) [-List.map_set, hn, hk, hop, hkl, hw, hwd, hfl, hw1, hw2, hw3, hb0n, wrap_id]
          · simp at h47
        · simp only [over, List.foldl, List.set]
          refine Run.seq ?_
          refine opsF oo19 fun K hK => ?_
          try simp
          repeat' first | ((refine evL_c ?_); simp [-List.map_set, hn, hk, hop, hkl, hw, hwd, hfl, hw1, hw2, hw3]) | (with_reducible refine And.intro ?_ ?_) | intro _ | (with_reducible assumption) | omega
          all_goals (refine Fin.go hK ?_; clear hK K)
          simp only [Then_normal]
          refine Run.seq ?_
          refine Run.cond rfl (fun h47 => ?_) (fun h47 => ?_)
          · skip
            refine Run.skip ?_
            simp only [Then_normal]
            refine Run.seq ?_
            refine Run.block ?_
            refine Run.seq ?_
            refine opsF oo20 fun K hK => ?_
            try simp
            repeat' first | ((refine evL_c ?_); simp [-List.map_set, hn, hk, hop, hkl, hw, hwd, hfl, hw1, hw2, hw3]) | (with_reducible refine And.intro ?_ ?_) | intro _ | (with_reducible assumption) | omega
            all_goals (refine Fin.go hK ?_; clear hK K)
            simp only [Then_normal]
            refine Run.seq ?_
            refine opsF oo21 fun K hK => ?_
            try simp
            repeat' first | (refine ecall (by have h := IH2; exact h) rfl ?_) | ((refine evL_c ?_); simp [-List.map_set, hn, hk, hop, hkl, hw, hwd, hfl, hw1, hw2, hw3]) | (with_reducible refine And.intro ?_ ?_) | intro _ | (with_reducible assumption) | omega
            all_goals (refine Fin.go hK ?_; clear hK K)
            simp only [Then_normal]
            refine Run.seq ?_
            refine Run.seq ?_
            refine opsF oo22 fun K hK => ?_
            try simp
            repeat' first | ((refine evL_c ?_); simp [-List.map_set, hn, hk, hop, hkl, hw, hwd, hfl, hw1, hw2, hw3]) | (with_reducible refine And.intro ?_ ?_) | intro _ | (with_reducible assumption) | omega
            all_goals (refine Fin.go hK ?_; clear hK K)
            simp only [Then_normal]
            refine Run.cond rfl (fun h54 => ?_) (fun h54 => ?_)
            · skip
              refine Run.seq ?_
              refine opsF oo32 fun K hK => ?_
              try simp
              repeat' first | ((refine evL_c ?_); simp [-List.map_set, hn, hk, hop, hkl, hw, hwd, hfl, hw1, hw2, hw3]) | (with_reducible refine And.intro ?_ ?_) | intro _ | (with_reducible assumption) | omega
              all_goals (refine Fin.go hK ?_; clear hK K)
              simp only [Then_normal]
              refine Run.drop [] (by simp) ?_
              refine Run.ret ?_
              try simp only [Then_ret, Blok_ret]
              simp
            · simp at h54
          · simp at h47

set_option maxHeartbeats 4000000 in
theorem bound4_ok (c : CoreT) (p : PlanT) (hP : patS c.nodes c.edges = true) (hop : p.op = 4) (hkl : p.kids.length = 2) (IH : Snd P 43 [.d (.ag (encC c ++ [D.int c.nodes.length])), .d (.ag (encP (rdI p.kids 0)))] (resB (bndT c (rdI p.kids 0))) (stoB (bndT c (rdI p.kids 0)))) (IH2 : Snd P 43 [.d (.ag (encC c ++ [D.int c.nodes.length])), .d (.ag (encP (rdI p.kids 1)))] (resB (bndT c (rdI p.kids 1))) (stoB (bndT c (rdI p.kids 1)))) (b0 b1 : List Bool) (hq : bndT c (rdI p.kids 0) = some b0) (hb0 : b0.length = c.nodes.length + c.edges.length) (hr : bndT c (rdI p.kids 1) = some b1) (hb1 : b1.length = c.nodes.length + c.edges.length) : Snd P 43 [.d (.ag (encC c ++ [D.int c.nodes.length])), .d (.ag (encP p))] (resB (opS c p [b0, b1])) (stoB (opS c p [b0, b1])) := by
  obtain ⟨hn1, hn8, hk8⟩ := pat_rng hP
  have hE := goodE_of hP
  obtain ⟨n, hn⟩ : ∃ k, c.nodes.length = k := ⟨_, rfl⟩
  obtain ⟨k, hk⟩ : ∃ k, c.edges.length = k := ⟨_, rfl⟩
  rw [hn] at hn1 hn8
  rw [hk] at hk8
  obtain ⟨fb, hfb⟩ : ∃ fb, List.replicate (n + k) false = fb := ⟨_, rfl⟩
  have hfl : fb.length = n + k := by rw [← hfb]; simp
  have hwd : ((n:Int) + k).toNat = n + k := by omega
  have hw : IntKind.i64.wrap ((n:Int) + k) = (n:Int) + k := wrap_id (by omega) (by omega)
  have hw1 : 0 < n + k := by omega
  have hw2 : (n:Int) + k ≤ 140737488355328 := by omega
  have hw3 : (0:Int) ≤ (n:Int) + k := by omega
  have hb0n : b0.length = n + k := by rw [hb0, hn, hk]
  have hb1n : b1.length = n + k := by rw [hb1, hn, hk]
  simp only [hq, resB, stoB, encP_cells, hn, hb0n] at IH
  simp only [hr, resB, stoB, encP_cells, hn, hb1n] at IH2
  refine snd_of [5300] Try.func43 rfl (by kernel_rfl) Try.ntmps43 (by simp) ?_
  unfold Try.f43
  simp only [List.cons_append, List.nil_append, List.length_cons, List.length_nil, Nat.reduceAdd, Nat.reduceSub, List.replicate]
  refine Run.seq ?_
  refine opsF oo13 fun K hK => ?_
  try simp
  repeat' first | ((refine evL_c ?_); simp [-List.map_set, hn, hk, hop, hkl, hw, hwd, hfl, hw1, hw2, hw3]) | (with_reducible refine And.intro ?_ ?_) | intro _ | (with_reducible assumption) | omega
  all_goals (refine Fin.go hK ?_; clear hK K)
  simp only [Then_normal]
  refine Run.seq ?_
  refine opsF oo14 fun K hK => ?_
  try simp
  repeat' first | ((refine evL_c ?_); simp [-List.map_set, hn, hk, hop, hkl, hw, hwd, hfl, hw1, hw2, hw3]) | (with_reducible refine And.intro ?_ ?_) | intro _ | (with_reducible assumption) | omega
  all_goals (refine Fin.go hK ?_; clear hK K)
  simp only [Then_normal]
  refine Run.seq ?_
  refine Run.seq ?_
  refine opsF oo15 fun K hK => ?_
  try simp
  repeat' first | ((refine evL_c ?_); simp [-List.map_set, hn, hk, hop, hkl, hw, hwd, hfl, hw1, hw2, hw3]) | (with_reducible refine And.intro ?_ ?_) | intro _ | (with_reducible assumption) | omega
  all_goals (refine Fin.go hK ?_; clear hK K)
  simp only [Then_normal]
  refine Run.seq ?_
  refine opsF oo16 fun K hK => ?_
  try simp
  repeat' first | ((first | refine evL_c ?_ | (refine evL_g rfl ?_; try simp only [gs_tt, gs_ff, gs_tf, gs_ft]) | refine evL_u rfl ?_ | (with_reducible refine gsplit (fun hg => ?_) (fun hg => ?_) <;> try simp at hg)) <;> try simp [-List.map_set, hn, hk, hop, hkl, hw, hwd, hfl, hw1, hw2, hw3]) | (with_reducible refine And.intro ?_ ?_) | intro _ | (with_reducible assumption) | omega
  all_goals (refine Fin.go hK ?_; clear hK K)
  all_goals
    simp only [Then_normal]
    refine Run.cond rfl (fun h33 => ?_) (fun h33 => ?_)
    · simp at h33
    · skip
      refine Run.skip ?_
      simp only [Then_normal]
      refine Run.cut [8, 34, 35, 36, 37, 38, 39, 40, 41, 42] [(8, .rs 4300 1 0 1)] [(300, .vals ((encC c ++ [D.int c.nodes.length]).map .d)), (400, .vals ((encP p).map .d)), (4200, .data 1 (fb.map encB)), (4300, .vals [.rs 4200 1 0 (n + k)])] ?_ ?_
      · refine opsF oo17 fun K hK => ?_
        try simp
        repeat' first | ((refine evL_c ?_); simp [-List.map_set, hn, hk, hop, hkl, hw, hwd, hfl, hw1, hw2, hw3]) | (with_reducible refine And.intro ?_ ?_) | intro _ | (with_reducible assumption) | omega
        all_goals (refine Fin.go hK ?_; clear hK K)
        first | (simp [-List.map_set, hn, hk, hop, hkl, hw, hwd, hfl, hw1, hw2, hw3, ← hfb]; done)
      · simp only [over, List.foldl, List.set]
        refine Run.seq ?_
        refine Run.seq ?_
        refine opsF oo18 fun K hK => ?_
        try simp
        repeat' first | ((refine evL_c ?_); simp [-List.map_set, hn, hk, hop, hkl, hw, hwd, hfl, hw1, hw2, hw3]) | (with_reducible refine And.intro ?_ ?_) | intro _ | (with_reducible assumption) | omega
        all_goals (refine Fin.go hK ?_; clear hK K)
        simp only [Then_normal]
        refine Run.block ?_
        refine Run.loopO [4, 8, 10, 11, 46, 47, 48, 49, 50, 51, 52, 53, 54, 55, 56, 57, 58, 59] (fun (x : Nat) => [(46, .int x), (8, match x with | 0 => .rs 4300 1 0 1 | 1 => .rs 5900 1 0 2 | _ => .rs 5900 1 0 3)]) (fun (x : Nat) => match x with | 0 => [(300, .vals ((encC c ++ [D.int c.nodes.length]).map .d)), (400, .vals ((encP p).map .d)), (4200, .data 1 (fb.map encB)), (4300, .vals [.rs 4200 1 0 (n + k)])] | 1 => [(300, .vals ((encC c ++ [D.int c.nodes.length]).map .d)), (400, .vals ((encP p).map .d)), (4200, .data 1 (fb.map encB)), (5900, .vals [.rs 4200 1 0 (n + k), .rs 1100000 1 0 (n + k)]), (1100000, .data 1 (b0.map encB))] | _ => [(300, .vals ((encC c ++ [D.int c.nodes.length]).map .d)), (400, .vals ((encP p).map .d)), (4200, .data 1 (fb.map encB)), (5300, .data 1 (b1.map encB)), (5900, .vals [.rs 4200 1 0 (n + k), .rs 1100000 1 0 (n + k), .rs 5300 1 0 (n + k)]), (1100000, .data 1 (b0.map encB))]) (fun (x : Nat) => x = 0 ∨ x = 1 ∨ x = 2) (fun (x : Nat) => 2 - x) 0 (by simp) (by simp [-List.map_set, hn, hk, hop, hkl, hw, hwd, hfl, hw1, hw2, hw3]) fun x hx => ?_
        rcases hx with rfl | rfl | rfl
        · simp only [over, List.foldl, List.set]
          refine Run.seq ?_
          refine opsF oo19 fun K hK => ?_
          try simp
          repeat' first | ((refine evL_c ?_); simp [-List.map_set, hn, hk, hop, hkl, hw, hwd, hfl, hw1, hw2, hw3]) | (with_reducible refine And.intro ?_ ?_) | intro _ | (with_reducible assumption) | omega
          all_goals (refine Fin.go hK ?_; clear hK K)
          simp only [Then_normal]
          refine Run.seq ?_
          refine Run.cond rfl (fun h47 => ?_) (fun h47 => ?_)
          · skip
            refine Run.skip ?_
            simp only [Then_normal]
            refine Run.seq ?_
            refine Run.block ?_
            refine Run.seq ?_
            refine opsF oo20 fun K hK => ?_
            try simp
            repeat' first | ((refine evL_c ?_); simp [-List.map_set, hn, hk, hop, hkl, hw, hwd, hfl, hw1, hw2, hw3]) | (with_reducible refine And.intro ?_ ?_) | intro _ | (with_reducible assumption) | omega
            all_goals (refine Fin.go hK ?_; clear hK K)
            simp only [Then_normal]
            refine Run.seq ?_
            refine opsF oo21 fun K hK => ?_
            try simp
            repeat' first | (refine ecall (by have h := IH; exact h) rfl ?_) | ((refine evL_c ?_); simp [-List.map_set, hn, hk, hop, hkl, hw, hwd, hfl, hw1, hw2, hw3]) | (with_reducible refine And.intro ?_ ?_) | intro _ | (with_reducible assumption) | omega
            all_goals (refine Fin.go hK ?_; clear hK K)
            simp only [Then_normal]
            refine Run.seq ?_
            refine Run.seq ?_
            refine opsF oo22 fun K hK => ?_
            try simp
            repeat' first | ((refine evL_c ?_); simp [-List.map_set, hn, hk, hop, hkl, hw, hwd, hfl, hw1, hw2, hw3]) | (with_reducible refine And.intro ?_ ?_) | intro _ | (with_reducible assumption) | omega
            all_goals (refine Fin.go hK ?_; clear hK K)
            simp only [Then_normal]
            refine Run.cond rfl (fun h54 => ?_) (fun h54 => ?_)
            · simp at h54
            · skip
              refine Run.skip ?_
              simp only [Then_normal]
              refine opsF oo23 fun K hK => ?_
              try simp
              repeat' first | ((refine evL_c ?_); simp [-List.map_set, hn, hk, hop, hkl, hw, hwd, hfl, hw1, hw2, hw3]) | (with_reducible refine And.intro ?_ ?_) | intro _ | (with_reducible assumption) | omega
              all_goals (refine Fin.go hK ?_; clear hK K)
              simp only [Blok_normal]
              simp only [Then_normal]
              refine Run.ren 5300 1100000 (by omega) (by omega) (by simp) (by simp) ?_
              refine opsF oo24 fun K hK => ?_
              try simp
              repeat' first | ((refine evL_c ?_); simp [-List.map_set, hn, hk, hop, hkl, hw, hwd, hfl, hw1, hw2, hw3]) | (with_reducible refine And.intro ?_ ?_) | intro _ | (with_reducible assumption) | omega
              all_goals (refine Fin.go hK ?_; clear hK K)
              refine ⟨1, .inr (.inl rfl), by omega, ?_⟩
              simp (disch := omega) [-List.map_set, hn, hk, hop, hkl, hw, hwd, hfl, hw1, hw2, hw3, hb0n, wrap_id]
          · simp at h47
        · simp only [over, List.foldl, List.set]
          refine Run.seq ?_
          refine opsF oo19 fun K hK => ?_
          try simp
          repeat' first | ((refine evL_c ?_); simp [-List.map_set, hn, hk, hop, hkl, hw, hwd, hfl, hw1, hw2, hw3]) | (with_reducible refine And.intro ?_ ?_) | intro _ | (with_reducible assumption) | omega
          all_goals (refine Fin.go hK ?_; clear hK K)
          simp only [Then_normal]
          refine Run.seq ?_
          refine Run.cond rfl (fun h47 => ?_) (fun h47 => ?_)
          · skip
            refine Run.skip ?_
            simp only [Then_normal]
            refine Run.seq ?_
            refine Run.block ?_
            refine Run.seq ?_
            refine opsF oo20 fun K hK => ?_
            try simp
            repeat' first | ((refine evL_c ?_); simp [-List.map_set, hn, hk, hop, hkl, hw, hwd, hfl, hw1, hw2, hw3]) | (with_reducible refine And.intro ?_ ?_) | intro _ | (with_reducible assumption) | omega
            all_goals (refine Fin.go hK ?_; clear hK K)
            simp only [Then_normal]
            refine Run.seq ?_
            refine opsF oo21 fun K hK => ?_
            try simp
            repeat' first | (refine ecall (by have h := IH2; exact h) rfl ?_) | ((refine evL_c ?_); simp [-List.map_set, hn, hk, hop, hkl, hw, hwd, hfl, hw1, hw2, hw3]) | (with_reducible refine And.intro ?_ ?_) | intro _ | (with_reducible assumption) | omega
            all_goals (refine Fin.go hK ?_; clear hK K)
            simp only [Then_normal]
            refine Run.seq ?_
            refine Run.seq ?_
            refine opsF oo22 fun K hK => ?_
            try simp
            repeat' first | ((refine evL_c ?_); simp [-List.map_set, hn, hk, hop, hkl, hw, hwd, hfl, hw1, hw2, hw3]) | (with_reducible refine And.intro ?_ ?_) | intro _ | (with_reducible assumption) | omega
            all_goals (refine Fin.go hK ?_; clear hK K)
            simp only [Then_normal]
            refine Run.cond rfl (fun h54 => ?_) (fun h54 => ?_)
            · simp at h54
            · skip
              refine Run.skip ?_
              simp only [Then_normal]
              refine opsF oo23 fun K hK => ?_
              try simp
              repeat' first | ((refine evL_c ?_); simp [-List.map_set, hn, hk, hop, hkl, hw, hwd, hfl, hw1, hw2, hw3]) | (with_reducible refine And.intro ?_ ?_) | intro _ | (with_reducible assumption) | omega
              all_goals (refine Fin.go hK ?_; clear hK K)
              simp only [Blok_normal]
              simp only [Then_normal]
              refine opsF oo24 fun K hK => ?_
              try simp
              repeat' first | ((refine evL_c ?_); simp [-List.map_set, hn, hk, hop, hkl, hw, hwd, hfl, hw1, hw2, hw3]) | (with_reducible refine And.intro ?_ ?_) | intro _ | (with_reducible assumption) | omega
              all_goals (refine Fin.go hK ?_; clear hK K)
              refine ⟨2, .inr (.inr rfl), by omega, ?_⟩
              simp (disch := omega) [-List.map_set, hn, hk, hop, hkl, hw, hwd, hfl, hw1, hw2, hw3, hb0n, hb1n, wrap_id]
          · simp at h47
        · simp only [over, List.foldl, List.set]
          refine Run.seq ?_
          refine opsF oo19 fun K hK => ?_
          try simp
          repeat' first | ((refine evL_c ?_); simp [-List.map_set, hn, hk, hop, hkl, hw, hwd, hfl, hw1, hw2, hw3]) | (with_reducible refine And.intro ?_ ?_) | intro _ | (with_reducible assumption) | omega
          all_goals (refine Fin.go hK ?_; clear hK K)
          simp only [Then_normal]
          refine Run.seq ?_
          refine Run.cond rfl (fun h47 => ?_) (fun h47 => ?_)
          · simp at h47
          · skip
            refine Run.exit ?_
            simp (decide := true) only [Then_exit, Blok_exit, if_true, if_false]
            simp only [Then_normal]
            refine Run.seq ?_
            refine opsF oo25 fun K hK => ?_
            try simp
            repeat' first | ((refine evL_c ?_); simp [-List.map_set, hn, hk, hop, hkl, hw, hwd, hfl, hw1, hw2, hw3]) | (with_reducible refine And.intro ?_ ?_) | intro _ | (with_reducible assumption) | omega
            all_goals (refine Fin.go hK ?_; clear hK K)
            simp only [Then_normal]
            refine Run.seq ?_
            refine opsF oo26 fun K hK => ?_
            try simp
            repeat' first | ((refine evL_c ?_); simp [-List.map_set, hn, hk, hop, hkl, hw, hwd, hfl, hw1, hw2, hw3]) | (with_reducible refine And.intro ?_ ?_) | intro _ | (with_reducible assumption) | omega
            all_goals (refine Fin.go hK ?_; clear hK K)
            simp only [Then_normal]
            refine Run.seq ?_
            refine Run.seq ?_
            refine opsF oo27 fun K hK => ?_
            try simp
            repeat' first | ((refine evL_c ?_); simp [-List.map_set, hn, hk, hop, hkl, hw, hwd, hfl, hw1, hw2, hw3]) | (with_reducible refine And.intro ?_ ?_) | intro _ | (with_reducible assumption) | omega
            all_goals (refine Fin.go hK ?_; clear hK K)
            simp only [Then_normal]
            refine Run.block ?_
            refine Run.seq ?_
            refine opsF oo28 fun K hK => ?_
            try simp
            repeat' first | ((refine evL_c ?_); simp [-List.map_set, hn, hk, hop, hkl, hw, hwd, hfl, hw1, hw2, hw3]) | (with_reducible refine And.intro ?_ ?_) | intro _ | (with_reducible assumption) | omega
            all_goals (refine Fin.go hK ?_; clear hK K)
            simp only [Then_normal]
            refine Run.cond rfl (fun h68 => ?_) (fun h68 => ?_)
            · simp at h68
            · skip
              refine Run.seq ?_
              refine Run.seq ?_
              refine opsF oo29 fun K hK => ?_
              try simp
              repeat' first | ((refine evL_c ?_); simp [-List.map_set, hn, hk, hop, hkl, hw, hwd, hfl, hw1, hw2, hw3]) | (with_reducible refine And.intro ?_ ?_) | intro _ | (with_reducible assumption) | omega
              all_goals (refine Fin.go hK ?_; clear hK K)
              simp only [Then_normal]
              refine Run.cond rfl (fun h85 => ?_) (fun h85 => ?_)
              · simp at h85
              · skip
                refine opsF oo34 fun K hK => ?_
                try simp
                repeat' first | ((refine evL_c ?_); simp [-List.map_set, hn, hk, hop, hkl, hw, hwd, hfl, hw1, hw2, hw3]) | (with_reducible refine And.intro ?_ ?_) | intro _ | (with_reducible assumption) | omega
                all_goals (refine Fin.go hK ?_; clear hK K)
                simp only [Then_normal]
                refine Run.cond rfl (fun h85 => ?_) (fun h85 => ?_)
                · simp at h85
                · skip
                  refine Run.seq ?_
                  refine opsF oo35 fun K hK => ?_
                  try simp
                  repeat' first | ((refine evL_c ?_); simp [-List.map_set, hn, hk, hop, hkl, hw, hwd, hfl, hw1, hw2, hw3]) | (with_reducible refine And.intro ?_ ?_) | intro _ | (with_reducible assumption) | omega
                  all_goals (refine Fin.go hK ?_; clear hK K)
                  simp only [Then_normal]
                  refine Run.cond rfl (fun h92 => ?_) (fun h92 => ?_)
                  · skip
                    refine Run.seq ?_
                    refine opsF [⟨Op.move (Operand.tmp 8), some 94, none⟩, ⟨Op.indexAddr 77 (Operand.tmp 94) (Operand.const (Value.int IntKind.i64 1)), some 95, none⟩, ⟨Op.load 34 (Operand.tmp 95), some 96, none⟩, ⟨Op.call { callee := Callee.builtin Builtin.len, args := #[Operand.tmp 96], argTypes := #[34] }, some 97, none⟩, ⟨Op.move (Operand.const (Value.int IntKind.i64 0)), some 98, none⟩] fun K hK => ?_
                    try simp
                    repeat' first | ((refine evL_c ?_); simp [-List.map_set, hn, hk, hop, hkl, hw, hwd, hfl, hw1, hw2, hw3]) | (with_reducible refine And.intro ?_ ?_) | intro _ | (with_reducible assumption) | omega
                    all_goals (refine Fin.go hK ?_; clear hK K)
                    simp only [Then_normal]
                    refine Run.block ?_
                    refine Run.loopO [13, 14, 15, 98, 99, 100, 101, 102, 103, 104, 105, 106, 107, 108, 109, 110, 111, 112, 113, 114, 115, 116, 117, 118, 119, 120, 121, 122, 123, 124, 125, 126, 127, 128, 129, 130] (fun (i : Nat) => [(98, .int i), (13, .bool (jn n b0 b1 i).1)]) (fun (i : Nat) => [(300, .vals ((encC c ++ [D.int c.nodes.length]).map .d)), (400, .vals ((encP p).map .d)), (1300, .vals [.rs 5300 1 0 (n + k)]), (5300, .data 1 ((jn n b0 b1 i).2.map encB)), (1100000, .data 1 (b0.map encB))]) (fun (i : Nat) => i ≤ n + k) (fun (i : Nat) => n + k - i) 0 (by omega) (by simp [jn, -List.map_set, hn, hk, hop, hkl, hw, hwd, hfl, hw1, hw2, hw3]) fun i hi => ?_
                    simp only [over, List.foldl, List.set]
                    obtain ⟨⟨r, bb⟩, hj⟩ : ∃ x, jn n b0 b1 i = x := ⟨_, rfl⟩
                    have hjl : bb.length = n + k := by have := jn_len n b0 b1 i; rw [hj] at this; exact this.trans hb1n
                    refine Run.seq ?_
                    refine opsF [⟨Op.binOp BinOp.lss 3 (Operand.tmp 98) (Operand.tmp 97) 3, some 99, none⟩] fun K hK => ?_
                    try simp
                    repeat' first | ((refine evL_c ?_); simp [-List.map_set, hn, hk, hop, hkl, hw, hwd, hfl, hw1, hw2, hw3]) | (with_reducible refine And.intro ?_ ?_) | intro _ | (with_reducible assumption) | omega
                    all_goals (refine Fin.go hK ?_; clear hK K)
                    simp only [Then_normal]
                    refine Run.seq ?_
                    refine Run.cond rfl (fun h99 => ?_) (fun h99 => ?_)
                    · try simp [hj] at h99
                      have hi1 : i < n + k := by omega
                      have hi2 : (i : Int) < (n : Int) + k := by omega
                      refine Run.skip ?_
                      simp only [Then_normal]
                      refine Run.seq ?_
                      refine Run.block ?_
                      refine Run.seq ?_
                      refine opsF [⟨Op.move (Operand.tmp 98), some 100, none⟩, ⟨Op.indexAddr 34 (Operand.tmp 96) (Operand.tmp 98), some 101, none⟩, ⟨Op.load 4 (Operand.tmp 101), some 102, none⟩, ⟨Op.assign (Operand.tmp 100), some 14, none⟩, ⟨Op.assign (Operand.tmp 102), some 15, none⟩] fun K hK => ?_
                      try simp
                      repeat' first | ((refine evL_c ?_); simp [-List.map_set, hn, hk, hop, hkl, hw, hwd, hfl, hw1, hw2, hw3, hb0n, hi1, hj, hjl, hi2]) | (with_reducible refine And.intro ?_ ?_) | intro _ | (with_reducible assumption) | omega
                      all_goals (refine Fin.go hK ?_; clear hK K)
                      simp only [Then_normal]
                      refine Run.cut [13, 103, 104, 105, 106, 107, 108, 109, 110, 111, 112, 113, 114, 115, 116, 117, 118, 119] [(13, .bool (r && !(rdI b0 i && (rdI bb i && decide ((n : Int) ≤ i)))))] [(300, .vals ((encC c ++ [D.int c.nodes.length]).map .d)), (400, .vals ((encP p).map .d)), (1300, .vals [.rs 5300 1 0 (n + k)]), (5300, .data 1 (bb.map encB)), (1100000, .data 1 (b0.map encB))] ?_ ?_
                      · refine opsF [⟨Op.move (Operand.tmp 13), some 103, none⟩, ⟨Op.move (Operand.tmp 103), some 104, none⟩, ⟨Op.move (Operand.tmp 15), some 105, some (some 104, true)⟩, ⟨Op.move (Operand.tmp 105), some 106, some (some 104, true)⟩, ⟨Op.load 34 (Operand.tmp 12), some 107, some (some 106, true)⟩, ⟨Op.move (Operand.tmp 14), some 108, some (some 106, true)⟩, ⟨Op.indexAddr 34 (Operand.tmp 107) (Operand.tmp 108), some 109, some (some 106, true)⟩, ⟨Op.load 4 (Operand.tmp 109), some 110, some (some 106, true)⟩, ⟨Op.pick (Operand.tmp 106) (Operand.tmp 110) (Operand.const (Value.bool false)), some 111, some (some 104, true)⟩, ⟨Op.move (Operand.tmp 111), some 112, some (some 104, true)⟩, ⟨Op.move (Operand.tmp 14), some 113, some (some 112, true)⟩, ⟨Op.fieldAddr 112 (Operand.tmp 2) 1, some 114, some (some 112, true)⟩, ⟨Op.load 3 (Operand.tmp 114), some 115, some (some 112, true)⟩, ⟨Op.binOp BinOp.geq 3 (Operand.tmp 113) (Operand.tmp 115) 3, some 116, some (some 112, true)⟩, ⟨Op.pick (Operand.tmp 112) (Operand.tmp 116) (Operand.const (Value.bool false)), some 117, some (some 104, true)⟩, ⟨Op.unOp UnOp.not 4 (Operand.tmp 117), some 118, some (some 104, true)⟩, ⟨Op.pick (Operand.tmp 104) (Operand.tmp 118) (Operand.const (Value.bool false)), some 119, none⟩, ⟨Op.assign (Operand.tmp 119), some 13, none⟩] fun K hK => ?_
                        try simp
                        repeat' first | ((first | refine evL_c ?_ | (refine evL_g rfl ?_; try simp only [gs_tt, gs_ff, gs_tf, gs_ft]) | refine evL_u rfl ?_ | (with_reducible refine gsplit (fun hg => ?_) (fun hg => ?_) <;> try simp at hg)) <;> try simp [-List.map_set, hn, hk, hop, hkl, hw, hwd, hfl, hw1, hw2, hw3, hb0n, hi1, hj, hjl, hi2, *]) | (with_reducible refine And.intro ?_ ?_) | intro _ | (with_reducible assumption) | omega
                        all_goals (refine Fin.go hK ?_; clear hK K)
                        all_goals
                          (try simp [-List.map_set, hn, hk, hop, hkl, hw, hwd, hfl, hw1, hw2, hw3, hb0n, hi1, hj, hjl, *]) <;> (first | omega | (simp; done) | grind | (simp_all; done) | (simp_all; omega))
                      · simp only [over, List.foldl, List.set]
                        refine opsF [⟨Op.load 34 (Operand.tmp 12), some 120, none⟩, ⟨Op.move (Operand.tmp 14), some 121, none⟩, ⟨Op.load 34 (Operand.tmp 12), some 122, none⟩, ⟨Op.move (Operand.tmp 14), some 123, none⟩, ⟨Op.indexAddr 34 (Operand.tmp 122) (Operand.tmp 123), some 124, none⟩, ⟨Op.load 4 (Operand.tmp 124), some 125, none⟩, ⟨Op.move (Operand.tmp 125), some 126, none⟩, ⟨Op.move (Operand.tmp 15), some 127, some (some 126, false)⟩, ⟨Op.pick (Operand.tmp 126) (Operand.const (Value.bool true)) (Operand.tmp 127), some 128, none⟩, ⟨Op.indexAddr 34 (Operand.tmp 120) (Operand.tmp 121), some 129, none⟩, ⟨Op.store 4 (Operand.tmp 129) (Operand.tmp 128), none, none⟩] fun K hK => ?_
                        try simp
                        repeat' first | ((first | refine evL_c ?_ | (refine evL_g rfl ?_; try simp only [gs_tt, gs_ff, gs_tf, gs_ft]) | refine evL_u rfl ?_ | (with_reducible refine gsplit (fun hg => ?_) (fun hg => ?_) <;> try simp at hg)) <;> try simp [-List.map_set, hn, hk, hop, hkl, hw, hwd, hfl, hw1, hw2, hw3, hb0n, hi1, hj, hjl, hi2]) | (with_reducible refine And.intro ?_ ?_) | intro _ | (with_reducible assumption) | omega
                        all_goals (refine Fin.go hK ?_; clear hK K)
                        all_goals
                          simp only [Blok_normal]
                          simp only [Then_normal]
                          refine opsF [⟨Op.binOp BinOp.add 3 (Operand.tmp 98) (Operand.const (Value.int IntKind.i64 1)) 3, some 130, none⟩, ⟨Op.move (Operand.tmp 130), some 98, none⟩] fun K hK => ?_
                          try simp
                          repeat' first | ((refine evL_c ?_); simp [-List.map_set, hn, hk, hop, hkl, hw, hwd, hfl, hw1, hw2, hw3, hb0n, hi1, hj, hjl, hi2]) | (with_reducible refine And.intro ?_ ?_) | intro _ | (with_reducible assumption) | omega
                          all_goals (refine Fin.go hK ?_; clear hK K)
                          refine ⟨i + 1, by omega, by omega, ?_⟩
                          simp (disch := omega) [-List.map_set, hn, hk, hop, hkl, hw, hwd, hfl, hw1, hw2, hw3, hb0n, hi1, hj, hjl, wrap_id, jn, hg]
                    · try simp [hj] at h99
                      have hi3 : i = n + k := by omega
                      subst hi3
                      refine Run.exit ?_
                      simp (decide := true) only [Then_exit, Blok_exit, if_true, if_false]
                      simp only [Blok_normal]
                      simp only [Then_normal]
                      refine Run.seq ?_
                      refine Run.seq ?_
                      refine opsF oo31 fun K hK => ?_
                      try simp
                      repeat' first | ((refine evL_c ?_); simp [-List.map_set, hn, hk, hop, hkl, hw, hwd, hfl, hw1, hw2, hw3, hj, hjl]) | (with_reducible refine And.intro ?_ ?_) | intro _ | (with_reducible assumption) | omega
                      all_goals (refine Fin.go hK ?_; clear hK K)
                      simp only [Then_normal]
                      refine Run.cond rfl (fun h145 => ?_) (fun h145 => ?_)
                      · try simp at h145
                        refine Run.seq ?_
                        refine opsF oo32 fun K hK => ?_
                        try simp
                        repeat' first | ((refine evL_c ?_); simp [-List.map_set, hn, hk, hop, hkl, hw, hwd, hfl, hw1, hw2, hw3, hj, hjl]) | (with_reducible refine And.intro ?_ ?_) | intro _ | (with_reducible assumption) | omega
                        all_goals (refine Fin.go hK ?_; clear hK K)
                        simp only [Then_normal]
                        refine Run.drop [] (by simp) ?_
                        refine Run.ret ?_
                        try simp only [Then_ret, Blok_ret]
                        first
                          | (have e : opS c p [b0, b1] = none := by simp [opS, hop, hn, hk, hj]; simpa using h145
                             rw [e]
                             simp [resB, stoB, hn]; done)
                          | (have e : opS c p [b0, b1] = some bb := by simp [opS, hop, hn, hk, hj]; simpa using h145
                             rw [e]
                             simp [-List.map_set, resB, stoB, hn, hjl]; done)
                      · try simp at h145
                        refine Run.skip ?_
                        simp only [Then_normal]
                        refine Run.seq ?_
                        refine opsF oo33 fun K hK => ?_
                        try simp
                        repeat' first | ((refine evL_c ?_); simp [-List.map_set, hn, hk, hop, hkl, hw, hwd, hfl, hw1, hw2, hw3, hj, hjl]) | (with_reducible refine And.intro ?_ ?_) | intro _ | (with_reducible assumption) | omega
                        all_goals (refine Fin.go hK ?_; clear hK K)
                        simp only [Then_normal]
                        refine Run.ret ?_
                        try simp only [Then_ret, Blok_ret]
                        first
                          | (have e : opS c p [b0, b1] = none := by simp [opS, hop, hn, hk, hj]; simpa using h145
                             rw [e]
                             simp [resB, stoB, hn]; done)
                          | (have e : opS c p [b0, b1] = some bb := by simp [opS, hop, hn, hk, hj]; simpa using h145
                             rw [e]
                             simp [-List.map_set, resB, stoB, hn, hjl]; done)
                  · simp at h92


end Go.Proofs.Ytimgbdkgjfbhkaa.Z
end
section
set_option maxRecDepth 100000
namespace Go.Proofs.Ytimgbdkgjfbhkaa.Z
open Go Go.Fw
theorem len_two {α : Type} {l : List α} (h : l.length = 2) : ∃ q r, l = [q, r] := by
  match l, h with
  | [q, r], _ => exact ⟨q, r, rfl⟩
theorem wants_op {o : Int} {w : Nat} (h : wants o = some w) : o = 1 ∨ o = 2 ∨ o = 3 ∨ o = 4 ∨ o = 5 ∨ o = 6 := by
  unfold wants at h
  split at h; · exact .inl ‹_›
  split at h; · exact .inr (.inl ‹_›)
  split at h; · exact .inr (.inr (.inl ‹_›))
  split at h; · exact .inr (.inr (.inr (.inl ‹_›)))
  split at h; · exact .inr (.inr (.inr (.inr (.inl ‹_›))))
  split at h; · exact .inr (.inr (.inr (.inr (.inr ‹_›))))
  cases h
theorem kids_lt {p q : PlanT} (h : q ∈ p.kids) : SizeOf.sizeOf q < SizeOf.sizeOf p := by
  cases p with
  | mk o k s e b t =>
    have := List.sizeOf_lt_of_mem (show q ∈ k from h)
    simp only [PlanT.mk.sizeOf_spec]
    omega
theorem opS_len {c : CoreT} {p : PlanT} {bs : List (List Bool)} {b : List Bool} (hw : wants p.op = some bs.length) (hb : ∀ x ∈ bs, x.length = c.nodes.length + c.edges.length) (h : opS c p bs = some b) : b.length = c.nodes.length + c.edges.length := by
  have g : ∀ i, i < bs.length → (bs.getD i []).length = c.nodes.length + c.edges.length := fun i hl => by
    rw [List.getD_eq_getElem?_getD, List.getElem?_eq_getElem hl]
    exact hb _ (List.getElem_mem hl)
  unfold opS at h
  split at h
  · split at h
    · obtain rfl := Option.some.inj h; simp
    · cases h
  · rename_i n1
    have h0 : p.op = 2 ∨ p.op = 3 ∨ p.op = 4 ∨ p.op = 5 ∨ p.op = 6 := (wants_op hw).resolve_left n1
    have hl : 0 < bs.length := by
      rcases h0 with e | e | e | e | e <;> · rw [e] at hw; simp [wants] at hw; omega
    split at h
    · split at h
      · obtain rfl := Option.some.inj h; rw [edgeL_len, g 0 hl]
      · cases h
    · split at h
      · rename_i n3
        have hl2 : 1 < bs.length := by rw [n3] at hw; simp [wants] at hw; omega
        split at h
        · obtain rfl := Option.some.inj h; rw [jn_len, g 1 hl2]
        · cases h
      · split at h
        · split at h
          · obtain rfl := Option.some.inj h; rw [meetR_len, g 0 hl]
          · cases h
        · split at h
          · obtain rfl := Option.some.inj h; exact g 0 hl
          · cases h
mutual
theorem bndT_len (c : CoreT) : ∀ (p : PlanT) (b : List Bool), bndT c p = some b → b.length = c.nodes.length + c.edges.length
  | .mk o k s e bk t, b, h => by
    rw [bndT] at h
    split at h
    · rename_i hw
      obtain ⟨bs, h1, h2⟩ := Option.bind_eq_some_iff.1 h
      obtain ⟨h3, h4⟩ := bndL_len c k bs h1
      exact opS_len (p := .mk o k s e bk t) (by show wants o = _; rw [hw, h4]) h3 h2
    · cases h
theorem bndL_len (c : CoreT) : ∀ (l : List PlanT) (bs : List (List Bool)), bndL c l = some bs → (∀ x ∈ bs, x.length = c.nodes.length + c.edges.length) ∧ bs.length = l.length
  | [], bs, h => by
    rw [bndL] at h
    obtain rfl := Option.some.inj h
    simp
  | p :: r, bs, h => by
    rw [bndL] at h
    obtain ⟨b, h1, h2⟩ := Option.bind_eq_some_iff.1 h
    obtain ⟨cs, h3, rfl⟩ := Option.map_eq_some_iff.1 h2
    have e1 := bndT_len c p b h1
    obtain ⟨e2, e3⟩ := bndL_len c r cs h3
    refine ⟨fun x hx => ?_, by simp [e3]⟩
    rcases List.mem_cons.1 hx with rfl | hx
    · exact e1
    · exact e2 x hx
end
theorem bnd_one {c : CoreT} {p : PlanT} (hl : p.kids.length = 1) (hw : wants p.op = some 1) : bndT c p = (bndT c (rdI p.kids 0)).bind fun b => opS c p [b] := by
  obtain ⟨q, hq⟩ := List.length_eq_one_iff.1 hl
  rw [bndT_eq, hl, if_pos hw, hq]
  show (bndL c [q]).bind _ = (bndT c q).bind _
  rw [bndL, bndL]
  cases bndT c q <;> rfl
theorem bnd_two {c : CoreT} {p : PlanT} (hl : p.kids.length = 2) (hw : wants p.op = some 2) : bndT c p = (bndT c (rdI p.kids 0)).bind fun a => (bndT c (rdI p.kids 1)).bind fun b => opS c p [a, b] := by
  obtain ⟨q, r, hq⟩ := len_two hl
  rw [bndT_eq, hl, if_pos hw, hq]
  show (bndL c [q, r]).bind _ = (bndT c q).bind fun a => (bndT c r).bind fun b => _
  rw [bndL, bndL, bndL]
  cases bndT c q <;> cases bndT c r <;> rfl
theorem kid_mem {p : PlanT} {i : Nat} (h : i < p.kids.length) : rdI p.kids (i : Int) ∈ p.kids := rdI_mem (by omega) (by omega)
mutual
def partsP : PlanT → Nat
  | .mk _ k _ e _ t => 1 + t.length + e.length + cntL t + partsL k
def partsL : List PlanT → Nat
  | [] => 0
  | p :: r => partsP p + partsL r
end
theorem partsP_eq (p : PlanT) : partsP p = 1 + p.terms.length + p.edges.length + cntL p.terms + partsL p.kids := by cases p; rw [partsP]; rfl
theorem cntL_mem {l : List TermT} {t : TermT} (h : t ∈ l) : cntT t ≤ cntL l := by
  induction l with
  | nil => cases h
  | cons x r ih =>
    rw [cntL]
    rcases List.mem_cons.1 h with rfl | h
    · omega
    · have := ih h; omega
theorem partsL_mem {l : List PlanT} {p : PlanT} (h : p ∈ l) : partsP p ≤ partsL l := by
  induction l with
  | nil => cases h
  | cons x r ih =>
    rw [partsL]
    rcases List.mem_cons.1 h with rfl | h
    · omega
    · have := ih h; omega
theorem term_fine {p : PlanT} {M : Nat} (hf : partsP p ≤ M) : ∀ t ∈ p.terms, cntT t ≤ M := fun t ht => by
  have := cntL_mem ht; rw [partsP_eq] at hf; omega
theorem kid_fine {p : PlanT} {M : Nat} (hf : partsP p ≤ M) {i : Nat} (hi : i < p.kids.length) : partsP (rdI p.kids (i : Int)) ≤ M := by
  have := partsL_mem (kid_mem hi); rw [partsP_eq] at hf; omega
theorem bound_ok (c : CoreT) (hP : patS c.nodes c.edges = true) (p : PlanT) (hf : partsP p ≤ 1100000) : Snd P 43 [.d (.ag (encC c ++ [D.int c.nodes.length])), .d (.ag (encP p))] (resB (bndT c p)) (stoB (bndT c p)) := by
  by_cases hw : wants p.op = some p.kids.length
  · have h0 := wants_op hw
    have one : wants p.op = some 1 → p.kids.length = 1 → (∀ hq : bndT c (rdI p.kids 0) = none, Snd P 43 [.d (.ag (encC c ++ [D.int c.nodes.length])), .d (.ag (encP p))] vnil []) →
        (∀ b0, bndT c (rdI p.kids 0) = some b0 → b0.length = c.nodes.length + c.edges.length → Snd P 43 [.d (.ag (encC c ++ [D.int c.nodes.length])), .d (.ag (encP p))] (resB (opS c p [b0])) (stoB (opS c p [b0]))) → Snd P 43 [.d (.ag (encC c ++ [D.int c.nodes.length])), .d (.ag (encP p))] (resB (bndT c p)) (stoB (bndT c p)) := fun h1 h2 hn hs => by
      rw [bnd_one h2 h1]
      cases hq : bndT c (rdI p.kids 0) with
      | none => exact hn hq
      | some b0 => exact hs b0 hq (bndT_len c _ _ hq)
    have IH0 : 0 < p.kids.length → Snd P 43 [.d (.ag (encC c ++ [D.int c.nodes.length])), .d (.ag (encP (rdI p.kids 0)))] (resB (bndT c (rdI p.kids 0))) (stoB (bndT c (rdI p.kids 0))) := fun h =>
      have := kids_lt (kid_mem (i := 0) h)
      bound_ok c hP (rdI p.kids 0) (kid_fine (i := 0) hf h)
    have IH1 : 1 < p.kids.length → Snd P 43 [.d (.ag (encC c ++ [D.int c.nodes.length])), .d (.ag (encP (rdI p.kids 1)))] (resB (bndT c (rdI p.kids 1))) (stoB (bndT c (rdI p.kids 1))) := fun h =>
      have := kids_lt (kid_mem (i := 1) h)
      bound_ok c hP (rdI p.kids 1) (kid_fine (i := 1) hf h)
    rcases h0 with e | e | e | e | e | e
    · have hl : p.kids.length = 0 := by rw [e] at hw; simp [wants] at hw; omega
      have h := bound1_ok c p hP e hl
      have e2 : bndT c p = opS c p [] := by
        rw [bndT_eq, if_pos hw, List.length_eq_zero_iff.1 hl, bndL]; rfl
      rw [e2]; exact h
    · have hl : p.kids.length = 1 := by rw [e] at hw; simp [wants] at hw; omega
      exact one (by rw [hw, hl]) hl (fun hq => boundN2_ok c p hP e hl (IH0 (by omega)) hq) fun b0 hq hb => bound2_ok c p hP e hl (IH0 (by omega)) b0 hq hb
    · have hl : p.kids.length = 1 := by rw [e] at hw; simp [wants] at hw; omega
      exact one (by rw [hw, hl]) hl (fun hq => boundN3_ok c p hP e hl (IH0 (by omega)) hq) fun b0 hq hb => bound3_ok c p hP e hl (IH0 (by omega)) b0 hq hb
    · have hl : p.kids.length = 2 := by rw [e] at hw; simp [wants] at hw; omega
      rw [bnd_two hl (by rw [hw, hl])]
      cases hq : bndT c (rdI p.kids 0) with
      | none => exact boundN4_ok c p hP e hl (IH0 (by omega)) hq
      | some b0 =>
        have hb0 := bndT_len c _ _ hq
        cases hr : bndT c (rdI p.kids 1) with
        | none => exact boundN4b_ok c p hP e hl (IH0 (by omega)) (IH1 (by omega)) b0 hq hb0 hr
        | some b1 => exact bound4_ok c p hP e hl (IH0 (by omega)) (IH1 (by omega)) b0 b1 hq hb0 hr (bndT_len c _ _ hr)
    · have hl : p.kids.length = 1 := by rw [e] at hw; simp [wants] at hw; omega
      exact one (by rw [hw, hl]) hl (fun hq => boundN5_ok c p hP e hl (IH0 (by omega)) hq) fun b0 hq hb => bound5_ok c p hP e hl (IH0 (by omega)) b0 hq hb
    · have hl : p.kids.length = 1 := by rw [e] at hw; simp [wants] at hw; omega
      exact one (by rw [hw, hl]) hl (fun hq => boundN6_ok c p hP e hl (IH0 (by omega)) hq) fun b0 hq hb => bound6_ok c p hP e hl (IH0 (by omega)) b0 hq hb (term_fine hf)
  · have e2 : bndT c p = none := by rw [bndT_eq, if_neg hw]
    rw [e2]
    show Snd P 43 _ vnil []
    by_cases e1 : p.op = 1
    · exact boundX1_ok c p hP e1 (fun hl => hw (by rw [e1, hl]; rfl))
    by_cases e2 : p.op = 2
    · exact boundX2_ok c p hP e2 (fun hl => hw (by rw [e2, hl]; rfl))
    by_cases e3 : p.op = 3
    · exact boundX3_ok c p hP e3 (fun hl => hw (by rw [e3, hl]; rfl))
    by_cases e4 : p.op = 4
    · exact boundX4_ok c p hP e4 (fun hl => hw (by rw [e4, hl]; rfl))
    by_cases e5 : p.op = 5
    · exact boundX5_ok c p hP e5 (fun hl => hw (by rw [e5, hl]; rfl))
    by_cases e6 : p.op = 6
    · exact boundX6_ok c p hP e6 (fun hl => hw (by rw [e6, hl]; rfl))
    exact boundX0_ok c p hP e1 e2 e3 e4 e5 e6
termination_by SizeOf.sizeOf p
/-- what Bound answers -/
def boundD (c : CoreT) (p : PlanT) : D × Int := if patS c.nodes c.edges then match bndT c p with
  | some b => (.sl false (b.map encB), 0)
  | none => (.lit (.slice none 0 0), 131) else (.lit (.slice none 0 0), 1)
theorem BoundA_ok (c : CoreT) (p : PlanT) (hf : partsP p ≤ 1100000) (hP : patS c.nodes c.edges = false) : Snd P 24 [.d (.ag (encP p)), .d (.ag (encC c))] (.tup [.d (.lit (.slice none 0 0)), .int 1]) [] := by
  have hP1 : Snd P 42 [.d (.ag (encC c))] (.bool false) [] := by rw [← hP]; exact pattern_ok c
  refine snd_of [] Try.func24 rfl (by kernel_rfl) Try.ntmps24 (by simp) ?_
  unfold Try.f24
  simp only [List.cons_append, List.nil_append, List.length_cons, List.length_nil, Nat.reduceAdd, Nat.reduceSub, List.replicate]
  refine Run.seq ?_
  refine opsF oo37 fun K hK => ?_
  try simp
  repeat' first | ((refine evL_c ?_); simp) | (with_reducible refine And.intro ?_ ?_) | intro _ | (with_reducible assumption) | omega
  all_goals (refine Fin.go hK ?_; clear hK K)
  simp only [Then_normal]
  refine Run.seq ?_
  refine Run.seq ?_
  refine opsF oo38 fun K hK => ?_
  try simp
  repeat' first | (refine ecallD (by exact hP1) ?_) | ((refine evL_c ?_); simp) | (with_reducible refine And.intro ?_ ?_) | intro _ | (with_reducible assumption) | omega
  all_goals (refine Fin.go hK ?_; clear hK K)
  simp only [Then_normal]
  refine Run.cond rfl (fun h9 => ?_) (fun h9 => ?_)
  · skip
    refine Run.seq ?_
    refine opsF [⟨Op.assign (Operand.const (Value.slice none 0 0)), some 4, none⟩, ⟨Op.assign (Operand.const (Value.int IntKind.i64 1)), some 5, none⟩] fun K hK => ?_
    try simp
    repeat' first | ((refine evL_c ?_); simp) | (with_reducible refine And.intro ?_ ?_) | intro _ | (with_reducible assumption) | omega
    all_goals (refine Fin.go hK ?_; clear hK K)
    simp only [Then_normal]
    refine Run.ret ?_
    try simp only [Then_ret, Blok_ret]
    simp
  · simp at h9

theorem BoundB_ok (c : CoreT) (p : PlanT) (hf : partsP p ≤ 1100000) (hP : patS c.nodes c.edges = true) (hb : bndT c p = none) : Snd P 24 [.d (.ag (encP p)), .d (.ag (encC c))] (.tup [.d (.lit (.slice none 0 0)), .int 131]) [] := by
  obtain ⟨hn1, hn8, hk8⟩ := pat_rng hP
  obtain ⟨n, hn⟩ : ∃ k, c.nodes.length = k := ⟨_, rfl⟩
  have hP1 : Snd P 42 [.d (.ag (encC c))] (.bool true) [] := by rw [← hP]; exact pattern_ok c
  have hB := bound_ok c hP p hf
  simp only [hb, resB, stoB, encP_cells, hn] at hB
  refine snd_of [] Try.func24 rfl (by kernel_rfl) Try.ntmps24 (by simp) ?_
  unfold Try.f24
  simp only [List.cons_append, List.nil_append, List.length_cons, List.length_nil, Nat.reduceAdd, Nat.reduceSub, List.replicate]
  refine Run.seq ?_
  refine opsF oo37 fun K hK => ?_
  try simp
  repeat' first | ((refine evL_c ?_); simp [hn]) | (with_reducible refine And.intro ?_ ?_) | intro _ | (with_reducible assumption) | omega
  all_goals (refine Fin.go hK ?_; clear hK K)
  simp only [Then_normal]
  refine Run.seq ?_
  refine Run.seq ?_
  refine opsF oo38 fun K hK => ?_
  try simp
  repeat' first | (refine ecallD (by exact hP1) ?_) | ((refine evL_c ?_); simp [hn]) | (with_reducible refine And.intro ?_ ?_) | intro _ | (with_reducible assumption) | omega
  all_goals (refine Fin.go hK ?_; clear hK K)
  simp only [Then_normal]
  refine Run.cond rfl (fun h9 => ?_) (fun h9 => ?_)
  · simp at h9
  · skip
    refine Run.skip ?_
    simp only [Then_normal]
    refine Run.seq ?_
    refine Run.seq ?_
    refine opsF oo39 fun K hK => ?_
    try simp
    repeat' first | (refine ecall (by exact hB) rfl ?_) | ((refine evL_c ?_); simp [hn]) | (with_reducible refine And.intro ?_ ?_) | intro _ | (with_reducible assumption) | omega
    all_goals (refine Fin.go hK ?_; clear hK K)
    simp only [Then_normal]
    refine Run.seq ?_
    refine opsF oo40 fun K hK => ?_
    try simp
    repeat' first | ((refine evL_c ?_); simp [hn]) | (with_reducible refine And.intro ?_ ?_) | intro _ | (with_reducible assumption) | omega
    all_goals (refine Fin.go hK ?_; clear hK K)
    simp only [Then_normal]
    refine Run.cond rfl (fun h18 => ?_) (fun h18 => ?_)
    · simp at h18
    · skip
      refine Run.skip ?_
      simp only [Then_normal]
      refine Run.seq ?_
      refine opsF [⟨Op.assign (Operand.const (Value.slice none 0 0)), some 4, none⟩, ⟨Op.assign (Operand.const (Value.int IntKind.i64 131)), some 5, none⟩] fun K hK => ?_
      try simp
      repeat' first | ((refine evL_c ?_); simp [hn]) | (with_reducible refine And.intro ?_ ?_) | intro _ | (with_reducible assumption) | omega
      all_goals (refine Fin.go hK ?_; clear hK K)
      simp only [Then_normal]
      refine Run.ret ?_
      try simp only [Then_ret, Blok_ret]
      simp

theorem BoundC_ok (c : CoreT) (p : PlanT) (hf : partsP p ≤ 1100000) (hP : patS c.nodes c.edges = true) (b : List Bool) (hb : bndT c p = some b) : Snd P 24 [.d (.ag (encP p)), .d (.ag (encC c))] (.tup [.d (.sl false (b.map encB)), .int 0]) [] := by
  obtain ⟨hn1, hn8, hk8⟩ := pat_rng hP
  obtain ⟨n, hn⟩ : ∃ k, c.nodes.length = k := ⟨_, rfl⟩
  have hP1 : Snd P 42 [.d (.ag (encC c))] (.bool true) [] := by rw [← hP]; exact pattern_ok c
  have hB := bound_ok c hP p hf
  have hl := bndT_len c p b hb
  have hl0 : 0 < b.length := by omega
  obtain ⟨m, hm⟩ : ∃ m, b.length = m := ⟨_, rfl⟩
  rw [hm] at hl0
  simp only [hb, resB, stoB, encP_cells, hn, hm] at hB
  refine snd_of [] Try.func24 rfl (by kernel_rfl) Try.ntmps24 (by simp) ?_
  unfold Try.f24
  simp only [List.cons_append, List.nil_append, List.length_cons, List.length_nil, Nat.reduceAdd, Nat.reduceSub, List.replicate]
  refine Run.seq ?_
  refine opsF oo37 fun K hK => ?_
  try simp
  repeat' first | ((refine evL_c ?_); simp [hn, hm, hl0]) | (with_reducible refine And.intro ?_ ?_) | intro _ | (with_reducible assumption) | omega
  all_goals (refine Fin.go hK ?_; clear hK K)
  simp only [Then_normal]
  refine Run.seq ?_
  refine Run.seq ?_
  refine opsF oo38 fun K hK => ?_
  try simp
  repeat' first | (refine ecallD (by exact hP1) ?_) | ((refine evL_c ?_); simp [hn, hm, hl0]) | (with_reducible refine And.intro ?_ ?_) | intro _ | (with_reducible assumption) | omega
  all_goals (refine Fin.go hK ?_; clear hK K)
  simp only [Then_normal]
  refine Run.cond rfl (fun h9 => ?_) (fun h9 => ?_)
  · simp at h9
  · skip
    refine Run.skip ?_
    simp only [Then_normal]
    refine Run.seq ?_
    refine Run.seq ?_
    refine opsF oo39 fun K hK => ?_
    try simp
    repeat' first | (refine ecall (by exact hB) rfl ?_) | ((refine evL_c ?_); simp [hn, hm, hl0]) | (with_reducible refine And.intro ?_ ?_) | intro _ | (with_reducible assumption) | omega
    all_goals (refine Fin.go hK ?_; clear hK K)
    simp only [Then_normal]
    refine Run.seq ?_
    refine opsF oo40 fun K hK => ?_
    try simp
    repeat' first | ((refine evL_c ?_); simp [hn, hm, hl0]) | (with_reducible refine And.intro ?_ ?_) | intro _ | (with_reducible assumption) | omega
    all_goals (refine Fin.go hK ?_; clear hK K)
    simp only [Then_normal]
    refine Run.cond rfl (fun h18 => ?_) (fun h18 => ?_)
    · skip
      refine Run.seq ?_
      refine opsF [⟨Op.move (Operand.tmp 6), some 19, none⟩, ⟨Op.assign (Operand.tmp 19), some 4, none⟩, ⟨Op.assign (Operand.const (Value.int IntKind.i64 0)), some 5, none⟩] fun K hK => ?_
      try simp
      repeat' first | ((refine evL_c ?_); simp [hn, hm, hl0]) | (with_reducible refine And.intro ?_ ?_) | intro _ | (with_reducible assumption) | omega
      all_goals (refine Fin.go hK ?_; clear hK K)
      simp only [Then_normal]
      refine Run.ret ?_
      try simp only [Then_ret, Blok_ret]
      simp [hm, List.take_of_length_le]
    · simp at h18

theorem Bound_ok (c : CoreT) (p : PlanT) (hf : partsP p ≤ 1100000) : Snd P 24 [.d (.ag (encP p)), .d (.ag (encC c))] (.tup [.d (boundD c p).1, .int (boundD c p).2]) [] := by
  unfold boundD
  cases hP : patS c.nodes c.edges with
  | false => exact BoundA_ok c p hf hP
  | true =>
    cases hb : bndT c p with
    | none => exact BoundB_ok c p hf hP hb
    | some b => exact BoundC_ok c p hf hP b hb


end Go.Proofs.Ytimgbdkgjfbhkaa.Z
end
section
set_option maxRecDepth 100000
namespace Go.Proofs.Ytimgbdkgjfbhkaa.Z
open Go Go.Fw
def keyN (a b : List Bool) : Nat → List Int
  | 0 => []
  | i + 1 => if rdI a i && rdI b i then keyN a b i ++ [(i : Int)] else keyN a b i
@[simp] theorem lost3 (a b c : Nat) (s1 : Store) (id : Nat) : lost [a, b, c] s1 id = ((a == id && (getB s1 0).isNone) || (b == id && (getB s1 1).isNone) || (c == id && (getB s1 2).isNone)) := by
  have : List.range 3 = [0, 1, 2] := rfl
  simp only [lost, List.length_cons, List.length_nil, Nat.reduceAdd, this, List.any_cons, List.any_nil, Bool.or_false, Bool.or_assoc]
  rfl
attribute [-simp] lost
theorem keyN_len (a b : List Bool) (i : Nat) : (keyN a b i).length ≤ i := by
  induction i with
  | zero => simp [keyN]
  | succ i ih => rw [keyN]; split <;> (try simp) <;> omega
theorem bound_some {c : CoreT} {p : PlanT} {b : List Bool} (hP : patS c.nodes c.edges = true) (hf : partsP p ≤ 1100000) (hb : bndT c p = some b) : Snd P 24 [.d (.ag (encP p)), .d (.ag (encC c))] (.tup [.d (.sl false (b.map encB)), .int 0]) [] := by
  have h := Bound_ok c p hf
  simp only [boundD, hP, hb, if_true] at h
  exact h
end Go.Proofs.Ytimgbdkgjfbhkaa.Z
end
