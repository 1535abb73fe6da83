/- Texts of this claim, put together: Rk, Rl, Pe, Rm, Qa, Qe. -/
import Derived.Test.YtihbejpkfifplaaCj
set_option linter.unusedVariables false
set_option linter.unusedSimpArgs false
namespace Go.Proofs.Ytihbejpkfifplaa.Z
open Go Go.Fw
abbrev oo110 : List LOp := [⟨Op.assign (Operand.const (Value.int IntKind.i64 2)), some 6, none⟩]
abbrev oo111 : List LOp := [⟨Op.fieldAddr 27 (Operand.tmp 2) 1, some 107, none⟩, ⟨Op.load 23 (Operand.tmp 107), some 108, none⟩, ⟨Op.indexAddr 23 (Operand.tmp 108) (Operand.const (Value.int IntKind.i64 1)), some 109, none⟩, ⟨Op.load 27 (Operand.tmp 109), some 110, none⟩, ⟨Op.load 33 (Operand.tmp 3), some 111, none⟩, ⟨Op.call { callee := Callee.value (Operand.func 38), args := #[Operand.tmp 110, Operand.tmp 111], argTypes := #[27, 33] }, some 112, none⟩, ⟨Op.assign (Operand.tmp 112), some 10, none⟩]
abbrev oo112 : List LOp := [⟨Op.move (Operand.tmp 10), some 113, none⟩, ⟨Op.binOp BinOp.eql 60 (Operand.tmp 113) (Operand.const (Value.slice none 0 0)) 60, some 114, none⟩]
abbrev oo113 : List LOp := [⟨Op.load 33 (Operand.tmp 3), some 8, none⟩, ⟨Op.call { callee := Callee.value (Operand.func 29), args := #[Operand.tmp 8], argTypes := #[33] }, some 9, none⟩, ⟨Op.assign (Operand.tmp 9), some 6, none⟩]
abbrev oo114 : List LOp := [⟨Op.move (Operand.tmp 6), some 10, none⟩, ⟨Op.unOp UnOp.not 4 (Operand.tmp 10), some 11, none⟩]
abbrev oo115 : List LOp := [⟨Op.load 27 (Operand.tmp 2), some 12, none⟩, ⟨Op.load 33 (Operand.tmp 3), some 13, none⟩, ⟨Op.call { callee := Callee.value (Operand.func 38), args := #[Operand.tmp 12, Operand.tmp 13], argTypes := #[27, 33] }, some 14, none⟩, ⟨Op.assign (Operand.tmp 14), some 7, none⟩]
abbrev oo116 : List LOp := [⟨Op.move (Operand.tmp 7), some 15, none⟩, ⟨Op.binOp BinOp.eql 60 (Operand.tmp 15) (Operand.const (Value.slice none 0 0)) 60, some 16, none⟩]
end Go.Proofs.Ytihbejpkfifplaa.Z
section
set_option maxRecDepth 100000
namespace Go.Proofs.Ytihbejpkfifplaa.Z
open Go Go.Fw
set_option maxHeartbeats 4000000 in
theorem rbound1_ok (c : CoreT) (p : PlanT) (hP : patS c.nodes c.edges = true) (hop : p.op = 1) (hkl : p.kids.length = 0)  : Snd P 38 [.d (.ag (encP p)), .d (.ag (encC c))] (resB (opS c p [])) (stoB (opS c p [])) := by
  obtain ⟨hn1, hn8, hk8⟩ := pat_rng hP
  have hE := goodE_of hP
  obtain ⟨n, hn⟩ : ∃ k, c.nodes.length = k := ⟨_, rfl⟩
  obtain ⟨k, hk⟩ : ∃ k, c.edges.length = k := ⟨_, rfl⟩
  rw [hn] at hn1 hn8
  rw [hk] at hk8
  have hwd : ((n:Int) + k).toNat = n + k := by omega
  have hw : IntKind.i64.wrap ((n:Int) + k) = (n:Int) + k := wrap_id (by omega) (by omega)
  have hw1 : 0 < n + k := by omega
  have hw2 : (n:Int) + k ≤ 140737488355328 := by omega
  have hw3 : (0:Int) ≤ (n:Int) + k := by omega
  obtain ⟨fb, hfb⟩ : ∃ fb, List.replicate (n + k) false = fb := ⟨_, rfl⟩
  have hfl : fb.length = n + k := by rw [← hfb]; simp
  have fb1 : List.replicate (n + k) [D.lit (.bool false)] = fb.map encB := by rw [← hfb, List.map_replicate]; rfl
  obtain ⟨sb, hsb⟩ : ∃ sb, decide (p.slot < 0 ∨ (n : Int) ≤ p.slot) = sb := ⟨_, rfl⟩
  refine snd_of [5800] Try.func38 rfl (by kernel_rfl) Try.ntmps38 (by simp) ?_
  unfold Try.f38
  simp only [List.cons_append, List.nil_append, List.length_cons, List.length_nil, Nat.reduceAdd, Nat.reduceSub, List.replicate]
  refine Run.seq ?_
  refine opsF oo94 fun K hK => ?_
  try simp
  repeat' first | ((refine evL_c ?_); simp [-List.map_set, hn, hk, hop, hkl, hw, hwd, hw1, hw2, hw3]) | (with_reducible refine And.intro ?_ ?_) | intro _ | (with_reducible assumption) | omega
  all_goals (refine Fin.go hK ?_; clear hK K)
  simp only [Then_normal]
  refine Run.seq ?_
  refine opsF oo95 fun K hK => ?_
  try simp
  repeat' first | ((refine evL_c ?_); simp [-List.map_set, hn, hk, hop, hkl, hw, hwd, hw1, hw2, hw3]) | (with_reducible refine And.intro ?_ ?_) | intro _ | (with_reducible assumption) | omega
  all_goals (refine Fin.go hK ?_; clear hK K)
  simp only [Then_normal]
  refine Run.seq ?_
  refine opsF oo96 fun K hK => ?_
  try simp
  repeat' first | ((refine evL_c ?_); simp [-List.map_set, hn, hk, hop, hkl, hw, hwd, hw1, hw2, hw3]) | (with_reducible refine And.intro ?_ ?_) | intro _ | (with_reducible assumption) | omega
  all_goals (refine Fin.go hK ?_; clear hK K)
  simp only [Then_normal]
  refine Run.seq ?_
  refine Run.seq ?_
  refine opsF oo97 fun K hK => ?_
  try simp
  repeat' first | ((refine evL_c ?_); simp [-List.map_set, hn, hk, hop, hkl, hw, hwd, hw1, hw2, hw3]) | (with_reducible refine And.intro ?_ ?_) | intro _ | (with_reducible assumption) | omega
  all_goals (refine Fin.go hK ?_; clear hK K)
  simp only [Then_normal]
  refine Run.block ?_
  refine Run.seq ?_
  refine opsF oo98 fun K hK => ?_
  try simp
  repeat' first | ((refine evL_c ?_); simp [-List.map_set, hn, hk, hop, hkl, hw, hwd, hw1, hw2, hw3]) | (with_reducible refine And.intro ?_ ?_) | intro _ | (with_reducible assumption) | omega
  all_goals (refine Fin.go hK ?_; clear hK K)
  simp only [Then_normal]
  refine Run.cond rfl (fun h24 => ?_) (fun h24 => ?_)
  · skip
    refine opsF oo42 fun K hK => ?_
    try simp
    repeat' first | ((refine evL_c ?_); simp [-List.map_set, hn, hk, hop, hkl, hw, hwd, hw1, hw2, hw3]) | (with_reducible refine And.intro ?_ ?_) | intro _ | (with_reducible assumption) | omega
    all_goals (refine Fin.go hK ?_; clear hK K)
    simp only [Blok_normal]
    simp only [Then_normal]
    refine Run.seq ?_
    refine Run.seq ?_
    refine opsF oo100 fun K hK => ?_
    try simp
    repeat' first | ((first | refine evL_c ?_ | (refine evL_g rfl ?_; try simp only [gs_tt, gs_ff, gs_tf, gs_ft]) | refine evL_u rfl ?_ | (with_reducible refine gsplit (fun hg => ?_) (fun hg => ?_) <;> try simp at hg)) <;> try simp [-List.map_set, hn, hk, hop, hkl, hw, hwd, hw1, hw2, hw3]) | (with_reducible refine And.intro ?_ ?_) | intro _ | (with_reducible assumption) | omega
    all_goals (refine Fin.go hK ?_; clear hK K)
    all_goals
      simp only [Then_normal]
      refine Run.cond rfl (fun h42 => ?_) (fun h42 => ?_)
      · simp at h42
      · skip
        refine Run.skip ?_
        simp only [Then_normal]
        refine Run.seq ?_
        refine Run.seq ?_
        refine opsF oo101 fun K hK => ?_
        try simp
        repeat' first | ((refine evL_c ?_); simp [-List.map_set, hn, hk, hop, hkl, hw, hwd, hw1, hw2, hw3]) | (with_reducible refine And.intro ?_ ?_) | intro _ | (with_reducible assumption) | omega
        all_goals (refine Fin.go hK ?_; clear hK K)
        simp only [Then_normal]
        refine Run.cond rfl (fun h44 => ?_) (fun h44 => ?_)
        · skip
          refine Run.seq ?_
          refine Run.cut [45, 46, 47, 48, 49, 50, 51, 52, 53, 54, 55] [(55, .bool sb)] [(300, .vals ((encP p).map .d)), (400, .vals ((encC c).map .d))] ?_ ?_
          · refine opsF [⟨Op.fieldAddr 27 (Operand.tmp 2) 2, some 45, none⟩, ⟨Op.load 3 (Operand.tmp 45), some 46, none⟩, ⟨Op.binOp BinOp.lss 3 (Operand.tmp 46) (Operand.const (Value.int IntKind.i64 0)) 3, some 47, none⟩, ⟨Op.move (Operand.tmp 47), some 48, none⟩, ⟨Op.fieldAddr 27 (Operand.tmp 2) 2, some 49, some (some 48, false)⟩, ⟨Op.load 3 (Operand.tmp 49), some 50, some (some 48, false)⟩, ⟨Op.fieldAddr 33 (Operand.tmp 3) 0, some 51, some (some 48, false)⟩, ⟨Op.load 28 (Operand.tmp 51), some 52, some (some 48, false)⟩, ⟨Op.call { callee := Callee.builtin Builtin.len, args := #[Operand.tmp 52], argTypes := #[28] }, some 53, some (some 48, false)⟩, ⟨Op.binOp BinOp.geq 3 (Operand.tmp 50) (Operand.tmp 53) 3, some 54, some (some 48, false)⟩, ⟨Op.pick (Operand.tmp 48) (Operand.const (Value.bool true)) (Operand.tmp 54), some 55, none⟩] fun K hK => ?_
            try simp
            repeat' first | ((first | refine evL_c ?_ | (refine evL_g rfl ?_; try simp only [gs_tt, gs_ff, gs_tf, gs_ft]) | refine evL_u rfl ?_ | (with_reducible refine gsplit (fun hg => ?_) (fun hg => ?_) <;> try simp at hg)) <;> try simp [-List.map_set, hn, hk, hop, hkl, hw, hwd, hw1, hw2, hw3, *]) | (with_reducible refine And.intro ?_ ?_) | intro _ | (with_reducible assumption) | omega
            all_goals (refine Fin.go hK ?_; clear hK K)
            all_goals
              (try simp [← hsb, -List.map_set, hn, hk, hop, hkl, hw, hwd, hw1, hw2, hw3]) <;> (first | omega | (simp; done) | (rw [Bool.eq_iff_iff]; simp only [Bool.or_eq_true, Bool.and_eq_true, Bool.not_eq_true', decide_eq_true_eq, decide_eq_false_iff_not]; omega) | (clear hE; grind) | (simp_all; done) | (simp_all; omega))
          · simp only [over, List.foldl, List.set]
            refine Run.cond rfl (fun h55 => ?_) (fun h55 => ?_)
            · rw [h55, decide_eq_true_eq] at hsb
              refine Run.seq ?_
              refine opsF oo31 fun K hK => ?_
              try simp
              repeat' first | ((refine evL_c ?_); simp [-List.map_set, hn, hk, hop, hkl, hw, hwd, hw1, hw2, hw3]) | (with_reducible refine And.intro ?_ ?_) | intro _ | (with_reducible assumption) | omega
              all_goals (refine Fin.go hK ?_; clear hK K)
              simp only [Then_normal]
              refine Run.drop [] (by simp) ?_
              refine Run.ret ?_
              try simp only [Then_ret, Blok_ret]
              first
                | (have e : opS c p [] = none := by simp [opS, hop]; rw [hn]; omega
                   rw [e]
                   simp [resB, stoB, hn]; done)
                | (have e : opS c p [] = some (fb.set p.slot.toNat true) := by simp [opS, hop, hn, hk, hfb, s3, s4]
                   rw [e]
                   simp [-List.map_set, resB, stoB, hn, hfl]; done)
            · rw [h55, decide_eq_false_iff_not] at hsb
              have s1 : p.slot < (n : Int) + k := by omega
              have s2 : p.slot.toNat < n + k := by omega
              have s3 : 0 ≤ p.slot := by omega
              have s4 : p.slot < n := by omega
              refine Run.skip ?_
              simp only [Then_normal]
              refine Run.cut [7, 56, 57] [(7, .rs 5800 1 0 (n + k))] [(300, .vals ((encP p).map .d)), (400, .vals ((encC c).map .d)), (5800, .data 1 (fb.map encB))] ?_ ?_
              · refine opsF [⟨Op.move (Operand.tmp 5), some 56, none⟩, ⟨Op.makeSlice 60 (Operand.tmp 56) (Operand.tmp 56), some 57, none⟩, ⟨Op.assign (Operand.tmp 57), some 7, none⟩] fun K hK => ?_
                try simp
                repeat' first | ((refine evL_c ?_); simp [-List.map_set, hn, hk, hop, hkl, hw, hwd, hw1, hw2, hw3, fb1, hfl, s1, s2, s3]) | (with_reducible refine And.intro ?_ ?_) | intro _ | (with_reducible assumption) | omega
                all_goals (refine Fin.go hK ?_; clear hK K)
                (try simp [fb1, -List.map_set, hn, hk, hop, hkl, hw, hwd, hw1, hw2, hw3]) <;> (first | omega | (simp; done) | (rw [Bool.eq_iff_iff]; simp only [Bool.or_eq_true, Bool.and_eq_true, Bool.not_eq_true', decide_eq_true_eq, decide_eq_false_iff_not]; omega) | (clear hE; grind) | (simp_all; done) | (simp_all; omega))
              · simp only [over, List.foldl, List.set]
                refine Run.seq ?_
                refine opsF [⟨Op.move (Operand.tmp 7), some 58, none⟩, ⟨Op.fieldAddr 27 (Operand.tmp 2) 2, some 59, none⟩, ⟨Op.load 3 (Operand.tmp 59), some 60, none⟩, ⟨Op.indexAddr 60 (Operand.tmp 58) (Operand.tmp 60), some 61, none⟩, ⟨Op.store 4 (Operand.tmp 61) (Operand.const (Value.bool true)), none, none⟩] fun K hK => ?_
                try simp
                repeat' first | ((refine evL_c ?_); simp [-List.map_set, hn, hk, hop, hkl, hw, hwd, hw1, hw2, hw3, fb1, hfl, s1, s2, s3]) | (with_reducible refine And.intro ?_ ?_) | intro _ | (with_reducible assumption) | omega
                all_goals (refine Fin.go hK ?_; clear hK K)
                simp only [Then_normal]
                refine Run.seq ?_
                refine opsF [⟨Op.move (Operand.tmp 7), some 62, none⟩, ⟨Op.assign (Operand.tmp 62), some 4, none⟩] fun K hK => ?_
                try simp
                repeat' first | ((refine evL_c ?_); simp [-List.map_set, hn, hk, hop, hkl, hw, hwd, hw1, hw2, hw3, fb1, hfl, s1, s2, s3]) | (with_reducible refine And.intro ?_ ?_) | intro _ | (with_reducible assumption) | omega
                all_goals (refine Fin.go hK ?_; clear hK K)
                simp only [Then_normal]
                refine Run.ret ?_
                try simp only [Then_ret, Blok_ret]
                first
                  | (have e : opS c p [] = none := by simp [opS, hop]; rw [hn]; omega
                     rw [e]
                     simp [resB, stoB, hn]; done)
                  | (have e : opS c p [] = some (fb.set p.slot.toNat true) := by simp [opS, hop, hn, hk, hfb, s3, s4]
                     rw [e]
                     simp [-List.map_set, resB, stoB, hn, hfl]; done)
        · simp at h44
  · simp at h24

set_option maxHeartbeats 4000000 in
theorem rboundN_ok (c : CoreT) (p : PlanT) (hP : patS c.nodes c.edges = true) (ho1 : ¬ p.op = 1) (ho4 : ¬ p.op = 4) (hlo : 1 ≤ p.op) (hhi : p.op ≤ 6) (hkl : p.kids.length = 1) (IH : Snd P 38 [.d (.ag (encP (rdI p.kids 0))), .d (.ag (encC c))] (resB (bndT c (rdI p.kids 0))) (stoB (bndT c (rdI p.kids 0)))) (hq : bndT c (rdI p.kids 0) = none) : Snd P 38 [.d (.ag (encP p)), .d (.ag (encC c))] vnil [] := by
  obtain ⟨hn1, hn8, hk8⟩ := pat_rng hP
  have hE := goodE_of hP
  obtain ⟨n, hn⟩ : ∃ k, c.nodes.length = k := ⟨_, rfl⟩
  obtain ⟨k, hk⟩ : ∃ k, c.edges.length = k := ⟨_, rfl⟩
  rw [hn] at hn1 hn8
  rw [hk] at hk8
  have hwd : ((n:Int) + k).toNat = n + k := by omega
  have hw : IntKind.i64.wrap ((n:Int) + k) = (n:Int) + k := wrap_id (by omega) (by omega)
  have hw1 : 0 < n + k := by omega
  have hw2 : (n:Int) + k ≤ 140737488355328 := by omega
  have hw3 : (0:Int) ≤ (n:Int) + k := by omega
  simp only [hq, resB, stoB, encP_cells, hn] at IH
  refine snd_of [] Try.func38 rfl (by kernel_rfl) Try.ntmps38 (by simp) ?_
  unfold Try.f38
  simp only [List.cons_append, List.nil_append, List.length_cons, List.length_nil, Nat.reduceAdd, Nat.reduceSub, List.replicate]
  refine Run.seq ?_
  refine opsF oo94 fun K hK => ?_
  try simp
  repeat' first | ((refine evL_c ?_); simp [-List.map_set, hn, hk, hkl, hw, hwd, hw1, hw2, hw3, ho1, ho4]) | (with_reducible refine And.intro ?_ ?_) | intro _ | (with_reducible assumption) | omega
  all_goals (refine Fin.go hK ?_; clear hK K)
  simp only [Then_normal]
  refine Run.seq ?_
  refine opsF oo95 fun K hK => ?_
  try simp
  repeat' first | ((refine evL_c ?_); simp [-List.map_set, hn, hk, hkl, hw, hwd, hw1, hw2, hw3, ho1, ho4]) | (with_reducible refine And.intro ?_ ?_) | intro _ | (with_reducible assumption) | omega
  all_goals (refine Fin.go hK ?_; clear hK K)
  simp only [Then_normal]
  refine Run.seq ?_
  refine opsF oo96 fun K hK => ?_
  try simp
  repeat' first | ((refine evL_c ?_); simp [-List.map_set, hn, hk, hkl, hw, hwd, hw1, hw2, hw3, ho1, ho4]) | (with_reducible refine And.intro ?_ ?_) | intro _ | (with_reducible assumption) | omega
  all_goals (refine Fin.go hK ?_; clear hK K)
  simp only [Then_normal]
  refine Run.seq ?_
  refine Run.seq ?_
  refine opsF oo97 fun K hK => ?_
  try simp
  repeat' first | ((refine evL_c ?_); simp [-List.map_set, hn, hk, hkl, hw, hwd, hw1, hw2, hw3, ho1, ho4]) | (with_reducible refine And.intro ?_ ?_) | intro _ | (with_reducible assumption) | omega
  all_goals (refine Fin.go hK ?_; clear hK K)
  simp only [Then_normal]
  refine Run.block ?_
  refine Run.seq ?_
  refine opsF oo98 fun K hK => ?_
  try simp
  repeat' first | ((refine evL_c ?_); simp [-List.map_set, hn, hk, hkl, hw, hwd, hw1, hw2, hw3, ho1, ho4]) | (with_reducible refine And.intro ?_ ?_) | intro _ | (with_reducible assumption) | omega
  all_goals (refine Fin.go hK ?_; clear hK K)
  simp only [Then_normal]
  refine Run.cond rfl (fun h24 => ?_) (fun h24 => ?_)
  · simp at h24
  · skip
    refine Run.seq ?_
    refine opsF oo99 fun K hK => ?_
    try simp
    repeat' first | ((refine evL_c ?_); simp [-List.map_set, hn, hk, hkl, hw, hwd, hw1, hw2, hw3, ho1, ho4]) | (with_reducible refine And.intro ?_ ?_) | intro _ | (with_reducible assumption) | omega
    all_goals (refine Fin.go hK ?_; clear hK K)
    simp only [Then_normal]
    refine Run.cond rfl (fun h26 => ?_) (fun h26 => ?_)
    · simp at h26
    · skip
      refine Run.skip ?_
      simp only [Blok_normal]
      simp only [Then_normal]
      refine Run.seq ?_
      refine Run.cut [28, 29, 30, 31, 32, 33, 34, 35, 36, 37, 38, 39, 40, 41, 42] [(42, .bool false)] [(300, .vals ((encP p).map .d)), (400, .vals ((encC c).map .d))] ?_ ?_
      · refine opsF oo100 fun K hK => ?_
        try simp
        repeat' first | ((first | refine evL_c ?_ | (refine evL_g rfl ?_; try simp only [gs_tt, gs_ff, gs_tf, gs_ft]) | refine evL_u rfl ?_ | (with_reducible refine gsplit (fun hg => ?_) (fun hg => ?_) <;> try simp at hg)) <;> try simp [-List.map_set, hn, hk, hkl, hw, hwd, hw1, hw2, hw3, ho1, ho4]) | (with_reducible refine And.intro ?_ ?_) | intro _ | (with_reducible assumption) | omega
        all_goals (refine Fin.go hK ?_; clear hK K)
        all_goals
          (try simp [-List.map_set, hn, hk, hkl, hw, hwd, hw1, hw2, hw3, ho1, ho4]) <;> (first | omega | (simp; done) | (rw [Bool.eq_iff_iff]; simp only [Bool.or_eq_true, Bool.and_eq_true, Bool.not_eq_true', decide_eq_true_eq, decide_eq_false_iff_not]; omega) | (clear hE; grind) | (simp_all; done) | (simp_all; omega))
      · simp only [over, List.foldl, List.set]
        refine Run.cond rfl (fun h42 => ?_) (fun h42 => ?_)
        · simp at h42
        · skip
          refine Run.skip ?_
          simp only [Then_normal]
          refine Run.seq ?_
          refine Run.seq ?_
          refine opsF oo101 fun K hK => ?_
          try simp
          repeat' first | ((refine evL_c ?_); simp [-List.map_set, hn, hk, hkl, hw, hwd, hw1, hw2, hw3, ho1, ho4]) | (with_reducible refine And.intro ?_ ?_) | intro _ | (with_reducible assumption) | omega
          all_goals (refine Fin.go hK ?_; clear hK K)
          simp only [Then_normal]
          refine Run.cond rfl (fun h44 => ?_) (fun h44 => ?_)
          · simp at h44
          · skip
            refine Run.skip ?_
            simp only [Then_normal]
            refine Run.seq ?_
            refine opsF oo102 fun K hK => ?_
            try simp
            repeat' first | (refine ecall (by have h := IH; exact h) rfl ?_) | ((refine evL_c ?_); simp [-List.map_set, hn, hk, hkl, hw, hwd, hw1, hw2, hw3, ho1, ho4]) | (with_reducible refine And.intro ?_ ?_) | intro _ | (with_reducible assumption) | omega
            all_goals (refine Fin.go hK ?_; clear hK K)
            simp only [Then_normal]
            refine Run.seq ?_
            refine Run.seq ?_
            refine opsF oo103 fun K hK => ?_
            try simp
            repeat' first | ((refine evL_c ?_); simp [-List.map_set, hn, hk, hkl, hw, hwd, hw1, hw2, hw3, ho1, ho4]) | (with_reducible refine And.intro ?_ ?_) | intro _ | (with_reducible assumption) | omega
            all_goals (refine Fin.go hK ?_; clear hK K)
            simp only [Then_normal]
            refine Run.cond rfl (fun h70 => ?_) (fun h70 => ?_)
            · skip
              refine Run.seq ?_
              refine opsF oo31 fun K hK => ?_
              try simp
              repeat' first | ((refine evL_c ?_); simp [-List.map_set, hn, hk, hkl, hw, hwd, hw1, hw2, hw3, ho1, ho4]) | (with_reducible refine And.intro ?_ ?_) | intro _ | (with_reducible assumption) | omega
              all_goals (refine Fin.go hK ?_; clear hK K)
              simp only [Then_normal]
              refine Run.drop [] (by simp) ?_
              refine Run.ret ?_
              try simp only [Then_ret, Blok_ret]
              simp
            · simp at h70

set_option maxHeartbeats 4000000 in
theorem rboundN4_ok (c : CoreT) (p : PlanT) (hP : patS c.nodes c.edges = true) (hop : p.op = 4) (hkl : p.kids.length = 2) (IH : Snd P 38 [.d (.ag (encP (rdI p.kids 0))), .d (.ag (encC c))] (resB (bndT c (rdI p.kids 0))) (stoB (bndT c (rdI p.kids 0)))) (hq : bndT c (rdI p.kids 0) = none) : Snd P 38 [.d (.ag (encP p)), .d (.ag (encC c))] vnil [] := by
  obtain ⟨hn1, hn8, hk8⟩ := pat_rng hP
  have hE := goodE_of hP
  obtain ⟨n, hn⟩ : ∃ k, c.nodes.length = k := ⟨_, rfl⟩
  obtain ⟨k, hk⟩ : ∃ k, c.edges.length = k := ⟨_, rfl⟩
  rw [hn] at hn1 hn8
  rw [hk] at hk8
  have hwd : ((n:Int) + k).toNat = n + k := by omega
  have hw : IntKind.i64.wrap ((n:Int) + k) = (n:Int) + k := wrap_id (by omega) (by omega)
  have hw1 : 0 < n + k := by omega
  have hw2 : (n:Int) + k ≤ 140737488355328 := by omega
  have hw3 : (0:Int) ≤ (n:Int) + k := by omega
  simp only [hq, resB, stoB, encP_cells, hn] at IH
  refine snd_of [] Try.func38 rfl (by kernel_rfl) Try.ntmps38 (by simp) ?_
  unfold Try.f38
  simp only [List.cons_append, List.nil_append, List.length_cons, List.length_nil, Nat.reduceAdd, Nat.reduceSub, List.replicate]
  refine Run.seq ?_
  refine opsF oo94 fun K hK => ?_
  try simp
  repeat' first | ((refine evL_c ?_); simp [-List.map_set, hn, hk, hop, hkl, hw, hwd, hw1, hw2, hw3]) | (with_reducible refine And.intro ?_ ?_) | intro _ | (with_reducible assumption) | omega
  all_goals (refine Fin.go hK ?_; clear hK K)
  simp only [Then_normal]
  refine Run.seq ?_
  refine opsF oo95 fun K hK => ?_
  try simp
  repeat' first | ((refine evL_c ?_); simp [-List.map_set, hn, hk, hop, hkl, hw, hwd, hw1, hw2, hw3]) | (with_reducible refine And.intro ?_ ?_) | intro _ | (with_reducible assumption) | omega
  all_goals (refine Fin.go hK ?_; clear hK K)
  simp only [Then_normal]
  refine Run.seq ?_
  refine opsF oo96 fun K hK => ?_
  try simp
  repeat' first | ((refine evL_c ?_); simp [-List.map_set, hn, hk, hop, hkl, hw, hwd, hw1, hw2, hw3]) | (with_reducible refine And.intro ?_ ?_) | intro _ | (with_reducible assumption) | omega
  all_goals (refine Fin.go hK ?_; clear hK K)
  simp only [Then_normal]
  refine Run.seq ?_
  refine Run.seq ?_
  refine opsF oo97 fun K hK => ?_
  try simp
  repeat' first | ((refine evL_c ?_); simp [-List.map_set, hn, hk, hop, hkl, hw, hwd, hw1, hw2, hw3]) | (with_reducible refine And.intro ?_ ?_) | intro _ | (with_reducible assumption) | omega
  all_goals (refine Fin.go hK ?_; clear hK K)
  simp only [Then_normal]
  refine Run.block ?_
  refine Run.seq ?_
  refine opsF oo98 fun K hK => ?_
  try simp
  repeat' first | ((refine evL_c ?_); simp [-List.map_set, hn, hk, hop, hkl, hw, hwd, hw1, hw2, hw3]) | (with_reducible refine And.intro ?_ ?_) | intro _ | (with_reducible assumption) | omega
  all_goals (refine Fin.go hK ?_; clear hK K)
  simp only [Then_normal]
  refine Run.cond rfl (fun h24 => ?_) (fun h24 => ?_)
  · simp at h24
  · skip
    refine Run.seq ?_
    refine opsF oo99 fun K hK => ?_
    try simp
    repeat' first | ((refine evL_c ?_); simp [-List.map_set, hn, hk, hop, hkl, hw, hwd, hw1, hw2, hw3]) | (with_reducible refine And.intro ?_ ?_) | intro _ | (with_reducible assumption) | omega
    all_goals (refine Fin.go hK ?_; clear hK K)
    simp only [Then_normal]
    refine Run.cond rfl (fun h26 => ?_) (fun h26 => ?_)
    · skip
      refine opsF oo110 fun K hK => ?_
      try simp
      repeat' first | ((refine evL_c ?_); simp [-List.map_set, hn, hk, hop, hkl, hw, hwd, hw1, hw2, hw3]) | (with_reducible refine And.intro ?_ ?_) | intro _ | (with_reducible assumption) | omega
      all_goals (refine Fin.go hK ?_; clear hK K)
      simp only [Blok_normal]
      simp only [Then_normal]
      refine Run.seq ?_
      refine Run.seq ?_
      refine opsF oo100 fun K hK => ?_
      try simp
      repeat' first | ((first | refine evL_c ?_ | (refine evL_g rfl ?_; try simp only [gs_tt, gs_ff, gs_tf, gs_ft]) | refine evL_u rfl ?_ | (with_reducible refine gsplit (fun hg => ?_) (fun hg => ?_) <;> try simp at hg)) <;> try simp [-List.map_set, hn, hk, hop, hkl, hw, hwd, hw1, hw2, hw3]) | (with_reducible refine And.intro ?_ ?_) | intro _ | (with_reducible assumption) | omega
      all_goals (refine Fin.go hK ?_; clear hK K)
      all_goals
        simp only [Then_normal]
        refine Run.cond rfl (fun h42 => ?_) (fun h42 => ?_)
        · simp at h42
        · skip
          refine Run.skip ?_
          simp only [Then_normal]
          refine Run.seq ?_
          refine Run.seq ?_
          refine opsF oo101 fun K hK => ?_
          try simp
          repeat' first | ((refine evL_c ?_); simp [-List.map_set, hn, hk, hop, hkl, hw, hwd, hw1, hw2, hw3]) | (with_reducible refine And.intro ?_ ?_) | intro _ | (with_reducible assumption) | omega
          all_goals (refine Fin.go hK ?_; clear hK K)
          simp only [Then_normal]
          refine Run.cond rfl (fun h44 => ?_) (fun h44 => ?_)
          · simp at h44
          · skip
            refine Run.skip ?_
            simp only [Then_normal]
            refine Run.seq ?_
            refine opsF oo102 fun K hK => ?_
            try simp
            repeat' first | (refine ecall (by have h := IH; exact h) rfl ?_) | ((refine evL_c ?_); simp [-List.map_set, hn, hk, hop, hkl, hw, hwd, hw1, hw2, hw3]) | (with_reducible refine And.intro ?_ ?_) | intro _ | (with_reducible assumption) | omega
            all_goals (refine Fin.go hK ?_; clear hK K)
            simp only [Then_normal]
            refine Run.seq ?_
            refine Run.seq ?_
            refine opsF oo103 fun K hK => ?_
            try simp
            repeat' first | ((refine evL_c ?_); simp [-List.map_set, hn, hk, hop, hkl, hw, hwd, hw1, hw2, hw3]) | (with_reducible refine And.intro ?_ ?_) | intro _ | (with_reducible assumption) | omega
            all_goals (refine Fin.go hK ?_; clear hK K)
            simp only [Then_normal]
            refine Run.cond rfl (fun h70 => ?_) (fun h70 => ?_)
            · skip
              refine Run.seq ?_
              refine opsF oo31 fun K hK => ?_
              try simp
              repeat' first | ((refine evL_c ?_); simp [-List.map_set, hn, hk, hop, hkl, hw, hwd, hw1, hw2, hw3]) | (with_reducible refine And.intro ?_ ?_) | intro _ | (with_reducible assumption) | omega
              all_goals (refine Fin.go hK ?_; clear hK K)
              simp only [Then_normal]
              refine Run.drop [] (by simp) ?_
              refine Run.ret ?_
              try simp only [Then_ret, Blok_ret]
              simp
            · simp at h70
    · simp at h26

set_option maxHeartbeats 4000000 in
theorem rboundN4b_ok (c : CoreT) (p : PlanT) (hP : patS c.nodes c.edges = true) (hop : p.op = 4) (hkl : p.kids.length = 2) (IH : Snd P 38 [.d (.ag (encP (rdI p.kids 0))), .d (.ag (encC c))] (resB (bndT c (rdI p.kids 0))) (stoB (bndT c (rdI p.kids 0)))) (IH2 : Snd P 38 [.d (.ag (encP (rdI p.kids 1))), .d (.ag (encC c))] (resB (bndT c (rdI p.kids 1))) (stoB (bndT c (rdI p.kids 1)))) (b0 : List Bool) (hq : bndT c (rdI p.kids 0) = some b0) (hb0 : b0.length = c.nodes.length + c.edges.length) (hr : bndT c (rdI p.kids 1) = none) : Snd P 38 [.d (.ag (encP p)), .d (.ag (encC c))] vnil [] := by
  obtain ⟨hn1, hn8, hk8⟩ := pat_rng hP
  have hE := goodE_of hP
  obtain ⟨n, hn⟩ : ∃ k, c.nodes.length = k := ⟨_, rfl⟩
  obtain ⟨k, hk⟩ : ∃ k, c.edges.length = k := ⟨_, rfl⟩
  rw [hn] at hn1 hn8
  rw [hk] at hk8
  have hwd : ((n:Int) + k).toNat = n + k := by omega
  have hw : IntKind.i64.wrap ((n:Int) + k) = (n:Int) + k := wrap_id (by omega) (by omega)
  have hw1 : 0 < n + k := by omega
  have hw2 : (n:Int) + k ≤ 140737488355328 := by omega
  have hw3 : (0:Int) ≤ (n:Int) + k := by omega
  have hb0n : b0.length = n + k := by rw [hb0, hn, hk]
  simp only [hq, resB, stoB, encP_cells, hn, hb0n] at IH
  simp only [hr, resB, stoB, encP_cells, hn] at IH2
  refine snd_of [] Try.func38 rfl (by kernel_rfl) Try.ntmps38 (by simp) ?_
  unfold Try.f38
  simp only [List.cons_append, List.nil_append, List.length_cons, List.length_nil, Nat.reduceAdd, Nat.reduceSub, List.replicate]
  refine Run.seq ?_
  refine opsF oo94 fun K hK => ?_
  try simp
  repeat' first | ((refine evL_c ?_); simp [-List.map_set, hn, hk, hop, hkl, hw, hwd, hw1, hw2, hw3]) | (with_reducible refine And.intro ?_ ?_) | intro _ | (with_reducible assumption) | omega
  all_goals (refine Fin.go hK ?_; clear hK K)
  simp only [Then_normal]
  refine Run.seq ?_
  refine opsF oo95 fun K hK => ?_
  try simp
  repeat' first | ((refine evL_c ?_); simp [-List.map_set, hn, hk, hop, hkl, hw, hwd, hw1, hw2, hw3]) | (with_reducible refine And.intro ?_ ?_) | intro _ | (with_reducible assumption) | omega
  all_goals (refine Fin.go hK ?_; clear hK K)
  simp only [Then_normal]
  refine Run.seq ?_
  refine opsF oo96 fun K hK => ?_
  try simp
  repeat' first | ((refine evL_c ?_); simp [-List.map_set, hn, hk, hop, hkl, hw, hwd, hw1, hw2, hw3]) | (with_reducible refine And.intro ?_ ?_) | intro _ | (with_reducible assumption) | omega
  all_goals (refine Fin.go hK ?_; clear hK K)
  simp only [Then_normal]
  refine Run.seq ?_
  refine Run.seq ?_
  refine opsF oo97 fun K hK => ?_
  try simp
  repeat' first | ((refine evL_c ?_); simp [-List.map_set, hn, hk, hop, hkl, hw, hwd, hw1, hw2, hw3]) | (with_reducible refine And.intro ?_ ?_) | intro _ | (with_reducible assumption) | omega
  all_goals (refine Fin.go hK ?_; clear hK K)
  simp only [Then_normal]
  refine Run.block ?_
  refine Run.seq ?_
  refine opsF oo98 fun K hK => ?_
  try simp
  repeat' first | ((refine evL_c ?_); simp [-List.map_set, hn, hk, hop, hkl, hw, hwd, hw1, hw2, hw3]) | (with_reducible refine And.intro ?_ ?_) | intro _ | (with_reducible assumption) | omega
  all_goals (refine Fin.go hK ?_; clear hK K)
  simp only [Then_normal]
  refine Run.cond rfl (fun h24 => ?_) (fun h24 => ?_)
  · simp at h24
  · skip
    refine Run.seq ?_
    refine opsF oo99 fun K hK => ?_
    try simp
    repeat' first | ((refine evL_c ?_); simp [-List.map_set, hn, hk, hop, hkl, hw, hwd, hw1, hw2, hw3]) | (with_reducible refine And.intro ?_ ?_) | intro _ | (with_reducible assumption) | omega
    all_goals (refine Fin.go hK ?_; clear hK K)
    simp only [Then_normal]
    refine Run.cond rfl (fun h26 => ?_) (fun h26 => ?_)
    · skip
      refine opsF oo110 fun K hK => ?_
      try simp
      repeat' first | ((refine evL_c ?_); simp [-List.map_set, hn, hk, hop, hkl, hw, hwd, hw1, hw2, hw3]) | (with_reducible refine And.intro ?_ ?_) | intro _ | (with_reducible assumption) | omega
      all_goals (refine Fin.go hK ?_; clear hK K)
      simp only [Blok_normal]
      simp only [Then_normal]
      refine Run.seq ?_
      refine Run.seq ?_
      refine opsF oo100 fun K hK => ?_
      try simp
      repeat' first | ((first | refine evL_c ?_ | (refine evL_g rfl ?_; try simp only [gs_tt, gs_ff, gs_tf, gs_ft]) | refine evL_u rfl ?_ | (with_reducible refine gsplit (fun hg => ?_) (fun hg => ?_) <;> try simp at hg)) <;> try simp [-List.map_set, hn, hk, hop, hkl, hw, hwd, hw1, hw2, hw3]) | (with_reducible refine And.intro ?_ ?_) | intro _ | (with_reducible assumption) | omega
      all_goals (refine Fin.go hK ?_; clear hK K)
      all_goals
        simp only [Then_normal]
        refine Run.cond rfl (fun h42 => ?_) (fun h42 => ?_)
        · simp at h42
        · skip
          refine Run.skip ?_
          simp only [Then_normal]
          refine Run.seq ?_
          refine Run.seq ?_
          refine opsF oo101 fun K hK => ?_
          try simp
          repeat' first | ((refine evL_c ?_); simp [-List.map_set, hn, hk, hop, hkl, hw, hwd, hw1, hw2, hw3]) | (with_reducible refine And.intro ?_ ?_) | intro _ | (with_reducible assumption) | omega
          all_goals (refine Fin.go hK ?_; clear hK K)
          simp only [Then_normal]
          refine Run.cond rfl (fun h44 => ?_) (fun h44 => ?_)
          · simp at h44
          · skip
            refine Run.skip ?_
            simp only [Then_normal]
            refine Run.seq ?_
            refine opsF oo102 fun K hK => ?_
            try simp
            repeat' first | (refine ecall (by have h := IH; exact h) rfl ?_) | ((refine evL_c ?_); simp [-List.map_set, hn, hk, hop, hkl, hw, hwd, hw1, hw2, hw3]) | (with_reducible refine And.intro ?_ ?_) | intro _ | (with_reducible assumption) | omega
            all_goals (refine Fin.go hK ?_; clear hK K)
            simp only [Then_normal]
            refine Run.seq ?_
            refine Run.seq ?_
            refine opsF oo103 fun K hK => ?_
            try simp
            repeat' first | ((refine evL_c ?_); simp [-List.map_set, hn, hk, hop, hkl, hw, hwd, hw1, hw2, hw3]) | (with_reducible refine And.intro ?_ ?_) | intro _ | (with_reducible assumption) | omega
            all_goals (refine Fin.go hK ?_; clear hK K)
            simp only [Then_normal]
            refine Run.cond rfl (fun h70 => ?_) (fun h70 => ?_)
            · simp at h70
            · skip
              refine Run.skip ?_
              simp only [Then_normal]
              refine Run.seq ?_
              refine Run.seq ?_
              refine opsF oo104 fun K hK => ?_
              try simp
              repeat' first | ((refine evL_c ?_); simp [-List.map_set, hn, hk, hop, hkl, hw, hwd, hw1, hw2, hw3]) | (with_reducible refine And.intro ?_ ?_) | intro _ | (with_reducible assumption) | omega
              all_goals (refine Fin.go hK ?_; clear hK K)
              simp only [Then_normal]
              refine Run.block ?_
              refine Run.seq ?_
              refine Run.seq ?_
              refine opsF oo105 fun K hK => ?_
              try simp
              repeat' first | ((refine evL_c ?_); simp [-List.map_set, hn, hk, hop, hkl, hw, hwd, hw1, hw2, hw3]) | (with_reducible refine And.intro ?_ ?_) | intro _ | (with_reducible assumption) | omega
              all_goals (refine Fin.go hK ?_; clear hK K)
              simp only [Then_normal]
              refine Run.cond rfl (fun h73 => ?_) (fun h73 => ?_)
              · simp at h73
              · skip
                refine opsF oo106 fun K hK => ?_
                try simp
                repeat' first | ((refine evL_c ?_); simp [-List.map_set, hn, hk, hop, hkl, hw, hwd, hw1, hw2, hw3]) | (with_reducible refine And.intro ?_ ?_) | intro _ | (with_reducible assumption) | omega
                all_goals (refine Fin.go hK ?_; clear hK K)
                simp only [Then_normal]
                refine Run.cond rfl (fun h73 => ?_) (fun h73 => ?_)
                · simp at h73
                · skip
                  refine Run.seq ?_
                  refine opsF oo108 fun K hK => ?_
                  try simp
                  repeat' first | ((refine evL_c ?_); simp [-List.map_set, hn, hk, hop, hkl, hw, hwd, hw1, hw2, hw3]) | (with_reducible refine And.intro ?_ ?_) | intro _ | (with_reducible assumption) | omega
                  all_goals (refine Fin.go hK ?_; clear hK K)
                  simp only [Then_normal]
                  refine Run.cond rfl (fun h105 => ?_) (fun h105 => ?_)
                  · skip
                    refine Run.seq ?_
                    refine opsF oo111 fun K hK => ?_
                    try simp
                    repeat' first | (refine ecall (by have h := IH2; exact h) rfl ?_) | ((refine evL_c ?_); simp [-List.map_set, hn, hk, hop, hkl, hw, hwd, hw1, hw2, hw3]) | (with_reducible refine And.intro ?_ ?_) | intro _ | (with_reducible assumption) | omega
                    all_goals (refine Fin.go hK ?_; clear hK K)
                    simp only [Then_normal]
                    refine Run.seq ?_
                    refine Run.seq ?_
                    refine opsF oo112 fun K hK => ?_
                    try simp
                    repeat' first | ((refine evL_c ?_); simp [-List.map_set, hn, hk, hop, hkl, hw, hwd, hw1, hw2, hw3]) | (with_reducible refine And.intro ?_ ?_) | intro _ | (with_reducible assumption) | omega
                    all_goals (refine Fin.go hK ?_; clear hK K)
                    simp only [Then_normal]
                    refine Run.cond rfl (fun h114 => ?_) (fun h114 => ?_)
                    · skip
                      refine Run.seq ?_
                      refine opsF oo31 fun K hK => ?_
                      try simp
                      repeat' first | ((refine evL_c ?_); simp [-List.map_set, hn, hk, hop, hkl, hw, hwd, hw1, hw2, hw3]) | (with_reducible refine And.intro ?_ ?_) | intro _ | (with_reducible assumption) | omega
                      all_goals (refine Fin.go hK ?_; clear hK K)
                      simp only [Then_normal]
                      refine Run.drop [] (by simp) ?_
                      refine Run.ret ?_
                      try simp only [Then_ret, Blok_ret]
                      simp
                    · simp at h114
                  · simp at h105
    · simp at h26

set_option maxHeartbeats 4000000 in
theorem rboundX1_ok (c : CoreT) (p : PlanT) (hP : patS c.nodes c.edges = true) (hop : p.op = 1) (hkw : ¬ p.kids.length = 0) : Snd P 38 [.d (.ag (encP p)), .d (.ag (encC c))] vnil [] := by
  obtain ⟨hn1, hn8, hk8⟩ := pat_rng hP
  have hE := goodE_of hP
  obtain ⟨n, hn⟩ : ∃ k, c.nodes.length = k := ⟨_, rfl⟩
  obtain ⟨k, hk⟩ : ∃ k, c.edges.length = k := ⟨_, rfl⟩
  rw [hn] at hn1 hn8
  rw [hk] at hk8
  have hwd : ((n:Int) + k).toNat = n + k := by omega
  have hw : IntKind.i64.wrap ((n:Int) + k) = (n:Int) + k := wrap_id (by omega) (by omega)
  have hw1 : 0 < n + k := by omega
  have hw2 : (n:Int) + k ≤ 140737488355328 := by omega
  have hw3 : (0:Int) ≤ (n:Int) + k := by omega
  obtain ⟨kl, hkl⟩ : ∃ kl, p.kids.length = kl := ⟨_, rfl⟩
  rw [hkl] at hkw
  refine snd_of [] Try.func38 rfl (by kernel_rfl) Try.ntmps38 (by simp) ?_
  unfold Try.f38
  simp only [List.cons_append, List.nil_append, List.length_cons, List.length_nil, Nat.reduceAdd, Nat.reduceSub, List.replicate]
  refine Run.seq ?_
  refine opsF oo94 fun K hK => ?_
  try simp
  repeat' first | ((refine evL_c ?_); simp [-List.map_set, hn, hk, hw, hwd, hw1, hw2, hw3, hop, hkl]) | (with_reducible refine And.intro ?_ ?_) | intro _ | (with_reducible assumption) | omega
  all_goals (refine Fin.go hK ?_; clear hK K)
  simp only [Then_normal]
  refine Run.seq ?_
  refine opsF oo95 fun K hK => ?_
  try simp
  repeat' first | ((refine evL_c ?_); simp [-List.map_set, hn, hk, hw, hwd, hw1, hw2, hw3, hop, hkl]) | (with_reducible refine And.intro ?_ ?_) | intro _ | (with_reducible assumption) | omega
  all_goals (refine Fin.go hK ?_; clear hK K)
  simp only [Then_normal]
  refine Run.seq ?_
  refine opsF oo96 fun K hK => ?_
  try simp
  repeat' first | ((refine evL_c ?_); simp [-List.map_set, hn, hk, hw, hwd, hw1, hw2, hw3, hop, hkl]) | (with_reducible refine And.intro ?_ ?_) | intro _ | (with_reducible assumption) | omega
  all_goals (refine Fin.go hK ?_; clear hK K)
  simp only [Then_normal]
  refine Run.seq ?_
  refine Run.seq ?_
  refine opsF oo97 fun K hK => ?_
  try simp
  repeat' first | ((refine evL_c ?_); simp [-List.map_set, hn, hk, hw, hwd, hw1, hw2, hw3, hop, hkl]) | (with_reducible refine And.intro ?_ ?_) | intro _ | (with_reducible assumption) | omega
  all_goals (refine Fin.go hK ?_; clear hK K)
  simp only [Then_normal]
  refine Run.block ?_
  refine Run.seq ?_
  refine opsF oo98 fun K hK => ?_
  try simp
  repeat' first | ((refine evL_c ?_); simp [-List.map_set, hn, hk, hw, hwd, hw1, hw2, hw3, hop, hkl]) | (with_reducible refine And.intro ?_ ?_) | intro _ | (with_reducible assumption) | omega
  all_goals (refine Fin.go hK ?_; clear hK K)
  simp only [Then_normal]
  refine Run.cond rfl (fun h24 => ?_) (fun h24 => ?_)
  · skip
    refine opsF oo42 fun K hK => ?_
    try simp
    repeat' first | ((refine evL_c ?_); simp [-List.map_set, hn, hk, hw, hwd, hw1, hw2, hw3, hop, hkl]) | (with_reducible refine And.intro ?_ ?_) | intro _ | (with_reducible assumption) | omega
    all_goals (refine Fin.go hK ?_; clear hK K)
    simp only [Blok_normal]
    simp only [Then_normal]
    refine Run.seq ?_
    refine Run.cut [28, 29, 30, 31, 32, 33, 34, 35, 36, 37, 38, 39, 40, 41, 42] [(42, .bool true)] [(300, .vals ((encP p).map .d)), (400, .vals ((encC c).map .d))] ?_ ?_
    · refine opsF oo100 fun K hK => ?_
      try simp
      repeat' first | ((first | refine evL_c ?_ | (refine evL_g rfl ?_; try simp only [gs_tt, gs_ff, gs_tf, gs_ft]) | refine evL_u rfl ?_ | (with_reducible refine gsplit (fun hg => ?_) (fun hg => ?_) <;> try simp at hg)) <;> try simp [-List.map_set, hn, hk, hw, hwd, hw1, hw2, hw3, hop, hkl]) | (with_reducible refine And.intro ?_ ?_) | intro _ | (with_reducible assumption) | omega
      all_goals (refine Fin.go hK ?_; clear hK K)
      all_goals
        (try simp [-List.map_set, hn, hk, hw, hwd, hw1, hw2, hw3, hop, hkl]) <;> (first | omega | (simp; done) | (rw [Bool.eq_iff_iff]; simp only [Bool.or_eq_true, Bool.and_eq_true, Bool.not_eq_true', decide_eq_true_eq, decide_eq_false_iff_not]; omega) | (clear hE; grind) | (simp_all; done) | (simp_all; omega))
    · simp only [over, List.foldl, List.set]
      refine Run.cond rfl (fun h42 => ?_) (fun h42 => ?_)
      · skip
        refine Run.seq ?_
        refine opsF oo31 fun K hK => ?_
        try simp
        repeat' first | ((refine evL_c ?_); simp [-List.map_set, hn, hk, hw, hwd, hw1, hw2, hw3, hop, hkl]) | (with_reducible refine And.intro ?_ ?_) | intro _ | (with_reducible assumption) | omega
        all_goals (refine Fin.go hK ?_; clear hK K)
        simp only [Then_normal]
        refine Run.ret ?_
        try simp only [Then_ret, Blok_ret]
        simp
      · simp at h42
  · simp at h24

set_option maxHeartbeats 4000000 in
theorem rboundX4_ok (c : CoreT) (p : PlanT) (hP : patS c.nodes c.edges = true) (hop : p.op = 4) (hkw : ¬ p.kids.length = 2) : Snd P 38 [.d (.ag (encP p)), .d (.ag (encC c))] vnil [] := by
  obtain ⟨hn1, hn8, hk8⟩ := pat_rng hP
  have hE := goodE_of hP
  obtain ⟨n, hn⟩ : ∃ k, c.nodes.length = k := ⟨_, rfl⟩
  obtain ⟨k, hk⟩ : ∃ k, c.edges.length = k := ⟨_, rfl⟩
  rw [hn] at hn1 hn8
  rw [hk] at hk8
  have hwd : ((n:Int) + k).toNat = n + k := by omega
  have hw : IntKind.i64.wrap ((n:Int) + k) = (n:Int) + k := wrap_id (by omega) (by omega)
  have hw1 : 0 < n + k := by omega
  have hw2 : (n:Int) + k ≤ 140737488355328 := by omega
  have hw3 : (0:Int) ≤ (n:Int) + k := by omega
  obtain ⟨kl, hkl⟩ : ∃ kl, p.kids.length = kl := ⟨_, rfl⟩
  rw [hkl] at hkw
  refine snd_of [] Try.func38 rfl (by kernel_rfl) Try.ntmps38 (by simp) ?_
  unfold Try.f38
  simp only [List.cons_append, List.nil_append, List.length_cons, List.length_nil, Nat.reduceAdd, Nat.reduceSub, List.replicate]
  refine Run.seq ?_
  refine opsF oo94 fun K hK => ?_
  try simp
  repeat' first | ((refine evL_c ?_); simp [-List.map_set, hn, hk, hw, hwd, hw1, hw2, hw3, hop, hkl]) | (with_reducible refine And.intro ?_ ?_) | intro _ | (with_reducible assumption) | omega
  all_goals (refine Fin.go hK ?_; clear hK K)
  simp only [Then_normal]
  refine Run.seq ?_
  refine opsF oo95 fun K hK => ?_
  try simp
  repeat' first | ((refine evL_c ?_); simp [-List.map_set, hn, hk, hw, hwd, hw1, hw2, hw3, hop, hkl]) | (with_reducible refine And.intro ?_ ?_) | intro _ | (with_reducible assumption) | omega
  all_goals (refine Fin.go hK ?_; clear hK K)
  simp only [Then_normal]
  refine Run.seq ?_
  refine opsF oo96 fun K hK => ?_
  try simp
  repeat' first | ((refine evL_c ?_); simp [-List.map_set, hn, hk, hw, hwd, hw1, hw2, hw3, hop, hkl]) | (with_reducible refine And.intro ?_ ?_) | intro _ | (with_reducible assumption) | omega
  all_goals (refine Fin.go hK ?_; clear hK K)
  simp only [Then_normal]
  refine Run.seq ?_
  refine Run.seq ?_
  refine opsF oo97 fun K hK => ?_
  try simp
  repeat' first | ((refine evL_c ?_); simp [-List.map_set, hn, hk, hw, hwd, hw1, hw2, hw3, hop, hkl]) | (with_reducible refine And.intro ?_ ?_) | intro _ | (with_reducible assumption) | omega
  all_goals (refine Fin.go hK ?_; clear hK K)
  simp only [Then_normal]
  refine Run.block ?_
  refine Run.seq ?_
  refine opsF oo98 fun K hK => ?_
  try simp
  repeat' first | ((refine evL_c ?_); simp [-List.map_set, hn, hk, hw, hwd, hw1, hw2, hw3, hop, hkl]) | (with_reducible refine And.intro ?_ ?_) | intro _ | (with_reducible assumption) | omega
  all_goals (refine Fin.go hK ?_; clear hK K)
  simp only [Then_normal]
  refine Run.cond rfl (fun h24 => ?_) (fun h24 => ?_)
  · simp at h24
  · skip
    refine Run.seq ?_
    refine opsF oo99 fun K hK => ?_
    try simp
    repeat' first | ((refine evL_c ?_); simp [-List.map_set, hn, hk, hw, hwd, hw1, hw2, hw3, hop, hkl]) | (with_reducible refine And.intro ?_ ?_) | intro _ | (with_reducible assumption) | omega
    all_goals (refine Fin.go hK ?_; clear hK K)
    simp only [Then_normal]
    refine Run.cond rfl (fun h26 => ?_) (fun h26 => ?_)
    · skip
      refine opsF oo110 fun K hK => ?_
      try simp
      repeat' first | ((refine evL_c ?_); simp [-List.map_set, hn, hk, hw, hwd, hw1, hw2, hw3, hop, hkl]) | (with_reducible refine And.intro ?_ ?_) | intro _ | (with_reducible assumption) | omega
      all_goals (refine Fin.go hK ?_; clear hK K)
      simp only [Blok_normal]
      simp only [Then_normal]
      refine Run.seq ?_
      refine Run.cut [28, 29, 30, 31, 32, 33, 34, 35, 36, 37, 38, 39, 40, 41, 42] [(42, .bool true)] [(300, .vals ((encP p).map .d)), (400, .vals ((encC c).map .d))] ?_ ?_
      · refine opsF oo100 fun K hK => ?_
        try simp
        repeat' first | ((first | refine evL_c ?_ | (refine evL_g rfl ?_; try simp only [gs_tt, gs_ff, gs_tf, gs_ft]) | refine evL_u rfl ?_ | (with_reducible refine gsplit (fun hg => ?_) (fun hg => ?_) <;> try simp at hg)) <;> try simp [-List.map_set, hn, hk, hw, hwd, hw1, hw2, hw3, hop, hkl]) | (with_reducible refine And.intro ?_ ?_) | intro _ | (with_reducible assumption) | omega
        all_goals (refine Fin.go hK ?_; clear hK K)
        all_goals
          (try simp [-List.map_set, hn, hk, hw, hwd, hw1, hw2, hw3, hop, hkl]) <;> (first | omega | (simp; done) | (rw [Bool.eq_iff_iff]; simp only [Bool.or_eq_true, Bool.and_eq_true, Bool.not_eq_true', decide_eq_true_eq, decide_eq_false_iff_not]; omega) | (clear hE; grind) | (simp_all; done) | (simp_all; omega))
      · simp only [over, List.foldl, List.set]
        refine Run.cond rfl (fun h42 => ?_) (fun h42 => ?_)
        · skip
          refine Run.seq ?_
          refine opsF oo31 fun K hK => ?_
          try simp
          repeat' first | ((refine evL_c ?_); simp [-List.map_set, hn, hk, hw, hwd, hw1, hw2, hw3, hop, hkl]) | (with_reducible refine And.intro ?_ ?_) | intro _ | (with_reducible assumption) | omega
          all_goals (refine Fin.go hK ?_; clear hK K)
          simp only [Then_normal]
          refine Run.ret ?_
          try simp only [Then_ret, Blok_ret]
          simp
        · simp at h42
    · simp at h26

set_option maxHeartbeats 4000000 in
theorem rboundX0_ok (c : CoreT) (p : PlanT) (hP : patS c.nodes c.edges = true) (ho1 : ¬ p.op = 1) (ho4 : ¬ p.op = 4) (hkw : p.op < 1 ∨ 6 < p.op ∨ ¬ p.kids.length = 1) : Snd P 38 [.d (.ag (encP p)), .d (.ag (encC c))] vnil [] := by
  obtain ⟨hn1, hn8, hk8⟩ := pat_rng hP
  have hE := goodE_of hP
  obtain ⟨n, hn⟩ : ∃ k, c.nodes.length = k := ⟨_, rfl⟩
  obtain ⟨k, hk⟩ : ∃ k, c.edges.length = k := ⟨_, rfl⟩
  rw [hn] at hn1 hn8
  rw [hk] at hk8
  have hwd : ((n:Int) + k).toNat = n + k := by omega
  have hw : IntKind.i64.wrap ((n:Int) + k) = (n:Int) + k := wrap_id (by omega) (by omega)
  have hw1 : 0 < n + k := by omega
  have hw2 : (n:Int) + k ≤ 140737488355328 := by omega
  have hw3 : (0:Int) ≤ (n:Int) + k := by omega
  obtain ⟨kl, hkl⟩ : ∃ kl, p.kids.length = kl := ⟨_, rfl⟩
  rw [hkl] at hkw
  refine snd_of [] Try.func38 rfl (by kernel_rfl) Try.ntmps38 (by simp) ?_
  unfold Try.f38
  simp only [List.cons_append, List.nil_append, List.length_cons, List.length_nil, Nat.reduceAdd, Nat.reduceSub, List.replicate]
  refine Run.seq ?_
  refine opsF oo94 fun K hK => ?_
  try simp
  repeat' first | ((refine evL_c ?_); simp [-List.map_set, hn, hk, hw, hwd, hw1, hw2, hw3, ho1, ho4, hkl]) | (with_reducible refine And.intro ?_ ?_) | intro _ | (with_reducible assumption) | omega
  all_goals (refine Fin.go hK ?_; clear hK K)
  simp only [Then_normal]
  refine Run.seq ?_
  refine opsF oo95 fun K hK => ?_
  try simp
  repeat' first | ((refine evL_c ?_); simp [-List.map_set, hn, hk, hw, hwd, hw1, hw2, hw3, ho1, ho4, hkl]) | (with_reducible refine And.intro ?_ ?_) | intro _ | (with_reducible assumption) | omega
  all_goals (refine Fin.go hK ?_; clear hK K)
  simp only [Then_normal]
  refine Run.seq ?_
  refine opsF oo96 fun K hK => ?_
  try simp
  repeat' first | ((refine evL_c ?_); simp [-List.map_set, hn, hk, hw, hwd, hw1, hw2, hw3, ho1, ho4, hkl]) | (with_reducible refine And.intro ?_ ?_) | intro _ | (with_reducible assumption) | omega
  all_goals (refine Fin.go hK ?_; clear hK K)
  simp only [Then_normal]
  refine Run.seq ?_
  refine Run.seq ?_
  refine opsF oo97 fun K hK => ?_
  try simp
  repeat' first | ((refine evL_c ?_); simp [-List.map_set, hn, hk, hw, hwd, hw1, hw2, hw3, ho1, ho4, hkl]) | (with_reducible refine And.intro ?_ ?_) | intro _ | (with_reducible assumption) | omega
  all_goals (refine Fin.go hK ?_; clear hK K)
  simp only [Then_normal]
  refine Run.block ?_
  refine Run.seq ?_
  refine opsF oo98 fun K hK => ?_
  try simp
  repeat' first | ((refine evL_c ?_); simp [-List.map_set, hn, hk, hw, hwd, hw1, hw2, hw3, ho1, ho4, hkl]) | (with_reducible refine And.intro ?_ ?_) | intro _ | (with_reducible assumption) | omega
  all_goals (refine Fin.go hK ?_; clear hK K)
  simp only [Then_normal]
  refine Run.cond rfl (fun h24 => ?_) (fun h24 => ?_)
  · simp at h24
  · skip
    refine Run.seq ?_
    refine opsF oo99 fun K hK => ?_
    try simp
    repeat' first | ((refine evL_c ?_); simp [-List.map_set, hn, hk, hw, hwd, hw1, hw2, hw3, ho1, ho4, hkl]) | (with_reducible refine And.intro ?_ ?_) | intro _ | (with_reducible assumption) | omega
    all_goals (refine Fin.go hK ?_; clear hK K)
    simp only [Then_normal]
    refine Run.cond rfl (fun h26 => ?_) (fun h26 => ?_)
    · simp at h26
    · skip
      refine Run.skip ?_
      simp only [Blok_normal]
      simp only [Then_normal]
      refine Run.seq ?_
      refine Run.cut [28, 29, 30, 31, 32, 33, 34, 35, 36, 37, 38, 39, 40, 41, 42] [(42, .bool true)] [(300, .vals ((encP p).map .d)), (400, .vals ((encC c).map .d))] ?_ ?_
      · refine opsF oo100 fun K hK => ?_
        try simp
        repeat' first | ((first | refine evL_c ?_ | (refine evL_g rfl ?_; try simp only [gs_tt, gs_ff, gs_tf, gs_ft]) | refine evL_u rfl ?_ | (with_reducible refine gsplit (fun hg => ?_) (fun hg => ?_) <;> try simp at hg)) <;> try simp [-List.map_set, hn, hk, hw, hwd, hw1, hw2, hw3, ho1, ho4, hkl]) | (with_reducible refine And.intro ?_ ?_) | intro _ | (with_reducible assumption) | omega
        all_goals (refine Fin.go hK ?_; clear hK K)
        all_goals
          (try simp [-List.map_set, hn, hk, hw, hwd, hw1, hw2, hw3, ho1, ho4, hkl]) <;> (first | omega | (simp; done) | (rw [Bool.eq_iff_iff]; simp only [Bool.or_eq_true, Bool.and_eq_true, Bool.not_eq_true', decide_eq_true_eq, decide_eq_false_iff_not]; omega) | (clear hE; grind) | (simp_all; done) | (simp_all; omega))
      · simp only [over, List.foldl, List.set]
        refine Run.cond rfl (fun h42 => ?_) (fun h42 => ?_)
        · skip
          refine Run.seq ?_
          refine opsF oo31 fun K hK => ?_
          try simp
          repeat' first | ((refine evL_c ?_); simp [-List.map_set, hn, hk, hw, hwd, hw1, hw2, hw3, ho1, ho4, hkl]) | (with_reducible refine And.intro ?_ ?_) | intro _ | (with_reducible assumption) | omega
          all_goals (refine Fin.go hK ?_; clear hK K)
          simp only [Then_normal]
          refine Run.ret ?_
          try simp only [Then_ret, Blok_ret]
          simp
        · simp at h42


end Go.Proofs.Ytihbejpkfifplaa.Z
end
section
set_option maxRecDepth 100000
namespace Go.Proofs.Ytihbejpkfifplaa.Z
open Go Go.Fw
set_option maxHeartbeats 4000000 in
theorem rbound4_ok (c : CoreT) (p : PlanT) (hP : patS c.nodes c.edges = true) (hop : p.op = 4) (hkl : p.kids.length = 2) (IH : Snd P 38 [.d (.ag (encP (rdI p.kids 0))), .d (.ag (encC c))] (resB (bndT c (rdI p.kids 0))) (stoB (bndT c (rdI p.kids 0)))) (IH2 : Snd P 38 [.d (.ag (encP (rdI p.kids 1))), .d (.ag (encC c))] (resB (bndT c (rdI p.kids 1))) (stoB (bndT c (rdI p.kids 1)))) (b0 : List Bool) (hq : bndT c (rdI p.kids 0) = some b0) (hb0 : b0.length = c.nodes.length + c.edges.length) (b1 : List Bool) (hr : bndT c (rdI p.kids 1) = some b1) (hb1 : b1.length = c.nodes.length + c.edges.length) : Snd P 38 [.d (.ag (encP p)), .d (.ag (encC c))] (resB (opS c p [b0, b1])) (stoB (opS c p [b0, b1])) := by
  obtain ⟨hn1, hn8, hk8⟩ := pat_rng hP
  have hE := goodE_of hP
  obtain ⟨n, hn⟩ : ∃ k, c.nodes.length = k := ⟨_, rfl⟩
  obtain ⟨k, hk⟩ : ∃ k, c.edges.length = k := ⟨_, rfl⟩
  rw [hn] at hn1 hn8
  rw [hk] at hk8
  have hwd : ((n:Int) + k).toNat = n + k := by omega
  have hw : IntKind.i64.wrap ((n:Int) + k) = (n:Int) + k := wrap_id (by omega) (by omega)
  have hw1 : 0 < n + k := by omega
  have hw2 : (n:Int) + k ≤ 140737488355328 := by omega
  have hw3 : (0:Int) ≤ (n:Int) + k := by omega
  have hb0n : b0.length = n + k := by rw [hb0, hn, hk]
  simp only [hq, resB, stoB, encP_cells, hn, hb0n] at IH
  have hb1n : b1.length = n + k := by rw [hb1, hn, hk]
  simp only [hr, resB, stoB, encP_cells, hn, hb1n] at IH2
  have hsw := jn_swap n b0 b1 (n + k) hb0n hb1n
  refine snd_of [6900] Try.func38 rfl (by kernel_rfl) Try.ntmps38 (by simp) ?_
  unfold Try.f38
  simp only [List.cons_append, List.nil_append, List.length_cons, List.length_nil, Nat.reduceAdd, Nat.reduceSub, List.replicate]
  refine Run.seq ?_
  refine opsF oo94 fun K hK => ?_
  try simp
  repeat' first | ((refine evL_c ?_); simp [-List.map_set, hn, hk, hop, hkl, hw, hwd, hw1, hw2, hw3]) | (with_reducible refine And.intro ?_ ?_) | intro _ | (with_reducible assumption) | omega
  all_goals (refine Fin.go hK ?_; clear hK K)
  simp only [Then_normal]
  refine Run.seq ?_
  refine opsF oo95 fun K hK => ?_
  try simp
  repeat' first | ((refine evL_c ?_); simp [-List.map_set, hn, hk, hop, hkl, hw, hwd, hw1, hw2, hw3]) | (with_reducible refine And.intro ?_ ?_) | intro _ | (with_reducible assumption) | omega
  all_goals (refine Fin.go hK ?_; clear hK K)
  simp only [Then_normal]
  refine Run.seq ?_
  refine opsF oo96 fun K hK => ?_
  try simp
  repeat' first | ((refine evL_c ?_); simp [-List.map_set, hn, hk, hop, hkl, hw, hwd, hw1, hw2, hw3]) | (with_reducible refine And.intro ?_ ?_) | intro _ | (with_reducible assumption) | omega
  all_goals (refine Fin.go hK ?_; clear hK K)
  simp only [Then_normal]
  refine Run.seq ?_
  refine Run.seq ?_
  refine opsF oo97 fun K hK => ?_
  try simp
  repeat' first | ((refine evL_c ?_); simp [-List.map_set, hn, hk, hop, hkl, hw, hwd, hw1, hw2, hw3]) | (with_reducible refine And.intro ?_ ?_) | intro _ | (with_reducible assumption) | omega
  all_goals (refine Fin.go hK ?_; clear hK K)
  simp only [Then_normal]
  refine Run.block ?_
  refine Run.seq ?_
  refine opsF oo98 fun K hK => ?_
  try simp
  repeat' first | ((refine evL_c ?_); simp [-List.map_set, hn, hk, hop, hkl, hw, hwd, hw1, hw2, hw3]) | (with_reducible refine And.intro ?_ ?_) | intro _ | (with_reducible assumption) | omega
  all_goals (refine Fin.go hK ?_; clear hK K)
  simp only [Then_normal]
  refine Run.cond rfl (fun h24 => ?_) (fun h24 => ?_)
  · simp at h24
  · skip
    refine Run.seq ?_
    refine opsF oo99 fun K hK => ?_
    try simp
    repeat' first | ((refine evL_c ?_); simp [-List.map_set, hn, hk, hop, hkl, hw, hwd, hw1, hw2, hw3]) | (with_reducible refine And.intro ?_ ?_) | intro _ | (with_reducible assumption) | omega
    all_goals (refine Fin.go hK ?_; clear hK K)
    simp only [Then_normal]
    refine Run.cond rfl (fun h26 => ?_) (fun h26 => ?_)
    · skip
      refine opsF oo110 fun K hK => ?_
      try simp
      repeat' first | ((refine evL_c ?_); simp [-List.map_set, hn, hk, hop, hkl, hw, hwd, hw1, hw2, hw3]) | (with_reducible refine And.intro ?_ ?_) | intro _ | (with_reducible assumption) | omega
      all_goals (refine Fin.go hK ?_; clear hK K)
      simp only [Blok_normal]
      simp only [Then_normal]
      refine Run.seq ?_
      refine Run.seq ?_
      refine opsF oo100 fun K hK => ?_
      try simp
      repeat' first | ((first | refine evL_c ?_ | (refine evL_g rfl ?_; try simp only [gs_tt, gs_ff, gs_tf, gs_ft]) | refine evL_u rfl ?_ | (with_reducible refine gsplit (fun hg => ?_) (fun hg => ?_) <;> try simp at hg)) <;> try simp [-List.map_set, hn, hk, hop, hkl, hw, hwd, hw1, hw2, hw3]) | (with_reducible refine And.intro ?_ ?_) | intro _ | (with_reducible assumption) | omega
      all_goals (refine Fin.go hK ?_; clear hK K)
      all_goals
        simp only [Then_normal]
        refine Run.cond rfl (fun h42 => ?_) (fun h42 => ?_)
        · simp at h42
        · skip
          refine Run.skip ?_
          simp only [Then_normal]
          refine Run.seq ?_
          refine Run.seq ?_
          refine opsF oo101 fun K hK => ?_
          try simp
          repeat' first | ((refine evL_c ?_); simp [-List.map_set, hn, hk, hop, hkl, hw, hwd, hw1, hw2, hw3]) | (with_reducible refine And.intro ?_ ?_) | intro _ | (with_reducible assumption) | omega
          all_goals (refine Fin.go hK ?_; clear hK K)
          simp only [Then_normal]
          refine Run.cond rfl (fun h44 => ?_) (fun h44 => ?_)
          · simp at h44
          · skip
            refine Run.skip ?_
            simp only [Then_normal]
            refine Run.seq ?_
            refine opsF oo102 fun K hK => ?_
            try simp
            repeat' first | (refine ecall (by have h := IH; exact h) rfl ?_) | ((refine evL_c ?_); simp [-List.map_set, hn, hk, hop, hkl, hw, hwd, hw1, hw2, hw3]) | (with_reducible refine And.intro ?_ ?_) | intro _ | (with_reducible assumption) | omega
            all_goals (refine Fin.go hK ?_; clear hK K)
            simp only [Then_normal]
            refine Run.seq ?_
            refine Run.seq ?_
            refine opsF oo103 fun K hK => ?_
            try simp
            repeat' first | ((refine evL_c ?_); simp [-List.map_set, hn, hk, hop, hkl, hw, hwd, hw1, hw2, hw3]) | (with_reducible refine And.intro ?_ ?_) | intro _ | (with_reducible assumption) | omega
            all_goals (refine Fin.go hK ?_; clear hK K)
            simp only [Then_normal]
            refine Run.cond rfl (fun h70 => ?_) (fun h70 => ?_)
            · simp at h70
            · skip
              refine Run.skip ?_
              simp only [Then_normal]
              refine Run.seq ?_
              refine Run.seq ?_
              refine opsF oo104 fun K hK => ?_
              try simp
              repeat' first | ((refine evL_c ?_); simp [-List.map_set, hn, hk, hop, hkl, hw, hwd, hw1, hw2, hw3]) | (with_reducible refine And.intro ?_ ?_) | intro _ | (with_reducible assumption) | omega
              all_goals (refine Fin.go hK ?_; clear hK K)
              simp only [Then_normal]
              refine Run.block ?_
              refine Run.seq ?_
              refine Run.seq ?_
              refine opsF oo105 fun K hK => ?_
              try simp
              repeat' first | ((refine evL_c ?_); simp [-List.map_set, hn, hk, hop, hkl, hw, hwd, hw1, hw2, hw3]) | (with_reducible refine And.intro ?_ ?_) | intro _ | (with_reducible assumption) | omega
              all_goals (refine Fin.go hK ?_; clear hK K)
              simp only [Then_normal]
              refine Run.cond rfl (fun h73 => ?_) (fun h73 => ?_)
              · simp at h73
              · skip
                refine opsF oo106 fun K hK => ?_
                try simp
                repeat' first | ((refine evL_c ?_); simp [-List.map_set, hn, hk, hop, hkl, hw, hwd, hw1, hw2, hw3]) | (with_reducible refine And.intro ?_ ?_) | intro _ | (with_reducible assumption) | omega
                all_goals (refine Fin.go hK ?_; clear hK K)
                simp only [Then_normal]
                refine Run.cond rfl (fun h73 => ?_) (fun h73 => ?_)
                · simp at h73
                · skip
                  refine Run.seq ?_
                  refine opsF oo108 fun K hK => ?_
                  try simp
                  repeat' first | ((refine evL_c ?_); simp [-List.map_set, hn, hk, hop, hkl, hw, hwd, hw1, hw2, hw3]) | (with_reducible refine And.intro ?_ ?_) | intro _ | (with_reducible assumption) | omega
                  all_goals (refine Fin.go hK ?_; clear hK K)
                  simp only [Then_normal]
                  refine Run.cond rfl (fun h105 => ?_) (fun h105 => ?_)
                  · skip
                    refine Run.seq ?_
                    refine opsF oo111 fun K hK => ?_
                    try simp
                    repeat' first | (refine ecall (by have h := IH2; exact h) rfl ?_) | ((refine evL_c ?_); simp [-List.map_set, hn, hk, hop, hkl, hw, hwd, hw1, hw2, hw3]) | (with_reducible refine And.intro ?_ ?_) | intro _ | (with_reducible assumption) | omega
                    all_goals (refine Fin.go hK ?_; clear hK K)
                    simp only [Then_normal]
                    refine Run.seq ?_
                    refine Run.seq ?_
                    refine opsF oo112 fun K hK => ?_
                    try simp
                    repeat' first | ((refine evL_c ?_); simp [-List.map_set, hn, hk, hop, hkl, hw, hwd, hw1, hw2, hw3]) | (with_reducible refine And.intro ?_ ?_) | intro _ | (with_reducible assumption) | omega
                    all_goals (refine Fin.go hK ?_; clear hK K)
                    simp only [Then_normal]
                    refine Run.cond rfl (fun h114 => ?_) (fun h114 => ?_)
                    · simp at h114
                    · skip
                      refine Run.skip ?_
                      simp only [Then_normal]
                      refine Run.seq ?_
                      refine opsF [⟨Op.assign (Operand.const (Value.int IntKind.i64 0)), some 11, none⟩] fun K hK => ?_
                      try simp
                      repeat' first | ((refine evL_c ?_); simp [-List.map_set, hn, hk, hop, hkl, hw, hwd, hw1, hw2, hw3]) | (with_reducible refine And.intro ?_ ?_) | intro _ | (with_reducible assumption) | omega
                      all_goals (refine Fin.go hK ?_; clear hK K)
                      simp only [Then_normal]
                      refine Run.block ?_
                      refine Run.loopO [4, 11, 115, 116, 117, 118, 119, 120, 121, 122, 123, 124, 125, 126, 127, 128, 129, 130, 131, 132, 133, 134, 135, 136, 137, 138, 139, 140, 141, 142, 143, 144, 145, 146, 147, 148, 149] (fun (i : Nat) => [(11, .int i)]) (fun (i : Nat) => [(300, .vals ((encP p).map .d)), (400, .vals ((encC c).map .d)), (6900, .data 1 ((jn n b1 b0 i).2.map encB)), (11300, .data 1 (b1.map encB))]) (fun (i : Nat) => i ≤ n + k ∧ (jn n b1 b0 i).1 = true) (fun (i : Nat) => n + k - i) 0 ⟨by omega, rfl⟩ (by simp [jn, hn, hk, hb0n, hb1n, hop]) fun i ⟨hi, hgd⟩ => ?_
                      simp only [over, List.foldl, List.set]
                      obtain ⟨bb, hbb⟩ : ∃ x, (jn n b1 b0 i).2 = x := ⟨_, rfl⟩
                      have hjl : bb.length = n + k := by rw [← hbb, jn_len, hb0n]
                      rw [hbb]
                      refine Run.seq ?_
                      refine Run.seq ?_
                      refine opsF [⟨Op.move (Operand.tmp 11), some 115, none⟩, ⟨Op.move (Operand.tmp 5), some 116, none⟩, ⟨Op.binOp BinOp.lss 3 (Operand.tmp 115) (Operand.tmp 116) 3, some 117, none⟩] fun K hK => ?_
                      try simp
                      repeat' first | ((refine evL_c ?_); simp [-List.map_set, hn, hk, hop, hkl, hw, hwd, hw1, hw2, hw3]) | (with_reducible refine And.intro ?_ ?_) | intro _ | (with_reducible assumption) | omega
                      all_goals (refine Fin.go hK ?_; clear hK K)
                      simp only [Then_normal]
                      refine Run.cond rfl (fun h117 => ?_) (fun h117 => ?_)
                      · try simp at h117
                        have hi1 : i < n + k := by omega
                        have hi2 : (i:Int) < n + k := by omega
                        obtain ⟨cj, hj⟩ : ∃ x, (rdI b1 i && (rdI bb i && decide ((n:Int) ≤ i))) = x := ⟨_, rfl⟩
                        refine Run.skip ?_
                        simp only [Then_normal]
                        refine Run.seq ?_
                        refine Run.block ?_
                        refine Run.seq ?_
                        refine Run.cut [120, 121, 122, 123, 124, 125, 126, 127, 128, 129, 130, 131, 132, 133, 134, 135, 136] [(136, .bool cj)] [(300, .vals ((encP p).map .d)), (400, .vals ((encC c).map .d)), (6900, .data 1 (bb.map encB)), (11300, .data 1 (b1.map encB))] ?_ ?_
                        · refine opsF [⟨Op.move (Operand.tmp 11), some 120, none⟩, ⟨Op.fieldAddr 33 (Operand.tmp 3) 0, some 121, none⟩, ⟨Op.load 28 (Operand.tmp 121), some 122, none⟩, ⟨Op.call { callee := Callee.builtin Builtin.len, args := #[Operand.tmp 122], argTypes := #[28] }, some 123, none⟩, ⟨Op.binOp BinOp.geq 3 (Operand.tmp 120) (Operand.tmp 123) 3, some 124, none⟩, ⟨Op.move (Operand.tmp 124), some 125, none⟩, ⟨Op.move (Operand.tmp 8), some 126, some (some 125, true)⟩, ⟨Op.move (Operand.tmp 11), some 127, some (some 125, true)⟩, ⟨Op.indexAddr 60 (Operand.tmp 126) (Operand.tmp 127), some 128, some (some 125, true)⟩, ⟨Op.load 4 (Operand.tmp 128), some 129, some (some 125, true)⟩, ⟨Op.pick (Operand.tmp 125) (Operand.tmp 129) (Operand.const (Value.bool false)), some 130, none⟩, ⟨Op.move (Operand.tmp 130), some 131, none⟩, ⟨Op.move (Operand.tmp 10), some 132, some (some 131, true)⟩, ⟨Op.move (Operand.tmp 11), some 133, some (some 131, true)⟩, ⟨Op.indexAddr 60 (Operand.tmp 132) (Operand.tmp 133), some 134, some (some 131, true)⟩, ⟨Op.load 4 (Operand.tmp 134), some 135, some (some 131, true)⟩, ⟨Op.pick (Operand.tmp 131) (Operand.tmp 135) (Operand.const (Value.bool false)), some 136, none⟩] fun K hK => ?_
                          try simp
                          repeat' first | ((first | refine evL_c ?_ | (refine evL_g rfl ?_; try simp only [gs_tt, gs_ff, gs_tf, gs_ft]) | refine evL_u rfl ?_ | (with_reducible refine gsplit (fun hg => ?_) (fun hg => ?_) <;> try simp at hg)) <;> try simp [-List.map_set, hn, hk, hop, hkl, hw, hwd, hw1, hw2, hw3, hb0n, hb1n, hjl, hi1, hi2, *]) | (with_reducible refine And.intro ?_ ?_) | intro _ | (with_reducible assumption) | omega
                          all_goals (refine Fin.go hK ?_; clear hK K)
                          all_goals
                            rw [← hj]
                            (try simp [-List.map_set, hn, hk, hop, hkl, hw, hwd, hw1, hw2, hw3, hb0n, hb1n, hjl, hi1, hi2]) <;> (first | omega | (simp; done) | (rw [Bool.eq_iff_iff]; simp only [Bool.or_eq_true, Bool.and_eq_true, Bool.not_eq_true', decide_eq_true_eq, decide_eq_false_iff_not]; omega) | (clear hE; grind) | (simp_all; done) | (simp_all; omega))
                        · simp only [over, List.foldl, List.set]
                          refine Run.cond rfl (fun h136 => ?_) (fun h136 => ?_)
                          · subst h136
                            refine Run.seq ?_
                            refine opsF oo31 fun K hK => ?_
                            try simp
                            repeat' first | ((refine evL_c ?_); simp [-List.map_set, hn, hk, hop, hkl, hw, hwd, hw1, hw2, hw3, hb0n, hb1n, hjl, hi1, hi2]) | (with_reducible refine And.intro ?_ ?_) | intro _ | (with_reducible assumption) | omega
                            all_goals (refine Fin.go hK ?_; clear hK K)
                            simp only [Then_normal]
                            refine Run.drop [] (by simp) ?_
                            refine Run.ret ?_
                            try simp only [Then_ret, Blok_ret]
                            first
                              | (have e : opS c p [b0, b1] = none := by
                                   have h1 : (jn n b1 b0 (i + 1)).1 = false := by rw [jn]; simp only []; rw [hbb, hj]; simp
                                   have h2 := jn_false (w := n + k) (by omega) h1
                                   rw [← hsw] at h2
                                   simp [opS, hop, hn, hk, h2]
                                 rw [e]
                                 simp [resB, stoB, hn]; done)
                              | (have e : opS c p [b0, b1] = some bb := by
                                   rw [← hsw] at hgd hbb
                                   simp [opS, hop, hn, hk, hgd, hbb]
                                 rw [e]
                                 simp [-List.map_set, resB, stoB, hn, hjl]; done)
                          · subst h136
                            refine Run.skip ?_
                            simp only [Then_normal]
                            refine opsF [⟨Op.move (Operand.tmp 8), some 137, none⟩, ⟨Op.move (Operand.tmp 11), some 138, none⟩, ⟨Op.move (Operand.tmp 8), some 139, none⟩, ⟨Op.move (Operand.tmp 11), some 140, none⟩, ⟨Op.indexAddr 60 (Operand.tmp 139) (Operand.tmp 140), some 141, none⟩, ⟨Op.load 4 (Operand.tmp 141), some 142, none⟩, ⟨Op.move (Operand.tmp 142), some 143, none⟩, ⟨Op.move (Operand.tmp 10), some 144, some (some 143, false)⟩, ⟨Op.move (Operand.tmp 11), some 145, some (some 143, false)⟩, ⟨Op.indexAddr 60 (Operand.tmp 144) (Operand.tmp 145), some 146, some (some 143, false)⟩, ⟨Op.load 4 (Operand.tmp 146), some 147, some (some 143, false)⟩, ⟨Op.pick (Operand.tmp 143) (Operand.const (Value.bool true)) (Operand.tmp 147), some 148, none⟩, ⟨Op.indexAddr 60 (Operand.tmp 137) (Operand.tmp 138), some 149, none⟩, ⟨Op.store 4 (Operand.tmp 149) (Operand.tmp 148), none, none⟩] fun K hK => ?_
                            try simp
                            repeat' first | ((first | refine evL_c ?_ | (refine evL_g rfl ?_; try simp only [gs_tt, gs_ff, gs_tf, gs_ft]) | refine evL_u rfl ?_ | (with_reducible refine gsplit (fun hg => ?_) (fun hg => ?_) <;> try simp at hg)) <;> try simp [-List.map_set, hn, hk, hop, hkl, hw, hwd, hw1, hw2, hw3, hb0n, hb1n, hjl, hi1, hi2]) | (with_reducible refine And.intro ?_ ?_) | intro _ | (with_reducible assumption) | omega
                            all_goals (refine Fin.go hK ?_; clear hK K)
                            all_goals
                              simp only [Blok_normal]
                              simp only [Then_normal]
                              refine opsF [⟨Op.move (Operand.tmp 11), some 118, none⟩, ⟨Op.binOp BinOp.add 3 (Operand.tmp 118) (Operand.const (Value.int IntKind.i64 1)) 3, some 119, none⟩, ⟨Op.assign (Operand.tmp 119), some 11, none⟩] fun K hK => ?_
                              try simp
                              repeat' first | ((refine evL_c ?_); simp [-List.map_set, hn, hk, hop, hkl, hw, hwd, hw1, hw2, hw3, hb0n, hb1n, hjl, hi1, hi2]) | (with_reducible refine And.intro ?_ ?_) | intro _ | (with_reducible assumption) | omega
                              all_goals (refine Fin.go hK ?_; clear hK K)
                              refine ⟨i + 1, ⟨by omega, by rw [jn]; simp only []; rw [hgd, hbb, hj]; rfl⟩, by omega, ?_⟩
                              simp (disch := omega) [-List.map_set, hn, hk, hop, hkl, hw, hwd, hw1, hw2, hw3, jn, hbb, hg, wrap_id]
                      · try simp at h117
                        have hi3 : i = n + k := by omega
                        subst hi3
                        refine Run.exit ?_
                        simp (decide := true) only [Then_exit, Blok_exit, if_true, if_false]
                        simp only [Blok_normal]
                        simp only [Then_normal]
                        refine Run.seq ?_
                        refine opsF oo107 fun K hK => ?_
                        try simp
                        repeat' first | ((refine evL_c ?_); simp [-List.map_set, hn, hk, hop, hkl, hw, hwd, hw1, hw2, hw3, hjl]) | (with_reducible refine And.intro ?_ ?_) | intro _ | (with_reducible assumption) | omega
                        all_goals (refine Fin.go hK ?_; clear hK K)
                        simp only [Then_normal]
                        refine Run.ret ?_
                        try simp only [Then_ret, Blok_ret]
                        first
                          | (have e : opS c p [b0, b1] = none := by
                               have h1 : (jn n b1 b0 (i + 1)).1 = false := by rw [jn]; simp only []; rw [hbb, hj]; simp
                               have h2 := jn_false (w := n + k) (by omega) h1
                               rw [← hsw] at h2
                               simp [opS, hop, hn, hk, h2]
                             rw [e]
                             simp [resB, stoB, hn]; done)
                          | (have e : opS c p [b0, b1] = some bb := by
                               rw [← hsw] at hgd hbb
                               simp [opS, hop, hn, hk, hgd, hbb]
                             rw [e]
                             simp [-List.map_set, resB, stoB, hn, hjl]; done)
                  · simp at h105
    · simp at h26


end Go.Proofs.Ytihbejpkfifplaa.Z
end
section
set_option maxRecDepth 100000
namespace Go.Proofs.Ytihbejpkfifplaa.Z
open Go Go.Fw
theorem pat_bad {c : CoreT} {i : Nat} (hi : i < c.edges.length) (h : badE c.nodes.length (rdI c.edges i) = true) : patS c.nodes c.edges = false := by
  have : c.edges.any (badE c.nodes.length) = true := List.any_eq_true.2 ⟨_, rdI_mem (l := c.edges) (i := i) (by omega) (by omega), h⟩
  simp [patS, this]
theorem pat_good {c : CoreT} (h1 : 1 ≤ c.nodes.length) (h2 : c.nodes.length ≤ 8) (h3 : c.edges.length ≤ 8) (h : ∀ j, j < c.edges.length → badE c.nodes.length (rdI c.edges (j : Nat)) = false) : patS c.nodes c.edges = true := by
  have : c.edges.any (badE c.nodes.length) = false := by
    rw [List.any_eq_false]
    intro x hx
    obtain ⟨j, hj⟩ := List.getElem?_of_mem hx
    have := h j (List.getElem?_eq_some_iff.1 hj).1
    unfold rdI at this
    rw [Int.toNat_natCast, List.getD_eq_getElem?_getD, hj] at this
    simpa using this
  simp [patS, this, h1, h2, h3]
set_option maxHeartbeats 4000000 in
theorem rpattern_ok (c : CoreT) : Snd P 29 [.d (.ag (encC c))] (.bool (patS c.nodes c.edges)) [] := by
  obtain ⟨n, hn⟩ : ∃ n, c.nodes.length = n := ⟨_, rfl⟩
  obtain ⟨m, hm⟩ : ∃ m, c.edges.length = m := ⟨_, rfl⟩
  refine snd_of [] Try.func29 rfl (by kernel_rfl) Try.ntmps29 (by simp) ?_
  unfold Try.f29
  simp only [List.cons_append, List.nil_append, List.length_cons, List.length_nil, Nat.reduceAdd, Nat.reduceSub, List.replicate]
  refine Run.seq ?_
  refine Run.opsL false [⟨Op.box 33 (Operand.tmp 0), some 1, none⟩, ⟨Op.assign (Operand.const (Value.bool false)), some 2, none⟩] mixed (by decide) rfl fun K hK => ?_
  try simp
  repeat' first | (simp only [evL_cons, evL_guard]; simp [hn, hm]) | (refine gsplit (fun hg => ?_) (fun hg => ?_) <;> (try simp at hg) <;> (try simp [hn, hm])) | (with_reducible assumption) | omega | refine And.intro ?_ ?_ | intro _
  all_goals (try simp only [evL_nil]; refine hK _ _ ?_; clear hK K)
  simp only [Then_normal]
  refine Run.seq ?_
  refine Run.opsL false [⟨Op.fieldAddr 33 (Operand.tmp 1) 0, some 6, none⟩, ⟨Op.load 28 (Operand.tmp 6), some 7, none⟩, ⟨Op.call { callee := Callee.builtin Builtin.len, args := #[Operand.tmp 7], argTypes := #[28] }, some 8, none⟩, ⟨Op.assign (Operand.tmp 8), some 3, none⟩] mixed (by decide) rfl fun K hK => ?_
  try simp
  repeat' first | (simp only [evL_cons, evL_guard]; simp [hn, hm]) | (refine gsplit (fun hg => ?_) (fun hg => ?_) <;> (try simp at hg) <;> (try simp [hn, hm])) | (with_reducible assumption) | omega | refine And.intro ?_ ?_ | intro _
  all_goals (try simp only [evL_nil]; refine hK _ _ ?_; clear hK K)
  simp only [Then_normal]
  refine Run.seq ?_
  refine Run.cut [9, 10, 11, 12, 13, 14, 15, 16, 17, 18, 19, 20] [(20, .bool (decide (n < 1 ∨ 8 < n ∨ 8 < m)))] [(200, .vals ((encC c).map .d))] ?_ ?_
  · refine Run.opsL false [⟨Op.move (Operand.tmp 3), some 9, none⟩, ⟨Op.binOp BinOp.lss 3 (Operand.tmp 9) (Operand.const (Value.int IntKind.i64 1)) 3, some 10, none⟩, ⟨Op.move (Operand.tmp 10), some 11, none⟩, ⟨Op.move (Operand.tmp 3), some 12, some (some 11, false)⟩, ⟨Op.binOp BinOp.gtr 3 (Operand.tmp 12) (Operand.const (Value.int IntKind.i64 8)) 3, some 13, some (some 11, false)⟩, ⟨Op.pick (Operand.tmp 11) (Operand.const (Value.bool true)) (Operand.tmp 13), some 14, none⟩, ⟨Op.move (Operand.tmp 14), some 15, none⟩, ⟨Op.fieldAddr 33 (Operand.tmp 1) 1, some 16, some (some 15, false)⟩, ⟨Op.load 29 (Operand.tmp 16), some 17, some (some 15, false)⟩, ⟨Op.call { callee := Callee.builtin Builtin.len, args := #[Operand.tmp 17], argTypes := #[29] }, some 18, some (some 15, false)⟩, ⟨Op.binOp BinOp.gtr 3 (Operand.tmp 18) (Operand.const (Value.int IntKind.i64 8)) 3, some 19, some (some 15, false)⟩, ⟨Op.pick (Operand.tmp 15) (Operand.const (Value.bool true)) (Operand.tmp 19), some 20, none⟩] mixed (by decide) rfl fun K hK => ?_
    try simp
    repeat' first | (simp only [evL_cons, evL_guard]; simp [hn, hm]) | (refine gsplit (fun hg => ?_) (fun hg => ?_) <;> (try simp at hg) <;> (try simp [hn, hm])) | (with_reducible assumption) | omega | refine And.intro ?_ ?_ | intro _
    all_goals (try simp only [evL_nil]; refine hK _ _ ?_; clear hK K)
    all_goals
      simp [hn, hm]
      first | omega | (rw [Bool.eq_iff_iff]; simp; omega) | (intros; omega)
  · simp only [over, List.foldl, List.set]
    refine Run.cond rfl (fun h20 => ?_) (fun h20 => ?_)
    · replace h20 := of_decide_eq_true h20
      refine Run.seq ?_
      refine Run.opsL false [⟨Op.assign (Operand.const (Value.bool false)), some 2, none⟩] mixed (by decide) rfl fun K hK => ?_
      try simp
      repeat' first | (simp only [evL_cons, evL_guard]; simp [hn, hm]) | (refine gsplit (fun hg => ?_) (fun hg => ?_) <;> (try simp at hg) <;> (try simp [hn, hm])) | (with_reducible assumption) | omega | refine And.intro ?_ ?_ | intro _
      all_goals (try simp only [evL_nil]; refine hK _ _ ?_; clear hK K)
      simp only [Then_normal]
      refine Run.ret ?_
      try simp only [Then_ret, Blok_ret]
      first
        | (have e : patS c.nodes c.edges = false := by
             simp only [patS, Bool.and_eq_false_iff, decide_eq_false_iff_not]; omega
           simp [e]; done)
        | (have e : patS c.nodes c.edges = false := pat_bad (by omega) h52
           simp [e]; done)
        | (have e : patS c.nodes c.edges = true := pat_good (by omega) (by omega) he8 (fun j hj => hz j (by omega))
           simp [e])
    · replace h20 := of_decide_eq_false h20
      have hn1 : 1 ≤ c.nodes.length := by omega
      have hn2 : c.nodes.length ≤ 8 := by omega
      have he8 : c.edges.length ≤ 8 := by omega
      clear h20
      refine Run.skip ?_
      simp only [Then_normal]
      refine Run.seq ?_
      refine Run.seq ?_
      refine Run.opsL false [⟨Op.assign (Operand.const (Value.int IntKind.i64 0)), some 4, none⟩] mixed (by decide) rfl fun K hK => ?_
      try simp
      repeat' first | (simp only [evL_cons, evL_guard]; simp [hn, hm]) | (refine gsplit (fun hg => ?_) (fun hg => ?_) <;> (try simp at hg) <;> (try simp [hn, hm])) | (with_reducible assumption) | omega | refine And.intro ?_ ?_ | intro _
      all_goals (try simp only [evL_nil]; refine hK _ _ ?_; clear hK K)
      simp only [Then_normal]
      refine Run.block ?_
      refine Run.loopO [2, 4, 5, 21, 22, 23, 24, 25, 26, 27, 28, 29, 30, 31, 32, 33, 34, 35, 36, 37, 38, 39, 40, 41, 42, 43, 44, 45, 46, 47, 48, 49, 50, 51, 52] (fun (i : Nat) => [(4, .int i)]) (fun (i : Nat) => [(200, .vals ((encC c).map .d))]) (fun (i : Nat) => i ≤ c.edges.length ∧ ∀ j, j < i → badE c.nodes.length (rdI c.edges (j : Nat)) = false) (fun (i : Nat) => c.edges.length - i) 0 (by simp) (by simp) fun i ⟨hi, hz⟩ => ?_
      simp only [over, List.foldl, List.set]
      refine Run.seq ?_
      refine Run.seq ?_
      refine Run.opsL false [⟨Op.move (Operand.tmp 4), some 21, none⟩, ⟨Op.fieldAddr 33 (Operand.tmp 1) 1, some 22, none⟩, ⟨Op.load 29 (Operand.tmp 22), some 23, none⟩, ⟨Op.call { callee := Callee.builtin Builtin.len, args := #[Operand.tmp 23], argTypes := #[29] }, some 24, none⟩, ⟨Op.binOp BinOp.lss 3 (Operand.tmp 21) (Operand.tmp 24) 3, some 25, none⟩] mixed (by decide) rfl fun K hK => ?_
      try simp
      repeat' first | (simp only [evL_cons, evL_guard]; simp [hn, hm]) | (refine gsplit (fun hg => ?_) (fun hg => ?_) <;> (try simp at hg) <;> (try simp [hn, hm])) | (with_reducible assumption) | omega | refine And.intro ?_ ?_ | intro _
      all_goals (try simp only [evL_nil]; refine hK _ _ ?_; clear hK K)
      simp only [Then_normal]
      refine Run.cond rfl (fun h25 => ?_) (fun h25 => ?_)
      · try simp at h25
        refine Run.skip ?_
        simp only [Then_normal]
        refine Run.seq ?_
        refine Run.block ?_
        refine Run.seq ?_
        refine Run.opsL false [⟨Op.fieldAddr 33 (Operand.tmp 1) 1, some 28, none⟩, ⟨Op.load 29 (Operand.tmp 28), some 29, none⟩, ⟨Op.move (Operand.tmp 4), some 30, none⟩, ⟨Op.indexAddr 29 (Operand.tmp 29) (Operand.tmp 30), some 31, none⟩, ⟨Op.load 105 (Operand.tmp 31), some 32, none⟩, ⟨Op.alloc 105, some 5, none⟩, ⟨Op.store 105 (Operand.tmp 5) (Operand.tmp 32), none, none⟩] mixed (by decide) rfl fun K hK => ?_
        try simp
        repeat' first | (simp only [evL_cons, evL_guard]; simp [hn, hm, h25]) | (refine gsplit (fun hg => ?_) (fun hg => ?_) <;> (try simp at hg) <;> (try simp [hn, hm, h25])) | (with_reducible assumption) | omega | refine And.intro ?_ ?_ | intro _
        all_goals (try simp only [evL_nil]; refine hK _ _ ?_; clear hK K)
        simp only [Then_normal]
        refine Run.cut [33, 34, 35, 36, 37, 38, 39, 40, 41, 42, 43, 44, 45, 46, 47, 48, 49, 50, 51, 52] [(52, .bool (badE c.nodes.length (rdI c.edges i)))] [(200, .vals ((encC c).map .d))] ?_ ?_
        · refine Run.opsL false [⟨Op.fieldAddr 105 (Operand.tmp 5) 2, some 33, none⟩, ⟨Op.load 3 (Operand.tmp 33), some 34, none⟩, ⟨Op.binOp BinOp.lss 3 (Operand.tmp 34) (Operand.const (Value.int IntKind.i64 0)) 3, some 35, none⟩, ⟨Op.move (Operand.tmp 35), some 36, none⟩, ⟨Op.fieldAddr 105 (Operand.tmp 5) 2, some 37, some (some 36, false)⟩, ⟨Op.load 3 (Operand.tmp 37), some 38, some (some 36, false)⟩, ⟨Op.move (Operand.tmp 3), some 39, some (some 36, false)⟩, ⟨Op.binOp BinOp.geq 3 (Operand.tmp 38) (Operand.tmp 39) 3, some 40, some (some 36, false)⟩, ⟨Op.pick (Operand.tmp 36) (Operand.const (Value.bool true)) (Operand.tmp 40), some 41, none⟩, ⟨Op.move (Operand.tmp 41), some 42, none⟩, ⟨Op.fieldAddr 105 (Operand.tmp 5) 3, some 43, some (some 42, false)⟩, ⟨Op.load 3 (Operand.tmp 43), some 44, some (some 42, false)⟩, ⟨Op.binOp BinOp.lss 3 (Operand.tmp 44) (Operand.const (Value.int IntKind.i64 0)) 3, some 45, some (some 42, false)⟩, ⟨Op.pick (Operand.tmp 42) (Operand.const (Value.bool true)) (Operand.tmp 45), some 46, none⟩, ⟨Op.move (Operand.tmp 46), some 47, none⟩, ⟨Op.fieldAddr 105 (Operand.tmp 5) 3, some 48, some (some 47, false)⟩, ⟨Op.load 3 (Operand.tmp 48), some 49, some (some 47, false)⟩, ⟨Op.move (Operand.tmp 3), some 50, some (some 47, false)⟩, ⟨Op.binOp BinOp.geq 3 (Operand.tmp 49) (Operand.tmp 50) 3, some 51, some (some 47, false)⟩, ⟨Op.pick (Operand.tmp 47) (Operand.const (Value.bool true)) (Operand.tmp 51), some 52, none⟩] mixed (by decide) rfl fun K hK => ?_
          try simp
          repeat' first | (simp only [evL_cons, evL_guard]; simp [hn, hm, h25]) | (refine gsplit (fun hg => ?_) (fun hg => ?_) <;> (try simp at hg) <;> (try simp [hn, hm, h25])) | (with_reducible assumption) | omega | refine And.intro ?_ ?_ | intro _
          all_goals (try simp only [evL_nil]; refine hK _ _ ?_; clear hK K)
          all_goals
            first | (simp_all [badE]; done) | (simp_all [badE]; omega) | (simp_all [badE]; grind)
        · simp only [over, List.foldl, List.set]
          refine Run.cond rfl (fun h52 => ?_) (fun h52 => ?_)
          · try simp at h52
            refine Run.seq ?_
            refine Run.opsL false [⟨Op.assign (Operand.const (Value.bool false)), some 2, none⟩] mixed (by decide) rfl fun K hK => ?_
            try simp
            repeat' first | (simp only [evL_cons, evL_guard]; simp [hn, hm, h25, h52]) | (refine gsplit (fun hg => ?_) (fun hg => ?_) <;> (try simp at hg) <;> (try simp [hn, hm, h25, h52])) | (with_reducible assumption) | omega | refine And.intro ?_ ?_ | intro _
            all_goals (try simp only [evL_nil]; refine hK _ _ ?_; clear hK K)
            simp only [Then_normal]
            refine Run.ret ?_
            try simp only [Then_ret, Blok_ret]
            first
              | (have e : patS c.nodes c.edges = false := by
                   simp only [patS, Bool.and_eq_false_iff, decide_eq_false_iff_not]; omega
                 simp [e]; done)
              | (have e : patS c.nodes c.edges = false := pat_bad (by omega) h52
                 simp [e]; done)
              | (have e : patS c.nodes c.edges = true := pat_good (by omega) (by omega) he8 (fun j hj => hz j (by omega))
                 simp [e])
          · try simp at h52
            refine Run.skip ?_
            simp only [Blok_normal]
            simp only [Then_normal]
            refine Run.opsL false [⟨Op.move (Operand.tmp 4), some 26, none⟩, ⟨Op.binOp BinOp.add 3 (Operand.tmp 26) (Operand.const (Value.int IntKind.i64 1)) 3, some 27, none⟩, ⟨Op.assign (Operand.tmp 27), some 4, none⟩] mixed (by decide) rfl fun K hK => ?_
            try simp
            repeat' first | (simp only [evL_cons, evL_guard]; simp [hn, hm, h25, h52]) | (refine gsplit (fun hg => ?_) (fun hg => ?_) <;> (try simp at hg) <;> (try simp [hn, hm, h25, h52])) | (with_reducible assumption) | omega | refine And.intro ?_ ?_ | intro _
            all_goals (try simp only [evL_nil]; refine hK _ _ ?_; clear hK K)
            refine ⟨i + 1, ⟨by omega, fun j hj => ?_⟩, by omega, ?_⟩
            · by_cases e : j = i
              · subst e; exact h52
              · exact hz j (by omega)
            · simp (disch := omega) [wrap_id]
      · try simp at h25
        refine Run.exit ?_
        simp (decide := true) only [Then_exit, Blok_exit, if_true, if_false]
        simp only [Then_normal]
        refine Run.seq ?_
        refine Run.opsL false [⟨Op.assign (Operand.const (Value.bool true)), some 2, none⟩] mixed (by decide) rfl fun K hK => ?_
        try simp
        repeat' first | (simp only [evL_cons, evL_guard]; simp [hn, hm, h25]) | (refine gsplit (fun hg => ?_) (fun hg => ?_) <;> (try simp at hg) <;> (try simp [hn, hm, h25])) | (with_reducible assumption) | omega | refine And.intro ?_ ?_ | intro _
        all_goals (try simp only [evL_nil]; refine hK _ _ ?_; clear hK K)
        simp only [Then_normal]
        refine Run.ret ?_
        try simp only [Then_ret, Blok_ret]
        first
          | (have e : patS c.nodes c.edges = false := by
               simp only [patS, Bool.and_eq_false_iff, decide_eq_false_iff_not]; omega
             simp [e]; done)
          | (have e : patS c.nodes c.edges = false := pat_bad (by omega) h52
             simp [e]; done)
          | (have e : patS c.nodes c.edges = true := pat_good (by omega) (by omega) he8 (fun j hj => hz j (by omega))
             simp [e])


end Go.Proofs.Ytihbejpkfifplaa.Z
end
section
set_option maxRecDepth 100000
namespace Go.Proofs.Ytihbejpkfifplaa.Z
open Go Go.Fw
theorem rbound_ok (c : CoreT) (hP : patS c.nodes c.edges = true) (p : PlanT) (hf : partsP p ≤ 1000000) : Snd P 38 [.d (.ag (encP p)), .d (.ag (encC c))] (resB (bndT c p)) (stoB (bndT c p)) := by
  by_cases hw : wants p.op = some p.kids.length
  · have h0 := wants_op hw
    have one : wants p.op = some 1 → p.kids.length = 1 → (∀ hq : bndT c (rdI p.kids 0) = none, Snd P 38 [.d (.ag (encP p)), .d (.ag (encC c))] vnil []) →
        (∀ b0, bndT c (rdI p.kids 0) = some b0 → b0.length = c.nodes.length + c.edges.length → Snd P 38 [.d (.ag (encP p)), .d (.ag (encC c))] (resB (opS c p [b0])) (stoB (opS c p [b0]))) → Snd P 38 [.d (.ag (encP p)), .d (.ag (encC c))] (resB (bndT c p)) (stoB (bndT c p)) := fun h1 h2 hn hs => by
      rw [bnd_one h2 h1]
      cases hq : bndT c (rdI p.kids 0) with
      | none => exact hn hq
      | some b0 => exact hs b0 hq (bndT_len c _ _ hq)
    have IH0 : 0 < p.kids.length → Snd P 38 [.d (.ag (encP (rdI p.kids 0))), .d (.ag (encC c))] (resB (bndT c (rdI p.kids 0))) (stoB (bndT c (rdI p.kids 0))) := fun h =>
      have := kids_lt (kid_mem (i := 0) h)
      rbound_ok c hP (rdI p.kids 0) (kid_fine (i := 0) hf h)
    have IH1 : 1 < p.kids.length → Snd P 38 [.d (.ag (encP (rdI p.kids 1))), .d (.ag (encC c))] (resB (bndT c (rdI p.kids 1))) (stoB (bndT c (rdI p.kids 1))) := fun h =>
      have := kids_lt (kid_mem (i := 1) h)
      rbound_ok c hP (rdI p.kids 1) (kid_fine (i := 1) hf h)
    rcases h0 with e | e | e | e | e | e
    · have hl : p.kids.length = 0 := by rw [e] at hw; simp [wants] at hw; omega
      have h := rbound1_ok c p hP e hl
      have e2 : bndT c p = opS c p [] := by
        rw [bndT_eq, if_pos hw, List.length_eq_zero_iff.1 hl, bndL]; rfl
      rw [e2]; exact h
    · have hl : p.kids.length = 1 := by rw [e] at hw; simp [wants] at hw; omega
      exact one (by rw [hw, hl]) hl (fun hq => rboundN_ok c p hP (by omega) (by omega) (by omega) (by omega) hl (IH0 (by omega)) hq) fun b0 hq hb => rbound23_ok c p hP (.inl e) hl (IH0 (by omega)) b0 hq hb
    · have hl : p.kids.length = 1 := by rw [e] at hw; simp [wants] at hw; omega
      exact one (by rw [hw, hl]) hl (fun hq => rboundN_ok c p hP (by omega) (by omega) (by omega) (by omega) hl (IH0 (by omega)) hq) fun b0 hq hb => rbound23_ok c p hP (.inr e) hl (IH0 (by omega)) b0 hq hb
    · have hl : p.kids.length = 2 := by rw [e] at hw; simp [wants] at hw; omega
      rw [bnd_two hl (by rw [hw, hl])]
      cases hq : bndT c (rdI p.kids 0) with
      | none => exact rboundN4_ok c p hP e hl (IH0 (by omega)) hq
      | some b0 =>
        have hb0 := bndT_len c _ _ hq
        cases hr : bndT c (rdI p.kids 1) with
        | none => exact rboundN4b_ok c p hP e hl (IH0 (by omega)) (IH1 (by omega)) b0 hq hb0 hr
        | some b1 => exact rbound4_ok c p hP e hl (IH0 (by omega)) (IH1 (by omega)) b0 hq hb0 b1 hr (bndT_len c _ _ hr)
    · have hl : p.kids.length = 1 := by rw [e] at hw; simp [wants] at hw; omega
      exact one (by rw [hw, hl]) hl (fun hq => rboundN_ok c p hP (by omega) (by omega) (by omega) (by omega) hl (IH0 (by omega)) hq) fun b0 hq hb => rbound5_ok c p hP e hl (IH0 (by omega)) b0 hq hb
    · have hl : p.kids.length = 1 := by rw [e] at hw; simp [wants] at hw; omega
      exact one (by rw [hw, hl]) hl (fun hq => rboundN_ok c p hP (by omega) (by omega) (by omega) (by omega) hl (IH0 (by omega)) hq) fun b0 hq hb => rbound6_ok c p hP e hl (IH0 (by omega)) b0 hq hb (term_fine hf)
  · have e2 : bndT c p = none := by rw [bndT_eq, if_neg hw]
    rw [e2]
    show Snd P 38 _ vnil []
    by_cases e1 : p.op = 1
    · exact rboundX1_ok c p hP e1 (fun hl => hw (by rw [e1, hl]; rfl))
    by_cases e4 : p.op = 4
    · exact rboundX4_ok c p hP e4 (fun hl => hw (by rw [e4, hl]; rfl))
    refine rboundX0_ok c p hP e1 e4 ?_
    by_cases h1 : p.op < 1
    · exact .inl h1
    by_cases h6 : 6 < p.op
    · exact .inr (.inl h6)
    refine .inr (.inr fun hl => hw ?_)
    have : p.op = 2 ∨ p.op = 3 ∨ p.op = 5 ∨ p.op = 6 := by omega
    rcases this with e | e | e | e <;> · rw [e, hl]; rfl
termination_by SizeOf.sizeOf p
theorem RBoundA_ok (c : CoreT) (p : PlanT) (hf : partsP p ≤ 1000000) (hP : patS c.nodes c.edges = false) : Snd P 21 [.d (.ag (encP p)), .d (.ag (encC c))] (.tup [.d (.lit (.slice none 0 0)), .int 1]) [] := by
  have hP1 : Snd P 29 [.d (.ag (encC c))] (.bool false) [] := by rw [← hP]; exact rpattern_ok c
  refine snd_of [] Try.func21 rfl (by kernel_rfl) Try.ntmps21 (by simp) ?_
  unfold Try.f21
  simp only [List.cons_append, List.nil_append, List.length_cons, List.length_nil, Nat.reduceAdd, Nat.reduceSub, List.replicate]
  refine Run.seq ?_
  refine opsF oo36 fun K hK => ?_
  try simp
  repeat' first | ((refine evL_c ?_); simp) | (with_reducible refine And.intro ?_ ?_) | intro _ | (with_reducible assumption) | omega
  all_goals (refine Fin.go hK ?_; clear hK K)
  simp only [Then_normal]
  refine Run.seq ?_
  refine opsF oo113 fun K hK => ?_
  try simp
  repeat' first | (refine ecallD (by exact hP1) ?_) | ((refine evL_c ?_); simp) | (with_reducible refine And.intro ?_ ?_) | intro _ | (with_reducible assumption) | omega
  all_goals (refine Fin.go hK ?_; clear hK K)
  simp only [Then_normal]
  refine Run.seq ?_
  refine Run.seq ?_
  refine opsF oo114 fun K hK => ?_
  try simp
  repeat' first | ((refine evL_c ?_); simp) | (with_reducible refine And.intro ?_ ?_) | intro _ | (with_reducible assumption) | omega
  all_goals (refine Fin.go hK ?_; clear hK K)
  simp only [Then_normal]
  refine Run.cond rfl (fun h11 => ?_) (fun h11 => ?_)
  · skip
    refine Run.seq ?_
    refine opsF oo38 fun K hK => ?_
    try simp
    repeat' first | ((refine evL_c ?_); simp) | (with_reducible refine And.intro ?_ ?_) | intro _ | (with_reducible assumption) | omega
    all_goals (refine Fin.go hK ?_; clear hK K)
    simp only [Then_normal]
    refine Run.ret ?_
    try simp only [Then_ret, Blok_ret]
    simp
  · simp at h11

theorem RBoundB_ok (c : CoreT) (p : PlanT) (hf : partsP p ≤ 1000000) (hP : patS c.nodes c.edges = true) (hb : bndT c p = none) : Snd P 21 [.d (.ag (encP p)), .d (.ag (encC c))] (.tup [.d (.lit (.slice none 0 0)), .int 131]) [] := by
  obtain ⟨hn1, hn8, hk8⟩ := pat_rng hP
  obtain ⟨n, hn⟩ : ∃ k, c.nodes.length = k := ⟨_, rfl⟩
  have hP1 : Snd P 29 [.d (.ag (encC c))] (.bool true) [] := by rw [← hP]; exact rpattern_ok c
  have hB := rbound_ok c hP p hf
  simp only [hb, resB, stoB, encP_cells, hn] at hB
  refine snd_of [] Try.func21 rfl (by kernel_rfl) Try.ntmps21 (by simp) ?_
  unfold Try.f21
  simp only [List.cons_append, List.nil_append, List.length_cons, List.length_nil, Nat.reduceAdd, Nat.reduceSub, List.replicate]
  refine Run.seq ?_
  refine opsF oo36 fun K hK => ?_
  try simp
  repeat' first | ((refine evL_c ?_); simp [hn]) | (with_reducible refine And.intro ?_ ?_) | intro _ | (with_reducible assumption) | omega
  all_goals (refine Fin.go hK ?_; clear hK K)
  simp only [Then_normal]
  refine Run.seq ?_
  refine opsF oo113 fun K hK => ?_
  try simp
  repeat' first | (refine ecallD (by exact hP1) ?_) | ((refine evL_c ?_); simp [hn]) | (with_reducible refine And.intro ?_ ?_) | intro _ | (with_reducible assumption) | omega
  all_goals (refine Fin.go hK ?_; clear hK K)
  simp only [Then_normal]
  refine Run.seq ?_
  refine Run.seq ?_
  refine opsF oo114 fun K hK => ?_
  try simp
  repeat' first | ((refine evL_c ?_); simp [hn]) | (with_reducible refine And.intro ?_ ?_) | intro _ | (with_reducible assumption) | omega
  all_goals (refine Fin.go hK ?_; clear hK K)
  simp only [Then_normal]
  refine Run.cond rfl (fun h11 => ?_) (fun h11 => ?_)
  · simp at h11
  · skip
    refine Run.skip ?_
    simp only [Then_normal]
    refine Run.seq ?_
    refine opsF oo115 fun K hK => ?_
    try simp
    repeat' first | (refine ecall (by exact hB) rfl ?_) | ((refine evL_c ?_); simp [hn]) | (with_reducible refine And.intro ?_ ?_) | intro _ | (with_reducible assumption) | omega
    all_goals (refine Fin.go hK ?_; clear hK K)
    simp only [Then_normal]
    refine Run.seq ?_
    refine Run.seq ?_
    refine opsF oo116 fun K hK => ?_
    try simp
    repeat' first | ((refine evL_c ?_); simp [hn]) | (with_reducible refine And.intro ?_ ?_) | intro _ | (with_reducible assumption) | omega
    all_goals (refine Fin.go hK ?_; clear hK K)
    simp only [Then_normal]
    refine Run.cond rfl (fun h16 => ?_) (fun h16 => ?_)
    · skip
      refine Run.seq ?_
      refine opsF oo41 fun K hK => ?_
      try simp
      repeat' first | ((refine evL_c ?_); simp [hn]) | (with_reducible refine And.intro ?_ ?_) | intro _ | (with_reducible assumption) | omega
      all_goals (refine Fin.go hK ?_; clear hK K)
      simp only [Then_normal]
      refine Run.ret ?_
      try simp only [Then_ret, Blok_ret]
      simp
    · simp at h16

theorem RBoundC_ok (c : CoreT) (p : PlanT) (hf : partsP p ≤ 1000000) (hP : patS c.nodes c.edges = true) (b : List Bool) (hb : bndT c p = some b) : Snd P 21 [.d (.ag (encP p)), .d (.ag (encC c))] (.tup [.d (.sl false (b.map encB)), .int 0]) [] := by
  obtain ⟨hn1, hn8, hk8⟩ := pat_rng hP
  obtain ⟨n, hn⟩ : ∃ k, c.nodes.length = k := ⟨_, rfl⟩
  have hP1 : Snd P 29 [.d (.ag (encC c))] (.bool true) [] := by rw [← hP]; exact rpattern_ok c
  have hB := rbound_ok c hP p hf
  have hl := bndT_len c p b hb
  have hl0 : 0 < b.length := by omega
  obtain ⟨m, hm⟩ : ∃ m, b.length = m := ⟨_, rfl⟩
  rw [hm] at hl0
  simp only [hb, resB, stoB, encP_cells, hn, hm] at hB
  refine snd_of [] Try.func21 rfl (by kernel_rfl) Try.ntmps21 (by simp) ?_
  unfold Try.f21
  simp only [List.cons_append, List.nil_append, List.length_cons, List.length_nil, Nat.reduceAdd, Nat.reduceSub, List.replicate]
  refine Run.seq ?_
  refine opsF oo36 fun K hK => ?_
  try simp
  repeat' first | ((refine evL_c ?_); simp [hn, hm, hl0]) | (with_reducible refine And.intro ?_ ?_) | intro _ | (with_reducible assumption) | omega
  all_goals (refine Fin.go hK ?_; clear hK K)
  simp only [Then_normal]
  refine Run.seq ?_
  refine opsF oo113 fun K hK => ?_
  try simp
  repeat' first | (refine ecallD (by exact hP1) ?_) | ((refine evL_c ?_); simp [hn, hm, hl0]) | (with_reducible refine And.intro ?_ ?_) | intro _ | (with_reducible assumption) | omega
  all_goals (refine Fin.go hK ?_; clear hK K)
  simp only [Then_normal]
  refine Run.seq ?_
  refine Run.seq ?_
  refine opsF oo114 fun K hK => ?_
  try simp
  repeat' first | ((refine evL_c ?_); simp [hn, hm, hl0]) | (with_reducible refine And.intro ?_ ?_) | intro _ | (with_reducible assumption) | omega
  all_goals (refine Fin.go hK ?_; clear hK K)
  simp only [Then_normal]
  refine Run.cond rfl (fun h11 => ?_) (fun h11 => ?_)
  · simp at h11
  · skip
    refine Run.skip ?_
    simp only [Then_normal]
    refine Run.seq ?_
    refine opsF oo115 fun K hK => ?_
    try simp
    repeat' first | (refine ecall (by exact hB) rfl ?_) | ((refine evL_c ?_); simp [hn, hm, hl0]) | (with_reducible refine And.intro ?_ ?_) | intro _ | (with_reducible assumption) | omega
    all_goals (refine Fin.go hK ?_; clear hK K)
    simp only [Then_normal]
    refine Run.seq ?_
    refine Run.seq ?_
    refine opsF oo116 fun K hK => ?_
    try simp
    repeat' first | ((refine evL_c ?_); simp [hn, hm, hl0]) | (with_reducible refine And.intro ?_ ?_) | intro _ | (with_reducible assumption) | omega
    all_goals (refine Fin.go hK ?_; clear hK K)
    simp only [Then_normal]
    refine Run.cond rfl (fun h16 => ?_) (fun h16 => ?_)
    · simp at h16
    · skip
      refine Run.skip ?_
      simp only [Then_normal]
      refine Run.seq ?_
      refine opsF [⟨Op.move (Operand.tmp 7), some 17, none⟩, ⟨Op.assign (Operand.tmp 17), some 4, none⟩, ⟨Op.assign (Operand.const (Value.int IntKind.i64 0)), some 5, none⟩] fun K hK => ?_
      try simp
      repeat' first | ((refine evL_c ?_); simp [hn, hm, hl0]) | (with_reducible refine And.intro ?_ ?_) | intro _ | (with_reducible assumption) | omega
      all_goals (refine Fin.go hK ?_; clear hK K)
      simp only [Then_normal]
      refine Run.ret ?_
      try simp only [Then_ret, Blok_ret]
      simp [hm, List.take_of_length_le]

theorem RBound_ok (c : CoreT) (p : PlanT) (hf : partsP p ≤ 1000000) : Snd P 21 [.d (.ag (encP p)), .d (.ag (encC c))] (.tup [.d (boundD c p).1, .int (boundD c p).2]) [] := by
  unfold boundD
  cases hP : patS c.nodes c.edges with
  | false => exact RBoundA_ok c p hf hP
  | true =>
    cases hb : bndT c p with
    | none => exact RBoundB_ok c p hf hP hb
    | some b => exact RBoundC_ok c p hf hP b hb


end Go.Proofs.Ytihbejpkfifplaa.Z
end
section
set_option maxRecDepth 100000
namespace Go.Proofs.Ytihbejpkfifplaa.Z
open Go Go.Fw
abbrev NIL : D := .lit (.slice none 0 0)
def c0 : CoreT := ⟨[⟨ByteArray.empty, -1⟩], [], [], NIL, false, NIL, 0⟩
def p0 : PlanT := .mk 1 [] 0 [] false []
def s0 : StatsT := ⟨[10, 4], []⟩
theorem est_head : estS c0 s0 p0 = 14 := by
  have h1 : patS c0.nodes c0.edges = true := by simp [patS, c0]
  have h2 : bndT c0 p0 = some [true] := by simp [p0, bndT, bndL, wants, opS, PlanT.op, PlanT.slot, c0]
  rw [estS, if_pos ⟨h1, by rw [h2]; rfl⟩]
  simp [p0, estT, estOp, PlanT.op, PlanT.slot, nodesS, c0, s0, rdI, cntS, cntF, clipS]
theorem head1 : Snd P 15 [.d (.ag [.int 1, NIL, .int 0, NIL, .bool false, NIL]), .d (.ag [.sl false [[.str ByteArray.empty, .int (-1)]], NIL, NIL, NIL, .bool false, NIL, .int 0]), .d (.ag [.sl false [[.int 10], [.int 4]], NIL])] (.int 14) [] := by
  have h := Estimate_ok c0 s0 p0 (by simp [p0, partsP, cntL, partsL])
  rw [est_head] at h
  refine snd_sub h ⟨DSub.ag ⟨.refl _, DSub.nil, .refl _, DSub.nil, .refl _, DSub.nil, trivial⟩, DSub.ag ⟨.refl _, DSub.nil, DSub.nil, .refl _, .refl _, .refl _, .refl _, trivial⟩, DSub.ag ⟨.refl _, DSub.nil, trivial⟩, trivial⟩
theorem join_in (c : CoreT) (s : StatsT) (p q : PlanT) (hf : partsP (joinP p q) ≤ 1000000) : Snd P 15 [.d (.ag [.int 4, .sl false [encP p, encP q], .int 0, NIL, .bool false, NIL]), .d (.ag (encC c)), .d (.ag (encS s))] (.int (estS c s (joinP p q))) [] :=
  snd_sub (Estimate_ok c s (joinP p q) hf) ⟨DSub.ag ⟨.refl _, .refl _, .refl _, DSub.nil, .refl _, DSub.nil, trivial⟩, .refl _, .refl _, trivial⟩
theorem filt_in (nn : Bool) (c : CoreT) (s : StatsT) (p : PlanT) (l : List TermT) (hf : partsP (filtP p l) ≤ 1000000) : Snd P 15 [.d (.ag [.int 6, .sl false [encP p], .int 0, NIL, .bool false, .sl false (l.map encT)]), .d (.ag (encC c)), .d (.ag (encS s))] (.int (estS c s (filtP p l))) [] :=
  snd_sub (Estimate_ok c s (filtP p l) hf) ⟨DSub.ag ⟨.refl _, .refl _, .refl _, DSub.nil, .refl _, .refl _, trivial⟩, .refl _, .refl _, trivial⟩
def termP (l : List TermT) : PlanT := .mk 0 [] 0 [] false l
theorem parts_in (l : List TermT) (hf : partsP (termP l) ≤ 2000000) : Snd P 11 [.d (.ag [.int 0, NIL, .int 0, NIL, .bool false, .sl false (l.map encT)]), .int 200] (.int (partsR (termP l) 200)) [] :=
  snd_sub (parts_ok (termP l) hf 200 (by omega) (by omega)) ⟨DSub.ag ⟨.refl _, DSub.nil, .refl _, DSub.nil, .refl _, .refl _, trivial⟩, .refl _, trivial⟩
theorem head15_ok : Snd P 14 [] (.bool true) [] := by
  refine snd_of [] Try.func14 rfl (by kernel_rfl) Try.ntmps14 (by simp) ?_
  unfold Try.f14
  simp only [List.cons_append, List.nil_append, List.length_cons, List.length_nil, Nat.reduceAdd, Nat.reduceSub, List.replicate]
  refine Run.seq ?_
  refine opsF [⟨Op.assign (Operand.const (Value.bool false)), some 0, none⟩] fun K hK => ?_
  try simp
  repeat' first | ((refine evL_c ?_); simp) | (with_reducible refine And.intro ?_ ?_) | intro _ | (with_reducible assumption) | omega
  all_goals (refine Fin.go hK ?_; clear hK K)
  simp only [Then_normal]
  refine Run.seq ?_
  refine opsF [⟨Op.build 76 #[(1, Operand.const (Value.int IntKind.i64 (-1)))], some 2, none⟩, ⟨Op.buildSlice 28 1 #[(0, Operand.tmp 2)], some 3, none⟩, ⟨Op.build 33 #[(0, Operand.tmp 3)], some 4, none⟩, ⟨Op.alloc 33, some 1, none⟩, ⟨Op.store 33 (Operand.tmp 1) (Operand.tmp 4), none, none⟩] fun K hK => ?_
  try simp
  repeat' first | ((refine evL_c ?_); simp) | (with_reducible refine And.intro ?_ ?_) | intro _ | (with_reducible assumption) | omega
  all_goals (refine Fin.go hK ?_; clear hK K)
  simp only [Then_normal]
  refine Run.seq ?_
  refine opsF [⟨Op.build 27 #[(0, Operand.const (Value.int IntKind.i64 1))], some 5, none⟩, ⟨Op.load 33 (Operand.tmp 1), some 6, none⟩, ⟨Op.buildSlice 51 2 #[(0, Operand.const (Value.int IntKind.i64 10)), (1, Operand.const (Value.int IntKind.i64 4))], some 7, none⟩, ⟨Op.build 53 #[(0, Operand.tmp 7)], some 8, none⟩, ⟨Op.call { callee := Callee.value (Operand.func 15), args := #[Operand.tmp 5, Operand.tmp 6, Operand.tmp 8], argTypes := #[27, 33, 53] }, some 9, none⟩, ⟨Op.binOp BinOp.eql 2 (Operand.tmp 9) (Operand.const (Value.int IntKind.i64 14)) 2, some 10, none⟩, ⟨Op.assign (Operand.tmp 10), some 0, none⟩] fun K hK => ?_
  try simp
  repeat' first | (refine ecallF (by simp) (by simp) head1 ?_) | ((refine evL_c ?_); simp) | (with_reducible refine And.intro ?_ ?_) | intro _ | (with_reducible assumption) | omega
  all_goals (refine Fin.go hK ?_; clear hK K)
  simp only [Then_normal]
  refine Run.ret ?_
  try simp only [Then_ret, Blok_ret]
  simp


end Go.Proofs.Ytihbejpkfifplaa.Z
end
section
set_option maxRecDepth 100000
namespace Go.Proofs.Ytihbejpkfifplaa.Z
open Go Go.Fw
mutual
def costT (c : CoreT) (s : StatsT) : PlanT → Int
  | .mk o k sl e b t => costL c s k (estS c s (.mk o k sl e b t))
def costL (c : CoreT) (s : StatsT) : List PlanT → Int → Int
  | [], n => n
  | q :: r, n => costL c s r (clipS (n + costT c s q))
end
theorem costT_eq (c : CoreT) (s : StatsT) (p : PlanT) : costT c s p = costL c s p.kids (estS c s p) := by cases p; rw [costT]; rfl
theorem clip_ge {n x : Int} (h1 : n ≤ 1099511627776) (hx : n ≤ x) : n ≤ clipS x := by unfold clipS; split <;> (try split) <;> omega
mutual
theorem costT_rng (c : CoreT) (s : StatsT) : ∀ p : PlanT, 0 ≤ costT c s p ∧ costT c s p ≤ 1099511627776
  | .mk o k sl e b t => by
    have h := estS_nn c s (.mk o k sl e b t)
    have := costL_rng c s k (estS c s (.mk o k sl e b t)) h.1 h.2
    rw [costT]; omega
theorem costL_rng (c : CoreT) (s : StatsT) : ∀ (l : List PlanT) (n : Int), 0 ≤ n → n ≤ 1099511627776 → n ≤ costL c s l n ∧ costL c s l n ≤ 1099511627776
  | [], n, h0, h1 => by rw [costL]; omega
  | q :: r, n, h0, h1 => by
    have h2 := costT_rng c s q
    have h3 := clip_rng (n + costT c s q)
    have h4 := clip_ge h1 (show n ≤ n + costT c s q by omega)
    have := costL_rng c s r (clipS (n + costT c s q)) h3.1 h3.2
    rw [costL]; omega
end
theorem cost_est (c : CoreT) (s : StatsT) (p : PlanT) : estS c s p ≤ costT c s p := by
  have h := estS_nn c s p
  rw [costT_eq]; exact (costL_rng c s p.kids _ h.1 h.2).1
theorem costL_kid (c : CoreT) (s : StatsT) {l : List PlanT} {q : PlanT} (hq : q ∈ l) {n : Int} (h0 : 0 ≤ n) (h1 : n ≤ 1099511627776) : costT c s q ≤ costL c s l n := by
  induction l generalizing n with
  | nil => cases hq
  | cons x r ih =>
    have h2 := costT_rng c s x
    have h3 := clip_rng (n + costT c s x)
    rw [costL]
    rcases List.mem_cons.1 hq with rfl | hq
    · have h4 := clip_ge h2.2 (show costT c s q ≤ n + costT c s q by omega)
      have := costL_rng c s r (clipS (n + costT c s q)) h3.1 h3.2
      omega
    · exact ih hq h3.1 h3.2
theorem cost_kid (c : CoreT) (s : StatsT) {p q : PlanT} (hq : q ∈ p.kids) : costT c s q ≤ costT c s p := by
  have h := estS_nn c s p
  rw [costT_eq c s p]; exact costL_kid c s hq h.1 h.2
theorem costL_step {c : CoreT} {s : StatsT} {l : List PlanT} {i : Nat} {n : Int} (hi : i < l.length) : costL c s (l.drop i) n = costL c s (l.drop (i + 1)) (clipS (n + costT c s (rdI l i))) := by
  rw [drop_rd hi, costL]
theorem costL_end {c : CoreT} {s : StatsT} {l : List PlanT} {i : Nat} {n : Int} (hi : l.length ≤ i) : costL c s (l.drop i) n = n := by
  rw [List.drop_of_length_le hi, costL]
set_option maxHeartbeats 4000000 in
theorem cost1_ok (c : CoreT) (s : StatsT) (p : PlanT) (hf : partsP p ≤ 1000000) (IH : ∀ i : Nat, i < p.kids.length → Snd P 17 [.d (.ag (encP (rdI p.kids i))), .d (.ag (encC c)), .d (.ag (encS s))] (.int (costT c s (rdI p.kids i))) []) : Snd P 17 [.d (.ag (encP p)), .d (.ag (encC c)), .d (.ag (encS s))] (.int (costT c s p)) [] := by
  refine Snd.ok 0 rfl (by kernel_rfl) fun hok => ?_
  have hkm := (encP_ok hok).1
  clear hok
  have hE := Estimate_ok c s p hf
  rw [encP_cells] at hE
  have hce := costT_eq c s p
  have her := estS_nn c s p
  obtain ⟨m, hm⟩ : ∃ m, p.kids.length = m := ⟨_, rfl⟩
  obtain ⟨e0, he0⟩ : ∃ m, estS c s p = m := ⟨_, rfl⟩
  rw [he0] at hE hce her
  rw [hm] at hkm
  refine snd_of [] Try.func17 rfl (by kernel_rfl) Try.ntmps17 (by simp) ?_
  unfold Try.f17
  simp only [List.cons_append, List.nil_append, List.length_cons, List.length_nil, Nat.reduceAdd, Nat.reduceSub, List.replicate]
  refine Run.seq ?_
  refine opsF oo45 fun K hK => ?_
  try simp
  repeat' first | ((refine evL_c ?_); simp [hm]) | (with_reducible refine And.intro ?_ ?_) | intro _ | (with_reducible assumption) | omega
  all_goals (refine Fin.go hK ?_; clear hK K)
  simp only [Then_normal]
  refine Run.seq ?_
  refine opsF [⟨Op.load 27 (Operand.tmp 3), some 10, none⟩, ⟨Op.load 33 (Operand.tmp 4), some 11, none⟩, ⟨Op.load 53 (Operand.tmp 5), some 12, none⟩, ⟨Op.call { callee := Callee.value (Operand.func 15), args := #[Operand.tmp 10, Operand.tmp 11, Operand.tmp 12], argTypes := #[27, 33, 53] }, some 13, none⟩, ⟨Op.assign (Operand.tmp 13), some 7, none⟩] fun K hK => ?_
  try simp
  repeat' first | (refine ecallD (by exact hE) ?_) | ((refine evL_c ?_); simp [hm]) | (with_reducible refine And.intro ?_ ?_) | intro _ | (with_reducible assumption) | omega
  all_goals (refine Fin.go hK ?_; clear hK K)
  simp only [Then_normal]
  refine Run.seq ?_
  refine Run.seq ?_
  refine opsF [⟨Op.fieldAddr 27 (Operand.tmp 3) 1, some 14, none⟩, ⟨Op.load 23 (Operand.tmp 14), some 15, none⟩, ⟨Op.call { callee := Callee.builtin Builtin.len, args := #[Operand.tmp 15], argTypes := #[23] }, some 16, none⟩, ⟨Op.move (Operand.const (Value.int IntKind.i64 0)), some 17, none⟩] fun K hK => ?_
  try simp
  repeat' first | ((refine evL_c ?_); simp [hm]) | (with_reducible refine And.intro ?_ ?_) | intro _ | (with_reducible assumption) | omega
  all_goals (refine Fin.go hK ?_; clear hK K)
  simp only [Then_normal]
  refine Run.block ?_
  refine Run.loopO [7, 9, 17, 18, 19, 20, 21, 22, 23, 24, 25, 26, 27, 28] (fun (x : Nat × Int) => [(17, .int x.1), (7, .int x.2)]) (fun (x : Nat × Int) => [(400, .vals ((encP p).map .d)), (500, .vals ((encC c).map .d)), (600, .vals ((encS s).map .d))]) (fun (x : Nat × Int) => x.1 ≤ m ∧ (0 ≤ x.2 ∧ x.2 ≤ 1099511627776) ∧ costL c s (p.kids.drop x.1) x.2 = costT c s p) (fun (x : Nat × Int) => m - x.1) (0, e0) ⟨by omega, her, hce.symm⟩ (by simp) fun ⟨i, n⟩ ⟨hi, hr, hg⟩ => ?_
  simp only at hi hr hg
  simp only [over, List.foldl, List.set]
  refine Run.seq ?_
  refine opsF [⟨Op.binOp BinOp.lss 3 (Operand.tmp 17) (Operand.tmp 16) 3, some 18, none⟩] fun K hK => ?_
  try simp
  repeat' first | ((refine evL_c ?_); simp [hm]) | (with_reducible refine And.intro ?_ ?_) | intro _ | (with_reducible assumption) | omega
  all_goals (refine Fin.go hK ?_; clear hK K)
  simp only [Then_normal]
  refine Run.seq ?_
  refine Run.cond rfl (fun h18 => ?_) (fun h18 => ?_)
  · try simp at h18
    have hi1 : i < m := by omega
    have hT := IH i (by omega)
    have hkr := costT_rng c s (rdI p.kids i)
    obtain ⟨k, hk⟩ : ∃ x, costT c s (rdI p.kids i) = x := ⟨_, rfl⟩
    rw [hk] at hT hkr
    rw [encP_cells] at hT
    have hw : IntKind.i64.wrap (n + k) = n + k := wrap_id (by omega) (by omega)
    refine Run.skip ?_
    simp only [Then_normal]
    refine Run.seq ?_
    refine Run.block ?_
    refine Run.seq ?_
    refine opsF [⟨Op.indexAddr 23 (Operand.tmp 15) (Operand.tmp 17), some 19, none⟩, ⟨Op.load 27 (Operand.tmp 19), some 20, none⟩, ⟨Op.alloc 27, some 9, none⟩, ⟨Op.store 27 (Operand.tmp 9) (Operand.tmp 20), none, none⟩] fun K hK => ?_
    try simp
    repeat' first | ((refine evL_c ?_); simp [hm, hi1, hw]) | (with_reducible refine And.intro ?_ ?_) | intro _ | (with_reducible assumption) | omega
    all_goals (refine Fin.go hK ?_; clear hK K)
    simp only [Then_normal]
    refine opsF [⟨Op.move (Operand.tmp 7), some 21, none⟩, ⟨Op.load 27 (Operand.tmp 9), some 22, none⟩, ⟨Op.load 33 (Operand.tmp 4), some 23, none⟩, ⟨Op.load 53 (Operand.tmp 5), some 24, none⟩, ⟨Op.call { callee := Callee.value (Operand.func 17), args := #[Operand.tmp 22, Operand.tmp 23, Operand.tmp 24], argTypes := #[27, 33, 53] }, some 25, none⟩, ⟨Op.binOp BinOp.add 2 (Operand.tmp 21) (Operand.tmp 25) 2, some 26, none⟩, ⟨Op.call { callee := Callee.value (Operand.func 34), args := #[Operand.tmp 26], argTypes := #[2] }, some 27, none⟩, ⟨Op.assign (Operand.tmp 27), some 7, none⟩] fun K hK => ?_
    try simp
    repeat' first | (refine ecallD (by exact hT) ?_) | (refine ecallD (clip_ok _) ?_) | ((refine evL_c ?_); simp [hm, hi1, hw]) | (with_reducible refine And.intro ?_ ?_) | intro _ | (with_reducible assumption) | omega
    all_goals (refine Fin.go hK ?_; clear hK K)
    simp only [Blok_normal]
    simp only [Then_normal]
    refine opsF [⟨Op.binOp BinOp.add 3 (Operand.tmp 17) (Operand.const (Value.int IntKind.i64 1)) 3, some 28, none⟩, ⟨Op.move (Operand.tmp 28), some 17, none⟩] fun K hK => ?_
    try simp
    repeat' first | ((refine evL_c ?_); simp [hm, hi1, hw]) | (with_reducible refine And.intro ?_ ?_) | intro _ | (with_reducible assumption) | omega
    all_goals (refine Fin.go hK ?_; clear hK K)
    refine ⟨(i + 1, clipS (n + k)), ⟨by simp; omega, clip_rng _, ?_⟩, by simp; omega, ?_⟩
    · rw [← hg, costL_step (l := p.kids) (i := i) (n := n) (by omega), hk]
    · simp (disch := omega) [hm, wrap_id]
  · try simp at h18
    rw [costL_end (by omega)] at hg
    refine Run.exit ?_
    simp (decide := true) only [Then_exit, Blok_exit, if_true, if_false]
    simp only [Then_normal]
    refine Run.seq ?_
    refine opsF [⟨Op.move (Operand.tmp 7), some 29, none⟩, ⟨Op.assign (Operand.tmp 29), some 6, none⟩] fun K hK => ?_
    try simp
    repeat' first | ((refine evL_c ?_); simp [hm]) | (with_reducible refine And.intro ?_ ?_) | intro _ | (with_reducible assumption) | omega
    all_goals (refine Fin.go hK ?_; clear hK K)
    simp only [Then_normal]
    refine Run.ret ?_
    try simp only [Then_ret, Blok_ret]
    simp [hg]


theorem cost_ok (c : CoreT) (s : StatsT) (p : PlanT) (hf : partsP p ≤ 1000000) : Snd P 17 [.d (.ag (encP p)), .d (.ag (encC c)), .d (.ag (encS s))] (.int (costT c s p)) [] :=
  cost1_ok c s p hf fun i hi =>
    have := kids_lt (kid_mem (p := p) hi)
    cost_ok c s (rdI p.kids i) (kid_fine hf hi)
termination_by SizeOf.sizeOf p
/-! counts that grow -/
theorem clip_mono {a b : Int} (h : a ≤ b) : clipS a ≤ clipS b := by unfold clipS; split <;> split <;> (try split) <;> (try split) <;> omega
theorem share_mono {a b : Int} (h : a ≤ b) (x : Int) : shareS a x ≤ shareS b x := by
  unfold shareS
  exact Int.ediv_le_ediv (by omega) (by omega)
theorem mulS_min {a b : Int} (ha : 0 ≤ a) (hb : 0 ≤ b) : mulS a b = if 1099511627776 < a * b then 1099511627776 else a * b := by
  unfold mulS
  by_cases h : 0 < a
  · have h1 : 1099511627776 / a < b ↔ 1099511627776 < b * a := Int.ediv_lt_iff_lt_mul h
    rw [Int.mul_comm b a] at h1
    by_cases q : 1099511627776 < a * b
    · rw [if_pos q, if_pos ⟨h, h1.2 q⟩]
    · rw [if_neg q, if_neg (fun z => q (h1.1 z.2))]
  · have : a = 0 := by omega
    subst this
    simp
theorem mul_mono {a b x y : Int} (ha : 0 ≤ a) (hb : 0 ≤ b) (h1 : a ≤ x) (h2 : b ≤ y) : mulS a b ≤ mulS x y := by
  rw [mulS_min ha hb, mulS_min (by omega) (by omega)]
  have h : a * b ≤ x * y := Int.mul_le_mul h1 h2 hb (by omega)
  split <;> split <;> omega
def LeL (a b : List Int) : Prop := a.length = b.length ∧ ∀ j : Nat, j < a.length → rdI a j ≤ rdI b j
theorem cntN_mono {a b : List Int} (h : LeL a b) (t : Int) (i : Nat) (hi : i ≤ a.length) : cntN a t i ≤ cntN b t i := by
  induction i with
  | zero => rw [cntN_zero, cntN_zero]; exact Int.le_refl _
  | succ i ih =>
    have h1 := ih (by omega)
    rw [cntN_succ a t i (by omega), cntN_succ b t i (by rw [← h.1]; omega)]
    split
    · have := clip_mono (h.2 i (by omega))
      exact clip_mono (by omega)
    · exact h1
theorem cntS_mono {a b : List Int} (h : LeL a b) (t : Int) : cntS a t ≤ cntS b t := by
  have := cntN_mono h t a.length (Nat.le_refl _)
  rw [cntN_all] at this
  rw [← cntN_all b, ← h.1]; exact this
section
variable {c : CoreT} {s t : StatsT} (hn : t.nodes = s.nodes) (he : LeL s.edges t.edges)
include hn in
theorem nodes_same (i : Int) : nodesS c t i = nodesS c s i := by unfold nodesS; rw [hn]
include he in
theorem edges_mono (k : Int) : edgesS c s k ≤ edgesS c t k := cntS_mono he _
theorem pathN_pos {d : Int} (hd : 0 < d) (i : Nat) : 1 ≤ pathN d i := by
  induction i with
  | zero => simp [pathN]
  | succ i ih =>
    rw [pathN]
    split
    · have h1 : 1 ≤ clipS (d + 1) := by
        have := clip_mono (show (1 : Int) ≤ d + 1 by omega)
        simpa [clipS] using this
      have := mul_mono (a := 1) (b := 1) (by omega) (by omega) ih h1
      simpa [mulS] using this
    · exact ih
theorem pathN_mono {d x : Int} (hd : 0 ≤ d) (h : d ≤ x) (i : Nat) : pathN d i ≤ pathN x i := by
  induction i with
  | zero => simp [pathN]
  | succ i ih =>
    have r1 := pathN_rng d (i + 1)
    have r2 := pathN_rng d i
    have r3 := clip_rng (d + 1)
    have e1 : pathN d (i + 1) = if pathN d i < 1099511627776 then mulS (pathN d i) (clipS (d + 1)) else pathN d i := rfl
    have e2 : pathN x (i + 1) = if pathN x i < 1099511627776 then mulS (pathN x i) (clipS (x + 1)) else pathN x i := rfl
    by_cases h1 : pathN x i < 1099511627776
    · rw [e1, e2, if_pos h1, if_pos (by omega)]
      exact mul_mono r2.1 r3.1 ih (clip_mono (by omega))
    · rw [e2, if_neg h1]; omega
theorem pathS_mono {d x : Int} (hd : 0 ≤ d) (h : d ≤ x) (mx : Int) : pathS mx d ≤ pathS mx x := by
  unfold pathS
  by_cases h1 : 0 < d
  · rw [if_pos h1, if_pos (by omega)]; exact pathN_mono hd h _
  · rw [if_neg h1]
    split
    · rename_i h2; exact pathN_pos h2 _
    · exact Int.le_refl _
include hn he in
theorem stepD_mono (p : PlanT) : stepD c s p ≤ stepD c t p := by
  have h := share_mono (edges_mono (c := c) he (rdI p.edges 0)) (nodesS c s (fromE c p))
  unfold stepD
  rw [nodes_same hn]
  split
  · exact pathS_mono (share_rng' (edgesS_rng _ _ _) (nodesS_rng _ _ _)).1 h _
  · exact h
include hn he in
theorem stepS_mono (p : PlanT) {n m : Int} (h0 : 0 ≤ n) (h : n ≤ m) (b : List Bool) : stepS c s p n b ≤ stepS c t p m b := by
  have h1 := mul_mono h0 (stepD_rng c s p).1 h (stepD_mono (c := c) hn he p)
  unfold stepS
  rw [nodes_same hn]
  split
  · exact share_mono h1 _
  · exact h1
include hn in
theorem joinE_mono {n m : Int} (h : n ≤ m) (a b : List Bool) (i : Nat) : joinE c s a b n i ≤ joinE c t a b m i := by
  induction i with
  | zero => exact h
  | succ i ih =>
    rw [joinE, joinE, nodes_same hn]
    split
    · exact share_mono ih _
    · exact ih
include hn he in
theorem meetE_mono (p : PlanT) {n m : Int} (h0 : 0 ≤ n ∧ n ≤ 1099511627776) (h : n ≤ m) (i : Nat) : meetE c s p n i ≤ meetE c t p m i := by
  induction i with
  | zero => rw [meetE, meetE, nodes_same hn]; exact mul_mono h0.1 (nodesS_rng _ _ _).1 h (Int.le_refl _)
  | succ i ih =>
    rw [meetE, meetE, nodes_same hn, nodes_same hn]
    exact share_mono (share_mono (mul_mono (meetE_rng h0 i).1 (edgesS_rng _ _ _).1 ih (edges_mono he _)) _) _
theorem filtE_mono {n m : Int} (h : n ≤ m) (i : Nat) : filtE n i ≤ filtE m i := by
  induction i with
  | zero => exact h
  | succ i ih => exact share_mono ih _
include hn he in
theorem estT_mono (p : PlanT) (hr : (bndT c p).isSome = true) : estT c s p ≤ estT c t p := by
  have hw := right_wants hr
  have hk : ∀ i : Nat, i < p.kids.length → (p.kids.map (estT c s)).getD i 0 ≤ (p.kids.map (estT c t)).getD i 0 ∧ 0 ≤ (p.kids.map (estT c s)).getD i 0 ∧ (p.kids.map (estT c s)).getD i 0 ≤ 1099511627776 := fun i hi => by
    rw [getD_kids c s p hi, getD_kids c t p hi]
    have := kids_lt (kid_mem (p := p) hi)
    have hq := right_kids hr _ (kid_mem hi)
    exact ⟨estT_mono (rdI p.kids (i : Int)) hq, est_rng c s _ hq⟩
  rw [estT_eq, estT_eq]
  unfold estOp
  split
  · rw [nodes_same hn]; exact Int.le_refl _
  · rename_i n1
    have h0 := (wants_op hw).resolve_left n1
    have hl : 0 < p.kids.length := by
      rcases h0 with e | e | e | e | e <;> · rw [e] at hw; simp [wants] at hw; omega
    have k0 := hk 0 hl
    split
    · exact stepS_mono hn he p k0.2.1 k0.1 _
    · split
      · rename_i n3
        have hl2 : 1 < p.kids.length := by rw [n3] at hw; simp [wants] at hw; omega
        have k1 := hk 1 hl2
        exact joinE_mono hn (mul_mono k0.2.1 k1.2.1 k0.1 k1.1) _ _ _
      · split
        · exact meetE_mono hn he p k0.2 k0.1 _
        · exact filtE_mono k0.1 _
termination_by SizeOf.sizeOf p
include hn he in
theorem estS_mono (p : PlanT) : estS c s p ≤ estS c t p := by
  unfold estS
  split
  · rename_i h; exact estT_mono hn he p h.2
  · exact Int.le_refl _
end
/-! the law's other counts -/
def growN (l mo : List Int) : Nat → List Int
  | 0 => l
  | i + 1 => if rdI (growN l mo i) i < 4611686018427387904 then (growN l mo i).set i (rdI (growN l mo i) i + rdI mo i) else growN l mo i
theorem growN_len (l mo : List Int) (i : Nat) : (growN l mo i).length = l.length := by
  induction i with
  | zero => rfl
  | succ i ih => rw [growN]; split <;> simp [ih]
theorem rd_set_eq {l : List Int} {i : Nat} {x : Int} (h : i < l.length) : rdI (l.set i x) (i : Int) = x := by simp [rdI, List.getD_eq_getElem?_getD, h]
theorem rd_set_neI {l : List Int} {i j : Nat} {x : Int} (h : i ≠ j) : rdI (l.set i x) (j : Int) = rdI l j := by
  simp [rdI, List.getD_eq_getElem?_getD, List.getElem?_set_ne h]
theorem growN_le {l mo : List Int} (hm : ∀ x ∈ mo, 0 ≤ x) (i : Nat) (hi : i ≤ mo.length) : LeL l (growN l mo i) := by
  refine ⟨(growN_len l mo i).symm, fun j hj => ?_⟩
  induction i with
  | zero => exact Int.le_refl _
  | succ i ih =>
    have h1 := ih (by omega)
    rw [growN]
    split
    · by_cases e : i = j
      · subst e
        rw [rd_set_eq (by rw [growN_len]; exact hj)]
        have := hm _ (rdI_mem (l := mo) (i := i) (by omega) (by omega))
        omega
      · rw [rd_set_neI e]; exact h1
    · exact h1
end Go.Proofs.Ytihbejpkfifplaa.Z
end
