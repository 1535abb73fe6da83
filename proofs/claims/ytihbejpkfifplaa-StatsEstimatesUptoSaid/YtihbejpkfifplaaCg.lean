/- Texts of this claim, put together: Pk, Pl, Po, Px, Pt, Rn. -/
import Derived.Test.YtihbejpkfifplaaCf
set_option linter.unusedVariables false
set_option linter.unusedSimpArgs false
namespace Go.Proofs.Ytihbejpkfifplaa.Z
open Go Go.Fw
abbrev oo36 : List LOp := [⟨Op.box 27 (Operand.tmp 0), some 2, none⟩, ⟨Op.box 33 (Operand.tmp 1), some 3, none⟩, ⟨Op.assign (Operand.const (Value.slice none 0 0)), some 4, none⟩, ⟨Op.assign (Operand.const (Value.int IntKind.i64 0)), some 5, none⟩]
abbrev oo37 : List LOp := [⟨Op.load 33 (Operand.tmp 3), some 7, none⟩, ⟨Op.call { callee := Callee.value (Operand.func 36), args := #[Operand.tmp 7], argTypes := #[33] }, some 8, none⟩, ⟨Op.unOp UnOp.not 4 (Operand.tmp 8), some 9, none⟩]
abbrev oo38 : List LOp := [⟨Op.assign (Operand.const (Value.slice none 0 0)), some 4, none⟩, ⟨Op.assign (Operand.const (Value.int IntKind.i64 1)), some 5, none⟩]
abbrev oo39 : List LOp := [⟨Op.load 33 (Operand.tmp 3), some 10, none⟩, ⟨Op.fieldAddr 33 (Operand.tmp 3) 0, some 11, none⟩, ⟨Op.load 28 (Operand.tmp 11), some 12, none⟩, ⟨Op.call { callee := Callee.builtin Builtin.len, args := #[Operand.tmp 12], argTypes := #[28] }, some 13, none⟩, ⟨Op.build 86 #[(0, Operand.tmp 10), (1, Operand.tmp 13)], some 14, none⟩, ⟨Op.load 27 (Operand.tmp 2), some 15, none⟩, ⟨Op.call { callee := Callee.value (Operand.func 37), args := #[Operand.tmp 14, Operand.tmp 15], argTypes := #[86, 27] }, some 16, none⟩, ⟨Op.assign (Operand.tmp 16), some 6, none⟩]
abbrev oo40 : List LOp := [⟨Op.move (Operand.tmp 6), some 17, none⟩, ⟨Op.binOp BinOp.neq 60 (Operand.tmp 17) (Operand.const (Value.slice none 0 0)) 60, some 18, none⟩]
abbrev oo41 : List LOp := [⟨Op.assign (Operand.const (Value.slice none 0 0)), some 4, none⟩, ⟨Op.assign (Operand.const (Value.int IntKind.i64 131)), some 5, none⟩]
abbrev oo42 : List LOp := [⟨Op.assign (Operand.const (Value.int IntKind.i64 0)), some 6, none⟩]
abbrev oo43 : List LOp := [⟨Op.assign (Operand.const (Value.int IntKind.i64 0)), some 7, none⟩]
abbrev oo44 : List LOp := [⟨Op.assign (Operand.const (Value.int IntKind.i64 0)), some 2, none⟩]
abbrev oo45 : List LOp := [⟨Op.box 27 (Operand.tmp 0), some 3, none⟩, ⟨Op.box 33 (Operand.tmp 1), some 4, none⟩, ⟨Op.box 53 (Operand.tmp 2), some 5, none⟩, ⟨Op.assign (Operand.const (Value.int IntKind.i64 0)), some 6, none⟩]
abbrev oo46 : List LOp := [⟨Op.fieldAddr 27 (Operand.tmp 3) 0, some 23, none⟩, ⟨Op.load 22 (Operand.tmp 23), some 24, none⟩, ⟨Op.binOp BinOp.eql 22 (Operand.tmp 24) (Operand.const (Value.int IntKind.i64 1)) 22, some 25, none⟩]
abbrev oo47 : List LOp := [⟨Op.fieldAddr 27 (Operand.tmp 3) 1, some 36, none⟩, ⟨Op.load 23 (Operand.tmp 36), some 37, none⟩, ⟨Op.indexAddr 23 (Operand.tmp 37) (Operand.const (Value.int IntKind.i64 0)), some 38, none⟩, ⟨Op.load 27 (Operand.tmp 38), some 39, none⟩, ⟨Op.load 33 (Operand.tmp 4), some 40, none⟩, ⟨Op.load 53 (Operand.tmp 5), some 41, none⟩, ⟨Op.call { callee := Callee.value (Operand.func 33), args := #[Operand.tmp 39, Operand.tmp 40, Operand.tmp 41], argTypes := #[27, 33, 53] }, some 42, none⟩, ⟨Op.assign (Operand.tmp 42), some 7, none⟩]
abbrev oo48 : List LOp := [⟨Op.fieldAddr 27 (Operand.tmp 3) 1, some 44, none⟩, ⟨Op.load 23 (Operand.tmp 44), some 45, none⟩, ⟨Op.indexAddr 23 (Operand.tmp 45) (Operand.const (Value.int IntKind.i64 0)), some 46, none⟩, ⟨Op.load 27 (Operand.tmp 46), some 47, none⟩, ⟨Op.load 33 (Operand.tmp 4), some 48, none⟩, ⟨Op.call { callee := Callee.value (Operand.func 21), args := #[Operand.tmp 47, Operand.tmp 48], argTypes := #[27, 33] }, some 49, none⟩, ⟨Op.move (Operand.tmp 49), some 43, none⟩, ⟨Op.extract (Operand.tmp 43) 0, some 50, none⟩, ⟨Op.extract (Operand.tmp 43) 1, some 51, none⟩, ⟨Op.assign (Operand.tmp 50), some 8, none⟩, ⟨Op.assign (Operand.tmp 51), some 9, none⟩]
abbrev oo49 : List LOp := [⟨Op.fieldAddr 27 (Operand.tmp 3) 0, some 52, none⟩, ⟨Op.load 22 (Operand.tmp 52), some 53, none⟩]
abbrev oo50 : List LOp := [⟨Op.binOp BinOp.eql 22 (Operand.tmp 53) (Operand.const (Value.int IntKind.i64 2)) 22, some 55, none⟩, ⟨Op.assign (Operand.tmp 55), some 54, none⟩]
abbrev oo51 : List LOp := [⟨Op.binOp BinOp.eql 22 (Operand.tmp 53) (Operand.const (Value.int IntKind.i64 3)) 22, some 56, none⟩, ⟨Op.assign (Operand.tmp 56), some 54, none⟩]
abbrev oo52 : List LOp := [⟨Op.binOp BinOp.eql 22 (Operand.tmp 53) (Operand.const (Value.int IntKind.i64 4)) 22, some 132, none⟩, ⟨Op.assign (Operand.tmp 132), some 131, none⟩]
abbrev oo53 : List LOp := [⟨Op.binOp BinOp.eql 22 (Operand.tmp 53) (Operand.const (Value.int IntKind.i64 5)) 22, some 180, none⟩, ⟨Op.assign (Operand.tmp 180), some 179, none⟩]
abbrev oo54 : List LOp := [⟨Op.move (Operand.tmp 7), some 263, none⟩, ⟨Op.assign (Operand.tmp 263), some 6, none⟩]
end Go.Proofs.Ytihbejpkfifplaa.Z
section
set_option maxRecDepth 100000
namespace Go.Proofs.Ytihbejpkfifplaa.Z
open Go Go.Fw
set_option maxHeartbeats 4000000 in
theorem boundN4b_ok (c : CoreT) (p : PlanT) (hP : patS c.nodes c.edges = true) (hop : p.op = 4) (hkl : p.kids.length = 2) (IH : Snd P 37 [.d (.ag (encC c ++ [D.int c.nodes.length])), .d (.ag (encP (rdI p.kids 0)))] (resB (bndT c (rdI p.kids 0))) (stoB (bndT c (rdI p.kids 0)))) (IH2 : Snd P 37 [.d (.ag (encC c ++ [D.int c.nodes.length])), .d (.ag (encP (rdI p.kids 1)))] (resB (bndT c (rdI p.kids 1))) (stoB (bndT c (rdI p.kids 1)))) (b0 : List Bool) (hq : bndT c (rdI p.kids 0) = some b0) (hb0 : b0.length = c.nodes.length + c.edges.length) (hr : bndT c (rdI p.kids 1) = none) : Snd P 37 [.d (.ag (encC c ++ [D.int c.nodes.length])), .d (.ag (encP p))] vnil [] := by
  obtain ⟨hn1, hn8, hk8⟩ := pat_rng hP
  have hE := goodE_of hP
  obtain ⟨n, hn⟩ : ∃ k, c.nodes.length = k := ⟨_, rfl⟩
  obtain ⟨k, hk⟩ : ∃ k, c.edges.length = k := ⟨_, rfl⟩
  rw [hn] at hn1 hn8
  rw [hk] at hk8
  obtain ⟨fb, hfb⟩ : ∃ fb, List.replicate (n + k) false = fb := ⟨_, rfl⟩
  have hfl : fb.length = n + k := by rw [← hfb]; simp
  have hwd : ((n:Int) + k).toNat = n + k := by omega
  have hw : IntKind.i64.wrap ((n:Int) + k) = (n:Int) + k := wrap_id (by omega) (by omega)
  have hw1 : 0 < n + k := by omega
  have hw2 : (n:Int) + k ≤ 140737488355328 := by omega
  have hw3 : (0:Int) ≤ (n:Int) + k := by omega
  have hb0n : b0.length = n + k := by rw [hb0, hn, hk]
  simp only [hq, resB, stoB, encP_cells, hn, hb0n] at IH
  simp only [hr, resB, stoB, encP_cells, hn] at IH2
  refine snd_of [] Try.func37 rfl (by kernel_rfl) Try.ntmps37 (by simp) ?_
  unfold Try.f37
  simp only [List.cons_append, List.nil_append, List.length_cons, List.length_nil, Nat.reduceAdd, Nat.reduceSub, List.replicate]
  refine Run.seq ?_
  refine opsF oo12 fun K hK => ?_
  try simp
  repeat' first | ((refine evL_c ?_); simp [-List.map_set, hn, hk, hop, hkl, hw, hwd, hfl, hw1, hw2, hw3]) | (with_reducible refine And.intro ?_ ?_) | intro _ | (with_reducible assumption) | omega
  all_goals (refine Fin.go hK ?_; clear hK K)
  simp only [Then_normal]
  refine Run.seq ?_
  refine opsF oo13 fun K hK => ?_
  try simp
  repeat' first | ((refine evL_c ?_); simp [-List.map_set, hn, hk, hop, hkl, hw, hwd, hfl, hw1, hw2, hw3]) | (with_reducible refine And.intro ?_ ?_) | intro _ | (with_reducible assumption) | omega
  all_goals (refine Fin.go hK ?_; clear hK K)
  simp only [Then_normal]
  refine Run.seq ?_
  refine Run.seq ?_
  refine opsF oo14 fun K hK => ?_
  try simp
  repeat' first | ((refine evL_c ?_); simp [-List.map_set, hn, hk, hop, hkl, hw, hwd, hfl, hw1, hw2, hw3]) | (with_reducible refine And.intro ?_ ?_) | intro _ | (with_reducible assumption) | omega
  all_goals (refine Fin.go hK ?_; clear hK K)
  simp only [Then_normal]
  refine Run.seq ?_
  refine opsF oo15 fun K hK => ?_
  try simp
  repeat' first | ((first | refine evL_c ?_ | (refine evL_g rfl ?_; try simp only [gs_tt, gs_ff, gs_tf, gs_ft]) | refine evL_u rfl ?_ | (with_reducible refine gsplit (fun hg => ?_) (fun hg => ?_) <;> try simp at hg)) <;> try simp [-List.map_set, hn, hk, hop, hkl, hw, hwd, hfl, hw1, hw2, hw3]) | (with_reducible refine And.intro ?_ ?_) | intro _ | (with_reducible assumption) | omega
  all_goals (refine Fin.go hK ?_; clear hK K)
  all_goals
    simp only [Then_normal]
    refine Run.cond rfl (fun h33 => ?_) (fun h33 => ?_)
    · simp at h33
    · skip
      refine Run.skip ?_
      simp only [Then_normal]
      refine Run.cut [8, 34, 35, 36, 37, 38, 39, 40, 41, 42] [(8, .rs 4300 1 0 1)] [(300, .vals ((encC c ++ [D.int c.nodes.length]).map .d)), (400, .vals ((encP p).map .d)), (4200, .data 1 (fb.map encB)), (4300, .vals [.rs 4200 1 0 (n + k)])] ?_ ?_
      · refine opsF oo16 fun K hK => ?_
        try simp
        repeat' first | ((refine evL_c ?_); simp [-List.map_set, hn, hk, hop, hkl, hw, hwd, hfl, hw1, hw2, hw3]) | (with_reducible refine And.intro ?_ ?_) | intro _ | (with_reducible assumption) | omega
        all_goals (refine Fin.go hK ?_; clear hK K)
        first | (simp [-List.map_set, hn, hk, hop, hkl, hw, hwd, hfl, hw1, hw2, hw3, ← hfb]; done)
      · simp only [over, List.foldl, List.set]
        refine Run.seq ?_
        refine Run.seq ?_
        refine opsF oo17 fun K hK => ?_
        try simp
        repeat' first | ((refine evL_c ?_); simp [-List.map_set, hn, hk, hop, hkl, hw, hwd, hfl, hw1, hw2, hw3]) | (with_reducible refine And.intro ?_ ?_) | intro _ | (with_reducible assumption) | omega
        all_goals (refine Fin.go hK ?_; clear hK K)
        simp only [Then_normal]
        refine Run.block ?_
        refine Run.loopO [4, 8, 10, 11, 46, 47, 48, 49, 50, 51, 52, 53, 54, 55, 56, 57, 58, 59] (fun (x : Nat) => [(46, .int x), (8, match x with | 0 => .rs 4300 1 0 1 | 1 => .rs 5900 1 0 2 | _ => .rs 5900 1 0 3)]) (fun (x : Nat) => match x with | 0 => [(300, .vals ((encC c ++ [D.int c.nodes.length]).map .d)), (400, .vals ((encP p).map .d)), (4200, .data 1 (fb.map encB)), (4300, .vals [.rs 4200 1 0 (n + k)])] | 1 => [(300, .vals ((encC c ++ [D.int c.nodes.length]).map .d)), (400, .vals ((encP p).map .d)), (4200, .data 1 (fb.map encB)), (5900, .vals [.rs 4200 1 0 (n + k), .rs 1000000 1 0 (n + k)]), (1000000, .data 1 (b0.map encB))] | _ => []) (fun (x : Nat) => x = 0 ∨ x = 1) (fun (x : Nat) => 2 - x) 0 (by simp) (by simp [-List.map_set, hn, hk, hop, hkl, hw, hwd, hfl, hw1, hw2, hw3]) fun x hx => ?_
        rcases hx with rfl | rfl
        · simp only [over, List.foldl, List.set]
          refine Run.seq ?_
          refine opsF oo18 fun K hK => ?_
          try simp
          repeat' first | ((refine evL_c ?_); simp [-List.map_set, hn, hk, hop, hkl, hw, hwd, hfl, hw1, hw2, hw3]) | (with_reducible refine And.intro ?_ ?_) | intro _ | (with_reducible assumption) | omega
          all_goals (refine Fin.go hK ?_; clear hK K)
          simp only [Then_normal]
          refine Run.seq ?_
          refine Run.cond rfl (fun h47 => ?_) (fun h47 => ?_)
          · skip
            refine Run.skip ?_
            simp only [Then_normal]
            refine Run.seq ?_
            refine Run.block ?_
            refine Run.seq ?_
            refine opsF oo19 fun K hK => ?_
            try simp
            repeat' first | ((refine evL_c ?_); simp [-List.map_set, hn, hk, hop, hkl, hw, hwd, hfl, hw1, hw2, hw3]) | (with_reducible refine And.intro ?_ ?_) | intro _ | (with_reducible assumption) | omega
            all_goals (refine Fin.go hK ?_; clear hK K)
            simp only [Then_normal]
            refine Run.seq ?_
            refine opsF oo20 fun K hK => ?_
            try simp
            repeat' first | (refine ecall (by have h := IH; exact h) rfl ?_) | ((refine evL_c ?_); simp [-List.map_set, hn, hk, hop, hkl, hw, hwd, hfl, hw1, hw2, hw3]) | (with_reducible refine And.intro ?_ ?_) | intro _ | (with_reducible assumption) | omega
            all_goals (refine Fin.go hK ?_; clear hK K)
            simp only [Then_normal]
            refine Run.seq ?_
            refine Run.seq ?_
            refine opsF oo21 fun K hK => ?_
            try simp
            repeat' first | ((refine evL_c ?_); simp [-List.map_set, hn, hk, hop, hkl, hw, hwd, hfl, hw1, hw2, hw3]) | (with_reducible refine And.intro ?_ ?_) | intro _ | (with_reducible assumption) | omega
            all_goals (refine Fin.go hK ?_; clear hK K)
            simp only [Then_normal]
            refine Run.cond rfl (fun h54 => ?_) (fun h54 => ?_)
            · simp at h54
            · skip
              refine Run.skip ?_
              simp only [Then_normal]
              refine opsF oo22 fun K hK => ?_
              try simp
              repeat' first | ((refine evL_c ?_); simp [-List.map_set, hn, hk, hop, hkl, hw, hwd, hfl, hw1, hw2, hw3]) | (with_reducible refine And.intro ?_ ?_) | intro _ | (with_reducible assumption) | omega
              all_goals (refine Fin.go hK ?_; clear hK K)
              simp only [Blok_normal]
              simp only [Then_normal]
              refine Run.ren 5300 1000000 (by omega) (by omega) (by simp) (by simp) ?_
              refine opsF oo23 fun K hK => ?_
              try simp
              repeat' first | ((refine evL_c ?_); simp [-List.map_set, hn, hk, hop, hkl, hw, hwd, hfl, hw1, hw2, hw3]) | (with_reducible refine And.intro ?_ ?_) | intro _ | (with_reducible assumption) | omega
              all_goals (refine Fin.go hK ?_; clear hK K)
              refine ⟨1, .inr rfl, by omega, ?_⟩
              simp (disch := omega) [-List.map_set, hn, hk, hop, hkl, hw, hwd, hfl, hw1, hw2, hw3, hb0n, wrap_id]
          · simp at h47
        · simp only [over, List.foldl, List.set]
          refine Run.seq ?_
          refine opsF oo18 fun K hK => ?_
          try simp
          repeat' first | ((refine evL_c ?_); simp [-List.map_set, hn, hk, hop, hkl, hw, hwd, hfl, hw1, hw2, hw3]) | (with_reducible refine And.intro ?_ ?_) | intro _ | (with_reducible assumption) | omega
          all_goals (refine Fin.go hK ?_; clear hK K)
          simp only [Then_normal]
          refine Run.seq ?_
          refine Run.cond rfl (fun h47 => ?_) (fun h47 => ?_)
          · skip
            refine Run.skip ?_
            simp only [Then_normal]
            refine Run.seq ?_
            refine Run.block ?_
            refine Run.seq ?_
            refine opsF oo19 fun K hK => ?_
            try simp
            repeat' first | ((refine evL_c ?_); simp [-List.map_set, hn, hk, hop, hkl, hw, hwd, hfl, hw1, hw2, hw3]) | (with_reducible refine And.intro ?_ ?_) | intro _ | (with_reducible assumption) | omega
            all_goals (refine Fin.go hK ?_; clear hK K)
            simp only [Then_normal]
            refine Run.seq ?_
            refine opsF oo20 fun K hK => ?_
            try simp
            repeat' first | (refine ecall (by have h := IH2; exact h) rfl ?_) | ((refine evL_c ?_); simp [-List.map_set, hn, hk, hop, hkl, hw, hwd, hfl, hw1, hw2, hw3]) | (with_reducible refine And.intro ?_ ?_) | intro _ | (with_reducible assumption) | omega
            all_goals (refine Fin.go hK ?_; clear hK K)
            simp only [Then_normal]
            refine Run.seq ?_
            refine Run.seq ?_
            refine opsF oo21 fun K hK => ?_
            try simp
            repeat' first | ((refine evL_c ?_); simp [-List.map_set, hn, hk, hop, hkl, hw, hwd, hfl, hw1, hw2, hw3]) | (with_reducible refine And.intro ?_ ?_) | intro _ | (with_reducible assumption) | omega
            all_goals (refine Fin.go hK ?_; clear hK K)
            simp only [Then_normal]
            refine Run.cond rfl (fun h54 => ?_) (fun h54 => ?_)
            · skip
              refine Run.seq ?_
              refine opsF oo31 fun K hK => ?_
              try simp
              repeat' first | ((refine evL_c ?_); simp [-List.map_set, hn, hk, hop, hkl, hw, hwd, hfl, hw1, hw2, hw3]) | (with_reducible refine And.intro ?_ ?_) | intro _ | (with_reducible assumption) | omega
              all_goals (refine Fin.go hK ?_; clear hK K)
              simp only [Then_normal]
              refine Run.drop [] (by simp) ?_
              refine Run.ret ?_
              try simp only [Then_ret, Blok_ret]
              simp
            · simp at h54
          · simp at h47

set_option maxHeartbeats 4000000 in
theorem bound4_ok (c : CoreT) (p : PlanT) (hP : patS c.nodes c.edges = true) (hop : p.op = 4) (hkl : p.kids.length = 2) (IH : Snd P 37 [.d (.ag (encC c ++ [D.int c.nodes.length])), .d (.ag (encP (rdI p.kids 0)))] (resB (bndT c (rdI p.kids 0))) (stoB (bndT c (rdI p.kids 0)))) (IH2 : Snd P 37 [.d (.ag (encC c ++ [D.int c.nodes.length])), .d (.ag (encP (rdI p.kids 1)))] (resB (bndT c (rdI p.kids 1))) (stoB (bndT c (rdI p.kids 1)))) (b0 b1 : List Bool) (hq : bndT c (rdI p.kids 0) = some b0) (hb0 : b0.length = c.nodes.length + c.edges.length) (hr : bndT c (rdI p.kids 1) = some b1) (hb1 : b1.length = c.nodes.length + c.edges.length) : Snd P 37 [.d (.ag (encC c ++ [D.int c.nodes.length])), .d (.ag (encP p))] (resB (opS c p [b0, b1])) (stoB (opS c p [b0, b1])) := by
  obtain ⟨hn1, hn8, hk8⟩ := pat_rng hP
  have hE := goodE_of hP
  obtain ⟨n, hn⟩ : ∃ k, c.nodes.length = k := ⟨_, rfl⟩
  obtain ⟨k, hk⟩ : ∃ k, c.edges.length = k := ⟨_, rfl⟩
  rw [hn] at hn1 hn8
  rw [hk] at hk8
  obtain ⟨fb, hfb⟩ : ∃ fb, List.replicate (n + k) false = fb := ⟨_, rfl⟩
  have hfl : fb.length = n + k := by rw [← hfb]; simp
  have hwd : ((n:Int) + k).toNat = n + k := by omega
  have hw : IntKind.i64.wrap ((n:Int) + k) = (n:Int) + k := wrap_id (by omega) (by omega)
  have hw1 : 0 < n + k := by omega
  have hw2 : (n:Int) + k ≤ 140737488355328 := by omega
  have hw3 : (0:Int) ≤ (n:Int) + k := by omega
  have hb0n : b0.length = n + k := by rw [hb0, hn, hk]
  have hb1n : b1.length = n + k := by rw [hb1, hn, hk]
  simp only [hq, resB, stoB, encP_cells, hn, hb0n] at IH
  simp only [hr, resB, stoB, encP_cells, hn, hb1n] at IH2
  refine snd_of [5300] Try.func37 rfl (by kernel_rfl) Try.ntmps37 (by simp) ?_
  unfold Try.f37
  simp only [List.cons_append, List.nil_append, List.length_cons, List.length_nil, Nat.reduceAdd, Nat.reduceSub, List.replicate]
  refine Run.seq ?_
  refine opsF oo12 fun K hK => ?_
  try simp
  repeat' first | ((refine evL_c ?_); simp [-List.map_set, hn, hk, hop, hkl, hw, hwd, hfl, hw1, hw2, hw3]) | (with_reducible refine And.intro ?_ ?_) | intro _ | (with_reducible assumption) | omega
  all_goals (refine Fin.go hK ?_; clear hK K)
  simp only [Then_normal]
  refine Run.seq ?_
  refine opsF oo13 fun K hK => ?_
  try simp
  repeat' first | ((refine evL_c ?_); simp [-List.map_set, hn, hk, hop, hkl, hw, hwd, hfl, hw1, hw2, hw3]) | (with_reducible refine And.intro ?_ ?_) | intro _ | (with_reducible assumption) | omega
  all_goals (refine Fin.go hK ?_; clear hK K)
  simp only [Then_normal]
  refine Run.seq ?_
  refine Run.seq ?_
  refine opsF oo14 fun K hK => ?_
  try simp
  repeat' first | ((refine evL_c ?_); simp [-List.map_set, hn, hk, hop, hkl, hw, hwd, hfl, hw1, hw2, hw3]) | (with_reducible refine And.intro ?_ ?_) | intro _ | (with_reducible assumption) | omega
  all_goals (refine Fin.go hK ?_; clear hK K)
  simp only [Then_normal]
  refine Run.seq ?_
  refine opsF oo15 fun K hK => ?_
  try simp
  repeat' first | ((first | refine evL_c ?_ | (refine evL_g rfl ?_; try simp only [gs_tt, gs_ff, gs_tf, gs_ft]) | refine evL_u rfl ?_ | (with_reducible refine gsplit (fun hg => ?_) (fun hg => ?_) <;> try simp at hg)) <;> try simp [-List.map_set, hn, hk, hop, hkl, hw, hwd, hfl, hw1, hw2, hw3]) | (with_reducible refine And.intro ?_ ?_) | intro _ | (with_reducible assumption) | omega
  all_goals (refine Fin.go hK ?_; clear hK K)
  all_goals
    simp only [Then_normal]
    refine Run.cond rfl (fun h33 => ?_) (fun h33 => ?_)
    · simp at h33
    · skip
      refine Run.skip ?_
      simp only [Then_normal]
      refine Run.cut [8, 34, 35, 36, 37, 38, 39, 40, 41, 42] [(8, .rs 4300 1 0 1)] [(300, .vals ((encC c ++ [D.int c.nodes.length]).map .d)), (400, .vals ((encP p).map .d)), (4200, .data 1 (fb.map encB)), (4300, .vals [.rs 4200 1 0 (n + k)])] ?_ ?_
      · refine opsF oo16 fun K hK => ?_
        try simp
        repeat' first | ((refine evL_c ?_); simp [-List.map_set, hn, hk, hop, hkl, hw, hwd, hfl, hw1, hw2, hw3]) | (with_reducible refine And.intro ?_ ?_) | intro _ | (with_reducible assumption) | omega
        all_goals (refine Fin.go hK ?_; clear hK K)
        first | (simp [-List.map_set, hn, hk, hop, hkl, hw, hwd, hfl, hw1, hw2, hw3, ← hfb]; done)
      · simp only [over, List.foldl, List.set]
        refine Run.seq ?_
        refine Run.seq ?_
        refine opsF oo17 fun K hK => ?_
        try simp
        repeat' first | ((refine evL_c ?_); simp [-List.map_set, hn, hk, hop, hkl, hw, hwd, hfl, hw1, hw2, hw3]) | (with_reducible refine And.intro ?_ ?_) | intro _ | (with_reducible assumption) | omega
        all_goals (refine Fin.go hK ?_; clear hK K)
        simp only [Then_normal]
        refine Run.block ?_
        refine Run.loopO [4, 8, 10, 11, 46, 47, 48, 49, 50, 51, 52, 53, 54, 55, 56, 57, 58, 59] (fun (x : Nat) => [(46, .int x), (8, match x with | 0 => .rs 4300 1 0 1 | 1 => .rs 5900 1 0 2 | _ => .rs 5900 1 0 3)]) (fun (x : Nat) => match x with | 0 => [(300, .vals ((encC c ++ [D.int c.nodes.length]).map .d)), (400, .vals ((encP p).map .d)), (4200, .data 1 (fb.map encB)), (4300, .vals [.rs 4200 1 0 (n + k)])] | 1 => [(300, .vals ((encC c ++ [D.int c.nodes.length]).map .d)), (400, .vals ((encP p).map .d)), (4200, .data 1 (fb.map encB)), (5900, .vals [.rs 4200 1 0 (n + k), .rs 1000000 1 0 (n + k)]), (1000000, .data 1 (b0.map encB))] | _ => [(300, .vals ((encC c ++ [D.int c.nodes.length]).map .d)), (400, .vals ((encP p).map .d)), (4200, .data 1 (fb.map encB)), (5300, .data 1 (b1.map encB)), (5900, .vals [.rs 4200 1 0 (n + k), .rs 1000000 1 0 (n + k), .rs 5300 1 0 (n + k)]), (1000000, .data 1 (b0.map encB))]) (fun (x : Nat) => x = 0 ∨ x = 1 ∨ x = 2) (fun (x : Nat) => 2 - x) 0 (by simp) (by simp [-List.map_set, hn, hk, hop, hkl, hw, hwd, hfl, hw1, hw2, hw3]) fun x hx => ?_
        rcases hx with rfl | rfl | rfl
        · simp only [over, List.foldl, List.set]
          refine Run.seq ?_
          refine opsF oo18 fun K hK => ?_
          try simp
          repeat' first | ((refine evL_c ?_); simp [-List.map_set, hn, hk, hop, hkl, hw, hwd, hfl, hw1, hw2, hw3]) | (with_reducible refine And.intro ?_ ?_) | intro _ | (with_reducible assumption) | omega
          all_goals (refine Fin.go hK ?_; clear hK K)
          simp only [Then_normal]
          refine Run.seq ?_
          refine Run.cond rfl (fun h47 => ?_) (fun h47 => ?_)
          · skip
            refine Run.skip ?_
            simp only [Then_normal]
            refine Run.seq ?_
            refine Run.block ?_
            refine Run.seq ?_
            refine opsF oo19 fun K hK => ?_
            try simp
            repeat' first | ((refine evL_c ?_); simp [-List.map_set, hn, hk, hop, hkl, hw, hwd, hfl, hw1, hw2, hw3]) | (with_reducible refine And.intro ?_ ?_) | intro _ | (with_reducible assumption) | omega
            all_goals (refine Fin.go hK ?_; clear hK K)
            simp only [Then_normal]
            refine Run.seq ?_
            refine opsF oo20 fun K hK => ?_
            try simp
            repeat' first | (refine ecall (by have h := IH; exact h) rfl ?_) | ((refine evL_c ?_); simp [-List.map_set, hn, hk, hop, hkl, hw, hwd, hfl, hw1, hw2, hw3]) | (with_reducible refine And.intro ?_ ?_) | intro _ | (with_reducible assumption) | omega
            all_goals (refine Fin.go hK ?_; clear hK K)
            simp only [Then_normal]
            refine Run.seq ?_
            refine Run.seq ?_
            refine opsF oo21 fun K hK => ?_
            try simp
            repeat' first | ((refine evL_c ?_); simp [-List.map_set, hn, hk, hop, hkl, hw, hwd, hfl, hw1, hw2, hw3]) | (with_reducible refine And.intro ?_ ?_) | intro _ | (with_reducible assumption) | omega
            all_goals (refine Fin.go hK ?_; clear hK K)
            simp only [Then_normal]
            refine Run.cond rfl (fun h54 => ?_) (fun h54 => ?_)
            · simp at h54
            · skip
              refine Run.skip ?_
              simp only [Then_normal]
              refine opsF oo22 fun K hK => ?_
              try simp
              repeat' first | ((refine evL_c ?_); simp [-List.map_set, hn, hk, hop, hkl, hw, hwd, hfl, hw1, hw2, hw3]) | (with_reducible refine And.intro ?_ ?_) | intro _ | (with_reducible assumption) | omega
              all_goals (refine Fin.go hK ?_; clear hK K)
              simp only [Blok_normal]
              simp only [Then_normal]
              refine Run.ren 5300 1000000 (by omega) (by omega) (by simp) (by simp) ?_
              refine opsF oo23 fun K hK => ?_
              try simp
              repeat' first | ((refine evL_c ?_); simp [-List.map_set, hn, hk, hop, hkl, hw, hwd, hfl, hw1, hw2, hw3]) | (with_reducible refine And.intro ?_ ?_) | intro _ | (with_reducible assumption) | omega
              all_goals (refine Fin.go hK ?_; clear hK K)
              refine ⟨1, .inr (.inl rfl), by omega, ?_⟩
              simp (disch := omega) [-List.map_set, hn, hk, hop, hkl, hw, hwd, hfl, hw1, hw2, hw3, hb0n, wrap_id]
          · simp at h47
        · simp only [over, List.foldl, List.set]
          refine Run.seq ?_
          refine opsF oo18 fun K hK => ?_
          try simp
          repeat' first | ((refine evL_c ?_); simp [-List.map_set, hn, hk, hop, hkl, hw, hwd, hfl, hw1, hw2, hw3]) | (with_reducible refine And.intro ?_ ?_) | intro _ | (with_reducible assumption) | omega
          all_goals (refine Fin.go hK ?_; clear hK K)
          simp only [Then_normal]
          refine Run.seq ?_
          refine Run.cond rfl (fun h47 => ?_) (fun h47 => ?_)
          · skip
            refine Run.skip ?_
            simp only [Then_normal]
            refine Run.seq ?_
            refine Run.block ?_
            refine Run.seq ?_
            refine opsF oo19 fun K hK => ?_
            try simp
            repeat' first | ((refine evL_c ?_); simp [-List.map_set, hn, hk, hop, hkl, hw, hwd, hfl, hw1, hw2, hw3]) | (with_reducible refine And.intro ?_ ?_) | intro _ | (with_reducible assumption) | omega
            all_goals (refine Fin.go hK ?_; clear hK K)
            simp only [Then_normal]
            refine Run.seq ?_
            refine opsF oo20 fun K hK => ?_
            try simp
            repeat' first | (refine ecall (by have h := IH2; exact h) rfl ?_) | ((refine evL_c ?_); simp [-List.map_set, hn, hk, hop, hkl, hw, hwd, hfl, hw1, hw2, hw3]) | (with_reducible refine And.intro ?_ ?_) | intro _ | (with_reducible assumption) | omega
            all_goals (refine Fin.go hK ?_; clear hK K)
            simp only [Then_normal]
            refine Run.seq ?_
            refine Run.seq ?_
            refine opsF oo21 fun K hK => ?_
            try simp
            repeat' first | ((refine evL_c ?_); simp [-List.map_set, hn, hk, hop, hkl, hw, hwd, hfl, hw1, hw2, hw3]) | (with_reducible refine And.intro ?_ ?_) | intro _ | (with_reducible assumption) | omega
            all_goals (refine Fin.go hK ?_; clear hK K)
            simp only [Then_normal]
            refine Run.cond rfl (fun h54 => ?_) (fun h54 => ?_)
            · simp at h54
            · skip
              refine Run.skip ?_
              simp only [Then_normal]
              refine opsF oo22 fun K hK => ?_
              try simp
              repeat' first | ((refine evL_c ?_); simp [-List.map_set, hn, hk, hop, hkl, hw, hwd, hfl, hw1, hw2, hw3]) | (with_reducible refine And.intro ?_ ?_) | intro _ | (with_reducible assumption) | omega
              all_goals (refine Fin.go hK ?_; clear hK K)
              simp only [Blok_normal]
              simp only [Then_normal]
              refine opsF oo23 fun K hK => ?_
              try simp
              repeat' first | ((refine evL_c ?_); simp [-List.map_set, hn, hk, hop, hkl, hw, hwd, hfl, hw1, hw2, hw3]) | (with_reducible refine And.intro ?_ ?_) | intro _ | (with_reducible assumption) | omega
              all_goals (refine Fin.go hK ?_; clear hK K)
              refine ⟨2, .inr (.inr rfl), by omega, ?_⟩
              simp (disch := omega) [-List.map_set, hn, hk, hop, hkl, hw, hwd, hfl, hw1, hw2, hw3, hb0n, hb1n, wrap_id]
          · simp at h47
        · simp only [over, List.foldl, List.set]
          refine Run.seq ?_
          refine opsF oo18 fun K hK => ?_
          try simp
          repeat' first | ((refine evL_c ?_); simp [-List.map_set, hn, hk, hop, hkl, hw, hwd, hfl, hw1, hw2, hw3]) | (with_reducible refine And.intro ?_ ?_) | intro _ | (with_reducible assumption) | omega
          all_goals (refine Fin.go hK ?_; clear hK K)
          simp only [Then_normal]
          refine Run.seq ?_
          refine Run.cond rfl (fun h47 => ?_) (fun h47 => ?_)
          · simp at h47
          · skip
            refine Run.exit ?_
            simp (decide := true) only [Then_exit, Blok_exit, if_true, if_false]
            simp only [Then_normal]
            refine Run.seq ?_
            refine opsF oo24 fun K hK => ?_
            try simp
            repeat' first | ((refine evL_c ?_); simp [-List.map_set, hn, hk, hop, hkl, hw, hwd, hfl, hw1, hw2, hw3]) | (with_reducible refine And.intro ?_ ?_) | intro _ | (with_reducible assumption) | omega
            all_goals (refine Fin.go hK ?_; clear hK K)
            simp only [Then_normal]
            refine Run.seq ?_
            refine opsF oo25 fun K hK => ?_
            try simp
            repeat' first | ((refine evL_c ?_); simp [-List.map_set, hn, hk, hop, hkl, hw, hwd, hfl, hw1, hw2, hw3]) | (with_reducible refine And.intro ?_ ?_) | intro _ | (with_reducible assumption) | omega
            all_goals (refine Fin.go hK ?_; clear hK K)
            simp only [Then_normal]
            refine Run.seq ?_
            refine Run.seq ?_
            refine opsF oo26 fun K hK => ?_
            try simp
            repeat' first | ((refine evL_c ?_); simp [-List.map_set, hn, hk, hop, hkl, hw, hwd, hfl, hw1, hw2, hw3]) | (with_reducible refine And.intro ?_ ?_) | intro _ | (with_reducible assumption) | omega
            all_goals (refine Fin.go hK ?_; clear hK K)
            simp only [Then_normal]
            refine Run.block ?_
            refine Run.seq ?_
            refine opsF oo27 fun K hK => ?_
            try simp
            repeat' first | ((refine evL_c ?_); simp [-List.map_set, hn, hk, hop, hkl, hw, hwd, hfl, hw1, hw2, hw3]) | (with_reducible refine And.intro ?_ ?_) | intro _ | (with_reducible assumption) | omega
            all_goals (refine Fin.go hK ?_; clear hK K)
            simp only [Then_normal]
            refine Run.cond rfl (fun h68 => ?_) (fun h68 => ?_)
            · simp at h68
            · skip
              refine Run.seq ?_
              refine Run.seq ?_
              refine opsF oo28 fun K hK => ?_
              try simp
              repeat' first | ((refine evL_c ?_); simp [-List.map_set, hn, hk, hop, hkl, hw, hwd, hfl, hw1, hw2, hw3]) | (with_reducible refine And.intro ?_ ?_) | intro _ | (with_reducible assumption) | omega
              all_goals (refine Fin.go hK ?_; clear hK K)
              simp only [Then_normal]
              refine Run.cond rfl (fun h85 => ?_) (fun h85 => ?_)
              · simp at h85
              · skip
                refine opsF oo33 fun K hK => ?_
                try simp
                repeat' first | ((refine evL_c ?_); simp [-List.map_set, hn, hk, hop, hkl, hw, hwd, hfl, hw1, hw2, hw3]) | (with_reducible refine And.intro ?_ ?_) | intro _ | (with_reducible assumption) | omega
                all_goals (refine Fin.go hK ?_; clear hK K)
                simp only [Then_normal]
                refine Run.cond rfl (fun h85 => ?_) (fun h85 => ?_)
                · simp at h85
                · skip
                  refine Run.seq ?_
                  refine opsF oo34 fun K hK => ?_
                  try simp
                  repeat' first | ((refine evL_c ?_); simp [-List.map_set, hn, hk, hop, hkl, hw, hwd, hfl, hw1, hw2, hw3]) | (with_reducible refine And.intro ?_ ?_) | intro _ | (with_reducible assumption) | omega
                  all_goals (refine Fin.go hK ?_; clear hK K)
                  simp only [Then_normal]
                  refine Run.cond rfl (fun h92 => ?_) (fun h92 => ?_)
                  · skip
                    refine Run.seq ?_
                    refine opsF [⟨Op.move (Operand.tmp 8), some 94, none⟩, ⟨Op.indexAddr 121 (Operand.tmp 94) (Operand.const (Value.int IntKind.i64 1)), some 95, none⟩, ⟨Op.load 60 (Operand.tmp 95), some 96, none⟩, ⟨Op.call { callee := Callee.builtin Builtin.len, args := #[Operand.tmp 96], argTypes := #[60] }, some 97, none⟩, ⟨Op.move (Operand.const (Value.int IntKind.i64 0)), some 98, none⟩] fun K hK => ?_
                    try simp
                    repeat' first | ((refine evL_c ?_); simp [-List.map_set, hn, hk, hop, hkl, hw, hwd, hfl, hw1, hw2, hw3]) | (with_reducible refine And.intro ?_ ?_) | intro _ | (with_reducible assumption) | omega
                    all_goals (refine Fin.go hK ?_; clear hK K)
                    simp only [Then_normal]
                    refine Run.block ?_
                    refine Run.loopO [13, 14, 15, 98, 99, 100, 101, 102, 103, 104, 105, 106, 107, 108, 109, 110, 111, 112, 113, 114, 115, 116, 117, 118, 119, 120, 121, 122, 123, 124, 125, 126, 127, 128, 129, 130] (fun (i : Nat) => [(98, .int i), (13, .bool (jn n b0 b1 i).1)]) (fun (i : Nat) => [(300, .vals ((encC c ++ [D.int c.nodes.length]).map .d)), (400, .vals ((encP p).map .d)), (1300, .vals [.rs 5300 1 0 (n + k)]), (5300, .data 1 ((jn n b0 b1 i).2.map encB)), (1000000, .data 1 (b0.map encB))]) (fun (i : Nat) => i ≤ n + k) (fun (i : Nat) => n + k - i) 0 (by omega) (by simp [jn, -List.map_set, hn, hk, hop, hkl, hw, hwd, hfl, hw1, hw2, hw3]) fun i hi => ?_
                    simp only [over, List.foldl, List.set]
                    obtain ⟨⟨r, bb⟩, hj⟩ : ∃ x, jn n b0 b1 i = x := ⟨_, rfl⟩
                    have hjl : bb.length = n + k := by have := jn_len n b0 b1 i; rw [hj] at this; exact this.trans hb1n
                    refine Run.seq ?_
                    refine opsF [⟨Op.binOp BinOp.lss 3 (Operand.tmp 98) (Operand.tmp 97) 3, some 99, none⟩] fun K hK => ?_
                    try simp
                    repeat' first | ((refine evL_c ?_); simp [-List.map_set, hn, hk, hop, hkl, hw, hwd, hfl, hw1, hw2, hw3]) | (with_reducible refine And.intro ?_ ?_) | intro _ | (with_reducible assumption) | omega
                    all_goals (refine Fin.go hK ?_; clear hK K)
                    simp only [Then_normal]
                    refine Run.seq ?_
                    refine Run.cond rfl (fun h99 => ?_) (fun h99 => ?_)
                    · try simp [hj] at h99
                      have hi1 : i < n + k := by omega
                      have hi2 : (i : Int) < (n : Int) + k := by omega
                      refine Run.skip ?_
                      simp only [Then_normal]
                      refine Run.seq ?_
                      refine Run.block ?_
                      refine Run.seq ?_
                      refine opsF [⟨Op.move (Operand.tmp 98), some 100, none⟩, ⟨Op.indexAddr 60 (Operand.tmp 96) (Operand.tmp 98), some 101, none⟩, ⟨Op.load 4 (Operand.tmp 101), some 102, none⟩, ⟨Op.assign (Operand.tmp 100), some 14, none⟩, ⟨Op.assign (Operand.tmp 102), some 15, none⟩] fun K hK => ?_
                      try simp
                      repeat' first | ((refine evL_c ?_); simp [-List.map_set, hn, hk, hop, hkl, hw, hwd, hfl, hw1, hw2, hw3, hb0n, hi1, hj, hjl, hi2]) | (with_reducible refine And.intro ?_ ?_) | intro _ | (with_reducible assumption) | omega
                      all_goals (refine Fin.go hK ?_; clear hK K)
                      simp only [Then_normal]
                      refine Run.cut [13, 103, 104, 105, 106, 107, 108, 109, 110, 111, 112, 113, 114, 115, 116, 117, 118, 119] [(13, .bool (r && !(rdI b0 i && (rdI bb i && decide ((n : Int) ≤ i)))))] [(300, .vals ((encC c ++ [D.int c.nodes.length]).map .d)), (400, .vals ((encP p).map .d)), (1300, .vals [.rs 5300 1 0 (n + k)]), (5300, .data 1 (bb.map encB)), (1000000, .data 1 (b0.map encB))] ?_ ?_
                      · refine opsF [⟨Op.move (Operand.tmp 13), some 103, none⟩, ⟨Op.move (Operand.tmp 103), some 104, none⟩, ⟨Op.move (Operand.tmp 15), some 105, some (some 104, true)⟩, ⟨Op.move (Operand.tmp 105), some 106, some (some 104, true)⟩, ⟨Op.load 60 (Operand.tmp 12), some 107, some (some 106, true)⟩, ⟨Op.move (Operand.tmp 14), some 108, some (some 106, true)⟩, ⟨Op.indexAddr 60 (Operand.tmp 107) (Operand.tmp 108), some 109, some (some 106, true)⟩, ⟨Op.load 4 (Operand.tmp 109), some 110, some (some 106, true)⟩, ⟨Op.pick (Operand.tmp 106) (Operand.tmp 110) (Operand.const (Value.bool false)), some 111, some (some 104, true)⟩, ⟨Op.move (Operand.tmp 111), some 112, some (some 104, true)⟩, ⟨Op.move (Operand.tmp 14), some 113, some (some 112, true)⟩, ⟨Op.fieldAddr 86 (Operand.tmp 2) 1, some 114, some (some 112, true)⟩, ⟨Op.load 3 (Operand.tmp 114), some 115, some (some 112, true)⟩, ⟨Op.binOp BinOp.geq 3 (Operand.tmp 113) (Operand.tmp 115) 3, some 116, some (some 112, true)⟩, ⟨Op.pick (Operand.tmp 112) (Operand.tmp 116) (Operand.const (Value.bool false)), some 117, some (some 104, true)⟩, ⟨Op.unOp UnOp.not 4 (Operand.tmp 117), some 118, some (some 104, true)⟩, ⟨Op.pick (Operand.tmp 104) (Operand.tmp 118) (Operand.const (Value.bool false)), some 119, none⟩, ⟨Op.assign (Operand.tmp 119), some 13, none⟩] fun K hK => ?_
                        try simp
                        repeat' first | ((first | refine evL_c ?_ | (refine evL_g rfl ?_; try simp only [gs_tt, gs_ff, gs_tf, gs_ft]) | refine evL_u rfl ?_ | (with_reducible refine gsplit (fun hg => ?_) (fun hg => ?_) <;> try simp at hg)) <;> try simp [-List.map_set, hn, hk, hop, hkl, hw, hwd, hfl, hw1, hw2, hw3, hb0n, hi1, hj, hjl, hi2, *]) | (with_reducible refine And.intro ?_ ?_) | intro _ | (with_reducible assumption) | omega
                        all_goals (refine Fin.go hK ?_; clear hK K)
                        all_goals
                          (try simp [-List.map_set, hn, hk, hop, hkl, hw, hwd, hfl, hw1, hw2, hw3, hb0n, hi1, hj, hjl, *]) <;> (first | omega | (simp; done) | grind | (simp_all; done) | (simp_all; omega))
                      · simp only [over, List.foldl, List.set]
                        refine opsF [⟨Op.load 60 (Operand.tmp 12), some 120, none⟩, ⟨Op.move (Operand.tmp 14), some 121, none⟩, ⟨Op.load 60 (Operand.tmp 12), some 122, none⟩, ⟨Op.move (Operand.tmp 14), some 123, none⟩, ⟨Op.indexAddr 60 (Operand.tmp 122) (Operand.tmp 123), some 124, none⟩, ⟨Op.load 4 (Operand.tmp 124), some 125, none⟩, ⟨Op.move (Operand.tmp 125), some 126, none⟩, ⟨Op.move (Operand.tmp 15), some 127, some (some 126, false)⟩, ⟨Op.pick (Operand.tmp 126) (Operand.const (Value.bool true)) (Operand.tmp 127), some 128, none⟩, ⟨Op.indexAddr 60 (Operand.tmp 120) (Operand.tmp 121), some 129, none⟩, ⟨Op.store 4 (Operand.tmp 129) (Operand.tmp 128), none, none⟩] fun K hK => ?_
                        try simp
                        repeat' first | ((first | refine evL_c ?_ | (refine evL_g rfl ?_; try simp only [gs_tt, gs_ff, gs_tf, gs_ft]) | refine evL_u rfl ?_ | (with_reducible refine gsplit (fun hg => ?_) (fun hg => ?_) <;> try simp at hg)) <;> try simp [-List.map_set, hn, hk, hop, hkl, hw, hwd, hfl, hw1, hw2, hw3, hb0n, hi1, hj, hjl, hi2]) | (with_reducible refine And.intro ?_ ?_) | intro _ | (with_reducible assumption) | omega
                        all_goals (refine Fin.go hK ?_; clear hK K)
                        all_goals
                          simp only [Blok_normal]
                          simp only [Then_normal]
                          refine opsF [⟨Op.binOp BinOp.add 3 (Operand.tmp 98) (Operand.const (Value.int IntKind.i64 1)) 3, some 130, none⟩, ⟨Op.move (Operand.tmp 130), some 98, none⟩] fun K hK => ?_
                          try simp
                          repeat' first | ((refine evL_c ?_); simp [-List.map_set, hn, hk, hop, hkl, hw, hwd, hfl, hw1, hw2, hw3, hb0n, hi1, hj, hjl, hi2]) | (with_reducible refine And.intro ?_ ?_) | intro _ | (with_reducible assumption) | omega
                          all_goals (refine Fin.go hK ?_; clear hK K)
                          refine ⟨i + 1, by omega, by omega, ?_⟩
                          simp (disch := omega) [-List.map_set, hn, hk, hop, hkl, hw, hwd, hfl, hw1, hw2, hw3, hb0n, hi1, hj, hjl, wrap_id, jn, hg]
                    · try simp [hj] at h99
                      have hi3 : i = n + k := by omega
                      subst hi3
                      refine Run.exit ?_
                      simp (decide := true) only [Then_exit, Blok_exit, if_true, if_false]
                      simp only [Blok_normal]
                      simp only [Then_normal]
                      refine Run.seq ?_
                      refine Run.seq ?_
                      refine opsF oo30 fun K hK => ?_
                      try simp
                      repeat' first | ((refine evL_c ?_); simp [-List.map_set, hn, hk, hop, hkl, hw, hwd, hfl, hw1, hw2, hw3, hj, hjl]) | (with_reducible refine And.intro ?_ ?_) | intro _ | (with_reducible assumption) | omega
                      all_goals (refine Fin.go hK ?_; clear hK K)
                      simp only [Then_normal]
                      refine Run.cond rfl (fun h145 => ?_) (fun h145 => ?_)
                      · try simp at h145
                        refine Run.seq ?_
                        refine opsF oo31 fun K hK => ?_
                        try simp
                        repeat' first | ((refine evL_c ?_); simp [-List.map_set, hn, hk, hop, hkl, hw, hwd, hfl, hw1, hw2, hw3, hj, hjl]) | (with_reducible refine And.intro ?_ ?_) | intro _ | (with_reducible assumption) | omega
                        all_goals (refine Fin.go hK ?_; clear hK K)
                        simp only [Then_normal]
                        refine Run.drop [] (by simp) ?_
                        refine Run.ret ?_
                        try simp only [Then_ret, Blok_ret]
                        first
                          | (have e : opS c p [b0, b1] = none := by simp [opS, hop, hn, hk, hj]; simpa using h145
                             rw [e]
                             simp [resB, stoB, hn]; done)
                          | (have e : opS c p [b0, b1] = some bb := by simp [opS, hop, hn, hk, hj]; simpa using h145
                             rw [e]
                             simp [-List.map_set, resB, stoB, hn, hjl]; done)
                      · try simp at h145
                        refine Run.skip ?_
                        simp only [Then_normal]
                        refine Run.seq ?_
                        refine opsF oo32 fun K hK => ?_
                        try simp
                        repeat' first | ((refine evL_c ?_); simp [-List.map_set, hn, hk, hop, hkl, hw, hwd, hfl, hw1, hw2, hw3, hj, hjl]) | (with_reducible refine And.intro ?_ ?_) | intro _ | (with_reducible assumption) | omega
                        all_goals (refine Fin.go hK ?_; clear hK K)
                        simp only [Then_normal]
                        refine Run.ret ?_
                        try simp only [Then_ret, Blok_ret]
                        first
                          | (have e : opS c p [b0, b1] = none := by simp [opS, hop, hn, hk, hj]; simpa using h145
                             rw [e]
                             simp [resB, stoB, hn]; done)
                          | (have e : opS c p [b0, b1] = some bb := by simp [opS, hop, hn, hk, hj]; simpa using h145
                             rw [e]
                             simp [-List.map_set, resB, stoB, hn, hjl]; done)
                  · simp at h92


end Go.Proofs.Ytihbejpkfifplaa.Z
end
section
set_option maxRecDepth 100000
namespace Go.Proofs.Ytihbejpkfifplaa.Z
open Go Go.Fw
theorem len_two {α : Type} {l : List α} (h : l.length = 2) : ∃ q r, l = [q, r] := by
  match l, h with
  | [q, r], _ => exact ⟨q, r, rfl⟩
theorem wants_op {o : Int} {w : Nat} (h : wants o = some w) : o = 1 ∨ o = 2 ∨ o = 3 ∨ o = 4 ∨ o = 5 ∨ o = 6 := by
  unfold wants at h
  split at h; · exact .inl ‹_›
  split at h; · exact .inr (.inl ‹_›)
  split at h; · exact .inr (.inr (.inl ‹_›))
  split at h; · exact .inr (.inr (.inr (.inl ‹_›)))
  split at h; · exact .inr (.inr (.inr (.inr (.inl ‹_›))))
  split at h; · exact .inr (.inr (.inr (.inr (.inr ‹_›))))
  cases h
theorem kids_lt {p q : PlanT} (h : q ∈ p.kids) : SizeOf.sizeOf q < SizeOf.sizeOf p := by
  cases p with
  | mk o k s e b t =>
    have := List.sizeOf_lt_of_mem (show q ∈ k from h)
    simp only [PlanT.mk.sizeOf_spec]
    omega
theorem opS_len {c : CoreT} {p : PlanT} {bs : List (List Bool)} {b : List Bool} (hw : wants p.op = some bs.length) (hb : ∀ x ∈ bs, x.length = c.nodes.length + c.edges.length) (h : opS c p bs = some b) : b.length = c.nodes.length + c.edges.length := by
  have g : ∀ i, i < bs.length → (bs.getD i []).length = c.nodes.length + c.edges.length := fun i hl => by
    rw [List.getD_eq_getElem?_getD, List.getElem?_eq_getElem hl]
    exact hb _ (List.getElem_mem hl)
  unfold opS at h
  split at h
  · split at h
    · obtain rfl := Option.some.inj h; simp
    · cases h
  · rename_i n1
    have h0 : p.op = 2 ∨ p.op = 3 ∨ p.op = 4 ∨ p.op = 5 ∨ p.op = 6 := (wants_op hw).resolve_left n1
    have hl : 0 < bs.length := by
      rcases h0 with e | e | e | e | e <;> · rw [e] at hw; simp [wants] at hw; omega
    split at h
    · split at h
      · obtain rfl := Option.some.inj h; rw [edgeL_len, g 0 hl]
      · cases h
    · split at h
      · rename_i n3
        have hl2 : 1 < bs.length := by rw [n3] at hw; simp [wants] at hw; omega
        split at h
        · obtain rfl := Option.some.inj h; rw [jn_len, g 1 hl2]
        · cases h
      · split at h
        · split at h
          · obtain rfl := Option.some.inj h; rw [meetR_len, g 0 hl]
          · cases h
        · split at h
          · obtain rfl := Option.some.inj h; exact g 0 hl
          · cases h
mutual
theorem bndT_len (c : CoreT) : ∀ (p : PlanT) (b : List Bool), bndT c p = some b → b.length = c.nodes.length + c.edges.length
  | .mk o k s e bk t, b, h => by
    rw [bndT] at h
    split at h
    · rename_i hw
      obtain ⟨bs, h1, h2⟩ := Option.bind_eq_some_iff.1 h
      obtain ⟨h3, h4⟩ := bndL_len c k bs h1
      exact opS_len (p := .mk o k s e bk t) (by show wants o = _; rw [hw, h4]) h3 h2
    · cases h
theorem bndL_len (c : CoreT) : ∀ (l : List PlanT) (bs : List (List Bool)), bndL c l = some bs → (∀ x ∈ bs, x.length = c.nodes.length + c.edges.length) ∧ bs.length = l.length
  | [], bs, h => by
    rw [bndL] at h
    obtain rfl := Option.some.inj h
    simp
  | p :: r, bs, h => by
    rw [bndL] at h
    obtain ⟨b, h1, h2⟩ := Option.bind_eq_some_iff.1 h
    obtain ⟨cs, h3, rfl⟩ := Option.map_eq_some_iff.1 h2
    have e1 := bndT_len c p b h1
    obtain ⟨e2, e3⟩ := bndL_len c r cs h3
    refine ⟨fun x hx => ?_, by simp [e3]⟩
    rcases List.mem_cons.1 hx with rfl | hx
    · exact e1
    · exact e2 x hx
end
theorem bnd_one {c : CoreT} {p : PlanT} (hl : p.kids.length = 1) (hw : wants p.op = some 1) : bndT c p = (bndT c (rdI p.kids 0)).bind fun b => opS c p [b] := by
  obtain ⟨q, hq⟩ := List.length_eq_one_iff.1 hl
  rw [bndT_eq, hl, if_pos hw, hq]
  show (bndL c [q]).bind _ = (bndT c q).bind _
  rw [bndL, bndL]
  cases bndT c q <;> rfl
theorem bnd_two {c : CoreT} {p : PlanT} (hl : p.kids.length = 2) (hw : wants p.op = some 2) : bndT c p = (bndT c (rdI p.kids 0)).bind fun a => (bndT c (rdI p.kids 1)).bind fun b => opS c p [a, b] := by
  obtain ⟨q, r, hq⟩ := len_two hl
  rw [bndT_eq, hl, if_pos hw, hq]
  show (bndL c [q, r]).bind _ = (bndT c q).bind fun a => (bndT c r).bind fun b => _
  rw [bndL, bndL, bndL]
  cases bndT c q <;> cases bndT c r <;> rfl
theorem kid_mem {p : PlanT} {i : Nat} (h : i < p.kids.length) : rdI p.kids (i : Int) ∈ p.kids := rdI_mem (by omega) (by omega)
mutual
def partsP : PlanT → Nat
  | .mk _ k _ e _ t => 1 + t.length + e.length + cntL t + partsL k
def partsL : List PlanT → Nat
  | [] => 0
  | p :: r => partsP p + partsL r
end
theorem partsP_eq (p : PlanT) : partsP p = 1 + p.terms.length + p.edges.length + cntL p.terms + partsL p.kids := by cases p; rw [partsP]; rfl
theorem cntL_mem {l : List TermT} {t : TermT} (h : t ∈ l) : cntT t ≤ cntL l := by
  induction l with
  | nil => cases h
  | cons x r ih =>
    rw [cntL]
    rcases List.mem_cons.1 h with rfl | h
    · omega
    · have := ih h; omega
theorem partsL_mem {l : List PlanT} {p : PlanT} (h : p ∈ l) : partsP p ≤ partsL l := by
  induction l with
  | nil => cases h
  | cons x r ih =>
    rw [partsL]
    rcases List.mem_cons.1 h with rfl | h
    · omega
    · have := ih h; omega
theorem term_fine {p : PlanT} {M : Nat} (hf : partsP p ≤ M) : ∀ t ∈ p.terms, cntT t ≤ M := fun t ht => by
  have := cntL_mem ht; rw [partsP_eq] at hf; omega
theorem kid_fine {p : PlanT} {M : Nat} (hf : partsP p ≤ M) {i : Nat} (hi : i < p.kids.length) : partsP (rdI p.kids (i : Int)) ≤ M := by
  have := partsL_mem (kid_mem hi); rw [partsP_eq] at hf; omega
theorem bound_ok (c : CoreT) (hP : patS c.nodes c.edges = true) (p : PlanT) (hf : partsP p ≤ 1000000) : Snd P 37 [.d (.ag (encC c ++ [D.int c.nodes.length])), .d (.ag (encP p))] (resB (bndT c p)) (stoB (bndT c p)) := by
  by_cases hw : wants p.op = some p.kids.length
  · have h0 := wants_op hw
    have one : wants p.op = some 1 → p.kids.length = 1 → (∀ hq : bndT c (rdI p.kids 0) = none, Snd P 37 [.d (.ag (encC c ++ [D.int c.nodes.length])), .d (.ag (encP p))] vnil []) →
        (∀ b0, bndT c (rdI p.kids 0) = some b0 → b0.length = c.nodes.length + c.edges.length → Snd P 37 [.d (.ag (encC c ++ [D.int c.nodes.length])), .d (.ag (encP p))] (resB (opS c p [b0])) (stoB (opS c p [b0]))) → Snd P 37 [.d (.ag (encC c ++ [D.int c.nodes.length])), .d (.ag (encP p))] (resB (bndT c p)) (stoB (bndT c p)) := fun h1 h2 hn hs => by
      rw [bnd_one h2 h1]
      cases hq : bndT c (rdI p.kids 0) with
      | none => exact hn hq
      | some b0 => exact hs b0 hq (bndT_len c _ _ hq)
    have IH0 : 0 < p.kids.length → Snd P 37 [.d (.ag (encC c ++ [D.int c.nodes.length])), .d (.ag (encP (rdI p.kids 0)))] (resB (bndT c (rdI p.kids 0))) (stoB (bndT c (rdI p.kids 0))) := fun h =>
      have := kids_lt (kid_mem (i := 0) h)
      bound_ok c hP (rdI p.kids 0) (kid_fine (i := 0) hf h)
    have IH1 : 1 < p.kids.length → Snd P 37 [.d (.ag (encC c ++ [D.int c.nodes.length])), .d (.ag (encP (rdI p.kids 1)))] (resB (bndT c (rdI p.kids 1))) (stoB (bndT c (rdI p.kids 1))) := fun h =>
      have := kids_lt (kid_mem (i := 1) h)
      bound_ok c hP (rdI p.kids 1) (kid_fine (i := 1) hf h)
    rcases h0 with e | e | e | e | e | e
    · have hl : p.kids.length = 0 := by rw [e] at hw; simp [wants] at hw; omega
      have h := bound1_ok c p hP e hl
      have e2 : bndT c p = opS c p [] := by
        rw [bndT_eq, if_pos hw, List.length_eq_zero_iff.1 hl, bndL]; rfl
      rw [e2]; exact h
    · have hl : p.kids.length = 1 := by rw [e] at hw; simp [wants] at hw; omega
      exact one (by rw [hw, hl]) hl (fun hq => boundN2_ok c p hP e hl (IH0 (by omega)) hq) fun b0 hq hb => bound2_ok c p hP e hl (IH0 (by omega)) b0 hq hb
    · have hl : p.kids.length = 1 := by rw [e] at hw; simp [wants] at hw; omega
      exact one (by rw [hw, hl]) hl (fun hq => boundN3_ok c p hP e hl (IH0 (by omega)) hq) fun b0 hq hb => bound3_ok c p hP e hl (IH0 (by omega)) b0 hq hb
    · have hl : p.kids.length = 2 := by rw [e] at hw; simp [wants] at hw; omega
      rw [bnd_two hl (by rw [hw, hl])]
      cases hq : bndT c (rdI p.kids 0) with
      | none => exact boundN4_ok c p hP e hl (IH0 (by omega)) hq
      | some b0 =>
        have hb0 := bndT_len c _ _ hq
        cases hr : bndT c (rdI p.kids 1) with
        | none => exact boundN4b_ok c p hP e hl (IH0 (by omega)) (IH1 (by omega)) b0 hq hb0 hr
        | some b1 => exact bound4_ok c p hP e hl (IH0 (by omega)) (IH1 (by omega)) b0 b1 hq hb0 hr (bndT_len c _ _ hr)
    · have hl : p.kids.length = 1 := by rw [e] at hw; simp [wants] at hw; omega
      exact one (by rw [hw, hl]) hl (fun hq => boundN5_ok c p hP e hl (IH0 (by omega)) hq) fun b0 hq hb => bound5_ok c p hP e hl (IH0 (by omega)) b0 hq hb
    · have hl : p.kids.length = 1 := by rw [e] at hw; simp [wants] at hw; omega
      exact one (by rw [hw, hl]) hl (fun hq => boundN6_ok c p hP e hl (IH0 (by omega)) hq) fun b0 hq hb => bound6_ok c p hP e hl (IH0 (by omega)) b0 hq hb (term_fine hf)
  · have e2 : bndT c p = none := by rw [bndT_eq, if_neg hw]
    rw [e2]
    show Snd P 37 _ vnil []
    by_cases e1 : p.op = 1
    · exact boundX1_ok c p hP e1 (fun hl => hw (by rw [e1, hl]; rfl))
    by_cases e2 : p.op = 2
    · exact boundX2_ok c p hP e2 (fun hl => hw (by rw [e2, hl]; rfl))
    by_cases e3 : p.op = 3
    · exact boundX3_ok c p hP e3 (fun hl => hw (by rw [e3, hl]; rfl))
    by_cases e4 : p.op = 4
    · exact boundX4_ok c p hP e4 (fun hl => hw (by rw [e4, hl]; rfl))
    by_cases e5 : p.op = 5
    · exact boundX5_ok c p hP e5 (fun hl => hw (by rw [e5, hl]; rfl))
    by_cases e6 : p.op = 6
    · exact boundX6_ok c p hP e6 (fun hl => hw (by rw [e6, hl]; rfl))
    exact boundX0_ok c p hP e1 e2 e3 e4 e5 e6
termination_by SizeOf.sizeOf p
/-- what Bound answers -/
def boundD (c : CoreT) (p : PlanT) : D × Int := if patS c.nodes c.edges then match bndT c p with
  | some b => (.sl false (b.map encB), 0)
  | none => (.lit (.slice none 0 0), 131) else (.lit (.slice none 0 0), 1)
theorem BoundA_ok (c : CoreT) (p : PlanT) (hf : partsP p ≤ 1000000) (hP : patS c.nodes c.edges = false) : Snd P 20 [.d (.ag (encP p)), .d (.ag (encC c))] (.tup [.d (.lit (.slice none 0 0)), .int 1]) [] := by
  have hP1 : Snd P 36 [.d (.ag (encC c))] (.bool false) [] := by rw [← hP]; exact pattern_ok c
  refine snd_of [] Try.func20 rfl (by kernel_rfl) Try.ntmps20 (by simp) ?_
  unfold Try.f20
  simp only [List.cons_append, List.nil_append, List.length_cons, List.length_nil, Nat.reduceAdd, Nat.reduceSub, List.replicate]
  refine Run.seq ?_
  refine opsF oo36 fun K hK => ?_
  try simp
  repeat' first | ((refine evL_c ?_); simp) | (with_reducible refine And.intro ?_ ?_) | intro _ | (with_reducible assumption) | omega
  all_goals (refine Fin.go hK ?_; clear hK K)
  simp only [Then_normal]
  refine Run.seq ?_
  refine Run.seq ?_
  refine opsF oo37 fun K hK => ?_
  try simp
  repeat' first | (refine ecallD (by exact hP1) ?_) | ((refine evL_c ?_); simp) | (with_reducible refine And.intro ?_ ?_) | intro _ | (with_reducible assumption) | omega
  all_goals (refine Fin.go hK ?_; clear hK K)
  simp only [Then_normal]
  refine Run.cond rfl (fun h9 => ?_) (fun h9 => ?_)
  · skip
    refine Run.seq ?_
    refine opsF oo38 fun K hK => ?_
    try simp
    repeat' first | ((refine evL_c ?_); simp) | (with_reducible refine And.intro ?_ ?_) | intro _ | (with_reducible assumption) | omega
    all_goals (refine Fin.go hK ?_; clear hK K)
    simp only [Then_normal]
    refine Run.ret ?_
    try simp only [Then_ret, Blok_ret]
    simp
  · simp at h9

theorem BoundB_ok (c : CoreT) (p : PlanT) (hf : partsP p ≤ 1000000) (hP : patS c.nodes c.edges = true) (hb : bndT c p = none) : Snd P 20 [.d (.ag (encP p)), .d (.ag (encC c))] (.tup [.d (.lit (.slice none 0 0)), .int 131]) [] := by
  obtain ⟨hn1, hn8, hk8⟩ := pat_rng hP
  obtain ⟨n, hn⟩ : ∃ k, c.nodes.length = k := ⟨_, rfl⟩
  have hP1 : Snd P 36 [.d (.ag (encC c))] (.bool true) [] := by rw [← hP]; exact pattern_ok c
  have hB := bound_ok c hP p hf
  simp only [hb, resB, stoB, encP_cells, hn] at hB
  refine snd_of [] Try.func20 rfl (by kernel_rfl) Try.ntmps20 (by simp) ?_
  unfold Try.f20
  simp only [List.cons_append, List.nil_append, List.length_cons, List.length_nil, Nat.reduceAdd, Nat.reduceSub, List.replicate]
  refine Run.seq ?_
  refine opsF oo36 fun K hK => ?_
  try simp
  repeat' first | ((refine evL_c ?_); simp [hn]) | (with_reducible refine And.intro ?_ ?_) | intro _ | (with_reducible assumption) | omega
  all_goals (refine Fin.go hK ?_; clear hK K)
  simp only [Then_normal]
  refine Run.seq ?_
  refine Run.seq ?_
  refine opsF oo37 fun K hK => ?_
  try simp
  repeat' first | (refine ecallD (by exact hP1) ?_) | ((refine evL_c ?_); simp [hn]) | (with_reducible refine And.intro ?_ ?_) | intro _ | (with_reducible assumption) | omega
  all_goals (refine Fin.go hK ?_; clear hK K)
  simp only [Then_normal]
  refine Run.cond rfl (fun h9 => ?_) (fun h9 => ?_)
  · simp at h9
  · skip
    refine Run.skip ?_
    simp only [Then_normal]
    refine Run.seq ?_
    refine Run.seq ?_
    refine opsF oo39 fun K hK => ?_
    try simp
    repeat' first | (refine ecall (by exact hB) rfl ?_) | ((refine evL_c ?_); simp [hn]) | (with_reducible refine And.intro ?_ ?_) | intro _ | (with_reducible assumption) | omega
    all_goals (refine Fin.go hK ?_; clear hK K)
    simp only [Then_normal]
    refine Run.seq ?_
    refine opsF oo40 fun K hK => ?_
    try simp
    repeat' first | ((refine evL_c ?_); simp [hn]) | (with_reducible refine And.intro ?_ ?_) | intro _ | (with_reducible assumption) | omega
    all_goals (refine Fin.go hK ?_; clear hK K)
    simp only [Then_normal]
    refine Run.cond rfl (fun h18 => ?_) (fun h18 => ?_)
    · simp at h18
    · skip
      refine Run.skip ?_
      simp only [Then_normal]
      refine Run.seq ?_
      refine opsF oo41 fun K hK => ?_
      try simp
      repeat' first | ((refine evL_c ?_); simp [hn]) | (with_reducible refine And.intro ?_ ?_) | intro _ | (with_reducible assumption) | omega
      all_goals (refine Fin.go hK ?_; clear hK K)
      simp only [Then_normal]
      refine Run.ret ?_
      try simp only [Then_ret, Blok_ret]
      simp

theorem BoundC_ok (c : CoreT) (p : PlanT) (hf : partsP p ≤ 1000000) (hP : patS c.nodes c.edges = true) (b : List Bool) (hb : bndT c p = some b) : Snd P 20 [.d (.ag (encP p)), .d (.ag (encC c))] (.tup [.d (.sl false (b.map encB)), .int 0]) [] := by
  obtain ⟨hn1, hn8, hk8⟩ := pat_rng hP
  obtain ⟨n, hn⟩ : ∃ k, c.nodes.length = k := ⟨_, rfl⟩
  have hP1 : Snd P 36 [.d (.ag (encC c))] (.bool true) [] := by rw [← hP]; exact pattern_ok c
  have hB := bound_ok c hP p hf
  have hl := bndT_len c p b hb
  have hl0 : 0 < b.length := by omega
  obtain ⟨m, hm⟩ : ∃ m, b.length = m := ⟨_, rfl⟩
  rw [hm] at hl0
  simp only [hb, resB, stoB, encP_cells, hn, hm] at hB
  refine snd_of [] Try.func20 rfl (by kernel_rfl) Try.ntmps20 (by simp) ?_
  unfold Try.f20
  simp only [List.cons_append, List.nil_append, List.length_cons, List.length_nil, Nat.reduceAdd, Nat.reduceSub, List.replicate]
  refine Run.seq ?_
  refine opsF oo36 fun K hK => ?_
  try simp
  repeat' first | ((refine evL_c ?_); simp [hn, hm, hl0]) | (with_reducible refine And.intro ?_ ?_) | intro _ | (with_reducible assumption) | omega
  all_goals (refine Fin.go hK ?_; clear hK K)
  simp only [Then_normal]
  refine Run.seq ?_
  refine Run.seq ?_
  refine opsF oo37 fun K hK => ?_
  try simp
  repeat' first | (refine ecallD (by exact hP1) ?_) | ((refine evL_c ?_); simp [hn, hm, hl0]) | (with_reducible refine And.intro ?_ ?_) | intro _ | (with_reducible assumption) | omega
  all_goals (refine Fin.go hK ?_; clear hK K)
  simp only [Then_normal]
  refine Run.cond rfl (fun h9 => ?_) (fun h9 => ?_)
  · simp at h9
  · skip
    refine Run.skip ?_
    simp only [Then_normal]
    refine Run.seq ?_
    refine Run.seq ?_
    refine opsF oo39 fun K hK => ?_
    try simp
    repeat' first | (refine ecall (by exact hB) rfl ?_) | ((refine evL_c ?_); simp [hn, hm, hl0]) | (with_reducible refine And.intro ?_ ?_) | intro _ | (with_reducible assumption) | omega
    all_goals (refine Fin.go hK ?_; clear hK K)
    simp only [Then_normal]
    refine Run.seq ?_
    refine opsF oo40 fun K hK => ?_
    try simp
    repeat' first | ((refine evL_c ?_); simp [hn, hm, hl0]) | (with_reducible refine And.intro ?_ ?_) | intro _ | (with_reducible assumption) | omega
    all_goals (refine Fin.go hK ?_; clear hK K)
    simp only [Then_normal]
    refine Run.cond rfl (fun h18 => ?_) (fun h18 => ?_)
    · skip
      refine Run.seq ?_
      refine opsF [⟨Op.move (Operand.tmp 6), some 19, none⟩, ⟨Op.assign (Operand.tmp 19), some 4, none⟩, ⟨Op.assign (Operand.const (Value.int IntKind.i64 0)), some 5, none⟩] fun K hK => ?_
      try simp
      repeat' first | ((refine evL_c ?_); simp [hn, hm, hl0]) | (with_reducible refine And.intro ?_ ?_) | intro _ | (with_reducible assumption) | omega
      all_goals (refine Fin.go hK ?_; clear hK K)
      simp only [Then_normal]
      refine Run.ret ?_
      try simp only [Then_ret, Blok_ret]
      simp [hm, List.take_of_length_le]
    · simp at h18

theorem Bound_ok (c : CoreT) (p : PlanT) (hf : partsP p ≤ 1000000) : Snd P 20 [.d (.ag (encP p)), .d (.ag (encC c))] (.tup [.d (boundD c p).1, .int (boundD c p).2]) [] := by
  unfold boundD
  cases hP : patS c.nodes c.edges with
  | false => exact BoundA_ok c p hf hP
  | true =>
    cases hb : bndT c p with
    | none => exact BoundB_ok c p hf hP hb
    | some b => exact BoundC_ok c p hf hP b hb


end Go.Proofs.Ytihbejpkfifplaa.Z
end
section
set_option maxRecDepth 100000
namespace Go.Proofs.Ytihbejpkfifplaa.Z
open Go Go.Fw
mutual
def termsR : TermT → Int → Int
  | .mk _ k _ _ _, most => goT k most 1
def goT : List TermT → Int → Int → Int
  | [], _, n => n
  | t :: r, most, n => if n ≤ most then goT r most (n + termsR t (most - n)) else n
end
theorem termsR_eq (t : TermT) (most : Int) : termsR t most = goT t.kids most 1 := by cases t; rw [termsR]; rfl
mutual
theorem termsR_rng : ∀ (t : TermT) (most : Int), 0 ≤ most → 1 ≤ termsR t most ∧ termsR t most ≤ most + 1
  | .mk o k s p v, most, h => by
    rw [termsR]
    have := goT_rng k most 1
    omega
theorem goT_rng : ∀ (l : List TermT) (most n : Int), n ≤ goT l most n ∧ (goT l most n ≤ most + 1 ∨ goT l most n = n)
  | [], most, n => by rw [goT]; omega
  | t :: r, most, n => by
    rw [goT]
    split
    · have h1 := termsR_rng t (most - n) (by omega)
      have h2 := goT_rng r most (n + termsR t (most - n))
      omega
    · omega
end
theorem goT_end {l : List TermT} {most n : Int} {i : Nat} (h : l.length ≤ i ∨ most < n) : goT (l.drop i) most n = n := by
  rcases h with h | h
  · rw [List.drop_of_length_le h, goT]
  · cases l.drop i with
    | nil => rw [goT]
    | cons t r => rw [goT, if_neg (by omega)]
theorem goT_step {l : List TermT} {most n : Int} {i : Nat} (hi : i < l.length) (h : n ≤ most) : goT (l.drop i) most n = goT (l.drop (i + 1)) most (n + termsR (rdI l i) (most - n)) := by
  rw [drop_rd hi, goT, if_pos h]
mutual
def partsR : PlanT → Int → Int
  | .mk _ k _ e _ t, most => goP k most (goT t most (1 + t.length + e.length))
def goP : List PlanT → Int → Int → Int
  | [], _, n => n
  | t :: r, most, n => if n ≤ most then goP r most (n + partsR t (most - n)) else n
end
theorem partsR_eq (p : PlanT) (most : Int) : partsR p most = goP p.kids most (goT p.terms most (1 + p.terms.length + p.edges.length)) := by cases p; rw [partsR]; rfl
mutual
theorem partsR_rng : ∀ (p : PlanT) (most : Int), 0 ≤ most → partsP p ≤ 2000000 → 1 ≤ partsR p most ∧ partsR p most ≤ most + 2000001
  | .mk o k s e b t, most, h, hf => by
    rw [partsR]
    rw [partsP] at hf
    have h1 := goT_rng t most (1 + t.length + e.length)
    have h2 := goP_rng k most (goT t most (1 + t.length + e.length)) (by omega)
    omega
theorem goP_rng : ∀ (l : List PlanT) (most n : Int), partsL l ≤ 2000000 → n ≤ goP l most n ∧ (goP l most n ≤ most + 2000001 ∨ goP l most n = n)
  | [], most, n, _ => by rw [goP]; omega
  | t :: r, most, n, hf => by
    rw [partsL] at hf
    rw [goP]
    split
    · have h1 := partsR_rng t (most - n) (by omega) (by omega)
      have h2 := goP_rng r most (n + partsR t (most - n)) (by omega)
      omega
    · omega
end
theorem goP_end {l : List PlanT} {most n : Int} {i : Nat} (h : l.length ≤ i ∨ most < n) : goP (l.drop i) most n = n := by
  rcases h with h | h
  · rw [List.drop_of_length_le h, goP]
  · cases l.drop i with
    | nil => rw [goP]
    | cons t r => rw [goP, if_neg (by omega)]
theorem goP_step {l : List PlanT} {most n : Int} {i : Nat} (hi : i < l.length) (h : n ≤ most) : goP (l.drop i) most n = goP (l.drop (i + 1)) most (n + partsR (rdI l i) (most - n)) := by
  rw [drop_rd hi, goP, if_pos h]
theorem goP_le {l : List PlanT} {most n : Int} : n ≤ goP l most n ∨ 2000000 < partsL l := by
  by_cases h : partsL l ≤ 2000000
  · exact .inl (goP_rng l most n h).1
  · exact .inr (by omega)
set_option maxHeartbeats 4000000 in
theorem terms1_ok (t : TermT) (most : Int) (h0 : 0 ≤ most) (h1 : most ≤ 1000000) (IH : ∀ i : Nat, i < t.kids.length → ∀ m : Int, 0 ≤ m → m ≤ 1000000 → Snd P 25 [.d (.ag (encT (rdI t.kids i))), .int m] (.int (termsR (rdI t.kids i) m)) []) : Snd P 25 [.d (.ag (encT t)), .int most] (.int (termsR t most)) [] := by
  refine Snd.ok 0 rfl (by kernel_rfl) fun hok => ?_
  have hkm := encT_ok hok
  clear hok
  obtain ⟨m, hm⟩ : ∃ m, t.kids.length = m := ⟨_, rfl⟩
  rw [hm] at hkm
  refine snd_of [] Try.func25 rfl (by kernel_rfl) Try.ntmps25 (by simp) ?_
  unfold Try.f25
  simp only [List.cons_append, List.nil_append, List.length_cons, List.length_nil, Nat.reduceAdd, Nat.reduceSub, List.replicate]
  refine Run.seq ?_
  refine opsF [⟨Op.box 70 (Operand.tmp 0), some 2, none⟩, ⟨Op.assign (Operand.const (Value.int IntKind.i64 0)), some 4, none⟩] fun K hK => ?_
  try simp
  repeat' first | ((refine evL_c ?_); simp [hm]) | (with_reducible refine And.intro ?_ ?_) | intro _ | (with_reducible assumption) | omega
  all_goals (refine Fin.go hK ?_; clear hK K)
  simp only [Then_normal]
  refine Run.seq ?_
  refine opsF [⟨Op.assign (Operand.const (Value.int IntKind.i64 1)), some 5, none⟩] fun K hK => ?_
  try simp
  repeat' first | ((refine evL_c ?_); simp [hm]) | (with_reducible refine And.intro ?_ ?_) | intro _ | (with_reducible assumption) | omega
  all_goals (refine Fin.go hK ?_; clear hK K)
  simp only [Then_normal]
  refine Run.seq ?_
  refine Run.seq ?_
  refine opsF oo42 fun K hK => ?_
  try simp
  repeat' first | ((refine evL_c ?_); simp [hm]) | (with_reducible refine And.intro ?_ ?_) | intro _ | (with_reducible assumption) | omega
  all_goals (refine Fin.go hK ?_; clear hK K)
  simp only [Then_normal]
  refine Run.block ?_
  refine Run.loopO [5, 6, 7, 8, 9, 10, 11, 12, 13, 14, 15, 16, 17, 18, 19, 20, 21, 22, 23, 24, 25, 26, 27, 28, 29] (fun (x : Nat × Int) => [(6, .int x.1), (5, .int x.2)]) (fun (x : Nat × Int) => [(300, .vals ((encT t).map .d))]) (fun (x : Nat × Int) => x.1 ≤ m ∧ 1 ≤ x.2 ∧ x.2 ≤ 4000000 ∧ goT (t.kids.drop x.1) most x.2 = termsR t most) (fun (x : Nat × Int) => m - x.1) (0, 1) ⟨by omega, by omega, by omega, by rw [termsR_eq]; rfl⟩ (by simp) fun ⟨i, n⟩ ⟨hi, hn1, hn2, hg⟩ => ?_
  simp only at hi hn1 hn2 hg
  simp only [over, List.foldl, List.set]
  refine Run.seq ?_
  refine Run.cut [7, 8, 9, 10, 11, 12, 13, 14, 15, 16] [(16, .bool (decide (i < m ∧ n ≤ most)))] [(300, .vals ((encT t).map .d))] ?_ ?_
  · refine opsF [⟨Op.move (Operand.tmp 6), some 7, none⟩, ⟨Op.fieldAddr 70 (Operand.tmp 2) 1, some 8, none⟩, ⟨Op.load 25 (Operand.tmp 8), some 9, none⟩, ⟨Op.call { callee := Callee.builtin Builtin.len, args := #[Operand.tmp 9], argTypes := #[25] }, some 10, none⟩, ⟨Op.binOp BinOp.lss 3 (Operand.tmp 7) (Operand.tmp 10) 3, some 11, none⟩, ⟨Op.move (Operand.tmp 11), some 12, none⟩, ⟨Op.move (Operand.tmp 5), some 13, some (some 12, true)⟩, ⟨Op.move (Operand.tmp 1), some 14, some (some 12, true)⟩, ⟨Op.binOp BinOp.leq 3 (Operand.tmp 13) (Operand.tmp 14) 3, some 15, some (some 12, true)⟩, ⟨Op.pick (Operand.tmp 12) (Operand.tmp 15) (Operand.const (Value.bool false)), some 16, none⟩] fun K hK => ?_
    try simp
    repeat' first | ((first | refine evL_c ?_ | (refine evL_g rfl ?_; try simp only [gs_tt, gs_ff, gs_tf, gs_ft]) | refine evL_u rfl ?_ | (with_reducible refine gsplit (fun hg => ?_) (fun hg => ?_) <;> try simp at hg)) <;> try simp [hm]) | (with_reducible refine And.intro ?_ ?_) | intro _ | (with_reducible assumption) | omega
    all_goals (refine Fin.go hK ?_; clear hK K)
    all_goals
      (try simp [*]) <;> (first | omega | (simp; done) | grind)
  · simp only [over, List.foldl, List.set]
    refine Run.cond rfl (fun h16 => ?_) (fun h16 => ?_)
    · replace h16 := of_decide_eq_true h16
      obtain ⟨hc1, hc2⟩ := h16
      obtain ⟨r, hr⟩ : ∃ r, termsR (rdI t.kids i) (most - n) = r := ⟨_, rfl⟩
      have hrr := termsR_rng (rdI t.kids i) (most - n) (by omega)
      rw [hr] at hrr
      have hw1 : IntKind.i64.wrap (most - n) = most - n := wrap_id (by omega) (by omega)
      have hw2 : IntKind.i64.wrap (n + r) = n + r := wrap_id (by omega) (by omega)
      refine Run.skip ?_
      simp only [Then_normal]
      refine Run.seq ?_
      refine Run.block ?_
      refine opsF [⟨Op.move (Operand.tmp 5), some 19, none⟩, ⟨Op.fieldAddr 70 (Operand.tmp 2) 1, some 20, none⟩, ⟨Op.load 25 (Operand.tmp 20), some 21, none⟩, ⟨Op.move (Operand.tmp 6), some 22, none⟩, ⟨Op.indexAddr 25 (Operand.tmp 21) (Operand.tmp 22), some 23, none⟩, ⟨Op.load 70 (Operand.tmp 23), some 24, none⟩, ⟨Op.move (Operand.tmp 1), some 25, none⟩, ⟨Op.move (Operand.tmp 5), some 26, none⟩, ⟨Op.binOp BinOp.sub 3 (Operand.tmp 25) (Operand.tmp 26) 3, some 27, none⟩, ⟨Op.call { callee := Callee.value (Operand.func 25), args := #[Operand.tmp 24, Operand.tmp 27], argTypes := #[70, 3] }, some 28, none⟩, ⟨Op.binOp BinOp.add 3 (Operand.tmp 19) (Operand.tmp 28) 3, some 29, none⟩, ⟨Op.assign (Operand.tmp 29), some 5, none⟩] fun K hK => ?_
      try simp
      repeat' first | (refine ecallD (by have h := IH i (by omega) (most - n) (by omega) (by omega); rw [encT_cells, hr] at h; exact h) ?_) | ((refine evL_c ?_); simp [hm, hc1, hr, hw1, hw2]) | (with_reducible refine And.intro ?_ ?_) | intro _ | (with_reducible assumption) | omega
      all_goals (refine Fin.go hK ?_; clear hK K)
      simp only [Blok_normal]
      simp only [Then_normal]
      refine opsF [⟨Op.move (Operand.tmp 6), some 17, none⟩, ⟨Op.binOp BinOp.add 3 (Operand.tmp 17) (Operand.const (Value.int IntKind.i64 1)) 3, some 18, none⟩, ⟨Op.assign (Operand.tmp 18), some 6, none⟩] fun K hK => ?_
      try simp
      repeat' first | ((refine evL_c ?_); simp [hm, hc1, hr, hw1, hw2]) | (with_reducible refine And.intro ?_ ?_) | intro _ | (with_reducible assumption) | omega
      all_goals (refine Fin.go hK ?_; clear hK K)
      refine ⟨(i + 1, n + r), ⟨by simp; omega, by simp; omega, by simp; omega, ?_⟩, by simp; omega, ?_⟩
      · rw [← hg, goT_step (by omega) hc2, hr]
      · simp (disch := omega) [hm, wrap_id]
    · replace h16 := of_decide_eq_false h16
      rw [goT_end (by omega)] at hg
      refine Run.exit ?_
      simp (decide := true) only [Then_exit, Blok_exit, if_true, if_false]
      simp only [Then_normal]
      refine Run.seq ?_
      refine opsF [⟨Op.move (Operand.tmp 5), some 30, none⟩, ⟨Op.assign (Operand.tmp 30), some 4, none⟩] fun K hK => ?_
      try simp
      repeat' first | ((refine evL_c ?_); simp [hm]) | (with_reducible refine And.intro ?_ ?_) | intro _ | (with_reducible assumption) | omega
      all_goals (refine Fin.go hK ?_; clear hK K)
      simp only [Then_normal]
      refine Run.ret ?_
      try simp only [Then_ret, Blok_ret]
      simp [hg]


theorem terms_ok (t : TermT) (most : Int) (h0 : 0 ≤ most) (h1 : most ≤ 1000000) : Snd P 25 [.d (.ag (encT t)), .int most] (.int (termsR t most)) [] :=
  terms1_ok t most h0 h1 fun i hi m hm0 hm1 =>
    have := kidT_lt (rdI_mem (l := t.kids) (i := i) (by omega) (by omega))
    terms_ok (rdI t.kids i) m hm0 hm1
termination_by SizeOf.sizeOf t

set_option maxHeartbeats 4000000 in
theorem parts1_ok (p : PlanT) (hf : partsP p ≤ 2000000) (most : Int) (h0 : 0 ≤ most) (h1 : most ≤ 1000000) (IH : ∀ i : Nat, i < p.kids.length → ∀ m : Int, 0 ≤ m → m ≤ 1000000 → Snd P 11 [.d (.ag (encP (rdI p.kids i))), .int m] (.int (partsR (rdI p.kids i) m)) []) : Snd P 11 [.d (.ag (encP p)), .int most] (.int (partsR p most)) [] := by
  refine Snd.ok 0 rfl (by kernel_rfl) fun hok => ?_
  obtain ⟨hkm, -, htm⟩ := encP_ok hok
  clear hok
  have hpr := partsR_rng p most h0 hf
  have hpe := partsR_eq p most
  have hfe := partsP_eq p
  obtain ⟨m, hm⟩ : ∃ m, p.kids.length = m := ⟨_, rfl⟩
  obtain ⟨tl, htl⟩ : ∃ m, p.terms.length = m := ⟨_, rfl⟩
  obtain ⟨el, hel⟩ : ∃ m, p.edges.length = m := ⟨_, rfl⟩
  rw [hm] at hkm
  rw [htl] at htm
  rw [htl, hel] at hpe hfe
  have hw0 : IntKind.i64.wrap (1 + (tl : Int)) = 1 + tl := wrap_id (by omega) (by omega)
  have hw9 : IntKind.i64.wrap (1 + (tl : Int) + el) = 1 + tl + el := wrap_id (by omega) (by omega)
  obtain ⟨g1, hg1⟩ : ∃ g, goT p.terms most (1 + (tl : Int) + el) = g := ⟨_, rfl⟩
  have hgr := goT_rng p.terms most (1 + (tl : Int) + el)
  rw [hg1] at hgr hpe
  refine snd_of [] Try.func11 rfl (by kernel_rfl) Try.ntmps11 (by simp) ?_
  unfold Try.f11
  simp only [List.cons_append, List.nil_append, List.length_cons, List.length_nil, Nat.reduceAdd, Nat.reduceSub, List.replicate]
  refine Run.seq ?_
  refine opsF [⟨Op.box 27 (Operand.tmp 0), some 2, none⟩, ⟨Op.assign (Operand.const (Value.int IntKind.i64 0)), some 4, none⟩] fun K hK => ?_
  try simp
  repeat' first | ((refine evL_c ?_); simp [hm, htl, hel, hw0, hw9]) | (with_reducible refine And.intro ?_ ?_) | intro _ | (with_reducible assumption) | omega
  all_goals (refine Fin.go hK ?_; clear hK K)
  simp only [Then_normal]
  refine Run.seq ?_
  refine opsF [⟨Op.fieldAddr 27 (Operand.tmp 2) 5, some 8, none⟩, ⟨Op.load 25 (Operand.tmp 8), some 9, none⟩, ⟨Op.call { callee := Callee.builtin Builtin.len, args := #[Operand.tmp 9], argTypes := #[25] }, some 10, none⟩, ⟨Op.binOp BinOp.add 3 (Operand.const (Value.int IntKind.i64 1)) (Operand.tmp 10) 3, some 11, none⟩, ⟨Op.fieldAddr 27 (Operand.tmp 2) 3, some 12, none⟩, ⟨Op.load 24 (Operand.tmp 12), some 13, none⟩, ⟨Op.call { callee := Callee.builtin Builtin.len, args := #[Operand.tmp 13], argTypes := #[24] }, some 14, none⟩, ⟨Op.binOp BinOp.add 3 (Operand.tmp 11) (Operand.tmp 14) 3, some 15, none⟩, ⟨Op.assign (Operand.tmp 15), some 5, none⟩] fun K hK => ?_
  try simp
  repeat' first | ((refine evL_c ?_); simp [hm, htl, hel, hw0, hw9]) | (with_reducible refine And.intro ?_ ?_) | intro _ | (with_reducible assumption) | omega
  all_goals (refine Fin.go hK ?_; clear hK K)
  simp only [Then_normal]
  refine Run.seq ?_
  refine Run.seq ?_
  refine opsF oo42 fun K hK => ?_
  try simp
  repeat' first | ((refine evL_c ?_); simp [hm, htl, hel, hw0, hw9]) | (with_reducible refine And.intro ?_ ?_) | intro _ | (with_reducible assumption) | omega
  all_goals (refine Fin.go hK ?_; clear hK K)
  simp only [Then_normal]
  refine Run.block ?_
  refine Run.loopO [5, 6, 16, 17, 18, 19, 20, 21, 22, 23, 24, 25, 26, 27, 28, 29, 30, 31, 32, 33, 34, 35, 36, 37, 38] (fun (x : Nat × Int) => [(6, .int x.1), (5, .int x.2)]) (fun (x : Nat × Int) => [(300, .vals ((encP p).map .d))]) (fun (x : Nat × Int) => x.1 ≤ tl ∧ 1 ≤ x.2 ∧ x.2 ≤ 4000000 ∧ goT (p.terms.drop x.1) most x.2 = g1) (fun (x : Nat × Int) => tl - x.1) (0, 1 + (tl : Int) + el) ⟨by omega, by simp; omega, by simp; omega, by simpa using hg1⟩ (by simp) fun ⟨i, n⟩ ⟨hi, hn1, hn2, hg⟩ => ?_
  simp only at hi hn1 hn2 hg
  simp only [over, List.foldl, List.set]
  refine Run.seq ?_
  refine Run.cut [16, 17, 18, 19, 20, 21, 22, 23, 24, 25] [(25, .bool (decide (i < tl ∧ n ≤ most)))] [(300, .vals ((encP p).map .d))] ?_ ?_
  · refine opsF [⟨Op.move (Operand.tmp 6), some 16, none⟩, ⟨Op.fieldAddr 27 (Operand.tmp 2) 5, some 17, none⟩, ⟨Op.load 25 (Operand.tmp 17), some 18, none⟩, ⟨Op.call { callee := Callee.builtin Builtin.len, args := #[Operand.tmp 18], argTypes := #[25] }, some 19, none⟩, ⟨Op.binOp BinOp.lss 3 (Operand.tmp 16) (Operand.tmp 19) 3, some 20, none⟩, ⟨Op.move (Operand.tmp 20), some 21, none⟩, ⟨Op.move (Operand.tmp 5), some 22, some (some 21, true)⟩, ⟨Op.move (Operand.tmp 1), some 23, some (some 21, true)⟩, ⟨Op.binOp BinOp.leq 3 (Operand.tmp 22) (Operand.tmp 23) 3, some 24, some (some 21, true)⟩, ⟨Op.pick (Operand.tmp 21) (Operand.tmp 24) (Operand.const (Value.bool false)), some 25, none⟩] fun K hK => ?_
    try simp
    repeat' first | ((first | refine evL_c ?_ | (refine evL_g rfl ?_; try simp only [gs_tt, gs_ff, gs_tf, gs_ft]) | refine evL_u rfl ?_ | (with_reducible refine gsplit (fun hg => ?_) (fun hg => ?_) <;> try simp at hg)) <;> try simp [hm, htl, hel, hw0, hw9]) | (with_reducible refine And.intro ?_ ?_) | intro _ | (with_reducible assumption) | omega
    all_goals (refine Fin.go hK ?_; clear hK K)
    all_goals
      (try simp [*]) <;> (first | omega | (simp; done) | grind)
  · simp only [over, List.foldl, List.set]
    refine Run.cond rfl (fun h25 => ?_) (fun h25 => ?_)
    · replace h25 := of_decide_eq_true h25
      obtain ⟨hc1, hc2⟩ := h25
      obtain ⟨r, hr⟩ : ∃ r, termsR (rdI p.terms i) (most - n) = r := ⟨_, rfl⟩
      have hrr := termsR_rng (rdI p.terms i) (most - n) (by omega)
      rw [hr] at hrr
      have hT := terms_ok (rdI p.terms i) (most - n) (by omega) (by omega)
      rw [encT_cells, hr] at hT
      have hw1 : IntKind.i64.wrap (most - n) = most - n := wrap_id (by omega) (by omega)
      have hw2 : IntKind.i64.wrap (n + r) = n + r := wrap_id (by omega) (by omega)
      refine Run.skip ?_
      simp only [Then_normal]
      refine Run.seq ?_
      refine Run.block ?_
      refine opsF [⟨Op.move (Operand.tmp 5), some 28, none⟩, ⟨Op.fieldAddr 27 (Operand.tmp 2) 5, some 29, none⟩, ⟨Op.load 25 (Operand.tmp 29), some 30, none⟩, ⟨Op.move (Operand.tmp 6), some 31, none⟩, ⟨Op.indexAddr 25 (Operand.tmp 30) (Operand.tmp 31), some 32, none⟩, ⟨Op.load 70 (Operand.tmp 32), some 33, none⟩, ⟨Op.move (Operand.tmp 1), some 34, none⟩, ⟨Op.move (Operand.tmp 5), some 35, none⟩, ⟨Op.binOp BinOp.sub 3 (Operand.tmp 34) (Operand.tmp 35) 3, some 36, none⟩, ⟨Op.call { callee := Callee.value (Operand.func 25), args := #[Operand.tmp 33, Operand.tmp 36], argTypes := #[70, 3] }, some 37, none⟩, ⟨Op.binOp BinOp.add 3 (Operand.tmp 28) (Operand.tmp 37) 3, some 38, none⟩, ⟨Op.assign (Operand.tmp 38), some 5, none⟩] fun K hK => ?_
      try simp
      repeat' first | (refine ecallD (by exact hT) ?_) | ((refine evL_c ?_); simp [hm, htl, hel, hw0, hw9, hc1, hr, hw1, hw2]) | (with_reducible refine And.intro ?_ ?_) | intro _ | (with_reducible assumption) | omega
      all_goals (refine Fin.go hK ?_; clear hK K)
      simp only [Blok_normal]
      simp only [Then_normal]
      refine opsF [⟨Op.move (Operand.tmp 6), some 26, none⟩, ⟨Op.binOp BinOp.add 3 (Operand.tmp 26) (Operand.const (Value.int IntKind.i64 1)) 3, some 27, none⟩, ⟨Op.assign (Operand.tmp 27), some 6, none⟩] fun K hK => ?_
      try simp
      repeat' first | ((refine evL_c ?_); simp [hm, htl, hel, hw0, hw9, hc1, hr, hw1, hw2]) | (with_reducible refine And.intro ?_ ?_) | intro _ | (with_reducible assumption) | omega
      all_goals (refine Fin.go hK ?_; clear hK K)
      refine ⟨(i + 1, n + r), ⟨by simp; omega, by simp; omega, by simp; omega, ?_⟩, by simp; omega, ?_⟩
      · rw [← hg, goT_step (by omega) hc2, hr]
      · simp (disch := omega) [hm, htl, hel, wrap_id]
    · replace h25 := of_decide_eq_false h25
      rw [goT_end (by omega)] at hg
      rw [← hg] at hpe hgr
      clear hg1 hg h25 hi
      refine Run.exit ?_
      simp (decide := true) only [Then_exit, Blok_exit, if_true, if_false]
      simp only [Then_normal]
      refine Run.seq ?_
      refine Run.seq ?_
      refine opsF oo43 fun K hK => ?_
      try simp
      repeat' first | ((refine evL_c ?_); simp [hm, htl, hel, hw0, hw9]) | (with_reducible refine And.intro ?_ ?_) | intro _ | (with_reducible assumption) | omega
      all_goals (refine Fin.go hK ?_; clear hK K)
      simp only [Then_normal]
      refine Run.block ?_
      refine Run.loopO [5, 7, 39, 40, 41, 42, 43, 44, 45, 46, 47, 48, 49, 50, 51, 52, 53, 54, 55, 56, 57, 58, 59, 60, 61] (fun (x : Nat × Int) => [(7, .int x.1), (5, .int x.2)]) (fun (x : Nat × Int) => [(300, .vals ((encP p).map .d))]) (fun (x : Nat × Int) => x.1 ≤ m ∧ 1 ≤ x.2 ∧ x.2 ≤ 4000000 ∧ goP (p.kids.drop x.1) most x.2 = partsR p most) (fun (x : Nat × Int) => m - x.1) (0, n) ⟨by omega, by simp; omega, by simp; omega, by simpa using hpe.symm⟩ (by simp) fun ⟨j, q⟩ ⟨hi, hn1, hn2, hg⟩ => ?_
      simp only at hi hn1 hn2 hg
      simp only [over, List.foldl, List.set]
      refine Run.seq ?_
      refine Run.cut [39, 40, 41, 42, 43, 44, 45, 46, 47, 48] [(48, .bool (decide (j < m ∧ q ≤ most)))] [(300, .vals ((encP p).map .d))] ?_ ?_
      · refine opsF [⟨Op.move (Operand.tmp 7), some 39, none⟩, ⟨Op.fieldAddr 27 (Operand.tmp 2) 1, some 40, none⟩, ⟨Op.load 23 (Operand.tmp 40), some 41, none⟩, ⟨Op.call { callee := Callee.builtin Builtin.len, args := #[Operand.tmp 41], argTypes := #[23] }, some 42, none⟩, ⟨Op.binOp BinOp.lss 3 (Operand.tmp 39) (Operand.tmp 42) 3, some 43, none⟩, ⟨Op.move (Operand.tmp 43), some 44, none⟩, ⟨Op.move (Operand.tmp 5), some 45, some (some 44, true)⟩, ⟨Op.move (Operand.tmp 1), some 46, some (some 44, true)⟩, ⟨Op.binOp BinOp.leq 3 (Operand.tmp 45) (Operand.tmp 46) 3, some 47, some (some 44, true)⟩, ⟨Op.pick (Operand.tmp 44) (Operand.tmp 47) (Operand.const (Value.bool false)), some 48, none⟩] fun K hK => ?_
        try simp
        repeat' first | ((first | refine evL_c ?_ | (refine evL_g rfl ?_; try simp only [gs_tt, gs_ff, gs_tf, gs_ft]) | refine evL_u rfl ?_ | (with_reducible refine gsplit (fun hg => ?_) (fun hg => ?_) <;> try simp at hg)) <;> try simp [hm, htl, hel, hw0, hw9]) | (with_reducible refine And.intro ?_ ?_) | intro _ | (with_reducible assumption) | omega
        all_goals (refine Fin.go hK ?_; clear hK K)
        all_goals
          (try simp [*]) <;> (first | omega | (simp; done) | grind)
      · simp only [over, List.foldl, List.set]
        refine Run.cond rfl (fun h48 => ?_) (fun h48 => ?_)
        · replace h48 := of_decide_eq_true h48
          obtain ⟨hc1, hc2⟩ := h48
          obtain ⟨r, hr⟩ : ∃ r, partsR (rdI p.kids j) (most - q) = r := ⟨_, rfl⟩
          have hrr := partsR_rng (rdI p.kids j) (most - q) (by omega) (kid_fine hf (by omega))
          rw [hr] at hrr
          have hT := IH j (by omega) (most - q) (by omega) (by omega)
          rw [encP_cells, hr] at hT
          have hw1 : IntKind.i64.wrap (most - q) = most - q := wrap_id (by omega) (by omega)
          have hw2 : IntKind.i64.wrap (q + r) = q + r := wrap_id (by omega) (by omega)
          refine Run.skip ?_
          simp only [Then_normal]
          refine Run.seq ?_
          refine Run.block ?_
          refine opsF [⟨Op.move (Operand.tmp 5), some 51, none⟩, ⟨Op.fieldAddr 27 (Operand.tmp 2) 1, some 52, none⟩, ⟨Op.load 23 (Operand.tmp 52), some 53, none⟩, ⟨Op.move (Operand.tmp 7), some 54, none⟩, ⟨Op.indexAddr 23 (Operand.tmp 53) (Operand.tmp 54), some 55, none⟩, ⟨Op.load 27 (Operand.tmp 55), some 56, none⟩, ⟨Op.move (Operand.tmp 1), some 57, none⟩, ⟨Op.move (Operand.tmp 5), some 58, none⟩, ⟨Op.binOp BinOp.sub 3 (Operand.tmp 57) (Operand.tmp 58) 3, some 59, none⟩, ⟨Op.call { callee := Callee.value (Operand.func 11), args := #[Operand.tmp 56, Operand.tmp 59], argTypes := #[27, 3] }, some 60, none⟩, ⟨Op.binOp BinOp.add 3 (Operand.tmp 51) (Operand.tmp 60) 3, some 61, none⟩, ⟨Op.assign (Operand.tmp 61), some 5, none⟩] fun K hK => ?_
          try simp
          repeat' first | (refine ecallD (by exact hT) ?_) | ((refine evL_c ?_); simp [hm, htl, hel, hw0, hw9, hc1, hr, hw1, hw2]) | (with_reducible refine And.intro ?_ ?_) | intro _ | (with_reducible assumption) | omega
          all_goals (refine Fin.go hK ?_; clear hK K)
          simp only [Blok_normal]
          simp only [Then_normal]
          refine opsF [⟨Op.move (Operand.tmp 7), some 49, none⟩, ⟨Op.binOp BinOp.add 3 (Operand.tmp 49) (Operand.const (Value.int IntKind.i64 1)) 3, some 50, none⟩, ⟨Op.assign (Operand.tmp 50), some 7, none⟩] fun K hK => ?_
          try simp
          repeat' first | ((refine evL_c ?_); simp [hm, htl, hel, hw0, hw9, hc1, hr, hw1, hw2]) | (with_reducible refine And.intro ?_ ?_) | intro _ | (with_reducible assumption) | omega
          all_goals (refine Fin.go hK ?_; clear hK K)
          refine ⟨(j + 1, q + r), ⟨by simp; omega, by simp; omega, by simp; omega, ?_⟩, by simp; omega, ?_⟩
          · rw [← hg, goP_step (by omega) hc2, hr]
          · simp (disch := omega) [hm, htl, hel, wrap_id]
        · replace h48 := of_decide_eq_false h48
          rw [goP_end (by omega)] at hg
          refine Run.exit ?_
          simp (decide := true) only [Then_exit, Blok_exit, if_true, if_false]
          simp only [Then_normal]
          refine Run.seq ?_
          refine opsF [⟨Op.move (Operand.tmp 5), some 62, none⟩, ⟨Op.assign (Operand.tmp 62), some 4, none⟩] fun K hK => ?_
          try simp
          repeat' first | ((refine evL_c ?_); simp [hm, htl, hel, hw0, hw9]) | (with_reducible refine And.intro ?_ ?_) | intro _ | (with_reducible assumption) | omega
          all_goals (refine Fin.go hK ?_; clear hK K)
          simp only [Then_normal]
          refine Run.ret ?_
          try simp only [Then_ret, Blok_ret]
          simp [hg]


theorem parts_ok (p : PlanT) (hf : partsP p ≤ 2000000) (most : Int) (h0 : 0 ≤ most) (h1 : most ≤ 1000000) : Snd P 11 [.d (.ag (encP p)), .int most] (.int (partsR p most)) [] :=
  parts1_ok p hf most h0 h1 fun i hi m hm0 hm1 =>
    have := kids_lt (kid_mem (p := p) hi)
    parts_ok (rdI p.kids i) (kid_fine hf hi) m hm0 hm1
termination_by SizeOf.sizeOf p
end Go.Proofs.Ytihbejpkfifplaa.Z
end
section
set_option maxRecDepth 100000
namespace Go.Proofs.Ytihbejpkfifplaa.Z
open Go Go.Fw
theorem productD_ok (nn : Bool) (l : List Int) (hl : ∀ x ∈ l, 0 ≤ x ∧ x ≤ 1099511627776) (hn : l.length ≤ 1000) : Snd P 66 [.d (.sl nn (l.map encI))] (.int (prodS 1 l)) [] := by
  refine snd_of [] Try.func66 rfl (by kernel_rfl) Try.ntmps66 (by simp) ?_
  unfold Try.f66
  simp only [List.cons_append, List.nil_append, List.length_cons, List.length_nil, Nat.reduceAdd, Nat.reduceSub, List.replicate]
  refine Run.seq ?_
  refine opsF oo44 fun K hK => ?_
  try simp
  repeat' first | ((first | refine evL_c ?_ | (refine evL_g rfl ?_; try simp only [gs_tt, gs_ff, gs_tf, gs_ft]) | refine evL_u rfl ?_ | (with_reducible refine gsplit (fun hg => ?_) (fun hg => ?_) <;> try simp at hg)) <;> try simp) | (with_reducible refine And.intro ?_ ?_) | intro _ | (with_reducible assumption) | omega | (show (_ : Nat) < _; simp <;> omega) | (show (_ : Int) < _; simp <;> omega)
  all_goals (refine Fin.go hK ?_; clear hK K)
  simp only [Then_normal]
  refine Run.scope 0 _ rfl ?_
  refine Run.seq ?_
  refine opsF [⟨Op.assign (Operand.const (Value.int IntKind.i64 1)), some 3, none⟩] fun K hK => ?_
  try simp
  repeat' first | ((first | refine evL_c ?_ | (refine evL_g rfl ?_; try simp only [gs_tt, gs_ff, gs_tf, gs_ft]) | refine evL_u rfl ?_ | (with_reducible refine gsplit (fun hg => ?_) (fun hg => ?_) <;> try simp at hg)) <;> try simp) | (with_reducible refine And.intro ?_ ?_) | intro _ | (with_reducible assumption) | omega | (show (_ : Nat) < _; simp <;> omega) | (show (_ : Int) < _; simp <;> omega)
  all_goals (refine Fin.go hK ?_; clear hK K)
  simp only [Then_normal]
  refine Run.seq ?_
  refine Run.seq ?_
  refine opsF [⟨Op.move (Operand.tmp 0), some 8, none⟩, ⟨Op.call { callee := Callee.builtin Builtin.len, args := #[Operand.tmp 8], argTypes := #[51] }, some 9, none⟩, ⟨Op.move (Operand.const (Value.int IntKind.i64 0)), some 10, none⟩] fun K hK => ?_
  try simp
  repeat' first | ((first | refine evL_c ?_ | (refine evL_g rfl ?_; try simp only [gs_tt, gs_ff, gs_tf, gs_ft]) | refine evL_u rfl ?_ | (with_reducible refine gsplit (fun hg => ?_) (fun hg => ?_) <;> try simp at hg)) <;> try simp) | (with_reducible refine And.intro ?_ ?_) | intro _ | (with_reducible assumption) | omega | (show (_ : Nat) < _; simp <;> omega) | (show (_ : Int) < _; simp <;> omega)
  all_goals (refine Fin.go hK ?_; clear hK K)
  simp only [Then_normal]
  refine Run.block ?_
  refine Run.loopO [2, 3, 5, 10, 11, 12, 13, 14, 15, 16, 17, 18, 19, 20, 21, 22, 23] (fun (x : Nat × Int) => [(3, .int x.2), (10, .int x.1)]) (fun (x : Nat × Int) => []) (fun (x : Nat × Int) => x.1 ≤ l.length ∧ (0 ≤ x.2 ∧ x.2 ≤ 1099511627776) ∧ prodS x.2 (l.drop x.1) = prodS 1 l ∧ ∀ j, j < x.1 → rdI l (j : Nat) ≠ 0) (fun (x : Nat × Int) => l.length - x.1) (0, 1) (by simp) (by simp) fun ⟨i, n⟩ ⟨hi, hr, hp, hz⟩ => ?_
  simp only [over, List.foldl, List.set]
  refine Run.seq ?_
  refine opsF [⟨Op.binOp BinOp.lss 3 (Operand.tmp 10) (Operand.tmp 9) 3, some 11, none⟩] fun K hK => ?_
  try simp
  repeat' first | ((first | refine evL_c ?_ | (refine evL_g rfl ?_; try simp only [gs_tt, gs_ff, gs_tf, gs_ft]) | refine evL_u rfl ?_ | (with_reducible refine gsplit (fun hg => ?_) (fun hg => ?_) <;> try simp at hg)) <;> try simp) | (with_reducible refine And.intro ?_ ?_) | intro _ | (with_reducible assumption) | omega | (show (_ : Nat) < _; simp <;> omega) | (show (_ : Int) < _; simp <;> omega)
  all_goals (refine Fin.go hK ?_; clear hK K)
  simp only [Then_normal]
  refine Run.seq ?_
  refine Run.cond rfl (fun h11 => ?_) (fun h11 => ?_)
  · try simp at h11
    have hx := hl _ (rdI_mem (l := l) (i := i) (by omega) (by omega))
    refine Run.skip ?_
    simp only [Then_normal]
    refine Run.seq ?_
    refine Run.block ?_
    refine Run.seq ?_
    refine opsF [⟨Op.indexAddr 51 (Operand.tmp 8) (Operand.tmp 10), some 12, none⟩, ⟨Op.load 2 (Operand.tmp 12), some 13, none⟩, ⟨Op.assign (Operand.tmp 13), some 5, none⟩] fun K hK => ?_
    try simp
    repeat' first | ((first | refine evL_c ?_ | (refine evL_g rfl ?_; try simp only [gs_tt, gs_ff, gs_tf, gs_ft]) | refine evL_u rfl ?_ | (with_reducible refine gsplit (fun hg => ?_) (fun hg => ?_) <;> try simp at hg)) <;> try simp [h11]) | (with_reducible refine And.intro ?_ ?_) | intro _ | (with_reducible assumption) | omega | (show (_ : Nat) < _; simp [h11] <;> omega) | (show (_ : Int) < _; simp [h11] <;> omega)
    all_goals (refine Fin.go hK ?_; clear hK K)
    simp only [Then_normal]
    refine Run.seq ?_
    refine Run.seq ?_
    refine opsF [⟨Op.move (Operand.tmp 5), some 14, none⟩, ⟨Op.binOp BinOp.eql 2 (Operand.tmp 14) (Operand.const (Value.int IntKind.i64 0)) 2, some 15, none⟩] fun K hK => ?_
    try simp
    repeat' first | ((first | refine evL_c ?_ | (refine evL_g rfl ?_; try simp only [gs_tt, gs_ff, gs_tf, gs_ft]) | refine evL_u rfl ?_ | (with_reducible refine gsplit (fun hg => ?_) (fun hg => ?_) <;> try simp at hg)) <;> try simp [h11]) | (with_reducible refine And.intro ?_ ?_) | intro _ | (with_reducible assumption) | omega | (show (_ : Nat) < _; simp [h11] <;> omega) | (show (_ : Int) < _; simp [h11] <;> omega)
    all_goals (refine Fin.go hK ?_; clear hK K)
    simp only [Then_normal]
    refine Run.cond rfl (fun h15 => ?_) (fun h15 => ?_)
    · try simp at h15
      refine Run.seq ?_
      refine opsF oo44 fun K hK => ?_
      try simp
      repeat' first | ((first | refine evL_c ?_ | (refine evL_g rfl ?_; try simp only [gs_tt, gs_ff, gs_tf, gs_ft]) | refine evL_u rfl ?_ | (with_reducible refine gsplit (fun hg => ?_) (fun hg => ?_) <;> try simp at hg)) <;> try simp [h11, h15]) | (with_reducible refine And.intro ?_ ?_) | intro _ | (with_reducible assumption) | omega | (show (_ : Nat) < _; simp [h11, h15] <;> omega) | (show (_ : Int) < _; simp [h11, h15] <;> omega)
      all_goals (refine Fin.go hK ?_; clear hK K)
      simp only [Then_normal]
      refine Run.ret ?_
      try simp only [Then_ret, Blok_ret]
      try simp only [Fwd_ret]
      first
        | (have e : prodS 1 l = 0 := by rw [← hp, drop_rd h11]; simp [prodS, h15]
           simp [e]; done)
        | (have hk1 : i + 1 ≤ k := by
             rcases Nat.lt_or_ge k (i + 1) with q | q
             · by_cases e : k = i
               · subst e; exact absurd h32 h15
               · exact absurd h32 (hz k (by simp; omega))
             · exact q
           have hm := mem_drop_rd h28 hk1
           rw [h32] at hm
           have e : prodS 1 l = 0 := by rw [← hp, drop_rd h11]; simp only [prodS]; rw [if_neg h15, if_pos h19, if_pos hm]
           simp [e]; done)
        | (have e : prodS 1 l = 1099511627776 := by rw [← hp, drop_rd h11]; simp only [prodS]; rw [if_neg h15, if_pos h19, if_neg (no_zero (fun j hj => hkz j (by omega)) _)]
           simp [e]; done)
        | (have e : prodS 1 l = n := by rw [← hp, List.drop_of_length_le (by simp; omega)]; rfl
           simp [e])
    · try simp at h15
      have hf : 0 < rdI l i := by omega
      have hd : 0 ≤ 1099511627776 / rdI l i ∧ 1099511627776 / rdI l i ≤ 1099511627776 := div_rng (by omega) (by omega)
      have e1 : (1099511627776 : Int).tdiv (rdI l i) = 1099511627776 / rdI l i := Int.tdiv_eq_ediv_of_nonneg (by omega)
      refine Run.skip ?_
      simp only [Then_normal]
      refine Run.seq ?_
      refine Run.seq ?_
      refine opsF [⟨Op.move (Operand.tmp 3), some 16, none⟩, ⟨Op.move (Operand.tmp 5), some 17, none⟩, ⟨Op.binOp BinOp.quo 2 (Operand.const (Value.int IntKind.i64 1099511627776)) (Operand.tmp 17) 2, some 18, none⟩, ⟨Op.binOp BinOp.gtr 2 (Operand.tmp 16) (Operand.tmp 18) 2, some 19, none⟩] fun K hK => ?_
      try simp
      repeat' first | ((first | refine evL_c ?_ | (refine evL_g rfl ?_; try simp only [gs_tt, gs_ff, gs_tf, gs_ft]) | refine evL_u rfl ?_ | (with_reducible refine gsplit (fun hg => ?_) (fun hg => ?_) <;> try simp at hg)) <;> try simp [h11, h15]) | (with_reducible refine And.intro ?_ ?_) | intro _ | (with_reducible assumption) | omega | (show (_ : Nat) < _; simp [h11, h15] <;> omega) | (show (_ : Int) < _; simp [h11, h15] <;> omega)
      all_goals (refine Fin.go hK ?_; clear hK K)
      simp only [Then_normal]
      refine Run.cond rfl (fun h19 => ?_) (fun h19 => ?_)
      · try simp [e1] at h19
        rw [wrap_id (by omega) (by omega)] at h19
        refine Run.goto ?_
        simp (decide := true) only [Then_goto, Blok_goto, Fwd_goto]
        refine Run.seq ?_
        refine Run.skip ?_
        simp only [Then_normal]
        refine Run.seq ?_
        refine Run.seq ?_
        refine opsF [⟨Op.move (Operand.tmp 0), some 25, none⟩, ⟨Op.call { callee := Callee.builtin Builtin.len, args := #[Operand.tmp 25], argTypes := #[51] }, some 26, none⟩, ⟨Op.move (Operand.const (Value.int IntKind.i64 0)), some 27, none⟩] fun K hK => ?_
        try simp
        repeat' first | ((first | refine evL_c ?_ | (refine evL_g rfl ?_; try simp only [gs_tt, gs_ff, gs_tf, gs_ft]) | refine evL_u rfl ?_ | (with_reducible refine gsplit (fun hg => ?_) (fun hg => ?_) <;> try simp at hg)) <;> try simp [h11, h15]) | (with_reducible refine And.intro ?_ ?_) | intro _ | (with_reducible assumption) | omega | (show (_ : Nat) < _; simp [h11, h15] <;> omega) | (show (_ : Int) < _; simp [h11, h15] <;> omega)
        all_goals (refine Fin.go hK ?_; clear hK K)
        simp only [Then_normal]
        refine Run.block ?_
        refine Run.loopO [2, 7, 27, 28, 29, 30, 31, 32, 33] (fun (k : Nat) => [(27, .int k)]) (fun (k : Nat) => []) (fun (k : Nat) => k ≤ l.length ∧ ∀ j, j < k → rdI l (j : Nat) ≠ 0) (fun (k : Nat) => l.length - k) 0 (by simp) (by simp) fun k ⟨hk, hkz⟩ => ?_
        simp only [over, List.foldl, List.set]
        refine Run.seq ?_
        refine opsF [⟨Op.binOp BinOp.lss 3 (Operand.tmp 27) (Operand.tmp 26) 3, some 28, none⟩] fun K hK => ?_
        try simp
        repeat' first | ((first | refine evL_c ?_ | (refine evL_g rfl ?_; try simp only [gs_tt, gs_ff, gs_tf, gs_ft]) | refine evL_u rfl ?_ | (with_reducible refine gsplit (fun hg => ?_) (fun hg => ?_) <;> try simp at hg)) <;> try simp [h11, h15]) | (with_reducible refine And.intro ?_ ?_) | intro _ | (with_reducible assumption) | omega | (show (_ : Nat) < _; simp [h11, h15] <;> omega) | (show (_ : Int) < _; simp [h11, h15] <;> omega)
        all_goals (refine Fin.go hK ?_; clear hK K)
        simp only [Then_normal]
        refine Run.seq ?_
        refine Run.cond rfl (fun h28 => ?_) (fun h28 => ?_)
        · try simp at h28
          refine Run.skip ?_
          simp only [Then_normal]
          refine Run.seq ?_
          refine Run.block ?_
          refine Run.seq ?_
          refine opsF [⟨Op.indexAddr 51 (Operand.tmp 25) (Operand.tmp 27), some 29, none⟩, ⟨Op.load 2 (Operand.tmp 29), some 30, none⟩, ⟨Op.assign (Operand.tmp 30), some 7, none⟩] fun K hK => ?_
          try simp
          repeat' first | ((first | refine evL_c ?_ | (refine evL_g rfl ?_; try simp only [gs_tt, gs_ff, gs_tf, gs_ft]) | refine evL_u rfl ?_ | (with_reducible refine gsplit (fun hg => ?_) (fun hg => ?_) <;> try simp at hg)) <;> try simp [h11, h15, h28]) | (with_reducible refine And.intro ?_ ?_) | intro _ | (with_reducible assumption) | omega | (show (_ : Nat) < _; simp [h11, h15, h28] <;> omega) | (show (_ : Int) < _; simp [h11, h15, h28] <;> omega)
          all_goals (refine Fin.go hK ?_; clear hK K)
          simp only [Then_normal]
          refine Run.seq ?_
          refine opsF [⟨Op.move (Operand.tmp 7), some 31, none⟩, ⟨Op.binOp BinOp.eql 2 (Operand.tmp 31) (Operand.const (Value.int IntKind.i64 0)) 2, some 32, none⟩] fun K hK => ?_
          try simp
          repeat' first | ((first | refine evL_c ?_ | (refine evL_g rfl ?_; try simp only [gs_tt, gs_ff, gs_tf, gs_ft]) | refine evL_u rfl ?_ | (with_reducible refine gsplit (fun hg => ?_) (fun hg => ?_) <;> try simp at hg)) <;> try simp [h11, h15, h28]) | (with_reducible refine And.intro ?_ ?_) | intro _ | (with_reducible assumption) | omega | (show (_ : Nat) < _; simp [h11, h15, h28] <;> omega) | (show (_ : Int) < _; simp [h11, h15, h28] <;> omega)
          all_goals (refine Fin.go hK ?_; clear hK K)
          simp only [Then_normal]
          refine Run.cond rfl (fun h32 => ?_) (fun h32 => ?_)
          · try simp at h32
            refine Run.seq ?_
            refine opsF oo44 fun K hK => ?_
            try simp
            repeat' first | ((first | refine evL_c ?_ | (refine evL_g rfl ?_; try simp only [gs_tt, gs_ff, gs_tf, gs_ft]) | refine evL_u rfl ?_ | (with_reducible refine gsplit (fun hg => ?_) (fun hg => ?_) <;> try simp at hg)) <;> try simp [h11, h15, h28, h32]) | (with_reducible refine And.intro ?_ ?_) | intro _ | (with_reducible assumption) | omega | (show (_ : Nat) < _; simp [h11, h15, h28, h32] <;> omega) | (show (_ : Int) < _; simp [h11, h15, h28, h32] <;> omega)
            all_goals (refine Fin.go hK ?_; clear hK K)
            simp only [Then_normal]
            refine Run.ret ?_
            try simp only [Then_ret, Blok_ret]
            try simp only [NoGoto_ret]
            first
              | (have e : prodS 1 l = 0 := by rw [← hp, drop_rd h11]; simp [prodS, h15]
                 simp [e]; done)
              | (have hk1 : i + 1 ≤ k := by
                   rcases Nat.lt_or_ge k (i + 1) with q | q
                   · by_cases e : k = i
                     · subst e; exact absurd h32 h15
                     · exact absurd h32 (hz k (by simp; omega))
                   · exact q
                 have hm := mem_drop_rd h28 hk1
                 rw [h32] at hm
                 have e : prodS 1 l = 0 := by rw [← hp, drop_rd h11]; simp only [prodS]; rw [if_neg h15, if_pos h19, if_pos hm]
                 simp [e]; done)
              | (have e : prodS 1 l = 1099511627776 := by rw [← hp, drop_rd h11]; simp only [prodS]; rw [if_neg h15, if_pos h19, if_neg (no_zero (fun j hj => hkz j (by omega)) _)]
                 simp [e]; done)
              | (have e : prodS 1 l = n := by rw [← hp, List.drop_of_length_le (by simp; omega)]; rfl
                 simp [e])
          · try simp at h32
            refine Run.skip ?_
            simp only [Blok_normal]
            simp only [Then_normal]
            refine opsF [⟨Op.binOp BinOp.add 3 (Operand.tmp 27) (Operand.const (Value.int IntKind.i64 1)) 3, some 33, none⟩, ⟨Op.move (Operand.tmp 33), some 27, none⟩] fun K hK => ?_
            try simp
            repeat' first | ((first | refine evL_c ?_ | (refine evL_g rfl ?_; try simp only [gs_tt, gs_ff, gs_tf, gs_ft]) | refine evL_u rfl ?_ | (with_reducible refine gsplit (fun hg => ?_) (fun hg => ?_) <;> try simp at hg)) <;> try simp [h11, h15, h28, h32]) | (with_reducible refine And.intro ?_ ?_) | intro _ | (with_reducible assumption) | omega | (show (_ : Nat) < _; simp [h11, h15, h28, h32] <;> omega) | (show (_ : Int) < _; simp [h11, h15, h28, h32] <;> omega)
            all_goals (refine Fin.go hK ?_; clear hK K)
            refine ⟨k + 1, ⟨by omega, fun j hj => ?_⟩, by omega, ?_⟩
            · by_cases e : j = k
              · subst e; exact h32
              · exact hkz j (by omega)
            · simp (disch := omega) [wrap_id]
        · try simp at h28
          refine Run.exit ?_
          simp (decide := true) only [Then_exit, Blok_exit, if_true, if_false]
          simp only [Then_normal]
          refine Run.seq ?_
          refine opsF [⟨Op.assign (Operand.const (Value.int IntKind.i64 1099511627776)), some 2, none⟩] fun K hK => ?_
          try simp
          repeat' first | ((first | refine evL_c ?_ | (refine evL_g rfl ?_; try simp only [gs_tt, gs_ff, gs_tf, gs_ft]) | refine evL_u rfl ?_ | (with_reducible refine gsplit (fun hg => ?_) (fun hg => ?_) <;> try simp at hg)) <;> try simp [h11, h15, h28]) | (with_reducible refine And.intro ?_ ?_) | intro _ | (with_reducible assumption) | omega | (show (_ : Nat) < _; simp [h11, h15, h28] <;> omega) | (show (_ : Int) < _; simp [h11, h15, h28] <;> omega)
          all_goals (refine Fin.go hK ?_; clear hK K)
          simp only [Then_normal]
          refine Run.ret ?_
          try simp only [Then_ret, Blok_ret]
          try simp only [NoGoto_ret]
          first
            | (have e : prodS 1 l = 0 := by rw [← hp, drop_rd h11]; simp [prodS, h15]
               simp [e]; done)
            | (have hk1 : i + 1 ≤ k := by
                 rcases Nat.lt_or_ge k (i + 1) with q | q
                 · by_cases e : k = i
                   · subst e; exact absurd h32 h15
                   · exact absurd h32 (hz k (by simp; omega))
                 · exact q
               have hm := mem_drop_rd h28 hk1
               rw [h32] at hm
               have e : prodS 1 l = 0 := by rw [← hp, drop_rd h11]; simp only [prodS]; rw [if_neg h15, if_pos h19, if_pos hm]
               simp [e]; done)
            | (have e : prodS 1 l = 1099511627776 := by rw [← hp, drop_rd h11]; simp only [prodS]; rw [if_neg h15, if_pos h19, if_neg (no_zero (fun j hj => hkz j (by omega)) _)]
               simp [e]; done)
            | (have e : prodS 1 l = n := by rw [← hp, List.drop_of_length_le (by simp; omega)]; rfl
               simp [e])
      · try simp [e1] at h19
        rw [wrap_id (by omega) (by omega)] at h19
        refine Run.skip ?_
        simp only [Then_normal]
        refine opsF [⟨Op.move (Operand.tmp 3), some 20, none⟩, ⟨Op.move (Operand.tmp 5), some 21, none⟩, ⟨Op.binOp BinOp.mul 2 (Operand.tmp 20) (Operand.tmp 21) 2, some 22, none⟩, ⟨Op.assign (Operand.tmp 22), some 3, none⟩] fun K hK => ?_
        try simp
        repeat' first | ((first | refine evL_c ?_ | (refine evL_g rfl ?_; try simp only [gs_tt, gs_ff, gs_tf, gs_ft]) | refine evL_u rfl ?_ | (with_reducible refine gsplit (fun hg => ?_) (fun hg => ?_) <;> try simp at hg)) <;> try simp [h11, h15]) | (with_reducible refine And.intro ?_ ?_) | intro _ | (with_reducible assumption) | omega | (show (_ : Nat) < _; simp [h11, h15] <;> omega) | (show (_ : Int) < _; simp [h11, h15] <;> omega)
        all_goals (refine Fin.go hK ?_; clear hK K)
        simp only [Blok_normal]
        simp only [Then_normal]
        refine opsF [⟨Op.binOp BinOp.add 3 (Operand.tmp 10) (Operand.const (Value.int IntKind.i64 1)) 3, some 23, none⟩, ⟨Op.move (Operand.tmp 23), some 10, none⟩] fun K hK => ?_
        try simp
        repeat' first | ((first | refine evL_c ?_ | (refine evL_g rfl ?_; try simp only [gs_tt, gs_ff, gs_tf, gs_ft]) | refine evL_u rfl ?_ | (with_reducible refine gsplit (fun hg => ?_) (fun hg => ?_) <;> try simp at hg)) <;> try simp [h11, h15]) | (with_reducible refine And.intro ?_ ?_) | intro _ | (with_reducible assumption) | omega | (show (_ : Nat) < _; simp [h11, h15] <;> omega) | (show (_ : Int) < _; simp [h11, h15] <;> omega)
        all_goals (refine Fin.go hK ?_; clear hK K)
        have hm := prod_step (n := n) hr.1 hf h19
        refine ⟨(i + 1, n * rdI l i), ⟨by simp; omega, hm, ?_, fun j hj => ?_⟩, by simp; omega, ?_⟩
        · rw [← hp, drop_rd h11]; simp only [prodS]; rw [if_neg h15, if_neg (by omega)]
        · by_cases e : j = i
          · subst e; exact h15
          · exact hz j (by simp at hj; omega)
        · simp (disch := omega) [wrap_id]
  · try simp at h11
    refine Run.exit ?_
    simp (decide := true) only [Then_exit, Blok_exit, if_true, if_false]
    simp only [Then_normal]
    refine Run.seq ?_
    refine Run.seq ?_
    refine opsF [⟨Op.move (Operand.tmp 3), some 24, none⟩, ⟨Op.assign (Operand.tmp 24), some 2, none⟩] fun K hK => ?_
    try simp
    repeat' first | ((first | refine evL_c ?_ | (refine evL_g rfl ?_; try simp only [gs_tt, gs_ff, gs_tf, gs_ft]) | refine evL_u rfl ?_ | (with_reducible refine gsplit (fun hg => ?_) (fun hg => ?_) <;> try simp at hg)) <;> try simp [h11]) | (with_reducible refine And.intro ?_ ?_) | intro _ | (with_reducible assumption) | omega | (show (_ : Nat) < _; simp [h11] <;> omega) | (show (_ : Int) < _; simp [h11] <;> omega)
    all_goals (refine Fin.go hK ?_; clear hK K)
    simp only [Then_normal]
    refine Run.ret ?_
    try simp only [Then_ret, Blok_ret]
    try simp only [Fwd_ret]
    first
      | (have e : prodS 1 l = 0 := by rw [← hp, drop_rd h11]; simp [prodS, h15]
         simp [e]; done)
      | (have hk1 : i + 1 ≤ k := by
           rcases Nat.lt_or_ge k (i + 1) with q | q
           · by_cases e : k = i
             · subst e; exact absurd h32 h15
             · exact absurd h32 (hz k (by simp; omega))
           · exact q
         have hm := mem_drop_rd h28 hk1
         rw [h32] at hm
         have e : prodS 1 l = 0 := by rw [← hp, drop_rd h11]; simp only [prodS]; rw [if_neg h15, if_pos h19, if_pos hm]
         simp [e]; done)
      | (have e : prodS 1 l = 1099511627776 := by rw [← hp, drop_rd h11]; simp only [prodS]; rw [if_neg h15, if_pos h19, if_neg (no_zero (fun j hj => hkz j (by omega)) _)]
         simp [e]; done)
      | (have e : prodS 1 l = n := by rw [← hp, List.drop_of_length_le (by simp; omega)]; rfl
         simp [e])


theorem prod2D_ok (a b : Int) (ha : 0 ≤ a ∧ a ≤ 1099511627776) (hb : 0 ≤ b ∧ b ≤ 1099511627776) : Snd P 66 [.d (.sl false [[D.int a], [D.int b]])] (.int (mulS a b)) [] := by
  have h := productD_ok false [a, b] (by intro x hx; simp at hx; rcases hx with rfl | rfl <;> assumption) (by simp)
  rw [prod_two ha.1 ha.2 hb.1 hb.2] at h
  exact h
end Go.Proofs.Ytihbejpkfifplaa.Z
end
section
set_option maxRecDepth 100000
namespace Go.Proofs.Ytihbejpkfifplaa.Z
open Go Go.Fw
theorem encC_ok {c : CoreT} {s : StatsT} (h : (D.ag (encC c ++ encS s)).ok) {e : EdgeT} (he : e ∈ c.edges) : e.hi ≤ 9223372036854775807 := by
  simp only [encC, encS, List.cons_append, List.nil_append, D.ok, D.okL] at h
  have h1 := (okR_map encE c.edges).1 h.2.1.2 e he
  simp only [encE, D.okL, ok_i64] at h1
  exact h1.2.2.2.2.2.2.1.2
def nodesS (c : CoreT) (s : StatsT) (slot : Int) : Int := cntS s.nodes (rdI c.nodes slot).type
def edgesS (c : CoreT) (s : StatsT) (k : Int) : Int := cntS s.edges (rdI c.edges k).type
theorem nodesS_rng (c : CoreT) (s : StatsT) (i : Int) : 0 ≤ nodesS c s i ∧ nodesS c s i ≤ 1099511627776 := cntS_rng _ _
theorem edgesS_rng (c : CoreT) (s : StatsT) (i : Int) : 0 ≤ edgesS c s i ∧ edgesS c s i ≤ 1099511627776 := cntS_rng _ _
/-- a path's share, for so many edges -/
def pathN (d : Int) : Nat → Int
  | 0 => 1
  | i + 1 => if pathN d i < 1099511627776 then mulS (pathN d i) (clipS (d + 1)) else pathN d i
def pathS (mx d : Int) : Int := if 0 < d then pathN d mx.toNat else 1
theorem pathN_rng (d : Int) (i : Nat) : 0 ≤ pathN d i ∧ pathN d i ≤ 1099511627776 := by
  induction i with
  | zero => simp [pathN]
  | succ i ih =>
    rw [pathN]
    split
    · have := clip_rng (d + 1); exact mul_rng ih.1 ih.2 this.1 this.2
    · exact ih
theorem pathN_stuck {d : Int} {i : Nat} (h : 1099511627776 ≤ pathN d i) (j : Nat) : pathN d (i + j) = pathN d i := by
  induction j with
  | zero => rfl
  | succ j ih => rw [← Nat.add_assoc, pathN, ih, if_neg (by omega)]
theorem pathS_end {mx d : Int} {i : Nat} (hd : 0 < d) (h : mx ≤ i ∨ 1099511627776 ≤ pathN d i) (hi : i = 0 ∨ (i : Int) ≤ mx) : pathS mx d = pathN d i := by
  rw [pathS, if_pos hd]
  rcases h with h | h
  · rcases hi with rfl | hi
    · rw [show mx.toNat = 0 by omega]
    · rw [show mx.toNat = i by omega]
  · rcases hi with rfl | hi
    · simp [pathN] at h
    · obtain ⟨j, hj⟩ : ∃ j, mx.toNat = i + j := ⟨mx.toNat - i, by omega⟩
      rw [hj, pathN_stuck h]
def fromE (c : CoreT) (p : PlanT) : Int := if p.back then (rdI c.edges (rdI p.edges 0)).dst else (rdI c.edges (rdI p.edges 0)).src
def toE (c : CoreT) (p : PlanT) : Int := if p.back then (rdI c.edges (rdI p.edges 0)).src else (rdI c.edges (rdI p.edges 0)).dst
def stepD (c : CoreT) (s : StatsT) (p : PlanT) : Int :=
  if p.op = 3 then pathS (rdI c.edges (rdI p.edges 0)).hi (shareS (edgesS c s (rdI p.edges 0)) (nodesS c s (fromE c p))) else shareS (edgesS c s (rdI p.edges 0)) (nodesS c s (fromE c p))
def stepS (c : CoreT) (s : StatsT) (p : PlanT) (n : Int) (b : List Bool) : Int :=
  if rdI b (toE c p) then shareS (mulS n (stepD c s p)) (nodesS c s (toE c p)) else mulS n (stepD c s p)
def joinE (c : CoreT) (s : StatsT) (a b : List Bool) (n : Int) : Nat → Int
  | 0 => n
  | i + 1 => if rdI a i && rdI b i then shareS (joinE c s a b n i) (nodesS c s i) else joinE c s a b n i
def meetE (c : CoreT) (s : StatsT) (p : PlanT) (n : Int) : Nat → Int
  | 0 => mulS n (nodesS c s p.slot)
  | i + 1 => shareS (shareS (mulS (meetE c s p n i) (edgesS c s (rdI p.edges i))) (nodesS c s p.slot)) (nodesS c s (if (rdI c.edges (rdI p.edges i)).src = p.slot then (rdI c.edges (rdI p.edges i)).dst else (rdI c.edges (rdI p.edges i)).src))
def filtE (n : Int) : Nat → Int
  | 0 => n
  | i + 1 => shareS (filtE n i) 3
theorem share_rng' {a b : Int} (ha : 0 ≤ a ∧ a ≤ 1099511627776) (hb : 0 ≤ b ∧ b ≤ 1099511627776) : 0 ≤ shareS a b ∧ shareS a b ≤ 1099511627776 := by
  have := share_rng ha.1 ha.2 hb.1; omega
theorem mul_rng' {a b : Int} (ha : 0 ≤ a ∧ a ≤ 1099511627776) (hb : 0 ≤ b ∧ b ≤ 1099511627776) : 0 ≤ mulS a b ∧ mulS a b ≤ 1099511627776 := mul_rng ha.1 ha.2 hb.1 hb.2
theorem filtE_rng {n : Int} (hn : 0 ≤ n ∧ n ≤ 1099511627776) (i : Nat) : 0 ≤ filtE n i ∧ filtE n i ≤ 1099511627776 := by
  induction i with
  | zero => exact hn
  | succ i ih => exact share_rng' ih (by omega)
theorem joinE_rng {c : CoreT} {s : StatsT} {a b : List Bool} {n : Int} (hn : 0 ≤ n ∧ n ≤ 1099511627776) (i : Nat) : 0 ≤ joinE c s a b n i ∧ joinE c s a b n i ≤ 1099511627776 := by
  induction i with
  | zero => exact hn
  | succ i ih => 
    rw [joinE]
    split
    · exact share_rng' ih (nodesS_rng _ _ _)
    · exact ih
theorem meetE_rng {c : CoreT} {s : StatsT} {p : PlanT} {n : Int} (hn : 0 ≤ n ∧ n ≤ 1099511627776) (i : Nat) : 0 ≤ meetE c s p n i ∧ meetE c s p n i ≤ 1099511627776 := by
  induction i with
  | zero => exact mul_rng' hn (nodesS_rng _ _ _)
  | succ i ih => exact share_rng' (share_rng' (mul_rng' ih (edgesS_rng _ _ _)) (nodesS_rng _ _ _)) (nodesS_rng _ _ _)
theorem stepD_rng (c : CoreT) (s : StatsT) (p : PlanT) : 0 ≤ stepD c s p ∧ stepD c s p ≤ 1099511627776 := by
  unfold stepD
  split
  · unfold pathS
    split
    · exact pathN_rng _ _
    · omega
  · exact share_rng' (edgesS_rng _ _ _) (nodesS_rng _ _ _)
theorem stepS_rng {c : CoreT} {s : StatsT} {p : PlanT} {n : Int} {b : List Bool} (hn : 0 ≤ n ∧ n ≤ 1099511627776) : 0 ≤ stepS c s p n b ∧ stepS c s p n b ≤ 1099511627776 := by
  have h := mul_rng' hn (stepD_rng c s p)
  unfold stepS
  split
  · exact share_rng' h (nodesS_rng _ _ _)
  · exact h
theorem nodesS_ok (c : CoreT) (s : StatsT) (slot : Int) (h0 : 0 ≤ slot) (h1 : slot < c.nodes.length) : Snd P 63 [.d (.ag (encC c ++ encS s)), .int slot] (.int (nodesS c s slot)) [] := nodes_ok c s slot h0 h1
theorem edgesS_ok (c : CoreT) (s : StatsT) (slot : Int) (h0 : 0 ≤ slot) (h1 : slot < c.edges.length) : Snd P 65 [.d (.ag (encC c ++ encS s)), .int slot] (.int (edgesS c s slot)) [] := edges_ok c s slot h0 h1
theorem share_ok' (a b : Int) (ha : 0 ≤ a ∧ a ≤ 1099511627776) (hb : 0 ≤ b ∧ b ≤ 1099511627776) : Snd P 64 [.int a, .int b] (.int (shareS a b)) [] := share_ok a b ha.1 ha.2 hb.1 hb.2
theorem prod2_ok (a b : Int) (ha : 0 ≤ a ∧ a ≤ 1099511627776) (hb : 0 ≤ b ∧ b ≤ 1099511627776) : SndW P 66 [.rs 0 1 0 2] [(0, .data 1 [[D.int a], [D.int b]])] (.int (mulS a b)) [(0, .data 1 [[D.int a], [D.int b]])] := by
  have h := product_ok [a, b] (by intro x hx; simp at hx; rcases hx with rfl | rfl <;> assumption) (by simp)
  rw [prod_two ha.1 ha.2 hb.1 hb.2] at h
  exact h
end Go.Proofs.Ytihbejpkfifplaa.Z
end
section
set_option maxRecDepth 100000
namespace Go.Proofs.Ytihbejpkfifplaa.Z
open Go Go.Fw
theorem rnodes_ok (c : CoreT) (s : StatsT) (i : Int) : Snd P 67 [.d (.sl false (s.nodes.map encI)), .int (rdI c.nodes i).type] (.int (nodesS c s i)) [] := count_ok false s.nodes _
theorem redges_ok (c : CoreT) (s : StatsT) (i : Int) : Snd P 67 [.d (.sl false (s.edges.map encI)), .int (rdI c.edges i).type] (.int (edgesS c s i)) [] := count_ok false s.edges _
theorem encC_ok1 {c : CoreT} (h : (D.ag (encC c)).ok) {e : EdgeT} (he : e ∈ c.edges) : e.hi ≤ 9223372036854775807 := by
  simp only [encC, D.ok, D.okL] at h
  have h1 := (okR_map encE c.edges).1 h.2.1.2 e he
  simp only [encE, D.okL, ok_i64] at h1
  exact h1.2.2.2.2.2.2.1.2
theorem share_one {n : Int} (h0 : 0 ≤ n) (h : n ≤ 1) : shareS n 3 = n := by
  unfold shareS
  have : n = 0 ∨ n = 1 := by omega
  rcases this with rfl | rfl <;> decide
theorem filtE_stuck {n : Int} (hn : 0 ≤ n ∧ n ≤ 1099511627776) (i j : Nat) (h : filtE n i ≤ 1) : filtE n (i + j) = filtE n i := by
  induction j with
  | zero => rfl
  | succ j ih =>
    rw [← Nat.add_assoc, filtE, ih, share_one (filtE_rng hn i).1 h]
theorem pathN_one {d : Int} (hd : 0 ≤ d) (i : Nat) : 1 ≤ pathN d i := by
  induction i with
  | zero => simp [pathN]
  | succ i ih =>
    rw [pathN]
    split
    · have h1 := clip_rng (d + 1)
      have h2 : 1 ≤ clipS (d + 1) := by unfold clipS; split <;> (try split) <;> omega
      unfold mulS
      split
      · omega
      · have := Int.mul_le_mul ih h2 (by omega) (by omega)
        omega
    · exact ih
theorem mul_grows {f d : Int} (h0 : 1 ≤ f) (h1 : f < 1099511627776) (hd : 0 < d) : mulS f (clipS (d + 1)) ≠ f := by
  have h2 : 2 ≤ clipS (d + 1) := by unfold clipS; split <;> (try split) <;> omega
  unfold mulS
  split
  · omega
  · have := Int.mul_le_mul_of_nonneg_left h2 (show 0 ≤ f by omega)
    omega
set_option maxHeartbeats 4000000 in
theorem rest1_ok (c : CoreT) (s : StatsT) (p : PlanT) (hP : patS c.nodes c.edges = true) (hop : p.op = 1) (hkl : p.kids.length = 0) (hs0 : 0 ≤ p.slot) (hs1 : p.slot < c.nodes.length) : Snd P 33 [.d (.ag (encP p)), .d (.ag (encC c)), .d (.ag (encS s))] (.int (nodesS c s p.slot)) [] := by
  have hN := rnodes_ok c s p.slot
  refine snd_of [] Try.func33 rfl (by kernel_rfl) Try.ntmps33 (by simp) ?_
  unfold Try.f33
  simp only [List.cons_append, List.nil_append, List.length_cons, List.length_nil, Nat.reduceAdd, Nat.reduceSub, List.replicate]
  refine Run.seq ?_
  refine opsF oo45 fun K hK => ?_
  try simp
  repeat' first | ((refine evL_c ?_); simp [hop, hs0, hs1]) | (with_reducible refine And.intro ?_ ?_) | intro _ | (with_reducible assumption) | omega
  all_goals (refine Fin.go hK ?_; clear hK K)
  simp only [Then_normal]
  refine Run.seq ?_
  refine Run.seq ?_
  refine opsF oo46 fun K hK => ?_
  try simp
  repeat' first | ((refine evL_c ?_); simp [hop, hs0, hs1]) | (with_reducible refine And.intro ?_ ?_) | intro _ | (with_reducible assumption) | omega
  all_goals (refine Fin.go hK ?_; clear hK K)
  simp only [Then_normal]
  refine Run.cond rfl (fun h25 => ?_) (fun h25 => ?_)
  · skip
    refine Run.seq ?_
    refine opsF [⟨Op.fieldAddr 53 (Operand.tmp 5) 0, some 26, none⟩, ⟨Op.load 51 (Operand.tmp 26), some 27, none⟩, ⟨Op.fieldAddr 33 (Operand.tmp 4) 0, some 28, none⟩, ⟨Op.load 28 (Operand.tmp 28), some 29, none⟩, ⟨Op.fieldAddr 27 (Operand.tmp 3) 2, some 30, none⟩, ⟨Op.load 3 (Operand.tmp 30), some 31, none⟩, ⟨Op.indexAddr 28 (Operand.tmp 29) (Operand.tmp 31), some 32, none⟩, ⟨Op.fieldAddr 76 (Operand.tmp 32) 1, some 33, none⟩, ⟨Op.load 3 (Operand.tmp 33), some 34, none⟩, ⟨Op.call { callee := Callee.value (Operand.func 67), args := #[Operand.tmp 27, Operand.tmp 34], argTypes := #[51, 3] }, some 35, none⟩, ⟨Op.assign (Operand.tmp 35), some 6, none⟩] fun K hK => ?_
    try simp
    repeat' first | (refine ecallD (by exact hN) ?_) | ((refine evL_c ?_); simp [hop, hs0, hs1]) | (with_reducible refine And.intro ?_ ?_) | intro _ | (with_reducible assumption) | omega
    all_goals (refine Fin.go hK ?_; clear hK K)
    simp only [Then_normal]
    refine Run.ret ?_
    try simp only [Then_ret, Blok_ret]
    simp
  · simp at h25

set_option maxHeartbeats 4000000 in
theorem rest6_ok (c : CoreT) (s : StatsT) (p : PlanT) (n0 : Int) (b0 : List Bool) (hP : patS c.nodes c.edges = true) (hop : p.op = 6) (hkl : p.kids.length = 1) (IH0 : Snd P 33 [.d (.ag (encP (rdI p.kids 0))), .d (.ag (encC c)), .d (.ag (encS s))] (.int n0) []) (hn0 : 0 ≤ n0 ∧ n0 ≤ 1099511627776) (hB0 : Snd P 21 [.d (.ag (encP (rdI p.kids 0))), .d (.ag (encC c))] (.tup [.d (.sl false (b0.map encB)), .int 0]) []) (hb0 : b0.length = c.nodes.length + c.edges.length) : Snd P 33 [.d (.ag (encP p)), .d (.ag (encC c)), .d (.ag (encS s))] (.int (filtE n0 p.terms.length)) [] := by
  refine Snd.ok 0 rfl (by kernel_rfl) fun hok => ?_
  have htm := (encP_ok hok).2.2
  clear hok
  obtain ⟨-, hn8, hk8⟩ := pat_rng hP
  have hE := goodE_of hP
  obtain ⟨n, hn⟩ : ∃ k, c.nodes.length = k := ⟨_, rfl⟩
  obtain ⟨k, hk⟩ : ∃ k, c.edges.length = k := ⟨_, rfl⟩
  rw [hn] at hn8
  rw [hk] at hk8
  rw [hn, hk] at hb0
  have hI := IH0
  have hJ := hB0
  rw [encP_cells] at hI hJ
  obtain ⟨tl, htl⟩ : ∃ m, p.terms.length = m := ⟨_, rfl⟩
  rw [htl] at htm
  refine snd_of [] Try.func33 rfl (by kernel_rfl) Try.ntmps33 (by simp) ?_
  unfold Try.f33
  simp only [List.cons_append, List.nil_append, List.length_cons, List.length_nil, Nat.reduceAdd, Nat.reduceSub, List.replicate]
  refine Run.seq ?_
  refine opsF oo45 fun K hK => ?_
  try simp
  repeat' first | ((refine evL_c ?_); simp [hn, hk, hop, hkl, hb0, htl]) | (with_reducible refine And.intro ?_ ?_) | intro _ | (with_reducible assumption) | omega
  all_goals (refine Fin.go hK ?_; clear hK K)
  simp only [Then_normal]
  refine Run.seq ?_
  refine Run.seq ?_
  refine opsF oo46 fun K hK => ?_
  try simp
  repeat' first | ((refine evL_c ?_); simp [hn, hk, hop, hkl, hb0, htl]) | (with_reducible refine And.intro ?_ ?_) | intro _ | (with_reducible assumption) | omega
  all_goals (refine Fin.go hK ?_; clear hK K)
  simp only [Then_normal]
  refine Run.cond rfl (fun h25 => ?_) (fun h25 => ?_)
  · simp at h25
  · skip
    refine Run.skip ?_
    simp only [Then_normal]
    refine Run.seq ?_
    refine opsF oo47 fun K hK => ?_
    try simp
    repeat' first | (refine ecallD (by exact hI) ?_) | ((refine evL_c ?_); simp [hn, hk, hop, hkl, hb0, htl]) | (with_reducible refine And.intro ?_ ?_) | intro _ | (with_reducible assumption) | omega
    all_goals (refine Fin.go hK ?_; clear hK K)
    simp only [Then_normal]
    refine Run.seq ?_
    refine opsF oo48 fun K hK => ?_
    try simp
    repeat' first | (refine ecall (by exact hJ) rfl ?_) | ((refine evL_c ?_); simp [hn, hk, hop, hkl, hb0, htl]) | (with_reducible refine And.intro ?_ ?_) | intro _ | (with_reducible assumption) | omega
    all_goals (refine Fin.go hK ?_; clear hK K)
    simp only [Then_normal]
    refine Run.seq ?_
    refine Run.seq ?_
    refine opsF oo49 fun K hK => ?_
    try simp
    repeat' first | ((refine evL_c ?_); simp [hn, hk, hop, hkl, hb0, htl]) | (with_reducible refine And.intro ?_ ?_) | intro _ | (with_reducible assumption) | omega
    all_goals (refine Fin.go hK ?_; clear hK K)
    simp only [Then_normal]
    refine Run.block ?_
    refine Run.seq ?_
    refine Run.seq ?_
    refine opsF oo50 fun K hK => ?_
    try simp
    repeat' first | ((refine evL_c ?_); simp [hn, hk, hop, hkl, hb0, htl]) | (with_reducible refine And.intro ?_ ?_) | intro _ | (with_reducible assumption) | omega
    all_goals (refine Fin.go hK ?_; clear hK K)
    simp only [Then_normal]
    refine Run.cond rfl (fun h54 => ?_) (fun h54 => ?_)
    · simp at h54
    · skip
      refine opsF oo51 fun K hK => ?_
      try simp
      repeat' first | ((refine evL_c ?_); simp [hn, hk, hop, hkl, hb0, htl]) | (with_reducible refine And.intro ?_ ?_) | intro _ | (with_reducible assumption) | omega
      all_goals (refine Fin.go hK ?_; clear hK K)
      simp only [Then_normal]
      refine Run.cond rfl (fun h54 => ?_) (fun h54 => ?_)
      · simp at h54
      · skip
        refine Run.seq ?_
        refine opsF oo52 fun K hK => ?_
        try simp
        repeat' first | ((refine evL_c ?_); simp [hn, hk, hop, hkl, hb0, htl]) | (with_reducible refine And.intro ?_ ?_) | intro _ | (with_reducible assumption) | omega
        all_goals (refine Fin.go hK ?_; clear hK K)
        simp only [Then_normal]
        refine Run.cond rfl (fun h131 => ?_) (fun h131 => ?_)
        · simp at h131
        · skip
          refine Run.seq ?_
          refine opsF oo53 fun K hK => ?_
          try simp
          repeat' first | ((refine evL_c ?_); simp [hn, hk, hop, hkl, hb0, htl]) | (with_reducible refine And.intro ?_ ?_) | intro _ | (with_reducible assumption) | omega
          all_goals (refine Fin.go hK ?_; clear hK K)
          simp only [Then_normal]
          refine Run.cond rfl (fun h179 => ?_) (fun h179 => ?_)
          · simp at h179
          · skip
            refine Run.seq ?_
            refine opsF [⟨Op.binOp BinOp.eql 22 (Operand.tmp 53) (Operand.const (Value.int IntKind.i64 6)) 22, some 249, none⟩, ⟨Op.assign (Operand.tmp 249), some 248, none⟩] fun K hK => ?_
            try simp
            repeat' first | ((refine evL_c ?_); simp [hn, hk, hop, hkl, hb0, htl]) | (with_reducible refine And.intro ?_ ?_) | intro _ | (with_reducible assumption) | omega
            all_goals (refine Fin.go hK ?_; clear hK K)
            simp only [Then_normal]
            refine Run.cond rfl (fun h248 => ?_) (fun h248 => ?_)
            · skip
              refine Run.seq ?_
              refine opsF [⟨Op.assign (Operand.const (Value.int IntKind.i64 0)), some 22, none⟩] fun K hK => ?_
              try simp
              repeat' first | ((refine evL_c ?_); simp [hn, hk, hop, hkl, hb0, htl]) | (with_reducible refine And.intro ?_ ?_) | intro _ | (with_reducible assumption) | omega
              all_goals (refine Fin.go hK ?_; clear hK K)
              simp only [Then_normal]
              refine Run.block ?_
              refine Run.loopO [7, 22, 250, 251, 252, 253, 254, 255, 256, 257, 258, 259, 260, 261, 262] (fun (i : Nat) => [(22, .int i), (7, .int (filtE n0 i))]) (fun (i : Nat) => [(400, .vals ((encP p).map .d)), (500, .vals ((encC c).map .d)), (600, .vals ((encS s).map .d))]) (fun (i : Nat) => i ≤ tl) (fun (i : Nat) => tl - i) 0 (by omega) (by simp [filtE, hn, hop]) fun i hi => ?_
              simp only [over, List.foldl, List.set]
              have hfr := filtE_rng hn0 i
              have hfs := filtE_stuck (n := n0) hn0 i (tl - i)
              have hju : filtE n0 (i + 1) = shareS (filtE n0 i) 3 := rfl
              obtain ⟨fi, hfi⟩ : ∃ x, filtE n0 i = x := ⟨_, rfl⟩
              rw [hfi] at hfs hju hfr
              have hS := rshare_ok fi 3 hfr.1 hfr.2 (by omega) (by omega)
              refine Run.seq ?_
              refine Run.cut [250, 251, 252, 253, 254, 255, 256, 257, 258] [(258, .bool (decide ((i : Int) < tl ∧ 1 < fi)))] [(400, .vals ((encP p).map .d)), (500, .vals ((encC c).map .d)), (600, .vals ((encS s).map .d))] ?_ ?_
              · refine opsF [⟨Op.move (Operand.tmp 22), some 250, none⟩, ⟨Op.fieldAddr 27 (Operand.tmp 3) 5, some 251, none⟩, ⟨Op.load 25 (Operand.tmp 251), some 252, none⟩, ⟨Op.call { callee := Callee.builtin Builtin.len, args := #[Operand.tmp 252], argTypes := #[25] }, some 253, none⟩, ⟨Op.binOp BinOp.lss 3 (Operand.tmp 250) (Operand.tmp 253) 3, some 254, none⟩, ⟨Op.move (Operand.tmp 254), some 255, none⟩, ⟨Op.move (Operand.tmp 7), some 256, some (some 255, true)⟩, ⟨Op.binOp BinOp.gtr 2 (Operand.tmp 256) (Operand.const (Value.int IntKind.i64 1)) 2, some 257, some (some 255, true)⟩, ⟨Op.pick (Operand.tmp 255) (Operand.tmp 257) (Operand.const (Value.bool false)), some 258, none⟩] fun K hK => ?_
                try simp
                repeat' first | ((first | refine evL_c ?_ | (refine evL_g rfl ?_; try simp only [gs_tt, gs_ff, gs_tf, gs_ft]) | refine evL_u rfl ?_ | (with_reducible refine gsplit (fun hg => ?_) (fun hg => ?_) <;> try simp at hg)) <;> try simp [hn, hk, hop, hkl, hb0, htl, *]) | (with_reducible refine And.intro ?_ ?_) | intro _ | (with_reducible assumption) | omega
                all_goals (refine Fin.go hK ?_; clear hK K)
                all_goals
                  (try simp [htl, hn, hop, hfi]) <;> (first | omega | (simp; done) | grind)
              · simp only [over, List.foldl, List.set]
                refine Run.cond rfl (fun h258 => ?_) (fun h258 => ?_)
                · replace h258 := of_decide_eq_true h258
                  have hi1 : i < tl := by omega
                  refine Run.skip ?_
                  simp only [Then_normal]
                  refine Run.seq ?_
                  refine Run.block ?_
                  refine opsF [⟨Op.move (Operand.tmp 7), some 261, none⟩, ⟨Op.call { callee := Callee.value (Operand.func 69), args := #[Operand.tmp 261, Operand.const (Value.int IntKind.i64 3)], argTypes := #[2, 2] }, some 262, none⟩, ⟨Op.assign (Operand.tmp 262), some 7, none⟩] fun K hK => ?_
                  try simp
                  repeat' first | (refine ecallD (by exact hS) ?_) | ((refine evL_c ?_); simp [hn, hk, hop, hkl, hb0, htl, hi1, hfi]) | (with_reducible refine And.intro ?_ ?_) | intro _ | (with_reducible assumption) | omega
                  all_goals (refine Fin.go hK ?_; clear hK K)
                  simp only [Blok_normal]
                  simp only [Then_normal]
                  refine opsF [⟨Op.move (Operand.tmp 22), some 259, none⟩, ⟨Op.binOp BinOp.add 3 (Operand.tmp 259) (Operand.const (Value.int IntKind.i64 1)) 3, some 260, none⟩, ⟨Op.assign (Operand.tmp 260), some 22, none⟩] fun K hK => ?_
                  try simp
                  repeat' first | ((refine evL_c ?_); simp [hn, hk, hop, hkl, hb0, htl, hi1, hfi]) | (with_reducible refine And.intro ?_ ?_) | intro _ | (with_reducible assumption) | omega
                  all_goals (refine Fin.go hK ?_; clear hK K)
                  refine ⟨i + 1, by omega, by omega, ?_⟩
                  simp (disch := omega) [wrap_id, hju, hop, hn]
                · replace h258 := of_decide_eq_false h258
                  have hfe : filtE n0 tl = fi := by
                    by_cases q : (i : Int) < tl
                    · have := hfs (by omega)
                      rw [show i + (tl - i) = tl by omega] at this
                      exact this
                    · rw [show tl = i by omega]; exact hfi
                  refine Run.exit ?_
                  simp (decide := true) only [Then_exit, Blok_exit, if_true, if_false]
                  simp only [Blok_normal]
                  simp only [Then_normal]
                  refine Run.seq ?_
                  refine opsF oo54 fun K hK => ?_
                  try simp
                  repeat' first | ((refine evL_c ?_); simp [hn, hk, hop, hkl, hb0, htl, hfe, hfi]) | (with_reducible refine And.intro ?_ ?_) | intro _ | (with_reducible assumption) | omega
                  all_goals (refine Fin.go hK ?_; clear hK K)
                  simp only [Then_normal]
                  refine Run.ret ?_
                  try simp only [Then_ret, Blok_ret]
                  simp [htl, hfe, hfi]
            · simp at h248


end Go.Proofs.Ytihbejpkfifplaa.Z
end
