/- Texts of this claim, put together: Pi. -/
import Derived.Test.YtihbejpkfifplaaDd
set_option linter.unusedVariables false
set_option linter.unusedSimpArgs false
namespace Go.Proofs.Ytihbejpkfifplaa.Z
open Go Go.Fw
abbrev oo23 : List LOp := [⟨Op.box 86 (Operand.tmp 0), some 2, none⟩, ⟨Op.box 27 (Operand.tmp 1), some 3, none⟩, ⟨Op.assign (Operand.const (Value.slice none 0 0)), some 4, none⟩]
abbrev oo24 : List LOp := [⟨Op.makeMap 119 none, some 16, none⟩, ⟨Op.insert 119 (Operand.tmp 16) (Operand.const (Value.int IntKind.i64 1)) (Operand.const (Value.int IntKind.i64 0)), none, none⟩, ⟨Op.insert 119 (Operand.tmp 16) (Operand.const (Value.int IntKind.i64 2)) (Operand.const (Value.int IntKind.i64 1)), none, none⟩, ⟨Op.insert 119 (Operand.tmp 16) (Operand.const (Value.int IntKind.i64 3)) (Operand.const (Value.int IntKind.i64 1)), none, none⟩, ⟨Op.insert 119 (Operand.tmp 16) (Operand.const (Value.int IntKind.i64 4)) (Operand.const (Value.int IntKind.i64 2)), none, none⟩, ⟨Op.insert 119 (Operand.tmp 16) (Operand.const (Value.int IntKind.i64 5)) (Operand.const (Value.int IntKind.i64 1)), none, none⟩, ⟨Op.insert 119 (Operand.tmp 16) (Operand.const (Value.int IntKind.i64 6)) (Operand.const (Value.int IntKind.i64 1)), none, none⟩, ⟨Op.move (Operand.tmp 16), some 17, none⟩, ⟨Op.assign (Operand.tmp 17), some 5, none⟩]
abbrev oo25 : List LOp := [⟨Op.move (Operand.tmp 5), some 19, none⟩, ⟨Op.fieldAddr 27 (Operand.tmp 3) 0, some 20, none⟩, ⟨Op.load 22 (Operand.tmp 20), some 21, none⟩, ⟨Op.lookup 119 (Operand.tmp 19) (Operand.tmp 21) true, some 22, none⟩, ⟨Op.move (Operand.tmp 22), some 18, none⟩, ⟨Op.extract (Operand.tmp 18) 0, some 23, none⟩, ⟨Op.extract (Operand.tmp 18) 1, some 24, none⟩, ⟨Op.assign (Operand.tmp 23), some 6, none⟩, ⟨Op.assign (Operand.tmp 24), some 7, none⟩]
abbrev oo26 : List LOp := [⟨Op.move (Operand.tmp 7), some 25, none⟩, ⟨Op.unOp UnOp.not 4 (Operand.tmp 25), some 26, none⟩, ⟨Op.move (Operand.tmp 26), some 27, none⟩, ⟨Op.move (Operand.tmp 6), some 28, some (some 27, false)⟩, ⟨Op.fieldAddr 27 (Operand.tmp 3) 1, some 29, some (some 27, false)⟩, ⟨Op.load 23 (Operand.tmp 29), some 30, some (some 27, false)⟩, ⟨Op.call { callee := Callee.builtin Builtin.len, args := #[Operand.tmp 30], argTypes := #[23] }, some 31, some (some 27, false)⟩, ⟨Op.binOp BinOp.neq 3 (Operand.tmp 28) (Operand.tmp 31) 3, some 32, some (some 27, false)⟩, ⟨Op.pick (Operand.tmp 27) (Operand.const (Value.bool true)) (Operand.tmp 32), some 33, none⟩]
abbrev oo27 : List LOp := [⟨Op.fieldAddr 86 (Operand.tmp 2) 1, some 34, none⟩, ⟨Op.load 3 (Operand.tmp 34), some 35, none⟩, ⟨Op.fieldAddr 86 (Operand.tmp 2) 0, some 36, none⟩, ⟨Op.fieldAddr 33 (Operand.tmp 36) 1, some 37, none⟩, ⟨Op.load 29 (Operand.tmp 37), some 38, none⟩, ⟨Op.call { callee := Callee.builtin Builtin.len, args := #[Operand.tmp 38], argTypes := #[29] }, some 39, none⟩, ⟨Op.binOp BinOp.add 3 (Operand.tmp 35) (Operand.tmp 39) 3, some 40, none⟩, ⟨Op.makeSlice 60 (Operand.tmp 40) (Operand.tmp 40), some 41, none⟩, ⟨Op.buildSlice 121 1 #[(0, Operand.tmp 41)], some 42, none⟩, ⟨Op.assign (Operand.tmp 42), some 8, none⟩]
abbrev oo28 : List LOp := [⟨Op.fieldAddr 27 (Operand.tmp 3) 1, some 43, none⟩, ⟨Op.load 23 (Operand.tmp 43), some 44, none⟩, ⟨Op.call { callee := Callee.builtin Builtin.len, args := #[Operand.tmp 44], argTypes := #[23] }, some 45, none⟩, ⟨Op.move (Operand.const (Value.int IntKind.i64 0)), some 46, none⟩]
abbrev oo29 : List LOp := [⟨Op.binOp BinOp.lss 3 (Operand.tmp 46) (Operand.tmp 45) 3, some 47, none⟩]
abbrev oo30 : List LOp := [⟨Op.indexAddr 23 (Operand.tmp 44) (Operand.tmp 46), some 48, none⟩, ⟨Op.load 27 (Operand.tmp 48), some 49, none⟩, ⟨Op.alloc 27, some 10, none⟩, ⟨Op.store 27 (Operand.tmp 10) (Operand.tmp 49), none, none⟩]
abbrev oo31 : List LOp := [⟨Op.load 86 (Operand.tmp 2), some 50, none⟩, ⟨Op.load 27 (Operand.tmp 10), some 51, none⟩, ⟨Op.call { callee := Callee.value (Operand.func 37), args := #[Operand.tmp 50, Operand.tmp 51], argTypes := #[86, 27] }, some 52, none⟩, ⟨Op.assign (Operand.tmp 52), some 11, none⟩]
abbrev oo32 : List LOp := [⟨Op.move (Operand.tmp 11), some 53, none⟩, ⟨Op.binOp BinOp.eql 60 (Operand.tmp 53) (Operand.const (Value.slice none 0 0)) 60, some 54, none⟩]
abbrev oo33 : List LOp := [⟨Op.move (Operand.tmp 8), some 55, none⟩, ⟨Op.move (Operand.tmp 11), some 56, none⟩, ⟨Op.buildSlice 121 1 #[(0, Operand.tmp 56)], some 57, none⟩, ⟨Op.call { callee := Callee.builtin Builtin.append, args := #[Operand.tmp 55, Operand.tmp 57], argTypes := #[121, 121] }, some 58, none⟩, ⟨Op.assign (Operand.tmp 58), some 8, none⟩]
abbrev oo34 : List LOp := [⟨Op.binOp BinOp.add 3 (Operand.tmp 46) (Operand.const (Value.int IntKind.i64 1)) 3, some 59, none⟩, ⟨Op.move (Operand.tmp 59), some 46, none⟩]
abbrev oo35 : List LOp := [⟨Op.move (Operand.tmp 8), some 60, none⟩, ⟨Op.fieldAddr 27 (Operand.tmp 3) 1, some 61, none⟩, ⟨Op.load 23 (Operand.tmp 61), some 62, none⟩, ⟨Op.call { callee := Callee.builtin Builtin.len, args := #[Operand.tmp 62], argTypes := #[23] }, some 63, none⟩, ⟨Op.indexAddr 121 (Operand.tmp 60) (Operand.tmp 63), some 64, none⟩, ⟨Op.load 60 (Operand.tmp 64), some 65, none⟩, ⟨Op.alloc 60, some 12, none⟩, ⟨Op.store 60 (Operand.tmp 12) (Operand.tmp 65), none, none⟩]
abbrev oo36 : List LOp := [⟨Op.assign (Operand.const (Value.bool true)), some 13, none⟩]
abbrev oo37 : List LOp := [⟨Op.fieldAddr 27 (Operand.tmp 3) 0, some 66, none⟩, ⟨Op.load 22 (Operand.tmp 66), some 67, none⟩]
abbrev oo38 : List LOp := [⟨Op.binOp BinOp.eql 22 (Operand.tmp 67) (Operand.const (Value.int IntKind.i64 1)) 22, some 69, none⟩, ⟨Op.assign (Operand.tmp 69), some 68, none⟩]
abbrev oo39 : List LOp := [⟨Op.binOp BinOp.eql 22 (Operand.tmp 67) (Operand.const (Value.int IntKind.i64 2)) 22, some 86, none⟩, ⟨Op.assign (Operand.tmp 86), some 85, none⟩]
abbrev oo40 : List LOp := [⟨Op.load 86 (Operand.tmp 2), some 88, none⟩, ⟨Op.load 27 (Operand.tmp 3), some 89, none⟩, ⟨Op.load 60 (Operand.tmp 12), some 90, none⟩, ⟨Op.call { callee := Callee.value (Operand.func 73), args := #[Operand.tmp 88, Operand.tmp 89, Operand.tmp 90], argTypes := #[86, 27, 60] }, some 91, none⟩, ⟨Op.assign (Operand.tmp 91), some 13, none⟩]
abbrev oo41 : List LOp := [⟨Op.move (Operand.tmp 13), some 144, none⟩, ⟨Op.unOp UnOp.not 4 (Operand.tmp 144), some 145, none⟩]
abbrev oo42 : List LOp := [⟨Op.assign (Operand.const (Value.slice none 0 0)), some 4, none⟩]
abbrev oo43 : List LOp := [⟨Op.load 60 (Operand.tmp 12), some 146, none⟩, ⟨Op.assign (Operand.tmp 146), some 4, none⟩]
abbrev oo44 : List LOp := [⟨Op.binOp BinOp.eql 22 (Operand.tmp 67) (Operand.const (Value.int IntKind.i64 3)) 22, some 87, none⟩, ⟨Op.assign (Operand.tmp 87), some 85, none⟩]
abbrev oo45 : List LOp := [⟨Op.binOp BinOp.eql 22 (Operand.tmp 67) (Operand.const (Value.int IntKind.i64 4)) 22, some 93, none⟩, ⟨Op.assign (Operand.tmp 93), some 92, none⟩]
abbrev oo46 : List LOp := [⟨Op.binOp BinOp.eql 22 (Operand.tmp 67) (Operand.const (Value.int IntKind.i64 5)) 22, some 132, none⟩, ⟨Op.assign (Operand.tmp 132), some 131, none⟩]
end Go.Proofs.Ytihbejpkfifplaa.Z
section
set_option maxRecDepth 100000
namespace Go.Proofs.Ytihbejpkfifplaa.Z
open Go Go.Fw
set_option maxHeartbeats 4000000 in
theorem bound2_ok (c : CoreT) (p : PlanT) (hP : patS c.nodes c.edges = true) (hop : p.op = 2) (hkl : p.kids.length = 1) (IH : Snd P 37 [.d (.ag (encC c ++ [D.int c.nodes.length])), .d (.ag (encP (rdI p.kids 0)))] (resB (bndT c (rdI p.kids 0))) (stoB (bndT c (rdI p.kids 0)))) (b0 : List Bool) (hq : bndT c (rdI p.kids 0) = some b0) (hb0 : b0.length = c.nodes.length + c.edges.length) : Snd P 37 [.d (.ag (encC c ++ [D.int c.nodes.length])), .d (.ag (encP p))] (resB (opS c p [b0])) (stoB (opS c p [b0])) := by
  obtain ⟨hn1, hn8, hk8⟩ := pat_rng hP
  have hE := goodE_of hP
  obtain ⟨n, hn⟩ : ∃ k, c.nodes.length = k := ⟨_, rfl⟩
  obtain ⟨k, hk⟩ : ∃ k, c.edges.length = k := ⟨_, rfl⟩
  rw [hn] at hn1 hn8
  rw [hk] at hk8
  obtain ⟨fb, hfb⟩ : ∃ fb, List.replicate (n + k) false = fb := ⟨_, rfl⟩
  have hfl : fb.length = n + k := by rw [← hfb]; simp
  have hwd : ((n:Int) + k).toNat = n + k := by omega
  have hw : IntKind.i64.wrap ((n:Int) + k) = (n:Int) + k := wrap_id (by omega) (by omega)
  have hw1 : 0 < n + k := by omega
  have hw2 : (n:Int) + k ≤ 140737488355328 := by omega
  have hw3 : (0:Int) ≤ (n:Int) + k := by omega
  have hb0n : b0.length = n + k := by rw [hb0, hn, hk]
  simp only [hq, resB, stoB, encP_cells, hn, hb0n] at IH
  refine snd_of [5300] Try.func37 rfl (by kernel_rfl) Try.ntmps37 (by simp) ?_
  unfold Try.f37
  simp only [List.cons_append, List.nil_append, List.length_cons, List.length_nil, Nat.reduceAdd, Nat.reduceSub, List.replicate]
  refine Run.seq ?_
  refine opsF oo23 fun K hK => ?_
  try simp
  repeat' first | ((refine evL_c ?_); simp [-List.map_set, hn, hk, hop, hkl, hw, hwd, hfl, hw1, hw2, hw3]) | (with_reducible refine And.intro ?_ ?_) | intro _ | (with_reducible assumption) | omega
  all_goals (refine Fin.go hK ?_; clear hK K)
  simp only [Then_normal]
  refine Run.seq ?_
  refine opsF oo24 fun K hK => ?_
  try simp
  repeat' first | ((refine evL_c ?_); simp [-List.map_set, hn, hk, hop, hkl, hw, hwd, hfl, hw1, hw2, hw3]) | (with_reducible refine And.intro ?_ ?_) | intro _ | (with_reducible assumption) | omega
  all_goals (refine Fin.go hK ?_; clear hK K)
  simp only [Then_normal]
  refine Run.seq ?_
  refine Run.seq ?_
  refine opsF oo25 fun K hK => ?_
  try simp
  repeat' first | ((refine evL_c ?_); simp [-List.map_set, hn, hk, hop, hkl, hw, hwd, hfl, hw1, hw2, hw3]) | (with_reducible refine And.intro ?_ ?_) | intro _ | (with_reducible assumption) | omega
  all_goals (refine Fin.go hK ?_; clear hK K)
  simp only [Then_normal]
  refine Run.seq ?_
  refine opsF oo26 fun K hK => ?_
  try simp
  repeat' first | ((first | refine evL_c ?_ | (refine evL_g rfl ?_; try simp only [gs_tt, gs_ff, gs_tf, gs_ft]) | refine evL_u rfl ?_ | (with_reducible refine gsplit (fun hg => ?_) (fun hg => ?_) <;> try simp at hg)) <;> try simp [-List.map_set, hn, hk, hop, hkl, hw, hwd, hfl, hw1, hw2, hw3]) | (with_reducible refine And.intro ?_ ?_) | intro _ | (with_reducible assumption) | omega
  all_goals (refine Fin.go hK ?_; clear hK K)
  all_goals
    simp only [Then_normal]
    refine Run.cond rfl (fun h33 => ?_) (fun h33 => ?_)
    · simp at h33
    · skip
      refine Run.skip ?_
      simp only [Then_normal]
      refine Run.cut [8, 34, 35, 36, 37, 38, 39, 40, 41, 42] [(8, .rs 4300 1 0 1)] [(300, .vals ((encC c ++ [D.int c.nodes.length]).map .d)), (400, .vals ((encP p).map .d)), (4200, .data 1 (fb.map encB)), (4300, .vals [.rs 4200 1 0 (n + k)])] ?_ ?_
      · refine opsF oo27 fun K hK => ?_
        try simp
        repeat' first | ((refine evL_c ?_); simp [-List.map_set, hn, hk, hop, hkl, hw, hwd, hfl, hw1, hw2, hw3]) | (with_reducible refine And.intro ?_ ?_) | intro _ | (with_reducible assumption) | omega
        all_goals (refine Fin.go hK ?_; clear hK K)
        first | (simp [-List.map_set, hn, hk, hop, hkl, hw, hwd, hfl, hw1, hw2, hw3, ← hfb]; done)
      · simp only [over, List.foldl, List.set]
        refine Run.seq ?_
        refine Run.seq ?_
        refine opsF oo28 fun K hK => ?_
        try simp
        repeat' first | ((refine evL_c ?_); simp [-List.map_set, hn, hk, hop, hkl, hw, hwd, hfl, hw1, hw2, hw3]) | (with_reducible refine And.intro ?_ ?_) | intro _ | (with_reducible assumption) | omega
        all_goals (refine Fin.go hK ?_; clear hK K)
        simp only [Then_normal]
        refine Run.block ?_
        refine Run.loopO [4, 8, 10, 11, 46, 47, 48, 49, 50, 51, 52, 53, 54, 55, 56, 57, 58, 59] (fun (x : Nat) => [(46, .int x), (8, match x with | 0 => .rs 4300 1 0 1 | _ => .rs 5900 1 0 2)]) (fun (x : Nat) => match x with | 0 => [(300, .vals ((encC c ++ [D.int c.nodes.length]).map .d)), (400, .vals ((encP p).map .d)), (4200, .data 1 (fb.map encB)), (4300, .vals [.rs 4200 1 0 (n + k)])] | _ => [(300, .vals ((encC c ++ [D.int c.nodes.length]).map .d)), (400, .vals ((encP p).map .d)), (4200, .data 1 (fb.map encB)), (5300, .data 1 (b0.map encB)), (5900, .vals [.rs 4200 1 0 (n + k), .rs 5300 1 0 (n + k)])]) (fun (x : Nat) => x = 0 ∨ x = 1) (fun (x : Nat) => 1 - x) 0 (by simp) (by simp [-List.map_set, hn, hk, hop, hkl, hw, hwd, hfl, hw1, hw2, hw3]) fun x hx => ?_
        rcases hx with rfl | rfl
        · simp only [over, List.foldl, List.set]
          refine Run.seq ?_
          refine opsF oo29 fun K hK => ?_
          try simp
          repeat' first | ((refine evL_c ?_); simp [-List.map_set, hn, hk, hop, hkl, hw, hwd, hfl, hw1, hw2, hw3]) | (with_reducible refine And.intro ?_ ?_) | intro _ | (with_reducible assumption) | omega
          all_goals (refine Fin.go hK ?_; clear hK K)
          simp only [Then_normal]
          refine Run.seq ?_
          refine Run.cond rfl (fun h47 => ?_) (fun h47 => ?_)
          · skip
            refine Run.skip ?_
            simp only [Then_normal]
            refine Run.seq ?_
            refine Run.block ?_
            refine Run.seq ?_
            refine opsF oo30 fun K hK => ?_
            try simp
            repeat' first | ((refine evL_c ?_); simp [-List.map_set, hn, hk, hop, hkl, hw, hwd, hfl, hw1, hw2, hw3]) | (with_reducible refine And.intro ?_ ?_) | intro _ | (with_reducible assumption) | omega
            all_goals (refine Fin.go hK ?_; clear hK K)
            simp only [Then_normal]
            refine Run.seq ?_
            refine opsF oo31 fun K hK => ?_
            try simp
            repeat' first | (refine ecall (by have h := IH; exact h) rfl ?_) | ((refine evL_c ?_); simp [-List.map_set, hn, hk, hop, hkl, hw, hwd, hfl, hw1, hw2, hw3]) | (with_reducible refine And.intro ?_ ?_) | intro _ | (with_reducible assumption) | omega
            all_goals (refine Fin.go hK ?_; clear hK K)
            simp only [Then_normal]
            refine Run.seq ?_
            refine Run.seq ?_
            refine opsF oo32 fun K hK => ?_
            try simp
            repeat' first | ((refine evL_c ?_); simp [-List.map_set, hn, hk, hop, hkl, hw, hwd, hfl, hw1, hw2, hw3]) | (with_reducible refine And.intro ?_ ?_) | intro _ | (with_reducible assumption) | omega
            all_goals (refine Fin.go hK ?_; clear hK K)
            simp only [Then_normal]
            refine Run.cond rfl (fun h54 => ?_) (fun h54 => ?_)
            · simp at h54
            · skip
              refine Run.skip ?_
              simp only [Then_normal]
              refine opsF oo33 fun K hK => ?_
              try simp
              repeat' first | ((refine evL_c ?_); simp [-List.map_set, hn, hk, hop, hkl, hw, hwd, hfl, hw1, hw2, hw3]) | (with_reducible refine And.intro ?_ ?_) | intro _ | (with_reducible assumption) | omega
              all_goals (refine Fin.go hK ?_; clear hK K)
              simp only [Blok_normal]
              simp only [Then_normal]
              refine opsF oo34 fun K hK => ?_
              try simp
              repeat' first | ((refine evL_c ?_); simp [-List.map_set, hn, hk, hop, hkl, hw, hwd, hfl, hw1, hw2, hw3]) | (with_reducible refine And.intro ?_ ?_) | intro _ | (with_reducible assumption) | omega
              all_goals (refine Fin.go hK ?_; clear hK K)
              refine ⟨1, .inr rfl, by omega, ?_⟩
              simp (disch := omega) [-List.map_set, hn, hk, hop, hkl, hw, hwd, hfl, hw1, hw2, hw3, hb0, wrap_id]
          · simp at h47
        · simp only [over, List.foldl, List.set]
          refine Run.seq ?_
          refine opsF oo29 fun K hK => ?_
          try simp
          repeat' first | ((refine evL_c ?_); simp [-List.map_set, hn, hk, hop, hkl, hw, hwd, hfl, hw1, hw2, hw3]) | (with_reducible refine And.intro ?_ ?_) | intro _ | (with_reducible assumption) | omega
          all_goals (refine Fin.go hK ?_; clear hK K)
          simp only [Then_normal]
          refine Run.seq ?_
          refine Run.cond rfl (fun h47 => ?_) (fun h47 => ?_)
          · simp at h47
          · skip
            refine Run.exit ?_
            simp (decide := true) only [Then_exit, Blok_exit, if_true, if_false]
            simp only [Then_normal]
            refine Run.seq ?_
            refine opsF oo35 fun K hK => ?_
            try simp
            repeat' first | ((refine evL_c ?_); simp [-List.map_set, hn, hk, hop, hkl, hw, hwd, hfl, hw1, hw2, hw3]) | (with_reducible refine And.intro ?_ ?_) | intro _ | (with_reducible assumption) | omega
            all_goals (refine Fin.go hK ?_; clear hK K)
            simp only [Then_normal]
            refine Run.seq ?_
            refine opsF oo36 fun K hK => ?_
            try simp
            repeat' first | ((refine evL_c ?_); simp [-List.map_set, hn, hk, hop, hkl, hw, hwd, hfl, hw1, hw2, hw3]) | (with_reducible refine And.intro ?_ ?_) | intro _ | (with_reducible assumption) | omega
            all_goals (refine Fin.go hK ?_; clear hK K)
            simp only [Then_normal]
            refine Run.seq ?_
            refine Run.seq ?_
            refine opsF oo37 fun K hK => ?_
            try simp
            repeat' first | ((refine evL_c ?_); simp [-List.map_set, hn, hk, hop, hkl, hw, hwd, hfl, hw1, hw2, hw3]) | (with_reducible refine And.intro ?_ ?_) | intro _ | (with_reducible assumption) | omega
            all_goals (refine Fin.go hK ?_; clear hK K)
            simp only [Then_normal]
            refine Run.block ?_
            refine Run.seq ?_
            refine opsF oo38 fun K hK => ?_
            try simp
            repeat' first | ((refine evL_c ?_); simp [-List.map_set, hn, hk, hop, hkl, hw, hwd, hfl, hw1, hw2, hw3]) | (with_reducible refine And.intro ?_ ?_) | intro _ | (with_reducible assumption) | omega
            all_goals (refine Fin.go hK ?_; clear hK K)
            simp only [Then_normal]
            refine Run.cond rfl (fun h68 => ?_) (fun h68 => ?_)
            · simp at h68
            · skip
              refine Run.seq ?_
              refine Run.seq ?_
              refine opsF oo39 fun K hK => ?_
              try simp
              repeat' first | ((refine evL_c ?_); simp [-List.map_set, hn, hk, hop, hkl, hw, hwd, hfl, hw1, hw2, hw3]) | (with_reducible refine And.intro ?_ ?_) | intro _ | (with_reducible assumption) | omega
              all_goals (refine Fin.go hK ?_; clear hK K)
              simp only [Then_normal]
              refine Run.cond rfl (fun h85 => ?_) (fun h85 => ?_)
              · skip
                refine Run.skip ?_
                simp only [Then_normal]
                refine Run.cond rfl (fun h85 => ?_) (fun h85 => ?_)
                · skip
                  refine opsT oo40 fun K hK => ?_
                  try simp
                  repeat' first | (refine ecallW [5300] (by have h := edge_ok c p b0 hb0 hE; simp only [encP_cells, hop, hb0n, hn] at h; exact h) (by simp) (by simp) (by simp) ?_) | ((refine evL_c ?_); simp [-List.map_set, hn, hk, hop, hkl, hw, hwd, hfl, hw1, hw2, hw3]) | (with_reducible refine And.intro ?_ ?_) | intro _ | (with_reducible assumption) | omega
                  all_goals (refine Fin.go hK ?_; clear hK K)
                  simp only [Blok_normal]
                  simp only [Then_normal]
                  refine Run.seq ?_
                  refine Run.seq ?_
                  refine opsF oo41 fun K hK => ?_
                  try simp
                  repeat' first | ((refine evL_c ?_); simp [-List.map_set, hn, hk, hop, hkl, hw, hwd, hfl, hw1, hw2, hw3]) | (with_reducible refine And.intro ?_ ?_) | intro _ | (with_reducible assumption) | omega
                  all_goals (refine Fin.go hK ?_; clear hK K)
                  simp only [Then_normal]
                  refine Run.cond rfl (fun h145 => ?_) (fun h145 => ?_)
                  · try simp at h145
                    refine Run.seq ?_
                    refine opsF oo42 fun K hK => ?_
                    try simp
                    repeat' first | ((refine evL_c ?_); simp [-List.map_set, hn, hk, hop, hkl, hw, hwd, hfl, hw1, hw2, hw3]) | (with_reducible refine And.intro ?_ ?_) | intro _ | (with_reducible assumption) | omega
                    all_goals (refine Fin.go hK ?_; clear hK K)
                    simp only [Then_normal]
                    refine Run.drop [] (by simp) ?_
                    refine Run.ret ?_
                    try simp only [Then_ret, Blok_ret]
                    first
                      | (have e : opS c p [b0] = none := by simp [opS, hop, h145]
                         rw [e]
                         simp [resB, stoB, hn]; done)
                      | (have e : opS c p [b0] = some (edgeL c p b0) := by simp [opS, hop, h145]
                         rw [e]
                         simp [-List.map_set, resB, stoB, hn, hb0n, edgeL_len]; done)
                  · try simp at h145
                    refine Run.skip ?_
                    simp only [Then_normal]
                    refine Run.seq ?_
                    refine opsF oo43 fun K hK => ?_
                    try simp
                    repeat' first | ((refine evL_c ?_); simp [-List.map_set, hn, hk, hop, hkl, hw, hwd, hfl, hw1, hw2, hw3]) | (with_reducible refine And.intro ?_ ?_) | intro _ | (with_reducible assumption) | omega
                    all_goals (refine Fin.go hK ?_; clear hK K)
                    simp only [Then_normal]
                    refine Run.ret ?_
                    try simp only [Then_ret, Blok_ret]
                    first
                      | (have e : opS c p [b0] = none := by simp [opS, hop, h145]
                         rw [e]
                         simp [resB, stoB, hn]; done)
                      | (have e : opS c p [b0] = some (edgeL c p b0) := by simp [opS, hop, h145]
                         rw [e]
                         simp [-List.map_set, resB, stoB, hn, hb0n, edgeL_len]; done)
                · simp at h85
              · simp at h85

set_option maxHeartbeats 4000000 in
theorem bound3_ok (c : CoreT) (p : PlanT) (hP : patS c.nodes c.edges = true) (hop : p.op = 3) (hkl : p.kids.length = 1) (IH : Snd P 37 [.d (.ag (encC c ++ [D.int c.nodes.length])), .d (.ag (encP (rdI p.kids 0)))] (resB (bndT c (rdI p.kids 0))) (stoB (bndT c (rdI p.kids 0)))) (b0 : List Bool) (hq : bndT c (rdI p.kids 0) = some b0) (hb0 : b0.length = c.nodes.length + c.edges.length) : Snd P 37 [.d (.ag (encC c ++ [D.int c.nodes.length])), .d (.ag (encP p))] (resB (opS c p [b0])) (stoB (opS c p [b0])) := by
  obtain ⟨hn1, hn8, hk8⟩ := pat_rng hP
  have hE := goodE_of hP
  obtain ⟨n, hn⟩ : ∃ k, c.nodes.length = k := ⟨_, rfl⟩
  obtain ⟨k, hk⟩ : ∃ k, c.edges.length = k := ⟨_, rfl⟩
  rw [hn] at hn1 hn8
  rw [hk] at hk8
  obtain ⟨fb, hfb⟩ : ∃ fb, List.replicate (n + k) false = fb := ⟨_, rfl⟩
  have hfl : fb.length = n + k := by rw [← hfb]; simp
  have hwd : ((n:Int) + k).toNat = n + k := by omega
  have hw : IntKind.i64.wrap ((n:Int) + k) = (n:Int) + k := wrap_id (by omega) (by omega)
  have hw1 : 0 < n + k := by omega
  have hw2 : (n:Int) + k ≤ 140737488355328 := by omega
  have hw3 : (0:Int) ≤ (n:Int) + k := by omega
  have hb0n : b0.length = n + k := by rw [hb0, hn, hk]
  simp only [hq, resB, stoB, encP_cells, hn, hb0n] at IH
  refine snd_of [5300] Try.func37 rfl (by kernel_rfl) Try.ntmps37 (by simp) ?_
  unfold Try.f37
  simp only [List.cons_append, List.nil_append, List.length_cons, List.length_nil, Nat.reduceAdd, Nat.reduceSub, List.replicate]
  refine Run.seq ?_
  refine opsF oo23 fun K hK => ?_
  try simp
  repeat' first | ((refine evL_c ?_); simp [-List.map_set, hn, hk, hop, hkl, hw, hwd, hfl, hw1, hw2, hw3]) | (with_reducible refine And.intro ?_ ?_) | intro _ | (with_reducible assumption) | omega
  all_goals (refine Fin.go hK ?_; clear hK K)
  simp only [Then_normal]
  refine Run.seq ?_
  refine opsF oo24 fun K hK => ?_
  try simp
  repeat' first | ((refine evL_c ?_); simp [-List.map_set, hn, hk, hop, hkl, hw, hwd, hfl, hw1, hw2, hw3]) | (with_reducible refine And.intro ?_ ?_) | intro _ | (with_reducible assumption) | omega
  all_goals (refine Fin.go hK ?_; clear hK K)
  simp only [Then_normal]
  refine Run.seq ?_
  refine Run.seq ?_
  refine opsF oo25 fun K hK => ?_
  try simp
  repeat' first | ((refine evL_c ?_); simp [-List.map_set, hn, hk, hop, hkl, hw, hwd, hfl, hw1, hw2, hw3]) | (with_reducible refine And.intro ?_ ?_) | intro _ | (with_reducible assumption) | omega
  all_goals (refine Fin.go hK ?_; clear hK K)
  simp only [Then_normal]
  refine Run.seq ?_
  refine opsF oo26 fun K hK => ?_
  try simp
  repeat' first | ((first | refine evL_c ?_ | (refine evL_g rfl ?_; try simp only [gs_tt, gs_ff, gs_tf, gs_ft]) | refine evL_u rfl ?_ | (with_reducible refine gsplit (fun hg => ?_) (fun hg => ?_) <;> try simp at hg)) <;> try simp [-List.map_set, hn, hk, hop, hkl, hw, hwd, hfl, hw1, hw2, hw3]) | (with_reducible refine And.intro ?_ ?_) | intro _ | (with_reducible assumption) | omega
  all_goals (refine Fin.go hK ?_; clear hK K)
  all_goals
    simp only [Then_normal]
    refine Run.cond rfl (fun h33 => ?_) (fun h33 => ?_)
    · simp at h33
    · skip
      refine Run.skip ?_
      simp only [Then_normal]
      refine Run.cut [8, 34, 35, 36, 37, 38, 39, 40, 41, 42] [(8, .rs 4300 1 0 1)] [(300, .vals ((encC c ++ [D.int c.nodes.length]).map .d)), (400, .vals ((encP p).map .d)), (4200, .data 1 (fb.map encB)), (4300, .vals [.rs 4200 1 0 (n + k)])] ?_ ?_
      · refine opsF oo27 fun K hK => ?_
        try simp
        repeat' first | ((refine evL_c ?_); simp [-List.map_set, hn, hk, hop, hkl, hw, hwd, hfl, hw1, hw2, hw3]) | (with_reducible refine And.intro ?_ ?_) | intro _ | (with_reducible assumption) | omega
        all_goals (refine Fin.go hK ?_; clear hK K)
        first | (simp [-List.map_set, hn, hk, hop, hkl, hw, hwd, hfl, hw1, hw2, hw3, ← hfb]; done)
      · simp only [over, List.foldl, List.set]
        refine Run.seq ?_
        refine Run.seq ?_
        refine opsF oo28 fun K hK => ?_
        try simp
        repeat' first | ((refine evL_c ?_); simp [-List.map_set, hn, hk, hop, hkl, hw, hwd, hfl, hw1, hw2, hw3]) | (with_reducible refine And.intro ?_ ?_) | intro _ | (with_reducible assumption) | omega
        all_goals (refine Fin.go hK ?_; clear hK K)
        simp only [Then_normal]
        refine Run.block ?_
        refine Run.loopO [4, 8, 10, 11, 46, 47, 48, 49, 50, 51, 52, 53, 54, 55, 56, 57, 58, 59] (fun (x : Nat) => [(46, .int x), (8, match x with | 0 => .rs 4300 1 0 1 | _ => .rs 5900 1 0 2)]) (fun (x : Nat) => match x with | 0 => [(300, .vals ((encC c ++ [D.int c.nodes.length]).map .d)), (400, .vals ((encP p).map .d)), (4200, .data 1 (fb.map encB)), (4300, .vals [.rs 4200 1 0 (n + k)])] | _ => [(300, .vals ((encC c ++ [D.int c.nodes.length]).map .d)), (400, .vals ((encP p).map .d)), (4200, .data 1 (fb.map encB)), (5300, .data 1 (b0.map encB)), (5900, .vals [.rs 4200 1 0 (n + k), .rs 5300 1 0 (n + k)])]) (fun (x : Nat) => x = 0 ∨ x = 1) (fun (x : Nat) => 1 - x) 0 (by simp) (by simp [-List.map_set, hn, hk, hop, hkl, hw, hwd, hfl, hw1, hw2, hw3]) fun x hx => ?_
        rcases hx with rfl | rfl
        · simp only [over, List.foldl, List.set]
          refine Run.seq ?_
          refine opsF oo29 fun K hK => ?_
          try simp
          repeat' first | ((refine evL_c ?_); simp [-List.map_set, hn, hk, hop, hkl, hw, hwd, hfl, hw1, hw2, hw3]) | (with_reducible refine And.intro ?_ ?_) | intro _ | (with_reducible assumption) | omega
          all_goals (refine Fin.go hK ?_; clear hK K)
          simp only [Then_normal]
          refine Run.seq ?_
          refine Run.cond rfl (fun h47 => ?_) (fun h47 => ?_)
          · skip
            refine Run.skip ?_
            simp only [Then_normal]
            refine Run.seq ?_
            refine Run.block ?_
            refine Run.seq ?_
            refine opsF oo30 fun K hK => ?_
            try simp
            repeat' first | ((refine evL_c ?_); simp [-List.map_set, hn, hk, hop, hkl, hw, hwd, hfl, hw1, hw2, hw3]) | (with_reducible refine And.intro ?_ ?_) | intro _ | (with_reducible assumption) | omega
            all_goals (refine Fin.go hK ?_; clear hK K)
            simp only [Then_normal]
            refine Run.seq ?_
            refine opsF oo31 fun K hK => ?_
            try simp
            repeat' first | (refine ecall (by have h := IH; exact h) rfl ?_) | ((refine evL_c ?_); simp [-List.map_set, hn, hk, hop, hkl, hw, hwd, hfl, hw1, hw2, hw3]) | (with_reducible refine And.intro ?_ ?_) | intro _ | (with_reducible assumption) | omega
            all_goals (refine Fin.go hK ?_; clear hK K)
            simp only [Then_normal]
            refine Run.seq ?_
            refine Run.seq ?_
            refine opsF oo32 fun K hK => ?_
            try simp
            repeat' first | ((refine evL_c ?_); simp [-List.map_set, hn, hk, hop, hkl, hw, hwd, hfl, hw1, hw2, hw3]) | (with_reducible refine And.intro ?_ ?_) | intro _ | (with_reducible assumption) | omega
            all_goals (refine Fin.go hK ?_; clear hK K)
            simp only [Then_normal]
            refine Run.cond rfl (fun h54 => ?_) (fun h54 => ?_)
            · simp at h54
            · skip
              refine Run.skip ?_
              simp only [Then_normal]
              refine opsF oo33 fun K hK => ?_
              try simp
              repeat' first | ((refine evL_c ?_); simp [-List.map_set, hn, hk, hop, hkl, hw, hwd, hfl, hw1, hw2, hw3]) | (with_reducible refine And.intro ?_ ?_) | intro _ | (with_reducible assumption) | omega
              all_goals (refine Fin.go hK ?_; clear hK K)
              simp only [Blok_normal]
              simp only [Then_normal]
              refine opsF oo34 fun K hK => ?_
              try simp
              repeat' first | ((refine evL_c ?_); simp [-List.map_set, hn, hk, hop, hkl, hw, hwd, hfl, hw1, hw2, hw3]) | (with_reducible refine And.intro ?_ ?_) | intro _ | (with_reducible assumption) | omega
              all_goals (refine Fin.go hK ?_; clear hK K)
              refine ⟨1, .inr rfl, by omega, ?_⟩
              simp (disch := omega) [-List.map_set, hn, hk, hop, hkl, hw, hwd, hfl, hw1, hw2, hw3, hb0, wrap_id]
          · simp at h47
        · simp only [over, List.foldl, List.set]
          refine Run.seq ?_
          refine opsF oo29 fun K hK => ?_
          try simp
          repeat' first | ((refine evL_c ?_); simp [-List.map_set, hn, hk, hop, hkl, hw, hwd, hfl, hw1, hw2, hw3]) | (with_reducible refine And.intro ?_ ?_) | intro _ | (with_reducible assumption) | omega
          all_goals (refine Fin.go hK ?_; clear hK K)
          simp only [Then_normal]
          refine Run.seq ?_
          refine Run.cond rfl (fun h47 => ?_) (fun h47 => ?_)
          · simp at h47
          · skip
            refine Run.exit ?_
            simp (decide := true) only [Then_exit, Blok_exit, if_true, if_false]
            simp only [Then_normal]
            refine Run.seq ?_
            refine opsF oo35 fun K hK => ?_
            try simp
            repeat' first | ((refine evL_c ?_); simp [-List.map_set, hn, hk, hop, hkl, hw, hwd, hfl, hw1, hw2, hw3]) | (with_reducible refine And.intro ?_ ?_) | intro _ | (with_reducible assumption) | omega
            all_goals (refine Fin.go hK ?_; clear hK K)
            simp only [Then_normal]
            refine Run.seq ?_
            refine opsF oo36 fun K hK => ?_
            try simp
            repeat' first | ((refine evL_c ?_); simp [-List.map_set, hn, hk, hop, hkl, hw, hwd, hfl, hw1, hw2, hw3]) | (with_reducible refine And.intro ?_ ?_) | intro _ | (with_reducible assumption) | omega
            all_goals (refine Fin.go hK ?_; clear hK K)
            simp only [Then_normal]
            refine Run.seq ?_
            refine Run.seq ?_
            refine opsF oo37 fun K hK => ?_
            try simp
            repeat' first | ((refine evL_c ?_); simp [-List.map_set, hn, hk, hop, hkl, hw, hwd, hfl, hw1, hw2, hw3]) | (with_reducible refine And.intro ?_ ?_) | intro _ | (with_reducible assumption) | omega
            all_goals (refine Fin.go hK ?_; clear hK K)
            simp only [Then_normal]
            refine Run.block ?_
            refine Run.seq ?_
            refine opsF oo38 fun K hK => ?_
            try simp
            repeat' first | ((refine evL_c ?_); simp [-List.map_set, hn, hk, hop, hkl, hw, hwd, hfl, hw1, hw2, hw3]) | (with_reducible refine And.intro ?_ ?_) | intro _ | (with_reducible assumption) | omega
            all_goals (refine Fin.go hK ?_; clear hK K)
            simp only [Then_normal]
            refine Run.cond rfl (fun h68 => ?_) (fun h68 => ?_)
            · simp at h68
            · skip
              refine Run.seq ?_
              refine Run.seq ?_
              refine opsF oo39 fun K hK => ?_
              try simp
              repeat' first | ((refine evL_c ?_); simp [-List.map_set, hn, hk, hop, hkl, hw, hwd, hfl, hw1, hw2, hw3]) | (with_reducible refine And.intro ?_ ?_) | intro _ | (with_reducible assumption) | omega
              all_goals (refine Fin.go hK ?_; clear hK K)
              simp only [Then_normal]
              refine Run.cond rfl (fun h85 => ?_) (fun h85 => ?_)
              · simp at h85
              · skip
                refine opsF oo44 fun K hK => ?_
                try simp
                repeat' first | ((refine evL_c ?_); simp [-List.map_set, hn, hk, hop, hkl, hw, hwd, hfl, hw1, hw2, hw3]) | (with_reducible refine And.intro ?_ ?_) | intro _ | (with_reducible assumption) | omega
                all_goals (refine Fin.go hK ?_; clear hK K)
                simp only [Then_normal]
                refine Run.cond rfl (fun h85 => ?_) (fun h85 => ?_)
                · skip
                  refine opsT oo40 fun K hK => ?_
                  try simp
                  repeat' first | (refine ecallW [5300] (by have h := edge_ok c p b0 hb0 hE; simp only [encP_cells, hop, hb0n, hn] at h; exact h) (by simp) (by simp) (by simp) ?_) | ((refine evL_c ?_); simp [-List.map_set, hn, hk, hop, hkl, hw, hwd, hfl, hw1, hw2, hw3]) | (with_reducible refine And.intro ?_ ?_) | intro _ | (with_reducible assumption) | omega
                  all_goals (refine Fin.go hK ?_; clear hK K)
                  simp only [Blok_normal]
                  simp only [Then_normal]
                  refine Run.seq ?_
                  refine Run.seq ?_
                  refine opsF oo41 fun K hK => ?_
                  try simp
                  repeat' first | ((refine evL_c ?_); simp [-List.map_set, hn, hk, hop, hkl, hw, hwd, hfl, hw1, hw2, hw3]) | (with_reducible refine And.intro ?_ ?_) | intro _ | (with_reducible assumption) | omega
                  all_goals (refine Fin.go hK ?_; clear hK K)
                  simp only [Then_normal]
                  refine Run.cond rfl (fun h145 => ?_) (fun h145 => ?_)
                  · try simp at h145
                    refine Run.seq ?_
                    refine opsF oo42 fun K hK => ?_
                    try simp
                    repeat' first | ((refine evL_c ?_); simp [-List.map_set, hn, hk, hop, hkl, hw, hwd, hfl, hw1, hw2, hw3]) | (with_reducible refine And.intro ?_ ?_) | intro _ | (with_reducible assumption) | omega
                    all_goals (refine Fin.go hK ?_; clear hK K)
                    simp only [Then_normal]
                    refine Run.drop [] (by simp) ?_
                    refine Run.ret ?_
                    try simp only [Then_ret, Blok_ret]
                    first
                      | (have e : opS c p [b0] = none := by simp [opS, hop, h145]
                         rw [e]
                         simp [resB, stoB, hn]; done)
                      | (have e : opS c p [b0] = some (edgeL c p b0) := by simp [opS, hop, h145]
                         rw [e]
                         simp [-List.map_set, resB, stoB, hn, hb0n, edgeL_len]; done)
                  · try simp at h145
                    refine Run.skip ?_
                    simp only [Then_normal]
                    refine Run.seq ?_
                    refine opsF oo43 fun K hK => ?_
                    try simp
                    repeat' first | ((refine evL_c ?_); simp [-List.map_set, hn, hk, hop, hkl, hw, hwd, hfl, hw1, hw2, hw3]) | (with_reducible refine And.intro ?_ ?_) | intro _ | (with_reducible assumption) | omega
                    all_goals (refine Fin.go hK ?_; clear hK K)
                    simp only [Then_normal]
                    refine Run.ret ?_
                    try simp only [Then_ret, Blok_ret]
                    first
                      | (have e : opS c p [b0] = none := by simp [opS, hop, h145]
                         rw [e]
                         simp [resB, stoB, hn]; done)
                      | (have e : opS c p [b0] = some (edgeL c p b0) := by simp [opS, hop, h145]
                         rw [e]
                         simp [-List.map_set, resB, stoB, hn, hb0n, edgeL_len]; done)
                · simp at h85

set_option maxHeartbeats 4000000 in
theorem bound5_ok (c : CoreT) (p : PlanT) (hP : patS c.nodes c.edges = true) (hop : p.op = 5) (hkl : p.kids.length = 1) (IH : Snd P 37 [.d (.ag (encC c ++ [D.int c.nodes.length])), .d (.ag (encP (rdI p.kids 0)))] (resB (bndT c (rdI p.kids 0))) (stoB (bndT c (rdI p.kids 0)))) (b0 : List Bool) (hq : bndT c (rdI p.kids 0) = some b0) (hb0 : b0.length = c.nodes.length + c.edges.length) : Snd P 37 [.d (.ag (encC c ++ [D.int c.nodes.length])), .d (.ag (encP p))] (resB (opS c p [b0])) (stoB (opS c p [b0])) := by
  obtain ⟨hn1, hn8, hk8⟩ := pat_rng hP
  have hE := goodE_of hP
  obtain ⟨n, hn⟩ : ∃ k, c.nodes.length = k := ⟨_, rfl⟩
  obtain ⟨k, hk⟩ : ∃ k, c.edges.length = k := ⟨_, rfl⟩
  rw [hn] at hn1 hn8
  rw [hk] at hk8
  obtain ⟨fb, hfb⟩ : ∃ fb, List.replicate (n + k) false = fb := ⟨_, rfl⟩
  have hfl : fb.length = n + k := by rw [← hfb]; simp
  have hwd : ((n:Int) + k).toNat = n + k := by omega
  have hw : IntKind.i64.wrap ((n:Int) + k) = (n:Int) + k := wrap_id (by omega) (by omega)
  have hw1 : 0 < n + k := by omega
  have hw2 : (n:Int) + k ≤ 140737488355328 := by omega
  have hw3 : (0:Int) ≤ (n:Int) + k := by omega
  have hb0n : b0.length = n + k := by rw [hb0, hn, hk]
  simp only [hq, resB, stoB, encP_cells, hn, hb0n] at IH
  refine snd_of [5300] Try.func37 rfl (by kernel_rfl) Try.ntmps37 (by simp) ?_
  unfold Try.f37
  simp only [List.cons_append, List.nil_append, List.length_cons, List.length_nil, Nat.reduceAdd, Nat.reduceSub, List.replicate]
  refine Run.seq ?_
  refine opsF oo23 fun K hK => ?_
  try simp
  repeat' first | ((refine evL_c ?_); simp [-List.map_set, hn, hk, hop, hkl, hw, hwd, hfl, hw1, hw2, hw3]) | (with_reducible refine And.intro ?_ ?_) | intro _ | (with_reducible assumption) | omega
  all_goals (refine Fin.go hK ?_; clear hK K)
  simp only [Then_normal]
  refine Run.seq ?_
  refine opsF oo24 fun K hK => ?_
  try simp
  repeat' first | ((refine evL_c ?_); simp [-List.map_set, hn, hk, hop, hkl, hw, hwd, hfl, hw1, hw2, hw3]) | (with_reducible refine And.intro ?_ ?_) | intro _ | (with_reducible assumption) | omega
  all_goals (refine Fin.go hK ?_; clear hK K)
  simp only [Then_normal]
  refine Run.seq ?_
  refine Run.seq ?_
  refine opsF oo25 fun K hK => ?_
  try simp
  repeat' first | ((refine evL_c ?_); simp [-List.map_set, hn, hk, hop, hkl, hw, hwd, hfl, hw1, hw2, hw3]) | (with_reducible refine And.intro ?_ ?_) | intro _ | (with_reducible assumption) | omega
  all_goals (refine Fin.go hK ?_; clear hK K)
  simp only [Then_normal]
  refine Run.seq ?_
  refine opsF oo26 fun K hK => ?_
  try simp
  repeat' first | ((first | refine evL_c ?_ | (refine evL_g rfl ?_; try simp only [gs_tt, gs_ff, gs_tf, gs_ft]) | refine evL_u rfl ?_ | (with_reducible refine gsplit (fun hg => ?_) (fun hg => ?_) <;> try simp at hg)) <;> try simp [-List.map_set, hn, hk, hop, hkl, hw, hwd, hfl, hw1, hw2, hw3]) | (with_reducible refine And.intro ?_ ?_) | intro _ | (with_reducible assumption) | omega
  all_goals (refine Fin.go hK ?_; clear hK K)
  all_goals
    simp only [Then_normal]
    refine Run.cond rfl (fun h33 => ?_) (fun h33 => ?_)
    · simp at h33
    · skip
      refine Run.skip ?_
      simp only [Then_normal]
      refine Run.cut [8, 34, 35, 36, 37, 38, 39, 40, 41, 42] [(8, .rs 4300 1 0 1)] [(300, .vals ((encC c ++ [D.int c.nodes.length]).map .d)), (400, .vals ((encP p).map .d)), (4200, .data 1 (fb.map encB)), (4300, .vals [.rs 4200 1 0 (n + k)])] ?_ ?_
      · refine opsF oo27 fun K hK => ?_
        try simp
        repeat' first | ((refine evL_c ?_); simp [-List.map_set, hn, hk, hop, hkl, hw, hwd, hfl, hw1, hw2, hw3]) | (with_reducible refine And.intro ?_ ?_) | intro _ | (with_reducible assumption) | omega
        all_goals (refine Fin.go hK ?_; clear hK K)
        first | (simp [-List.map_set, hn, hk, hop, hkl, hw, hwd, hfl, hw1, hw2, hw3, ← hfb]; done)
      · simp only [over, List.foldl, List.set]
        refine Run.seq ?_
        refine Run.seq ?_
        refine opsF oo28 fun K hK => ?_
        try simp
        repeat' first | ((refine evL_c ?_); simp [-List.map_set, hn, hk, hop, hkl, hw, hwd, hfl, hw1, hw2, hw3]) | (with_reducible refine And.intro ?_ ?_) | intro _ | (with_reducible assumption) | omega
        all_goals (refine Fin.go hK ?_; clear hK K)
        simp only [Then_normal]
        refine Run.block ?_
        refine Run.loopO [4, 8, 10, 11, 46, 47, 48, 49, 50, 51, 52, 53, 54, 55, 56, 57, 58, 59] (fun (x : Nat) => [(46, .int x), (8, match x with | 0 => .rs 4300 1 0 1 | _ => .rs 5900 1 0 2)]) (fun (x : Nat) => match x with | 0 => [(300, .vals ((encC c ++ [D.int c.nodes.length]).map .d)), (400, .vals ((encP p).map .d)), (4200, .data 1 (fb.map encB)), (4300, .vals [.rs 4200 1 0 (n + k)])] | _ => [(300, .vals ((encC c ++ [D.int c.nodes.length]).map .d)), (400, .vals ((encP p).map .d)), (4200, .data 1 (fb.map encB)), (5300, .data 1 (b0.map encB)), (5900, .vals [.rs 4200 1 0 (n + k), .rs 5300 1 0 (n + k)])]) (fun (x : Nat) => x = 0 ∨ x = 1) (fun (x : Nat) => 1 - x) 0 (by simp) (by simp [-List.map_set, hn, hk, hop, hkl, hw, hwd, hfl, hw1, hw2, hw3]) fun x hx => ?_
        rcases hx with rfl | rfl
        · simp only [over, List.foldl, List.set]
          refine Run.seq ?_
          refine opsF oo29 fun K hK => ?_
          try simp
          repeat' first | ((refine evL_c ?_); simp [-List.map_set, hn, hk, hop, hkl, hw, hwd, hfl, hw1, hw2, hw3]) | (with_reducible refine And.intro ?_ ?_) | intro _ | (with_reducible assumption) | omega
          all_goals (refine Fin.go hK ?_; clear hK K)
          simp only [Then_normal]
          refine Run.seq ?_
          refine Run.cond rfl (fun h47 => ?_) (fun h47 => ?_)
          · skip
            refine Run.skip ?_
            simp only [Then_normal]
            refine Run.seq ?_
            refine Run.block ?_
            refine Run.seq ?_
            refine opsF oo30 fun K hK => ?_
            try simp
            repeat' first | ((refine evL_c ?_); simp [-List.map_set, hn, hk, hop, hkl, hw, hwd, hfl, hw1, hw2, hw3]) | (with_reducible refine And.intro ?_ ?_) | intro _ | (with_reducible assumption) | omega
            all_goals (refine Fin.go hK ?_; clear hK K)
            simp only [Then_normal]
            refine Run.seq ?_
            refine opsF oo31 fun K hK => ?_
            try simp
            repeat' first | (refine ecall (by have h := IH; exact h) rfl ?_) | ((refine evL_c ?_); simp [-List.map_set, hn, hk, hop, hkl, hw, hwd, hfl, hw1, hw2, hw3]) | (with_reducible refine And.intro ?_ ?_) | intro _ | (with_reducible assumption) | omega
            all_goals (refine Fin.go hK ?_; clear hK K)
            simp only [Then_normal]
            refine Run.seq ?_
            refine Run.seq ?_
            refine opsF oo32 fun K hK => ?_
            try simp
            repeat' first | ((refine evL_c ?_); simp [-List.map_set, hn, hk, hop, hkl, hw, hwd, hfl, hw1, hw2, hw3]) | (with_reducible refine And.intro ?_ ?_) | intro _ | (with_reducible assumption) | omega
            all_goals (refine Fin.go hK ?_; clear hK K)
            simp only [Then_normal]
            refine Run.cond rfl (fun h54 => ?_) (fun h54 => ?_)
            · simp at h54
            · skip
              refine Run.skip ?_
              simp only [Then_normal]
              refine opsF oo33 fun K hK => ?_
              try simp
              repeat' first | ((refine evL_c ?_); simp [-List.map_set, hn, hk, hop, hkl, hw, hwd, hfl, hw1, hw2, hw3]) | (with_reducible refine And.intro ?_ ?_) | intro _ | (with_reducible assumption) | omega
              all_goals (refine Fin.go hK ?_; clear hK K)
              simp only [Blok_normal]
              simp only [Then_normal]
              refine opsF oo34 fun K hK => ?_
              try simp
              repeat' first | ((refine evL_c ?_); simp [-List.map_set, hn, hk, hop, hkl, hw, hwd, hfl, hw1, hw2, hw3]) | (with_reducible refine And.intro ?_ ?_) | intro _ | (with_reducible assumption) | omega
              all_goals (refine Fin.go hK ?_; clear hK K)
              refine ⟨1, .inr rfl, by omega, ?_⟩
              simp (disch := omega) [-List.map_set, hn, hk, hop, hkl, hw, hwd, hfl, hw1, hw2, hw3, hb0, wrap_id]
          · simp at h47
        · simp only [over, List.foldl, List.set]
          refine Run.seq ?_
          refine opsF oo29 fun K hK => ?_
          try simp
          repeat' first | ((refine evL_c ?_); simp [-List.map_set, hn, hk, hop, hkl, hw, hwd, hfl, hw1, hw2, hw3]) | (with_reducible refine And.intro ?_ ?_) | intro _ | (with_reducible assumption) | omega
          all_goals (refine Fin.go hK ?_; clear hK K)
          simp only [Then_normal]
          refine Run.seq ?_
          refine Run.cond rfl (fun h47 => ?_) (fun h47 => ?_)
          · simp at h47
          · skip
            refine Run.exit ?_
            simp (decide := true) only [Then_exit, Blok_exit, if_true, if_false]
            simp only [Then_normal]
            refine Run.seq ?_
            refine opsF oo35 fun K hK => ?_
            try simp
            repeat' first | ((refine evL_c ?_); simp [-List.map_set, hn, hk, hop, hkl, hw, hwd, hfl, hw1, hw2, hw3]) | (with_reducible refine And.intro ?_ ?_) | intro _ | (with_reducible assumption) | omega
            all_goals (refine Fin.go hK ?_; clear hK K)
            simp only [Then_normal]
            refine Run.seq ?_
            refine opsF oo36 fun K hK => ?_
            try simp
            repeat' first | ((refine evL_c ?_); simp [-List.map_set, hn, hk, hop, hkl, hw, hwd, hfl, hw1, hw2, hw3]) | (with_reducible refine And.intro ?_ ?_) | intro _ | (with_reducible assumption) | omega
            all_goals (refine Fin.go hK ?_; clear hK K)
            simp only [Then_normal]
            refine Run.seq ?_
            refine Run.seq ?_
            refine opsF oo37 fun K hK => ?_
            try simp
            repeat' first | ((refine evL_c ?_); simp [-List.map_set, hn, hk, hop, hkl, hw, hwd, hfl, hw1, hw2, hw3]) | (with_reducible refine And.intro ?_ ?_) | intro _ | (with_reducible assumption) | omega
            all_goals (refine Fin.go hK ?_; clear hK K)
            simp only [Then_normal]
            refine Run.block ?_
            refine Run.seq ?_
            refine opsF oo38 fun K hK => ?_
            try simp
            repeat' first | ((refine evL_c ?_); simp [-List.map_set, hn, hk, hop, hkl, hw, hwd, hfl, hw1, hw2, hw3]) | (with_reducible refine And.intro ?_ ?_) | intro _ | (with_reducible assumption) | omega
            all_goals (refine Fin.go hK ?_; clear hK K)
            simp only [Then_normal]
            refine Run.cond rfl (fun h68 => ?_) (fun h68 => ?_)
            · simp at h68
            · skip
              refine Run.seq ?_
              refine Run.seq ?_
              refine opsF oo39 fun K hK => ?_
              try simp
              repeat' first | ((refine evL_c ?_); simp [-List.map_set, hn, hk, hop, hkl, hw, hwd, hfl, hw1, hw2, hw3]) | (with_reducible refine And.intro ?_ ?_) | intro _ | (with_reducible assumption) | omega
              all_goals (refine Fin.go hK ?_; clear hK K)
              simp only [Then_normal]
              refine Run.cond rfl (fun h85 => ?_) (fun h85 => ?_)
              · simp at h85
              · skip
                refine opsF oo44 fun K hK => ?_
                try simp
                repeat' first | ((refine evL_c ?_); simp [-List.map_set, hn, hk, hop, hkl, hw, hwd, hfl, hw1, hw2, hw3]) | (with_reducible refine And.intro ?_ ?_) | intro _ | (with_reducible assumption) | omega
                all_goals (refine Fin.go hK ?_; clear hK K)
                simp only [Then_normal]
                refine Run.cond rfl (fun h85 => ?_) (fun h85 => ?_)
                · simp at h85
                · skip
                  refine Run.seq ?_
                  refine opsF oo45 fun K hK => ?_
                  try simp
                  repeat' first | ((refine evL_c ?_); simp [-List.map_set, hn, hk, hop, hkl, hw, hwd, hfl, hw1, hw2, hw3]) | (with_reducible refine And.intro ?_ ?_) | intro _ | (with_reducible assumption) | omega
                  all_goals (refine Fin.go hK ?_; clear hK K)
                  simp only [Then_normal]
                  refine Run.cond rfl (fun h92 => ?_) (fun h92 => ?_)
                  · simp at h92
                  · skip
                    refine Run.seq ?_
                    refine opsF oo46 fun K hK => ?_
                    try simp
                    repeat' first | ((refine evL_c ?_); simp [-List.map_set, hn, hk, hop, hkl, hw, hwd, hfl, hw1, hw2, hw3]) | (with_reducible refine And.intro ?_ ?_) | intro _ | (with_reducible assumption) | omega
                    all_goals (refine Fin.go hK ?_; clear hK K)
                    simp only [Then_normal]
                    refine Run.cond rfl (fun h131 => ?_) (fun h131 => ?_)
                    · skip
                      refine opsT [⟨Op.load 86 (Operand.tmp 2), some 133, none⟩, ⟨Op.load 27 (Operand.tmp 3), some 134, none⟩, ⟨Op.load 60 (Operand.tmp 12), some 135, none⟩, ⟨Op.call { callee := Callee.value (Operand.func 74), args := #[Operand.tmp 133, Operand.tmp 134, Operand.tmp 135], argTypes := #[86, 27, 60] }, some 136, none⟩, ⟨Op.assign (Operand.tmp 136), some 13, none⟩] fun K hK => ?_
                      try simp
                      repeat' first | (refine ecallW [5300] (by have h := meet_ok c p b0 hb0 hE; simp only [encP_cells, hop, hb0n, hn] at h; exact h) (by simp) (by simp) (by simp) ?_) | ((refine evL_c ?_); simp [-List.map_set, hn, hk, hop, hkl, hw, hwd, hfl, hw1, hw2, hw3]) | (with_reducible refine And.intro ?_ ?_) | intro _ | (with_reducible assumption) | omega
                      all_goals (refine Fin.go hK ?_; clear hK K)
                      simp only [Blok_normal]
                      simp only [Then_normal]
                      refine Run.seq ?_
                      refine Run.seq ?_
                      refine opsF oo41 fun K hK => ?_
                      try simp
                      repeat' first | ((refine evL_c ?_); simp [-List.map_set, hn, hk, hop, hkl, hw, hwd, hfl, hw1, hw2, hw3]) | (with_reducible refine And.intro ?_ ?_) | intro _ | (with_reducible assumption) | omega
                      all_goals (refine Fin.go hK ?_; clear hK K)
                      simp only [Then_normal]
                      refine Run.cond rfl (fun h145 => ?_) (fun h145 => ?_)
                      · try simp at h145
                        refine Run.seq ?_
                        refine opsF oo42 fun K hK => ?_
                        try simp
                        repeat' first | ((refine evL_c ?_); simp [-List.map_set, hn, hk, hop, hkl, hw, hwd, hfl, hw1, hw2, hw3]) | (with_reducible refine And.intro ?_ ?_) | intro _ | (with_reducible assumption) | omega
                        all_goals (refine Fin.go hK ?_; clear hK K)
                        simp only [Then_normal]
                        refine Run.drop [] (by simp) ?_
                        refine Run.ret ?_
                        try simp only [Then_ret, Blok_ret]
                        first
                          | (have e : opS c p [b0] = none := by simp [opS, hop, h145]
                             rw [e]
                             simp [resB, stoB, hn]; done)
                          | (have e : opS c p [b0] = some (meetR c p b0) := by simp [opS, hop, h145]
                             rw [e]
                             simp [-List.map_set, resB, stoB, hn, hb0n, meetR_len]; done)
                      · try simp at h145
                        refine Run.skip ?_
                        simp only [Then_normal]
                        refine Run.seq ?_
                        refine opsF oo43 fun K hK => ?_
                        try simp
                        repeat' first | ((refine evL_c ?_); simp [-List.map_set, hn, hk, hop, hkl, hw, hwd, hfl, hw1, hw2, hw3]) | (with_reducible refine And.intro ?_ ?_) | intro _ | (with_reducible assumption) | omega
                        all_goals (refine Fin.go hK ?_; clear hK K)
                        simp only [Then_normal]
                        refine Run.ret ?_
                        try simp only [Then_ret, Blok_ret]
                        first
                          | (have e : opS c p [b0] = none := by simp [opS, hop, h145]
                             rw [e]
                             simp [resB, stoB, hn]; done)
                          | (have e : opS c p [b0] = some (meetR c p b0) := by simp [opS, hop, h145]
                             rw [e]
                             simp [-List.map_set, resB, stoB, hn, hb0n, meetR_len]; done)
                    · simp at h131

set_option maxHeartbeats 4000000 in
theorem bound6_ok (c : CoreT) (p : PlanT) (hP : patS c.nodes c.edges = true) (hop : p.op = 6) (hkl : p.kids.length = 1) (IH : Snd P 37 [.d (.ag (encC c ++ [D.int c.nodes.length])), .d (.ag (encP (rdI p.kids 0)))] (resB (bndT c (rdI p.kids 0))) (stoB (bndT c (rdI p.kids 0)))) (b0 : List Bool) (hq : bndT c (rdI p.kids 0) = some b0) (hb0 : b0.length = c.nodes.length + c.edges.length) (hT : ∀ t ∈ p.terms, cntT t ≤ 1000000) : Snd P 37 [.d (.ag (encC c ++ [D.int c.nodes.length])), .d (.ag (encP p))] (resB (opS c p [b0])) (stoB (opS c p [b0])) := by
  obtain ⟨hn1, hn8, hk8⟩ := pat_rng hP
  have hE := goodE_of hP
  obtain ⟨n, hn⟩ : ∃ k, c.nodes.length = k := ⟨_, rfl⟩
  obtain ⟨k, hk⟩ : ∃ k, c.edges.length = k := ⟨_, rfl⟩
  rw [hn] at hn1 hn8
  rw [hk] at hk8
  obtain ⟨fb, hfb⟩ : ∃ fb, List.replicate (n + k) false = fb := ⟨_, rfl⟩
  have hfl : fb.length = n + k := by rw [← hfb]; simp
  have hwd : ((n:Int) + k).toNat = n + k := by omega
  have hw : IntKind.i64.wrap ((n:Int) + k) = (n:Int) + k := wrap_id (by omega) (by omega)
  have hw1 : 0 < n + k := by omega
  have hw2 : (n:Int) + k ≤ 140737488355328 := by omega
  have hw3 : (0:Int) ≤ (n:Int) + k := by omega
  have hb0n : b0.length = n + k := by rw [hb0, hn, hk]
  simp only [hq, resB, stoB, encP_cells, hn, hb0n] at IH
  refine snd_of [5300] Try.func37 rfl (by kernel_rfl) Try.ntmps37 (by simp) ?_
  unfold Try.f37
  simp only [List.cons_append, List.nil_append, List.length_cons, List.length_nil, Nat.reduceAdd, Nat.reduceSub, List.replicate]
  refine Run.seq ?_
  refine opsF oo23 fun K hK => ?_
  try simp
  repeat' first | ((refine evL_c ?_); simp [-List.map_set, hn, hk, hop, hkl, hw, hwd, hfl, hw1, hw2, hw3]) | (with_reducible refine And.intro ?_ ?_) | intro _ | (with_reducible assumption) | omega
  all_goals (refine Fin.go hK ?_; clear hK K)
  simp only [Then_normal]
  refine Run.seq ?_
  refine opsF oo24 fun K hK => ?_
  try simp
  repeat' first | ((refine evL_c ?_); simp [-List.map_set, hn, hk, hop, hkl, hw, hwd, hfl, hw1, hw2, hw3]) | (with_reducible refine And.intro ?_ ?_) | intro _ | (with_reducible assumption) | omega
  all_goals (refine Fin.go hK ?_; clear hK K)
  simp only [Then_normal]
  refine Run.seq ?_
  refine Run.seq ?_
  refine opsF oo25 fun K hK => ?_
  try simp
  repeat' first | ((refine evL_c ?_); simp [-List.map_set, hn, hk, hop, hkl, hw, hwd, hfl, hw1, hw2, hw3]) | (with_reducible refine And.intro ?_ ?_) | intro _ | (with_reducible assumption) | omega
  all_goals (refine Fin.go hK ?_; clear hK K)
  simp only [Then_normal]
  refine Run.seq ?_
  refine opsF oo26 fun K hK => ?_
  try simp
  repeat' first | ((first | refine evL_c ?_ | (refine evL_g rfl ?_; try simp only [gs_tt, gs_ff, gs_tf, gs_ft]) | refine evL_u rfl ?_ | (with_reducible refine gsplit (fun hg => ?_) (fun hg => ?_) <;> try simp at hg)) <;> try simp [-List.map_set, hn, hk, hop, hkl, hw, hwd, hfl, hw1, hw2, hw3]) | (with_reducible refine And.intro ?_ ?_) | intro _ | (with_reducible assumption) | omega
  all_goals (refine Fin.go hK ?_; clear hK K)
  all_goals
    simp only [Then_normal]
    refine Run.cond rfl (fun h33 => ?_) (fun h33 => ?_)
    · simp at h33
    · skip
      refine Run.skip ?_
      simp only [Then_normal]
      refine Run.cut [8, 34, 35, 36, 37, 38, 39, 40, 41, 42] [(8, .rs 4300 1 0 1)] [(300, .vals ((encC c ++ [D.int c.nodes.length]).map .d)), (400, .vals ((encP p).map .d)), (4200, .data 1 (fb.map encB)), (4300, .vals [.rs 4200 1 0 (n + k)])] ?_ ?_
      · refine opsF oo27 fun K hK => ?_
        try simp
        repeat' first | ((refine evL_c ?_); simp [-List.map_set, hn, hk, hop, hkl, hw, hwd, hfl, hw1, hw2, hw3]) | (with_reducible refine And.intro ?_ ?_) | intro _ | (with_reducible assumption) | omega
        all_goals (refine Fin.go hK ?_; clear hK K)
        first | (simp [-List.map_set, hn, hk, hop, hkl, hw, hwd, hfl, hw1, hw2, hw3, ← hfb]; done)
      · simp only [over, List.foldl, List.set]
        refine Run.seq ?_
        refine Run.seq ?_
        refine opsF oo28 fun K hK => ?_
        try simp
        repeat' first | ((refine evL_c ?_); simp [-List.map_set, hn, hk, hop, hkl, hw, hwd, hfl, hw1, hw2, hw3]) | (with_reducible refine And.intro ?_ ?_) | intro _ | (with_reducible assumption) | omega
        all_goals (refine Fin.go hK ?_; clear hK K)
        simp only [Then_normal]
        refine Run.block ?_
        refine Run.loopO [4, 8, 10, 11, 46, 47, 48, 49, 50, 51, 52, 53, 54, 55, 56, 57, 58, 59] (fun (x : Nat) => [(46, .int x), (8, match x with | 0 => .rs 4300 1 0 1 | _ => .rs 5900 1 0 2)]) (fun (x : Nat) => match x with | 0 => [(300, .vals ((encC c ++ [D.int c.nodes.length]).map .d)), (400, .vals ((encP p).map .d)), (4200, .data 1 (fb.map encB)), (4300, .vals [.rs 4200 1 0 (n + k)])] | _ => [(300, .vals ((encC c ++ [D.int c.nodes.length]).map .d)), (400, .vals ((encP p).map .d)), (4200, .data 1 (fb.map encB)), (5300, .data 1 (b0.map encB)), (5900, .vals [.rs 4200 1 0 (n + k), .rs 5300 1 0 (n + k)])]) (fun (x : Nat) => x = 0 ∨ x = 1) (fun (x : Nat) => 1 - x) 0 (by simp) (by simp [-List.map_set, hn, hk, hop, hkl, hw, hwd, hfl, hw1, hw2, hw3]) fun x hx => ?_
        rcases hx with rfl | rfl
        · simp only [over, List.foldl, List.set]
          refine Run.seq ?_
          refine opsF oo29 fun K hK => ?_
          try simp
          repeat' first | ((refine evL_c ?_); simp [-List.map_set, hn, hk, hop, hkl, hw, hwd, hfl, hw1, hw2, hw3]) | (with_reducible refine And.intro ?_ ?_) | intro _ | (with_reducible assumption) | omega
          all_goals (refine Fin.go hK ?_; clear hK K)
          simp only [Then_normal]
          refine Run.seq ?_
          refine Run.cond rfl (fun h47 => ?_) (fun h47 => ?_)
          · skip
            refine Run.skip ?_
            simp only [Then_normal]
            refine Run.seq ?_
            refine Run.block ?_
            refine Run.seq ?_
            refine opsF oo30 fun K hK => ?_
            try simp
            repeat' first | ((refine evL_c ?_); simp [-List.map_set, hn, hk, hop, hkl, hw, hwd, hfl, hw1, hw2, hw3]) | (with_reducible refine And.intro ?_ ?_) | intro _ | (with_reducible assumption) | omega
            all_goals (refine Fin.go hK ?_; clear hK K)
            simp only [Then_normal]
            refine Run.seq ?_
            refine opsF oo31 fun K hK => ?_
            try simp
            repeat' first | (refine ecall (by have h := IH; exact h) rfl ?_) | ((refine evL_c ?_); simp [-List.map_set, hn, hk, hop, hkl, hw, hwd, hfl, hw1, hw2, hw3]) | (with_reducible refine And.intro ?_ ?_) | intro _ | (with_reducible assumption) | omega
            all_goals (refine Fin.go hK ?_; clear hK K)
            simp only [Then_normal]
            refine Run.seq ?_
            refine Run.seq ?_
            refine opsF oo32 fun K hK => ?_
            try simp
            repeat' first | ((refine evL_c ?_); simp [-List.map_set, hn, hk, hop, hkl, hw, hwd, hfl, hw1, hw2, hw3]) | (with_reducible refine And.intro ?_ ?_) | intro _ | (with_reducible assumption) | omega
            all_goals (refine Fin.go hK ?_; clear hK K)
            simp only [Then_normal]
            refine Run.cond rfl (fun h54 => ?_) (fun h54 => ?_)
            · simp at h54
            · skip
              refine Run.skip ?_
              simp only [Then_normal]
              refine opsF oo33 fun K hK => ?_
              try simp
              repeat' first | ((refine evL_c ?_); simp [-List.map_set, hn, hk, hop, hkl, hw, hwd, hfl, hw1, hw2, hw3]) | (with_reducible refine And.intro ?_ ?_) | intro _ | (with_reducible assumption) | omega
              all_goals (refine Fin.go hK ?_; clear hK K)
              simp only [Blok_normal]
              simp only [Then_normal]
              refine opsF oo34 fun K hK => ?_
              try simp
              repeat' first | ((refine evL_c ?_); simp [-List.map_set, hn, hk, hop, hkl, hw, hwd, hfl, hw1, hw2, hw3]) | (with_reducible refine And.intro ?_ ?_) | intro _ | (with_reducible assumption) | omega
              all_goals (refine Fin.go hK ?_; clear hK K)
              refine ⟨1, .inr rfl, by omega, ?_⟩
              simp (disch := omega) [-List.map_set, hn, hk, hop, hkl, hw, hwd, hfl, hw1, hw2, hw3, hb0, wrap_id]
          · simp at h47
        · simp only [over, List.foldl, List.set]
          refine Run.seq ?_
          refine opsF oo29 fun K hK => ?_
          try simp
          repeat' first | ((refine evL_c ?_); simp [-List.map_set, hn, hk, hop, hkl, hw, hwd, hfl, hw1, hw2, hw3]) | (with_reducible refine And.intro ?_ ?_) | intro _ | (with_reducible assumption) | omega
          all_goals (refine Fin.go hK ?_; clear hK K)
          simp only [Then_normal]
          refine Run.seq ?_
          refine Run.cond rfl (fun h47 => ?_) (fun h47 => ?_)
          · simp at h47
          · skip
            refine Run.exit ?_
            simp (decide := true) only [Then_exit, Blok_exit, if_true, if_false]
            simp only [Then_normal]
            refine Run.seq ?_
            refine opsF oo35 fun K hK => ?_
            try simp
            repeat' first | ((refine evL_c ?_); simp [-List.map_set, hn, hk, hop, hkl, hw, hwd, hfl, hw1, hw2, hw3]) | (with_reducible refine And.intro ?_ ?_) | intro _ | (with_reducible assumption) | omega
            all_goals (refine Fin.go hK ?_; clear hK K)
            simp only [Then_normal]
            refine Run.seq ?_
            refine opsF oo36 fun K hK => ?_
            try simp
            repeat' first | ((refine evL_c ?_); simp [-List.map_set, hn, hk, hop, hkl, hw, hwd, hfl, hw1, hw2, hw3]) | (with_reducible refine And.intro ?_ ?_) | intro _ | (with_reducible assumption) | omega
            all_goals (refine Fin.go hK ?_; clear hK K)
            simp only [Then_normal]
            refine Run.seq ?_
            refine Run.seq ?_
            refine opsF oo37 fun K hK => ?_
            try simp
            repeat' first | ((refine evL_c ?_); simp [-List.map_set, hn, hk, hop, hkl, hw, hwd, hfl, hw1, hw2, hw3]) | (with_reducible refine And.intro ?_ ?_) | intro _ | (with_reducible assumption) | omega
            all_goals (refine Fin.go hK ?_; clear hK K)
            simp only [Then_normal]
            refine Run.block ?_
            refine Run.seq ?_
            refine opsF oo38 fun K hK => ?_
            try simp
            repeat' first | ((refine evL_c ?_); simp [-List.map_set, hn, hk, hop, hkl, hw, hwd, hfl, hw1, hw2, hw3]) | (with_reducible refine And.intro ?_ ?_) | intro _ | (with_reducible assumption) | omega
            all_goals (refine Fin.go hK ?_; clear hK K)
            simp only [Then_normal]
            refine Run.cond rfl (fun h68 => ?_) (fun h68 => ?_)
            · simp at h68
            · skip
              refine Run.seq ?_
              refine Run.seq ?_
              refine opsF oo39 fun K hK => ?_
              try simp
              repeat' first | ((refine evL_c ?_); simp [-List.map_set, hn, hk, hop, hkl, hw, hwd, hfl, hw1, hw2, hw3]) | (with_reducible refine And.intro ?_ ?_) | intro _ | (with_reducible assumption) | omega
              all_goals (refine Fin.go hK ?_; clear hK K)
              simp only [Then_normal]
              refine Run.cond rfl (fun h85 => ?_) (fun h85 => ?_)
              · simp at h85
              · skip
                refine opsF oo44 fun K hK => ?_
                try simp
                repeat' first | ((refine evL_c ?_); simp [-List.map_set, hn, hk, hop, hkl, hw, hwd, hfl, hw1, hw2, hw3]) | (with_reducible refine And.intro ?_ ?_) | intro _ | (with_reducible assumption) | omega
                all_goals (refine Fin.go hK ?_; clear hK K)
                simp only [Then_normal]
                refine Run.cond rfl (fun h85 => ?_) (fun h85 => ?_)
                · simp at h85
                · skip
                  refine Run.seq ?_
                  refine opsF oo45 fun K hK => ?_
                  try simp
                  repeat' first | ((refine evL_c ?_); simp [-List.map_set, hn, hk, hop, hkl, hw, hwd, hfl, hw1, hw2, hw3]) | (with_reducible refine And.intro ?_ ?_) | intro _ | (with_reducible assumption) | omega
                  all_goals (refine Fin.go hK ?_; clear hK K)
                  simp only [Then_normal]
                  refine Run.cond rfl (fun h92 => ?_) (fun h92 => ?_)
                  · simp at h92
                  · skip
                    refine Run.seq ?_
                    refine opsF oo46 fun K hK => ?_
                    try simp
                    repeat' first | ((refine evL_c ?_); simp [-List.map_set, hn, hk, hop, hkl, hw, hwd, hfl, hw1, hw2, hw3]) | (with_reducible refine And.intro ?_ ?_) | intro _ | (with_reducible assumption) | omega
                    all_goals (refine Fin.go hK ?_; clear hK K)
                    simp only [Then_normal]
                    refine Run.cond rfl (fun h131 => ?_) (fun h131 => ?_)
                    · simp at h131
                    · skip
                      refine Run.seq ?_
                      refine opsF [⟨Op.binOp BinOp.eql 22 (Operand.tmp 67) (Operand.const (Value.int IntKind.i64 6)) 22, some 138, none⟩, ⟨Op.assign (Operand.tmp 138), some 137, none⟩] fun K hK => ?_
                      try simp
                      repeat' first | ((refine evL_c ?_); simp [-List.map_set, hn, hk, hop, hkl, hw, hwd, hfl, hw1, hw2, hw3]) | (with_reducible refine And.intro ?_ ?_) | intro _ | (with_reducible assumption) | omega
                      all_goals (refine Fin.go hK ?_; clear hK K)
                      simp only [Then_normal]
                      refine Run.cond rfl (fun h137 => ?_) (fun h137 => ?_)
                      · skip
                        refine opsT [⟨Op.fieldAddr 27 (Operand.tmp 3) 5, some 139, none⟩, ⟨Op.load 25 (Operand.tmp 139), some 140, none⟩, ⟨Op.makeFunc (Fn.func 76) #[] #[Operand.tmp 12], some 141, none⟩, ⟨Op.call { callee := Callee.value (Operand.func 75), args := #[Operand.tmp 140, Operand.tmp 141], argTypes := #[25, 96] }, some 142, none⟩, ⟨Op.unOp UnOp.not 4 (Operand.tmp 142), some 143, none⟩, ⟨Op.assign (Operand.tmp 143), some 13, none⟩] fun K hK => ?_
                        try simp
                        repeat' first | (refine ecallW [1300, 5300] (by have h := anyT_ok false p.terms 76 b0 (fun t => !bindsS b0 t) (fun t ht => bindsN_ok b0 t (hT t ht)); simp only [hb0n] at h; exact h) (by simp) (by simp) (by simp) ?_) | ((refine evL_c ?_); simp [-List.map_set, hn, hk, hop, hkl, hw, hwd, hfl, hw1, hw2, hw3]) | (with_reducible refine And.intro ?_ ?_) | intro _ | (with_reducible assumption) | omega
                        all_goals (refine Fin.go hK ?_; clear hK K)
                        simp only [Blok_normal]
                        simp only [Then_normal]
                        refine Run.seq ?_
                        refine Run.seq ?_
                        refine opsF oo41 fun K hK => ?_
                        try simp
                        repeat' first | ((refine evL_c ?_); simp [-List.map_set, hn, hk, hop, hkl, hw, hwd, hfl, hw1, hw2, hw3]) | (with_reducible refine And.intro ?_ ?_) | intro _ | (with_reducible assumption) | omega
                        all_goals (refine Fin.go hK ?_; clear hK K)
                        simp only [Then_normal]
                        refine Run.cond rfl (fun h145 => ?_) (fun h145 => ?_)
                        · try simp at h145
                          refine Run.seq ?_
                          refine opsF oo42 fun K hK => ?_
                          try simp
                          repeat' first | ((refine evL_c ?_); simp [-List.map_set, hn, hk, hop, hkl, hw, hwd, hfl, hw1, hw2, hw3]) | (with_reducible refine And.intro ?_ ?_) | intro _ | (with_reducible assumption) | omega
                          all_goals (refine Fin.go hK ?_; clear hK K)
                          simp only [Then_normal]
                          refine Run.drop [] (by simp) ?_
                          refine Run.ret ?_
                          try simp only [Then_ret, Blok_ret]
                          first
                            | (have e : opS c p [b0] = none := by simp [opS, hop]; simpa using h145
                               rw [e]
                               simp [resB, stoB, hn]; done)
                            | (have e : opS c p [b0] = some b0 := by simp [opS, hop]; simpa using h145
                               rw [e]
                               simp [-List.map_set, resB, stoB, hn, hb0n]; done)
                        · try simp at h145
                          refine Run.skip ?_
                          simp only [Then_normal]
                          refine Run.seq ?_
                          refine opsF oo43 fun K hK => ?_
                          try simp
                          repeat' first | ((refine evL_c ?_); simp [-List.map_set, hn, hk, hop, hkl, hw, hwd, hfl, hw1, hw2, hw3]) | (with_reducible refine And.intro ?_ ?_) | intro _ | (with_reducible assumption) | omega
                          all_goals (refine Fin.go hK ?_; clear hK K)
                          simp only [Then_normal]
                          refine Run.ret ?_
                          try simp only [Then_ret, Blok_ret]
                          first
                            | (have e : opS c p [b0] = none := by simp [opS, hop]; simpa using h145
                               rw [e]
                               simp [resB, stoB, hn]; done)
                            | (have e : opS c p [b0] = some b0 := by simp [opS, hop]; simpa using h145
                               rw [e]
                               simp [-List.map_set, resB, stoB, hn, hb0n]; done)
                      · simp at h137


end Go.Proofs.Ytihbejpkfifplaa.Z
end
