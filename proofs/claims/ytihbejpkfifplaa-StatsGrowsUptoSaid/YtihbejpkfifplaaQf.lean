/- The law StatsGrows, walked. -/
import Derived.Test.YtihbejpkfifplaaQe
set_option linter.unusedVariables false
set_option linter.unusedSimpArgs false
set_option maxRecDepth 100000
namespace Go.Proofs.Ytihbejpkfifplaa.Z
open Go Go.Fw
def encU (n : Int) : List D := [.lit (.int .u32 n)]
attribute [simp] encU
theorem u32_ok {mo : List Int} (h : (D.sl false (mo.map encU)).ok) : ∀ x ∈ mo, 0 ≤ x ∧ x ≤ 4294967295 := by
  simp only [D.ok] at h
  intro x hx
  have := (okR_map encU mo).1 h.2 x hx
  simp only [encU, D.okL, ok_int] at this
  have h1 := this.1
  simp [IntKind.min, IntKind.max, IntKind.signed, IntKind.bits] at h1
  omega
theorem edges_lo {s : StatsT} (h : (D.ag (encS s)).ok) : s.edges.length ≤ 9223372036854775807 ∧ ∀ x ∈ s.edges, -9223372036854775808 ≤ x := by
  simp only [encS, D.ok, D.okL, List.length_map] at h
  refine ⟨h.2.1.1, fun x hx => ?_⟩
  have := (okR_map encI s.edges).1 h.2.1.2 x hx
  simp only [encI, D.okL, ok_i64] at this
  exact this.1.1
set_option maxHeartbeats 4000000 in
theorem grows_ok (p : PlanT) (c : CoreT) (s : StatsT) (mo : List Int) (hp : partsP p ≤ 2000000) (hs : s.edges.length ≤ 2000000) : Snd P 7 [.d (.ag (encP p)), .d (.ag (encC c)), .d (.ag (encS s)), .d (.sl false (mo.map encU))] (.bool true) [] := by
  refine Snd.ok 0 rfl (by kernel_rfl) fun hok => ?_
  have hkm := (encP_ok hok).1
  clear hok
  refine Snd.ok 2 rfl (by kernel_rfl) fun hok => ?_
  have hlo := (edges_lo hok).2
  clear hok
  refine Snd.ok 3 rfl (by kernel_rfl) fun hok => ?_
  have hmo := u32_ok hok
  clear hok
  have hA := parts_ok p hp 400 (by omega) (by omega)
  obtain ⟨pa, hpa⟩ : ∃ x, partsR p 400 = x := ⟨_, rfl⟩
  obtain ⟨m, hm⟩ : ∃ x, s.edges.length = x := ⟨_, rfl⟩
  obtain ⟨k, hk⟩ : ∃ x, mo.length = x := ⟨_, rfl⟩
  obtain ⟨kl, hkl⟩ : ∃ x, p.kids.length = x := ⟨_, rfl⟩
  rw [hpa, encP_cells] at hA
  rw [hm] at hs
  rw [hkl] at hkm
  have hmm : (m : Int) * 8 ≤ 140737488355328 := by omega
  have hmn : m * 8 ≤ 140737488355328 := by omega
  refine snd_of [] Try.func7 rfl (by kernel_rfl) Try.ntmps7 (by simp) ?_
  unfold Try.f7
  simp only [List.cons_append, List.nil_append, List.length_cons, List.length_nil, Nat.reduceAdd, Nat.reduceSub, List.replicate]
  refine Run.seq ?_
  refine Run.opsM false [⟨Op.box 27 (Operand.tmp 0), some 4, none⟩, ⟨Op.box 33 (Operand.tmp 1), some 5, none⟩, ⟨Op.box 53 (Operand.tmp 2), some 6, none⟩, ⟨Op.assign (Operand.const (Value.bool false)), some 8, none⟩] mixed (by decide) rfl fun K hK => ?_
  try simp
  repeat' first | ((refine evL_c ?_); simp [-List.map_set, hm, hk, hkl, hmm, hmn]) | (with_reducible refine And.intro ?_ ?_) | intro _ | (with_reducible assumption) | omega
  all_goals (refine Fin.go hK ?_; clear hK K)
  simp only [Then_normal]
  refine Run.seq ?_
  refine Run.opsM false [⟨Op.call { callee := Callee.value (Operand.func 14), args := #[], argTypes := #[] }, some 15, none⟩, ⟨Op.assign (Operand.tmp 15), some 9, none⟩] mixed (by decide) rfl fun K hK => ?_
  try simp
  repeat' first | (refine ecallD head15_ok ?_) | ((refine evL_c ?_); simp [-List.map_set, hm, hk, hkl, hmm, hmn]) | (with_reducible refine And.intro ?_ ?_) | intro _ | (with_reducible assumption) | omega
  all_goals (refine Fin.go hK ?_; clear hK K)
  simp only [Then_normal]
  refine Run.seq ?_
  refine Run.seq ?_
  refine Run.opsM false [⟨Op.load 27 (Operand.tmp 4), some 16, none⟩, ⟨Op.call { callee := Callee.value (Operand.func 11), args := #[Operand.tmp 16, Operand.const (Value.int IntKind.i64 400)], argTypes := #[27, 3] }, some 17, none⟩, ⟨Op.binOp BinOp.gtr 3 (Operand.tmp 17) (Operand.const (Value.int IntKind.i64 400)) 3, some 18, none⟩] mixed (by decide) rfl fun K hK => ?_
  try simp
  repeat' first | (refine ecallD (by exact hA) ?_) | ((refine evL_c ?_); simp [-List.map_set, hm, hk, hkl, hmm, hmn]) | (with_reducible refine And.intro ?_ ?_) | intro _ | (with_reducible assumption) | omega
  all_goals (refine Fin.go hK ?_; clear hK K)
  simp only [Then_normal]
  refine Run.cond rfl (fun h18 => ?_) (fun h18 => ?_)
  · try simp at h18
    refine Run.seq ?_
    refine Run.opsM false [⟨Op.move (Operand.tmp 9), some 19, none⟩, ⟨Op.assign (Operand.tmp 19), some 8, none⟩] mixed (by decide) rfl fun K hK => ?_
    try simp
    repeat' first | ((refine evL_c ?_); simp [-List.map_set, hm, hk, hkl, hmm, hmn]) | (with_reducible refine And.intro ?_ ?_) | intro _ | (with_reducible assumption) | omega
    all_goals (refine Fin.go hK ?_; clear hK K)
    simp only [Then_normal]
    refine Run.ret ?_
    try simp only [Then_ret, Blok_ret]
    simp
  · try simp at h18
    have e1 := partsR_all p 400 hp (by omega)
    have hf : partsP p ≤ 1000000 := by omega
    refine Run.skip ?_
    simp only [Then_normal]
    refine Run.seq ?_
    refine Run.opsM false [⟨Op.load 53 (Operand.tmp 6), some 20, none⟩, ⟨Op.alloc 53, some 10, none⟩, ⟨Op.store 53 (Operand.tmp 10) (Operand.tmp 20), none, none⟩] mixed (by decide) rfl fun K hK => ?_
    try simp
    repeat' first | ((refine evL_c ?_); simp [-List.map_set, hm, hk, hkl, hmm, hmn]) | (with_reducible refine And.intro ?_ ?_) | intro _ | (with_reducible assumption) | omega
    all_goals (refine Fin.go hK ?_; clear hK K)
    simp only [Then_normal]
    refine Run.cut [21, 22, 23, 24, 25] [] [(500, .vals ((encP p).map .d)), (600, .vals ((encC c).map .d)), (700, .vals ((encS s).map .d)), (1100, .vals [.d (.sl false (s.nodes.map encI)), .rs 2500 1 0 m]), (2500, .data 1 (s.edges.map encI))] ?_ ?_
    · refine Run.opsM false [⟨Op.buildSlice 51 0 #[], some 21, none⟩, ⟨Op.fieldAddr 53 (Operand.tmp 6) 1, some 22, none⟩, ⟨Op.load 51 (Operand.tmp 22), some 23, none⟩, ⟨Op.call { callee := Callee.builtin Builtin.append, args := #[Operand.tmp 21, Operand.tmp 23], argTypes := #[51, 51] }, some 24, none⟩, ⟨Op.fieldAddr 53 (Operand.tmp 10) 1, some 25, none⟩, ⟨Op.store 51 (Operand.tmp 25) (Operand.tmp 24), none, none⟩] mixed (by decide) rfl fun K hK => ?_
      try simp
      repeat' first | ((refine evL_c ?_); simp [-List.map_set, hm, hk, hkl, hmm, hmn]) | (with_reducible refine And.intro ?_ ?_) | intro _ | (with_reducible assumption) | omega
      all_goals (refine Fin.go hK ?_; clear hK K)
      (try simp [hm]) <;> (first | omega | (simp; done) | (rw [Bool.eq_iff_iff]; simp; omega))
    · simp only [over, List.foldl, List.set]
      refine Run.seq ?_
      refine Run.seq ?_
      refine Run.opsM false [⟨Op.assign (Operand.const (Value.int IntKind.i64 0)), some 11, none⟩] mixed (by decide) rfl fun K hK => ?_
      try simp
      repeat' first | ((refine evL_c ?_); simp [-List.map_set, hm, hk, hkl, hmm, hmn]) | (with_reducible refine And.intro ?_ ?_) | intro _ | (with_reducible assumption) | omega
      all_goals (refine Fin.go hK ?_; clear hK K)
      simp only [Then_normal]
      refine Run.block ?_
      refine Run.loopO [11, 26, 27, 28, 29, 30, 31, 32, 33, 34, 35, 36, 37, 38, 39, 40, 41, 42, 43, 44, 45, 46, 47, 48, 49, 50, 51, 52, 53, 54, 55, 56, 57, 58, 59] (fun (i : Nat) => [(11, .int i)]) (fun (i : Nat) => [(500, .vals ((encP p).map .d)), (600, .vals ((encC c).map .d)), (700, .vals ((encS s).map .d)), (1100, .vals [.d (.sl false (s.nodes.map encI)), .rs 2500 1 0 m]), (2500, .data 1 ((growN s.edges mo i).map encI))]) (fun (i : Nat) => i ≤ m ∧ i ≤ k) (fun (i : Nat) => m - i) 0 (by omega) (by simp [growN]) fun i hi => ?_
      simp only [over, List.foldl, List.set]
      have hgl := growN_len s.edges mo i
      have hgle := growN_le (l := s.edges) (mo := mo) (fun x hx => (hmo x hx).1) i (by omega)
      have hgs : growN s.edges mo (i + 1) = if rdI (growN s.edges mo i) i < 4611686018427387904 then (growN s.edges mo i).set i (rdI (growN s.edges mo i) i + rdI mo i) else growN s.edges mo i := rfl
      obtain ⟨g, hgq⟩ : ∃ x, growN s.edges mo i = x := ⟨_, rfl⟩
      rw [hgq] at hgl hgle hgs
      rw [hm] at hgl
      refine Run.seq ?_
      refine Run.cut [26, 27, 28, 29, 30, 31, 32, 33, 34, 35, 36] [(36, .bool (decide (i < m ∧ i < k)))] [(500, .vals ((encP p).map .d)), (600, .vals ((encC c).map .d)), (700, .vals ((encS s).map .d)), (1100, .vals [.d (.sl false (s.nodes.map encI)), .rs 2500 1 0 m]), (2500, .data 1 (g.map encI))] ?_ ?_
      · refine Run.opsM false [⟨Op.move (Operand.tmp 11), some 26, none⟩, ⟨Op.fieldAddr 53 (Operand.tmp 10) 1, some 27, none⟩, ⟨Op.load 51 (Operand.tmp 27), some 28, none⟩, ⟨Op.call { callee := Callee.builtin Builtin.len, args := #[Operand.tmp 28], argTypes := #[51] }, some 29, none⟩, ⟨Op.binOp BinOp.lss 3 (Operand.tmp 26) (Operand.tmp 29) 3, some 30, none⟩, ⟨Op.move (Operand.tmp 30), some 31, none⟩, ⟨Op.move (Operand.tmp 11), some 32, some (some 31, true)⟩, ⟨Op.move (Operand.tmp 3), some 33, some (some 31, true)⟩, ⟨Op.call { callee := Callee.builtin Builtin.len, args := #[Operand.tmp 33], argTypes := #[57] }, some 34, some (some 31, true)⟩, ⟨Op.binOp BinOp.lss 3 (Operand.tmp 32) (Operand.tmp 34) 3, some 35, some (some 31, true)⟩, ⟨Op.pick (Operand.tmp 31) (Operand.tmp 35) (Operand.const (Value.bool false)), some 36, none⟩] mixed (by decide) rfl fun K hK => ?_
        try simp
        repeat' first | ((refine evL_c ?_); simp [-List.map_set, hm, hk, hkl, hmm, hmn]) | ((refine evL_g rfl ?_); (try simp only [gs_tt, gs_ff, gs_tf, gs_ft]); (try simp [-List.map_set, hm, hk, hkl, hmm, hmn])) | (refine evL_u rfl ?_) | ((with_reducible refine gsplit (fun hg => ?_) (fun hg => ?_)) <;> (try simp at hg) <;> (try simp [-List.map_set, hm, hk, hkl, hmm, hmn])) | (with_reducible refine And.intro ?_ ?_) | intro _ | (with_reducible assumption) | omega
        all_goals (refine Fin.go hK ?_; clear hK K)
        all_goals
          (try simp [hgq, hm, hk]) <;> (first | omega | (simp; done) | (rw [Bool.eq_iff_iff]; simp; omega))
      · simp only [over, List.foldl, List.set]
        refine Run.cond rfl (fun h36 => ?_) (fun h36 => ?_)
        · replace h36 := of_decide_eq_true h36
          obtain ⟨hc1, hc2⟩ := h36
          have hu := hmo _ (rdI_mem (l := mo) (i := i) (by omega) (by omega))
          have hl1 := hlo _ (rdI_mem (l := s.edges) (i := i) (by omega) (by omega))
          have hl2 := hgle.2 i (by omega)
          obtain ⟨mi, hmi⟩ : ∃ x, rdI mo (i : Int) = x := ⟨_, rfl⟩
          obtain ⟨gi, hgi⟩ : ∃ x, rdI g (i : Int) = x := ⟨_, rfl⟩
          rw [hmi] at hu hgs
          rw [hgi] at hl2 hgs
          have hw2 : IntKind.i64.wrap mi = mi := wrap_id (by omega) (by omega)
          refine Run.skip ?_
          simp only [Then_normal]
          refine Run.seq ?_
          refine Run.block ?_
          refine Run.seq ?_
          refine Run.opsM false [⟨Op.fieldAddr 53 (Operand.tmp 10) 1, some 39, none⟩, ⟨Op.load 51 (Operand.tmp 39), some 40, none⟩, ⟨Op.move (Operand.tmp 11), some 41, none⟩, ⟨Op.indexAddr 51 (Operand.tmp 40) (Operand.tmp 41), some 42, none⟩, ⟨Op.load 2 (Operand.tmp 42), some 43, none⟩, ⟨Op.binOp BinOp.lss 2 (Operand.tmp 43) (Operand.const (Value.int IntKind.i64 4611686018427387904)) 2, some 44, none⟩] mixed (by decide) rfl fun K hK => ?_
          try simp
          repeat' first | ((refine evL_c ?_); simp [-List.map_set, hm, hk, hkl, hmm, hmn, hgq, hgl, hc1, hc2, hmi, hgi, hw2]) | (with_reducible refine And.intro ?_ ?_) | intro _ | (with_reducible assumption) | omega
          all_goals (refine Fin.go hK ?_; clear hK K)
          simp only [Then_normal]
          refine Run.cond rfl (fun h44 => ?_) (fun h44 => ?_)
          · try simp at h44
            refine Run.opsM false [⟨Op.fieldAddr 53 (Operand.tmp 10) 1, some 45, none⟩, ⟨Op.load 51 (Operand.tmp 45), some 46, none⟩, ⟨Op.move (Operand.tmp 11), some 47, none⟩, ⟨Op.fieldAddr 53 (Operand.tmp 10) 1, some 48, none⟩, ⟨Op.load 51 (Operand.tmp 48), some 49, none⟩, ⟨Op.move (Operand.tmp 11), some 50, none⟩, ⟨Op.indexAddr 51 (Operand.tmp 49) (Operand.tmp 50), some 51, none⟩, ⟨Op.load 2 (Operand.tmp 51), some 52, none⟩, ⟨Op.move (Operand.tmp 3), some 53, none⟩, ⟨Op.move (Operand.tmp 11), some 54, none⟩, ⟨Op.indexAddr 57 (Operand.tmp 53) (Operand.tmp 54), some 55, none⟩, ⟨Op.load 58 (Operand.tmp 55), some 56, none⟩, ⟨Op.convert 58 2 (Operand.tmp 56), some 57, none⟩, ⟨Op.binOp BinOp.add 2 (Operand.tmp 52) (Operand.tmp 57) 2, some 58, none⟩, ⟨Op.indexAddr 51 (Operand.tmp 46) (Operand.tmp 47), some 59, none⟩, ⟨Op.store 2 (Operand.tmp 59) (Operand.tmp 58), none, none⟩] mixed (by decide) rfl fun K hK => ?_
            try simp
            have hw3 : IntKind.i64.wrap (gi + mi) = gi + mi := wrap_id (by omega) (by omega)
            repeat' first | ((refine evL_c ?_); simp [-List.map_set, hm, hk, hkl, hmm, hmn, hgq, hgl, hc1, hc2, hmi, hgi, hw2, hw3]) | (with_reducible refine And.intro ?_ ?_) | intro _ | (with_reducible assumption) | omega
            all_goals (refine Fin.go hK ?_; clear hK K)
            simp only [Blok_normal]
            simp only [Then_normal]
            refine Run.opsM false [⟨Op.move (Operand.tmp 11), some 37, none⟩, ⟨Op.binOp BinOp.add 3 (Operand.tmp 37) (Operand.const (Value.int IntKind.i64 1)) 3, some 38, none⟩, ⟨Op.assign (Operand.tmp 38), some 11, none⟩] mixed (by decide) rfl fun K hK => ?_
            try simp
            repeat' first | ((refine evL_c ?_); simp [-List.map_set, hm, hk, hkl, hmm, hmn, hgq, hgl, hc1, hc2, hmi, hgi, hw2]) | (with_reducible refine And.intro ?_ ?_) | intro _ | (with_reducible assumption) | omega
            all_goals (refine Fin.go hK ?_; clear hK K)
            refine ⟨i + 1, by omega, by omega, ?_⟩
            first
              | (rw [if_pos (by omega)] at hgs; simp (disch := omega) [-List.map_set, wrap_id, hgs, hm, hk, hgq]; done)
              | (rw [if_neg (by omega)] at hgs; simp (disch := omega) [-List.map_set, wrap_id, hgs, hm, hk, hgq]; done)
          · try simp at h44
            refine Run.skip ?_
            simp only [Blok_normal]
            simp only [Then_normal]
            refine Run.opsM false [⟨Op.move (Operand.tmp 11), some 37, none⟩, ⟨Op.binOp BinOp.add 3 (Operand.tmp 37) (Operand.const (Value.int IntKind.i64 1)) 3, some 38, none⟩, ⟨Op.assign (Operand.tmp 38), some 11, none⟩] mixed (by decide) rfl fun K hK => ?_
            try simp
            repeat' first | ((refine evL_c ?_); simp [-List.map_set, hm, hk, hkl, hmm, hmn, hgq, hgl, hc1, hc2, hmi, hgi, hw2]) | (with_reducible refine And.intro ?_ ?_) | intro _ | (with_reducible assumption) | omega
            all_goals (refine Fin.go hK ?_; clear hK K)
            refine ⟨i + 1, by omega, by omega, ?_⟩
            first
              | (rw [if_pos (by omega)] at hgs; simp (disch := omega) [-List.map_set, wrap_id, hgs, hm, hk, hgq]; done)
              | (rw [if_neg (by omega)] at hgs; simp (disch := omega) [-List.map_set, wrap_id, hgs, hm, hk, hgq]; done)
        · replace h36 := of_decide_eq_false h36
          have htk : (g.map encI).take m = g.map encI := by rw [List.take_of_length_le]; simp [hgl]
          have hE1 := Estimate_ok c s p hf
          have hE2 := Estimate_ok c ⟨s.nodes, g⟩ p hf
          have hC1 := cost_ok c s p hf
          have q1 := estS_nn c s p
          have q2 := estS_mono (c := c) (s := s) (t := ⟨s.nodes, g⟩) rfl hgle p
          have q3 := cost_est c s p
          have q4 := costT_rng c s p
          have q5 : ∀ j : Nat, j < p.kids.length → costT c s (rdI p.kids j) ≤ costT c s p := fun j hj => cost_kid c s (kid_mem hj)
          obtain ⟨e, he⟩ : ∃ x, estS c s p = x := ⟨_, rfl⟩
          obtain ⟨e2, he2⟩ : ∃ x, estS c ⟨s.nodes, g⟩ p = x := ⟨_, rfl⟩
          obtain ⟨k1, hk1⟩ : ∃ x, costT c s p = x := ⟨_, rfl⟩
          rw [he] at hE1 q1 q2 q3
          rw [he2] at hE2 q2
          rw [hk1] at hC1 q3 q4 q5
          rw [encP_cells] at hE1 hE2 hC1
          obtain ⟨q0, q1⟩ := q1
          have q6 := q4.2
          refine Run.exit ?_
          simp (decide := true) only [Then_exit, Blok_exit, if_true, if_false]
          simp only [Then_normal]
          refine Run.seq ?_
          refine Run.opsM false [⟨Op.load 27 (Operand.tmp 4), some 60, none⟩, ⟨Op.load 33 (Operand.tmp 5), some 61, none⟩, ⟨Op.load 53 (Operand.tmp 6), some 62, none⟩, ⟨Op.call { callee := Callee.value (Operand.func 15), args := #[Operand.tmp 60, Operand.tmp 61, Operand.tmp 62], argTypes := #[27, 33, 53] }, some 63, none⟩, ⟨Op.assign (Operand.tmp 63), some 12, none⟩] mixed (by decide) rfl fun K hK => ?_
          try simp
          repeat' first | (refine ecallD (by exact hE1) ?_) | ((refine evL_c ?_); simp [-List.map_set, hm, hk, hkl, hmm, hmn, hgq, hgl, htk]) | (with_reducible refine And.intro ?_ ?_) | intro _ | (with_reducible assumption) | omega
          all_goals (refine Fin.go hK ?_; clear hK K)
          simp only [Then_normal]
          refine Run.seq ?_
          refine Run.opsM false [⟨Op.load 27 (Operand.tmp 4), some 64, none⟩, ⟨Op.load 33 (Operand.tmp 5), some 65, none⟩, ⟨Op.load 53 (Operand.tmp 6), some 66, none⟩, ⟨Op.call { callee := Callee.value (Operand.func 17), args := #[Operand.tmp 64, Operand.tmp 65, Operand.tmp 66], argTypes := #[27, 33, 53] }, some 67, none⟩, ⟨Op.assign (Operand.tmp 67), some 13, none⟩] mixed (by decide) rfl fun K hK => ?_
          try simp
          repeat' first | (refine ecallD (by exact hC1) ?_) | ((refine evL_c ?_); simp [-List.map_set, hm, hk, hkl, hmm, hmn, hgq, hgl, htk]) | (with_reducible refine And.intro ?_ ?_) | intro _ | (with_reducible assumption) | omega
          all_goals (refine Fin.go hK ?_; clear hK K)
          simp only [Then_normal]
          refine Run.seq ?_
          refine Run.seq ?_
          refine Run.opsM false [⟨Op.assign (Operand.const (Value.int IntKind.i64 0)), some 14, none⟩] mixed (by decide) rfl fun K hK => ?_
          try simp
          repeat' first | ((refine evL_c ?_); simp [-List.map_set, hm, hk, hkl, hmm, hmn, hgq, hgl, htk]) | (with_reducible refine And.intro ?_ ?_) | intro _ | (with_reducible assumption) | omega
          all_goals (refine Fin.go hK ?_; clear hK K)
          simp only [Then_normal]
          refine Run.block ?_
          refine Run.loopO [8, 14, 68, 69, 70, 71, 72, 73, 74, 75, 76, 77, 78, 79, 80, 81, 82, 83, 84, 85, 86, 87, 88] (fun (j : Nat) => [(14, .int j)]) (fun (j : Nat) => [(500, .vals ((encP p).map .d)), (600, .vals ((encC c).map .d)), (700, .vals ((encS s).map .d)), (1100, .vals [.d (.sl false (s.nodes.map encI)), .rs 2500 1 0 m]), (2500, .data 1 (g.map encI))]) (fun (j : Nat) => j ≤ kl) (fun (j : Nat) => kl - j) 0 (by omega) (by simp) fun j hj => ?_
          simp only [over, List.foldl, List.set]
          refine Run.seq ?_
          refine Run.seq ?_
          refine Run.opsM false [⟨Op.move (Operand.tmp 14), some 68, none⟩, ⟨Op.fieldAddr 27 (Operand.tmp 4) 1, some 69, none⟩, ⟨Op.load 23 (Operand.tmp 69), some 70, none⟩, ⟨Op.call { callee := Callee.builtin Builtin.len, args := #[Operand.tmp 70], argTypes := #[23] }, some 71, none⟩, ⟨Op.binOp BinOp.lss 3 (Operand.tmp 68) (Operand.tmp 71) 3, some 72, none⟩] mixed (by decide) rfl fun K hK => ?_
          try simp
          repeat' first | ((refine evL_c ?_); simp [-List.map_set, hm, hk, hkl, hmm, hmn, hgq, hgl, htk]) | (with_reducible refine And.intro ?_ ?_) | intro _ | (with_reducible assumption) | omega
          all_goals (refine Fin.go hK ?_; clear hK K)
          simp only [Then_normal]
          refine Run.cond rfl (fun h72 => ?_) (fun h72 => ?_)
          · try simp at h72
            have hj1 : j < kl := by omega
            have hT := cost_ok c s (rdI p.kids j) (kid_fine hf (by omega))
            have q7 := q5 j (by omega)
            obtain ⟨kj, hkj⟩ : ∃ x, costT c s (rdI p.kids j) = x := ⟨_, rfl⟩
            rw [hkj] at hT q7
            rw [encP_cells] at hT
            have q8 : ¬ k1 < kj := by omega
            refine Run.skip ?_
            simp only [Then_normal]
            refine Run.seq ?_
            refine Run.block ?_
            refine Run.cut [75, 76, 77, 78, 79, 80, 81, 82, 83, 84, 85, 86, 87, 88] [(88, .bool false)] [(500, .vals ((encP p).map .d)), (600, .vals ((encC c).map .d)), (700, .vals ((encS s).map .d)), (1100, .vals [.d (.sl false (s.nodes.map encI)), .rs 2500 1 0 m]), (2500, .data 1 (g.map encI))] ?_ ?_
            · refine Run.opsM false [⟨Op.move (Operand.tmp 12), some 75, none⟩, ⟨Op.binOp BinOp.gtr 2 (Operand.tmp 75) (Operand.const (Value.int IntKind.i64 0)) 2, some 76, none⟩, ⟨Op.move (Operand.tmp 76), some 77, none⟩, ⟨Op.fieldAddr 27 (Operand.tmp 4) 1, some 78, some (some 77, true)⟩, ⟨Op.load 23 (Operand.tmp 78), some 79, some (some 77, true)⟩, ⟨Op.move (Operand.tmp 14), some 80, some (some 77, true)⟩, ⟨Op.indexAddr 23 (Operand.tmp 79) (Operand.tmp 80), some 81, some (some 77, true)⟩, ⟨Op.load 27 (Operand.tmp 81), some 82, some (some 77, true)⟩, ⟨Op.load 33 (Operand.tmp 5), some 83, some (some 77, true)⟩, ⟨Op.load 53 (Operand.tmp 6), some 84, some (some 77, true)⟩, ⟨Op.call { callee := Callee.value (Operand.func 17), args := #[Operand.tmp 82, Operand.tmp 83, Operand.tmp 84], argTypes := #[27, 33, 53] }, some 85, some (some 77, true)⟩, ⟨Op.move (Operand.tmp 13), some 86, some (some 77, true)⟩, ⟨Op.binOp BinOp.gtr 2 (Operand.tmp 85) (Operand.tmp 86) 2, some 87, some (some 77, true)⟩, ⟨Op.pick (Operand.tmp 77) (Operand.tmp 87) (Operand.const (Value.bool false)), some 88, none⟩] mixed (by decide) rfl fun K hK => ?_
              try simp
              repeat' first | (refine ecallD (by exact hT) ?_) | ((refine evL_c ?_); simp [-List.map_set, hm, hk, hkl, hmm, hmn, hgq, hgl, htk, hj1, q8, q7]) | ((refine evL_g rfl ?_); (try simp only [gs_tt, gs_ff, gs_tf, gs_ft]); (try simp [-List.map_set, hm, hk, hkl, hmm, hmn, hgq, hgl, htk, hj1, q8, q7])) | (refine evL_u rfl ?_) | ((with_reducible refine gsplit (fun hg => ?_) (fun hg => ?_)) <;> (try simp at hg) <;> (try simp [-List.map_set, hm, hk, hkl, hmm, hmn, hgq, hgl, htk, hj1, q8, q7])) | (with_reducible refine And.intro ?_ ?_) | intro _ | (with_reducible assumption) | omega
              all_goals (refine Fin.go hK ?_; clear hK K)
              all_goals
                (try simp [hgq, hm, hk]) <;> (first | omega | (simp; done) | (rw [Bool.eq_iff_iff]; simp; omega))
            · simp only [over, List.foldl, List.set]
              refine Run.cond rfl (fun h88 => ?_) (fun h88 => ?_)
              · simp at h88
              · skip
                refine Run.skip ?_
                simp only [Blok_normal]
                simp only [Then_normal]
                refine Run.opsM false [⟨Op.move (Operand.tmp 14), some 73, none⟩, ⟨Op.binOp BinOp.add 3 (Operand.tmp 73) (Operand.const (Value.int IntKind.i64 1)) 3, some 74, none⟩, ⟨Op.assign (Operand.tmp 74), some 14, none⟩] mixed (by decide) rfl fun K hK => ?_
                try simp
                repeat' first | ((refine evL_c ?_); simp [-List.map_set, hm, hk, hkl, hmm, hmn, hgq, hgl, htk, hj1, q8, q7]) | (with_reducible refine And.intro ?_ ?_) | intro _ | (with_reducible assumption) | omega
                all_goals (refine Fin.go hK ?_; clear hK K)
                refine ⟨j + 1, by omega, by omega, ?_⟩
                simp (disch := omega) [-List.map_set, wrap_id]
          · try simp at h72
            refine Run.exit ?_
            simp (decide := true) only [Then_exit, Blok_exit, if_true, if_false]
            simp only [Then_normal]
            refine Run.seq ?_
            refine Run.opsM false [⟨Op.move (Operand.tmp 9), some 89, none⟩, ⟨Op.move (Operand.tmp 89), some 90, none⟩, ⟨Op.move (Operand.tmp 12), some 91, some (some 90, true)⟩, ⟨Op.binOp BinOp.geq 2 (Operand.tmp 91) (Operand.const (Value.int IntKind.i64 0)) 2, some 92, some (some 90, true)⟩, ⟨Op.pick (Operand.tmp 90) (Operand.tmp 92) (Operand.const (Value.bool false)), some 93, none⟩, ⟨Op.move (Operand.tmp 93), some 94, none⟩, ⟨Op.move (Operand.tmp 12), some 95, some (some 94, true)⟩, ⟨Op.binOp BinOp.leq 2 (Operand.tmp 95) (Operand.const (Value.int IntKind.i64 1099511627776)) 2, some 96, some (some 94, true)⟩, ⟨Op.pick (Operand.tmp 94) (Operand.tmp 96) (Operand.const (Value.bool false)), some 97, none⟩, ⟨Op.move (Operand.tmp 97), some 98, none⟩, ⟨Op.load 27 (Operand.tmp 4), some 99, some (some 98, true)⟩, ⟨Op.load 33 (Operand.tmp 5), some 100, some (some 98, true)⟩, ⟨Op.load 53 (Operand.tmp 10), some 101, some (some 98, true)⟩, ⟨Op.call { callee := Callee.value (Operand.func 15), args := #[Operand.tmp 99, Operand.tmp 100, Operand.tmp 101], argTypes := #[27, 33, 53] }, some 102, some (some 98, true)⟩, ⟨Op.move (Operand.tmp 12), some 103, some (some 98, true)⟩, ⟨Op.binOp BinOp.geq 2 (Operand.tmp 102) (Operand.tmp 103) 2, some 104, some (some 98, true)⟩, ⟨Op.pick (Operand.tmp 98) (Operand.tmp 104) (Operand.const (Value.bool false)), some 105, none⟩, ⟨Op.move (Operand.tmp 105), some 106, none⟩, ⟨Op.move (Operand.tmp 13), some 107, some (some 106, true)⟩, ⟨Op.move (Operand.tmp 12), some 108, some (some 106, true)⟩, ⟨Op.binOp BinOp.geq 2 (Operand.tmp 107) (Operand.tmp 108) 2, some 109, some (some 106, true)⟩, ⟨Op.pick (Operand.tmp 106) (Operand.tmp 109) (Operand.const (Value.bool false)), some 110, none⟩, ⟨Op.move (Operand.tmp 110), some 111, none⟩, ⟨Op.move (Operand.tmp 13), some 112, some (some 111, true)⟩, ⟨Op.binOp BinOp.leq 2 (Operand.tmp 112) (Operand.const (Value.int IntKind.i64 1099511627776)) 2, some 113, some (some 111, true)⟩, ⟨Op.pick (Operand.tmp 111) (Operand.tmp 113) (Operand.const (Value.bool false)), some 114, none⟩, ⟨Op.assign (Operand.tmp 114), some 8, none⟩] mixed (by decide) rfl fun K hK => ?_
            try simp
            repeat' first | (refine ecallF (by simp [htk, hgl]) (by simp) hE2 ?_) | ((refine evL_c ?_); simp [-List.map_set, hm, hk, hkl, hmm, hmn, hgq, hgl, htk, q0, q1, q2, q3, q6]) | ((refine evL_g rfl ?_); (try simp only [gs_tt, gs_ff, gs_tf, gs_ft]); (try simp [-List.map_set, hm, hk, hkl, hmm, hmn, hgq, hgl, htk, q0, q1, q2, q3, q6])) | (refine evL_u rfl ?_) | ((with_reducible refine gsplit (fun hg => ?_) (fun hg => ?_)) <;> (try simp at hg) <;> (try simp [-List.map_set, hm, hk, hkl, hmm, hmn, hgq, hgl, htk, q0, q1, q2, q3, q6])) | (with_reducible refine And.intro ?_ ?_) | intro _ | (with_reducible assumption) | omega
            all_goals (refine Fin.go hK ?_; clear hK K)
            all_goals
              simp only [Then_normal]
              refine Run.ret ?_
              try simp only [Then_ret, Blok_ret]
              simp


end Go.Proofs.Ytihbejpkfifplaa.Z
