/- A step's edge. -/
import Derived.Test.YtihbejpkfifplaaPd
set_option linter.unusedVariables false
set_option linter.unusedSimpArgs false
set_option maxRecDepth 100000
namespace Go.Proofs.Ytihbejpkfifplaa.Z
open Go Go.Fw
/-- a pattern's edges lie between its nodes -/
def GoodE (c : CoreT) : Prop := ∀ e ∈ c.edges, 0 ≤ e.src ∧ 0 ≤ e.dst ∧ e.src < c.nodes.length ∧ e.dst < c.nodes.length
theorem goodE_of {c : CoreT} (h : patS c.nodes c.edges = true) : GoodE c := by
  intro e he
  simp only [patS, Bool.and_eq_true, Bool.not_eq_true', List.any_eq_false] at h
  have h1 := h.2 e he
  simp only [badE, Bool.or_eq_true, decide_eq_true_eq, not_or] at h1
  split at h1 <;> split at h1 <;> omega
def badEdge (c : CoreT) (p : PlanT) (b : List Bool) : Bool :=
  rdI b (c.nodes.length + rdI p.edges 0) || (!rdI b (if p.back then (rdI c.edges (rdI p.edges 0)).dst else (rdI c.edges (rdI p.edges 0)).src)) || (decide ((rdI c.edges (rdI p.edges 0)).mode = 0) != decide (p.op = 2))
def edgeB (c : CoreT) (p : PlanT) (b : List Bool) : Bool := !decide (p.edges.length ≠ 1 ∨ rdI p.edges 0 < 0 ∨ (c.edges.length : Int) ≤ rdI p.edges 0) && !badEdge c p b
def edgeL (c : CoreT) (p : PlanT) (b : List Bool) : List Bool :=
  if edgeB c p b then (b.set (c.nodes.length + rdI p.edges 0).toNat true).set (if p.back then (rdI c.edges (rdI p.edges 0)).src else (rdI c.edges (rdI p.edges 0)).dst).toNat true else b
@[simp] theorem rdI_toNat {α : Type} [Inhabited α] (l : List α) (i : Int) : rdI l ((i.toNat : Nat) : Int) = rdI l i := by unfold rdI; rw [Int.toNat_natCast]
@[simp] theorem rdI_max {α : Type} [Inhabited α] (l : List α) (i : Int) : rdI l (max i 0) = rdI l i := by unfold rdI; congr 1; omega
theorem encP_ok {p : PlanT} (h : (D.ag (encP p)).ok) : p.kids.length ≤ 9223372036854775807 ∧ p.edges.length ≤ 9223372036854775807 ∧ p.terms.length ≤ 9223372036854775807 := by
  rw [encP_cells] at h
  simp only [D.ok, D.okL, List.length_map] at h
  exact ⟨h.2.1.1, h.2.2.2.1.1, h.2.2.2.2.2.1.1⟩
@[simp] theorem set_encB (l : List Bool) (i : Nat) (v : Bool) : (l.map encB).set i [D.lit (.bool v)] = (l.set i v).map encB := by rw [List.map_set]; rfl
@[simp] theorem set_encI (l : List Int) (i : Nat) (v : Int) : (l.map encI).set i [D.lit (.int .i64 v)] = (l.set i v).map encI := by rw [List.map_set]; rfl
set_option maxHeartbeats 4000000 in
theorem edge_ok (c : CoreT) (p : PlanT) (b : List Bool) (hb : b.length = c.nodes.length + c.edges.length) (hE : GoodE c) : SndW P 73 [.d (.ag (encC c ++ [D.int c.nodes.length])), .d (.ag (encP p)), .rs 0 1 0 b.length] [(0, .data 1 (b.map encB))] (.bool (edgeB c p b)) [(0, .data 1 ((edgeL c p b).map encB))] := by
  obtain ⟨n, hn⟩ : ∃ k, c.nodes.length = k := ⟨_, rfl⟩
  obtain ⟨m, hm⟩ : ∃ m, p.edges.length = m := ⟨_, rfl⟩
  obtain ⟨k, hk⟩ : ∃ k, c.edges.length = k := ⟨_, rfl⟩
  obtain ⟨fr, hfr⟩ : ∃ x, (if p.back then (rdI c.edges (rdI p.edges 0)).dst else (rdI c.edges (rdI p.edges 0)).src) = x := ⟨_, rfl⟩
  obtain ⟨to, hto⟩ : ∃ x, (if p.back then (rdI c.edges (rdI p.edges 0)).src else (rdI c.edges (rdI p.edges 0)).dst) = x := ⟨_, rfl⟩
  rw [hn, hk] at hb
  refine sndW_of [0] Try.func73 rfl (by kernel_rfl) Try.ntmps73 (by simp) (by simp) ?_
  unfold Try.f73
  refine Run.okV 2 rfl fun hL => ?_
  simp only [List.cons_append, List.nil_append, List.length_cons, List.length_nil, Nat.reduceAdd, Nat.reduceSub, List.replicate]
  refine Run.seq ?_
  refine Run.opsM false [⟨Op.box 86 (Operand.tmp 0), some 3, none⟩, ⟨Op.box 27 (Operand.tmp 1), some 4, none⟩, ⟨Op.assign (Operand.const (Value.bool false)), some 6, none⟩] mixed (by decide) rfl fun K hK => ?_
  try simp
  repeat' first | ((refine evL_c ?_); simp [-List.map_set, hm, hk, hn, hb, hfr, hto]) | (with_reducible refine And.intro ?_ ?_) | intro _ | (with_reducible assumption) | omega
  all_goals (refine Fin.go hK ?_; clear hK K)
  simp only [Then_normal]
  refine Run.seq ?_
  refine Run.cut [10, 11, 12, 13, 14, 15, 16, 17, 18, 19, 20, 21, 22, 23, 24, 25, 26, 27, 28, 29, 30, 31] [(31, .bool (decide (m ≠ 1 ∨ rdI p.edges 0 < 0 ∨ (k : Int) ≤ rdI p.edges 0)))] [(0, .data 1 (b.map encB)), (400, .vals ((encC c ++ [D.int c.nodes.length]).map .d)), (500, .vals ((encP p).map .d))] ?_ ?_
  · refine Run.opsM false [⟨Op.fieldAddr 27 (Operand.tmp 4) 3, some 10, none⟩, ⟨Op.load 24 (Operand.tmp 10), some 11, none⟩, ⟨Op.call { callee := Callee.builtin Builtin.len, args := #[Operand.tmp 11], argTypes := #[24] }, some 12, none⟩, ⟨Op.binOp BinOp.neq 3 (Operand.tmp 12) (Operand.const (Value.int IntKind.i64 1)) 3, some 13, none⟩, ⟨Op.move (Operand.tmp 13), some 14, none⟩, ⟨Op.fieldAddr 27 (Operand.tmp 4) 3, some 15, some (some 14, false)⟩, ⟨Op.load 24 (Operand.tmp 15), some 16, some (some 14, false)⟩, ⟨Op.indexAddr 24 (Operand.tmp 16) (Operand.const (Value.int IntKind.i64 0)), some 17, some (some 14, false)⟩, ⟨Op.load 3 (Operand.tmp 17), some 18, some (some 14, false)⟩, ⟨Op.binOp BinOp.lss 3 (Operand.tmp 18) (Operand.const (Value.int IntKind.i64 0)) 3, some 19, some (some 14, false)⟩, ⟨Op.pick (Operand.tmp 14) (Operand.const (Value.bool true)) (Operand.tmp 19), some 20, none⟩, ⟨Op.move (Operand.tmp 20), some 21, none⟩, ⟨Op.fieldAddr 27 (Operand.tmp 4) 3, some 22, some (some 21, false)⟩, ⟨Op.load 24 (Operand.tmp 22), some 23, some (some 21, false)⟩, ⟨Op.indexAddr 24 (Operand.tmp 23) (Operand.const (Value.int IntKind.i64 0)), some 24, some (some 21, false)⟩, ⟨Op.load 3 (Operand.tmp 24), some 25, some (some 21, false)⟩, ⟨Op.fieldAddr 86 (Operand.tmp 3) 0, some 26, some (some 21, false)⟩, ⟨Op.fieldAddr 33 (Operand.tmp 26) 1, some 27, some (some 21, false)⟩, ⟨Op.load 29 (Operand.tmp 27), some 28, some (some 21, false)⟩, ⟨Op.call { callee := Callee.builtin Builtin.len, args := #[Operand.tmp 28], argTypes := #[29] }, some 29, some (some 21, false)⟩, ⟨Op.binOp BinOp.geq 3 (Operand.tmp 25) (Operand.tmp 29) 3, some 30, some (some 21, false)⟩, ⟨Op.pick (Operand.tmp 21) (Operand.const (Value.bool true)) (Operand.tmp 30), some 31, none⟩] mixed (by decide) rfl fun K hK => ?_
    try simp
    repeat' first | ((refine evL_c ?_); simp [-List.map_set, hm, hk, hn, hb, hfr, hto, *]) | ((refine evL_g rfl ?_); (try simp only [gs_tt, gs_ff, gs_tf, gs_ft]); (try simp [-List.map_set, hm, hk, hn, hb, hfr, hto, *])) | (refine evL_u rfl ?_) | ((with_reducible refine gsplit (fun hg => ?_) (fun hg => ?_)) <;> (try simp at hg) <;> (try simp [-List.map_set, hm, hk, hn, hb, hfr, hto, *])) | (with_reducible refine And.intro ?_ ?_) | intro _ | (with_reducible assumption) | omega
    all_goals (refine Fin.go hK ?_; clear hK K)
    all_goals
      (try simp [hm, hk, hn, hb, hfr, hto]) <;> (first | omega | (simp; done) | (rw [Bool.eq_iff_iff]; simp only [Bool.or_eq_true, Bool.and_eq_true, Bool.not_eq_true', decide_eq_true_eq, decide_eq_false_iff_not]; omega) | (simp_all; done) | (simp_all; omega) | grind)
  · simp only [over, List.foldl, List.set]
    refine Run.cond rfl (fun h31 => ?_) (fun h31 => ?_)
    · replace h31 := of_decide_eq_true h31
      refine Run.seq ?_
      refine Run.opsM false [⟨Op.assign (Operand.const (Value.bool false)), some 6, none⟩] mixed (by decide) rfl fun K hK => ?_
      try simp
      repeat' first | ((refine evL_c ?_); simp [-List.map_set, hm, hk, hn, hb, hfr, hto]) | (with_reducible refine And.intro ?_ ?_) | intro _ | (with_reducible assumption) | omega
      all_goals (refine Fin.go hK ?_; clear hK K)
      simp only [Then_normal]
      refine Run.ret ?_
      try simp only [Then_ret, Blok_ret]
      first
        | (have e : edgeB c p b = false := by simp [edgeB, hm, hk, h31]
           simp [edgeL, e, hn]; done)
        | (have e : edgeB c p b = false := by simp [edgeB, h73]
           simp [edgeL, e, hn]; done)
        | (have e : edgeB c p b = true := by simp only [edgeB, h73, hm, hk, Bool.not_false, Bool.and_true, Bool.not_eq_true', decide_eq_false_iff_not]; omega
           simp [-List.map_set, edgeL, e, hn, hto]; done)
    · replace h31 := of_decide_eq_false h31
      have hm1 : m = 1 := by omega
      have h0 : 0 ≤ rdI p.edges 0 := by omega
      have h1 : rdI p.edges 0 < k := by omega
      have hG := hE (rdI c.edges (rdI p.edges 0)) (rdI_mem h0 (by omega))
      rw [hn] at hG
      have hf : 0 ≤ fr ∧ fr < n ∧ 0 ≤ to ∧ to < n := by subst hfr; subst hto; split <;> omega
      obtain ⟨hf1, hf2, hf3, hf4⟩ := hf
      have hf5 : fr < (n : Int) + k := by omega
      have hf6 : to < (n : Int) + k := by omega
      have hf7 : fr.toNat < n + k := by omega
      have hf8 : to.toNat < n + k := by omega
      have hf9 : ((n : Int) + rdI p.edges 0).toNat < n + k := by omega
      have hf0 : 0 ≤ (n : Int) + rdI p.edges 0 := by omega
      have hfa : (n : Int) + rdI p.edges 0 < n + k := by omega
      have hw := wrap_id (n := (n : Int) + rdI p.edges 0) (by omega) (by omega)
      refine Run.skip ?_
      simp only [Then_normal]
      refine Run.cut [7, 32, 33, 34, 35, 36, 37, 38, 39, 40] [(7, .pt 800 0 0 0)] [(0, .data 1 (b.map encB)), (400, .vals ((encC c ++ [D.int c.nodes.length]).map .d)), (500, .vals ((encP p).map .d)), (800, .vals ((encE (rdI c.edges (rdI p.edges 0))).map .d))] ?_ ?_
      · refine Run.opsM false [⟨Op.fieldAddr 86 (Operand.tmp 3) 0, some 32, none⟩, ⟨Op.fieldAddr 33 (Operand.tmp 32) 1, some 33, none⟩, ⟨Op.load 29 (Operand.tmp 33), some 34, none⟩, ⟨Op.fieldAddr 27 (Operand.tmp 4) 3, some 35, none⟩, ⟨Op.load 24 (Operand.tmp 35), some 36, none⟩, ⟨Op.indexAddr 24 (Operand.tmp 36) (Operand.const (Value.int IntKind.i64 0)), some 37, none⟩, ⟨Op.load 3 (Operand.tmp 37), some 38, none⟩, ⟨Op.indexAddr 29 (Operand.tmp 34) (Operand.tmp 38), some 39, none⟩, ⟨Op.load 105 (Operand.tmp 39), some 40, none⟩, ⟨Op.alloc 105, some 7, none⟩, ⟨Op.store 105 (Operand.tmp 7) (Operand.tmp 40), none, none⟩] mixed (by decide) rfl fun K hK => ?_
        try simp
        repeat' first | ((refine evL_c ?_); simp [-List.map_set, hm, hk, hn, hb, hfr, hto, hm1, h0, h1, hf1, hf2, hf3, hf5, hf6, hf7, hf8, hf9, hf0, hfa, hw]) | (with_reducible refine And.intro ?_ ?_) | intro _ | (with_reducible assumption) | omega
        all_goals (refine Fin.go hK ?_; clear hK K)
        (try simp [hm, hk, hn, hb, hfr, hto]) <;> (first | omega | (simp; done) | (rw [Bool.eq_iff_iff]; simp only [Bool.or_eq_true, Bool.and_eq_true, Bool.not_eq_true', decide_eq_true_eq, decide_eq_false_iff_not]; omega) | (simp_all; done) | (simp_all; omega) | grind)
      · simp only [over, List.foldl, List.set]
        refine Run.seq ?_
        refine Run.opsM false [⟨Op.load 105 (Operand.tmp 7), some 42, none⟩, ⟨Op.fieldAddr 27 (Operand.tmp 4) 4, some 43, none⟩, ⟨Op.load 4 (Operand.tmp 43), some 44, none⟩, ⟨Op.call { callee := Callee.value (Operand.func 92), args := #[Operand.tmp 42, Operand.tmp 44], argTypes := #[105, 4] }, some 45, none⟩, ⟨Op.move (Operand.tmp 45), some 41, none⟩, ⟨Op.extract (Operand.tmp 41) 0, some 46, none⟩, ⟨Op.extract (Operand.tmp 41) 1, some 47, none⟩, ⟨Op.assign (Operand.tmp 46), some 8, none⟩, ⟨Op.assign (Operand.tmp 47), some 9, none⟩] mixed (by decide) rfl fun K hK => ?_
        try simp
        repeat' first | (refine ecall (ends_ok (rdI c.edges (rdI p.edges 0)) p.back) rfl ?_) | ((refine evL_c ?_); simp [-List.map_set, hm, hk, hn, hb, hfr, hto, hm1, h0, h1, hf1, hf2, hf3, hf5, hf6, hf7, hf8, hf9, hf0, hfa, hw]) | (with_reducible refine And.intro ?_ ?_) | intro _ | (with_reducible assumption) | omega
        all_goals (refine Fin.go hK ?_; clear hK K)
        simp only [Then_normal]
        refine Run.seq ?_
        refine Run.cut [48, 49, 50, 51, 52, 53, 54, 55, 56, 57, 58, 59, 60, 61, 62, 63, 64, 65, 66, 67, 68, 69, 70, 71, 72, 73] [(73, .bool (badEdge c p b))] [(0, .data 1 (b.map encB)), (400, .vals ((encC c ++ [D.int c.nodes.length]).map .d)), (500, .vals ((encP p).map .d)), (800, .vals ((encE (rdI c.edges (rdI p.edges 0))).map .d))] ?_ ?_
        · refine Run.opsM false [⟨Op.move (Operand.tmp 2), some 48, none⟩, ⟨Op.fieldAddr 86 (Operand.tmp 3) 1, some 49, none⟩, ⟨Op.load 3 (Operand.tmp 49), some 50, none⟩, ⟨Op.fieldAddr 27 (Operand.tmp 4) 3, some 51, none⟩, ⟨Op.load 24 (Operand.tmp 51), some 52, none⟩, ⟨Op.indexAddr 24 (Operand.tmp 52) (Operand.const (Value.int IntKind.i64 0)), some 53, none⟩, ⟨Op.load 3 (Operand.tmp 53), some 54, none⟩, ⟨Op.binOp BinOp.add 3 (Operand.tmp 50) (Operand.tmp 54) 3, some 55, none⟩, ⟨Op.indexAddr 60 (Operand.tmp 48) (Operand.tmp 55), some 56, none⟩, ⟨Op.load 4 (Operand.tmp 56), some 57, none⟩, ⟨Op.move (Operand.tmp 57), some 58, none⟩, ⟨Op.move (Operand.tmp 2), some 59, some (some 58, false)⟩, ⟨Op.move (Operand.tmp 8), some 60, some (some 58, false)⟩, ⟨Op.indexAddr 60 (Operand.tmp 59) (Operand.tmp 60), some 61, some (some 58, false)⟩, ⟨Op.load 4 (Operand.tmp 61), some 62, some (some 58, false)⟩, ⟨Op.unOp UnOp.not 4 (Operand.tmp 62), some 63, some (some 58, false)⟩, ⟨Op.pick (Operand.tmp 58) (Operand.const (Value.bool true)) (Operand.tmp 63), some 64, none⟩, ⟨Op.move (Operand.tmp 64), some 65, none⟩, ⟨Op.fieldAddr 105 (Operand.tmp 7) 4, some 66, some (some 65, false)⟩, ⟨Op.load 103 (Operand.tmp 66), some 67, some (some 65, false)⟩, ⟨Op.binOp BinOp.eql 103 (Operand.tmp 67) (Operand.const (Value.int IntKind.i64 0)) 103, some 68, some (some 65, false)⟩, ⟨Op.fieldAddr 27 (Operand.tmp 4) 0, some 69, some (some 65, false)⟩, ⟨Op.load 22 (Operand.tmp 69), some 70, some (some 65, false)⟩, ⟨Op.binOp BinOp.eql 22 (Operand.tmp 70) (Operand.const (Value.int IntKind.i64 2)) 22, some 71, some (some 65, false)⟩, ⟨Op.binOp BinOp.neq 4 (Operand.tmp 68) (Operand.tmp 71) 4, some 72, some (some 65, false)⟩, ⟨Op.pick (Operand.tmp 65) (Operand.const (Value.bool true)) (Operand.tmp 72), some 73, none⟩] mixed (by decide) rfl fun K hK => ?_
          try simp
          repeat' first | ((refine evL_c ?_); simp [-List.map_set, hm, hk, hn, hb, hfr, hto, hm1, h0, h1, hf1, hf2, hf3, hf5, hf6, hf7, hf8, hf9, hf0, hfa, hw]) | ((refine evL_g rfl ?_); (try simp only [gs_tt, gs_ff, gs_tf, gs_ft]); (try simp [-List.map_set, hm, hk, hn, hb, hfr, hto, hm1, h0, h1, hf1, hf2, hf3, hf5, hf6, hf7, hf8, hf9, hf0, hfa, hw])) | (refine evL_u rfl ?_) | ((with_reducible refine gsplit (fun hg => ?_) (fun hg => ?_)) <;> (try simp at hg) <;> (try simp [-List.map_set, hm, hk, hn, hb, hfr, hto, hm1, h0, h1, hf1, hf2, hf3, hf5, hf6, hf7, hf8, hf9, hf0, hfa, hw])) | (with_reducible refine And.intro ?_ ?_) | intro _ | (with_reducible assumption) | omega
          all_goals (refine Fin.go hK ?_; clear hK K)
          all_goals
            (try simp [hm, hk, hn, hb, hfr, hto, badEdge]) <;> (first | omega | (simp; done) | (rw [Bool.eq_iff_iff]; simp only [Bool.or_eq_true, Bool.and_eq_true, Bool.not_eq_true', decide_eq_true_eq, decide_eq_false_iff_not]; omega) | (simp_all; done) | (simp_all; omega) | grind)
        · simp only [over, List.foldl, List.set]
          refine Run.cond rfl (fun h73 => ?_) (fun h73 => ?_)
          · try simp at h73
            refine Run.seq ?_
            refine Run.opsM false [⟨Op.assign (Operand.const (Value.bool false)), some 6, none⟩] mixed (by decide) rfl fun K hK => ?_
            try simp
            repeat' first | ((refine evL_c ?_); simp [-List.map_set, hm, hk, hn, hb, hfr, hto, hm1, h0, h1, hf1, hf2, hf3, hf5, hf6, hf7, hf8, hf9, hf0, hfa, hw]) | (with_reducible refine And.intro ?_ ?_) | intro _ | (with_reducible assumption) | omega
            all_goals (refine Fin.go hK ?_; clear hK K)
            simp only [Then_normal]
            refine Run.ret ?_
            try simp only [Then_ret, Blok_ret]
            first
              | (have e : edgeB c p b = false := by simp [edgeB, hm, hk, h31]
                 simp [edgeL, e, hn]; done)
              | (have e : edgeB c p b = false := by simp [edgeB, h73]
                 simp [edgeL, e, hn]; done)
              | (have e : edgeB c p b = true := by simp only [edgeB, h73, hm, hk, Bool.not_false, Bool.and_true, Bool.not_eq_true', decide_eq_false_iff_not]; omega
                 simp [-List.map_set, edgeL, e, hn, hto]; done)
          · try simp at h73
            refine Run.skip ?_
            simp only [Then_normal]
            refine Run.seq ?_
            refine Run.opsM false [⟨Op.move (Operand.tmp 2), some 74, none⟩, ⟨Op.fieldAddr 86 (Operand.tmp 3) 1, some 75, none⟩, ⟨Op.load 3 (Operand.tmp 75), some 76, none⟩, ⟨Op.fieldAddr 27 (Operand.tmp 4) 3, some 77, none⟩, ⟨Op.load 24 (Operand.tmp 77), some 78, none⟩, ⟨Op.indexAddr 24 (Operand.tmp 78) (Operand.const (Value.int IntKind.i64 0)), some 79, none⟩, ⟨Op.load 3 (Operand.tmp 79), some 80, none⟩, ⟨Op.binOp BinOp.add 3 (Operand.tmp 76) (Operand.tmp 80) 3, some 81, none⟩, ⟨Op.move (Operand.tmp 2), some 82, none⟩, ⟨Op.move (Operand.tmp 9), some 83, none⟩, ⟨Op.indexAddr 60 (Operand.tmp 74) (Operand.tmp 81), some 84, none⟩, ⟨Op.store 4 (Operand.tmp 84) (Operand.const (Value.bool true)), none, none⟩, ⟨Op.indexAddr 60 (Operand.tmp 82) (Operand.tmp 83), some 85, none⟩, ⟨Op.store 4 (Operand.tmp 85) (Operand.const (Value.bool true)), none, none⟩] mixed (by decide) rfl fun K hK => ?_
            try simp
            repeat' first | ((refine evL_c ?_); simp [-List.map_set, hm, hk, hn, hb, hfr, hto, hm1, h0, h1, hf1, hf2, hf3, hf5, hf6, hf7, hf8, hf9, hf0, hfa, hw]) | (with_reducible refine And.intro ?_ ?_) | intro _ | (with_reducible assumption) | omega
            all_goals (refine Fin.go hK ?_; clear hK K)
            simp only [Then_normal]
            refine Run.seq ?_
            refine Run.opsM false [⟨Op.assign (Operand.const (Value.bool true)), some 6, none⟩] mixed (by decide) rfl fun K hK => ?_
            try simp
            repeat' first | ((refine evL_c ?_); simp [-List.map_set, hm, hk, hn, hb, hfr, hto, hm1, h0, h1, hf1, hf2, hf3, hf5, hf6, hf7, hf8, hf9, hf0, hfa, hw]) | (with_reducible refine And.intro ?_ ?_) | intro _ | (with_reducible assumption) | omega
            all_goals (refine Fin.go hK ?_; clear hK K)
            simp only [Then_normal]
            refine Run.ret ?_
            try simp only [Then_ret, Blok_ret]
            first
              | (have e : edgeB c p b = false := by simp [edgeB, hm, hk, h31]
                 simp [edgeL, e, hn]; done)
              | (have e : edgeB c p b = false := by simp [edgeB, h73]
                 simp [edgeL, e, hn]; done)
              | (have e : edgeB c p b = true := by simp only [edgeB, h73, hm, hk, Bool.not_false, Bool.and_true, Bool.not_eq_true', decide_eq_false_iff_not]; omega
                 simp [-List.map_set, edgeL, e, hn, hto]; done)


end Go.Proofs.Ytihbejpkfifplaa.Z
