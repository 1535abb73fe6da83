/- Texts of this claim, put together: Pf, Sa, Pq, Pn, Pg, Ph, Ps, Sb, Sc, Sd, Se. -/
import Derived.Test.YtihbejpkfifplaaDc
import Derived.Test.YtihbejpkfifplaaShelf
import Derived.Sort.OwnSortedInts
set_option linter.unusedVariables false
set_option linter.unusedSimpArgs false
namespace Go.Proofs.Ytihbejpkfifplaa.Z
open Go Go.Fw
theorem opsF {Q : Exit → St → Prop} {id : Nat} {ops : Array Oper} {draw : Bool} (los : List LOp) {e : Env} {s : Store} (h : ∀ K : Env → Store → Prop, Fin Q K → EvL P (fun _ => false) K los (enterE ops.toList e) (enterS ops.toList s)) (hk : okReg (fun _ => false) draw ops.toList = true := by decide) (hl : ops.toList.map (lite ops.toList) = los := by rfl) : Run P (.region id ops draw) ⟨e, s⟩ Q := Run.opsM false los mixed hk hl h
theorem opsT {Q : Exit → St → Prop} {id : Nat} {ops : Array Oper} {draw : Bool} (los : List LOp) {e : Env} {s : Store} (h : ∀ K : Env → Store → Prop, Fin Q K → EvL P (fun _ => true) K los (enterE ops.toList e) (enterS ops.toList s)) (hk : okReg (fun _ => true) draw ops.toList = true := by decide) (hl : ops.toList.map (lite ops.toList) = los := by rfl) : Run P (.region id ops draw) ⟨e, s⟩ Q := Run.opsM true los mixed hk hl h
abbrev oo0 : List LOp := [⟨Op.box 86 (Operand.tmp 0), some 3, none⟩, ⟨Op.box 27 (Operand.tmp 1), some 4, none⟩, ⟨Op.assign (Operand.const (Value.bool false)), some 6, none⟩]
abbrev oo1 : List LOp := [⟨Op.assign (Operand.const (Value.bool false)), some 6, none⟩]
abbrev oo2 : List LOp := [⟨Op.assign (Operand.const (Value.bool true)), some 6, none⟩]
abbrev oo3 : List LOp := [⟨Op.assign (Operand.const (Value.slice none 0 0)), some 2, none⟩]
abbrev oo4 : List LOp := [⟨Op.move (Operand.tmp 0), some 3, none⟩, ⟨Op.binOp BinOp.eql 24 (Operand.tmp 3) (Operand.const (Value.slice none 0 0)) 24, some 4, none⟩]
abbrev oo5 : List LOp := [⟨Op.buildSlice 24 0 #[], some 5, none⟩, ⟨Op.move (Operand.tmp 0), some 6, none⟩, ⟨Op.call { callee := Callee.builtin Builtin.append, args := #[Operand.tmp 5, Operand.tmp 6], argTypes := #[24, 24] }, some 7, none⟩, ⟨Op.assign (Operand.tmp 7), some 2, none⟩]
abbrev oo6 : List LOp := [⟨Op.move (Operand.tmp 0), some 3, none⟩, ⟨Op.binOp BinOp.eql 25 (Operand.tmp 3) (Operand.const (Value.slice none 0 0)) 25, some 4, none⟩]
abbrev oo7 : List LOp := [⟨Op.buildSlice 25 0 #[], some 5, none⟩, ⟨Op.move (Operand.tmp 0), some 6, none⟩, ⟨Op.call { callee := Callee.builtin Builtin.append, args := #[Operand.tmp 5, Operand.tmp 6], argTypes := #[25, 25] }, some 7, none⟩, ⟨Op.assign (Operand.tmp 7), some 2, none⟩]
abbrev oo8 : List LOp := [⟨Op.assign (Operand.const (Value.int IntKind.i64 0)), some 4, none⟩]
abbrev oo9 : List LOp := [⟨Op.binOp BinOp.lss 3 (Operand.tmp 8) (Operand.tmp 7) 3, some 9, none⟩]
abbrev oo10 : List LOp := [⟨Op.move (Operand.tmp 8), some 10, none⟩, ⟨Op.assign (Operand.tmp 10), some 5, none⟩]
abbrev oo11 : List LOp := [⟨Op.move (Operand.tmp 5), some 17, none⟩, ⟨Op.assign (Operand.tmp 17), some 4, none⟩]
abbrev oo12 : List LOp := [⟨Op.binOp BinOp.add 3 (Operand.tmp 8) (Operand.const (Value.int IntKind.i64 1)) 3, some 18, none⟩, ⟨Op.move (Operand.tmp 18), some 8, none⟩]
abbrev oo13 : List LOp := [⟨Op.assign (Operand.const (Value.int IntKind.i64 (-1))), some 4, none⟩]
abbrev oo14 : List LOp := [⟨Op.assign (Operand.const (Value.bool false)), some 4, none⟩]
abbrev oo15 : List LOp := [⟨Op.box 27 (Operand.tmp 1), some 3, none⟩, ⟨Op.alloc 45, some 4, none⟩]
abbrev oo16 : List LOp := [⟨Op.fieldAddr 27 (Operand.tmp 3) 0, some 5, none⟩, ⟨Op.load 22 (Operand.tmp 5), some 6, none⟩]
abbrev oo17 : List LOp := [⟨Op.binOp BinOp.eql 22 (Operand.tmp 6) (Operand.const (Value.int IntKind.i64 1)) 22, some 8, none⟩, ⟨Op.assign (Operand.tmp 8), some 7, none⟩]
abbrev oo18 : List LOp := [⟨Op.binOp BinOp.eql 22 (Operand.tmp 6) (Operand.const (Value.int IntKind.i64 2)) 22, some 13, none⟩, ⟨Op.assign (Operand.tmp 13), some 12, none⟩]
abbrev oo19 : List LOp := [⟨Op.binOp BinOp.eql 22 (Operand.tmp 6) (Operand.const (Value.int IntKind.i64 3)) 22, some 18, none⟩, ⟨Op.assign (Operand.tmp 18), some 17, none⟩]
abbrev oo20 : List LOp := [⟨Op.binOp BinOp.eql 22 (Operand.tmp 6) (Operand.const (Value.int IntKind.i64 4)) 22, some 23, none⟩, ⟨Op.assign (Operand.tmp 23), some 22, none⟩]
abbrev oo21 : List LOp := [⟨Op.binOp BinOp.eql 22 (Operand.tmp 6) (Operand.const (Value.int IntKind.i64 5)) 22, some 28, none⟩, ⟨Op.assign (Operand.tmp 28), some 27, none⟩]
abbrev oo22 : List LOp := [⟨Op.binOp BinOp.add 3 (Operand.tmp 52) (Operand.const (Value.int IntKind.i64 1)) 3, some 68, none⟩, ⟨Op.move (Operand.tmp 68), some 52, none⟩]
end Go.Proofs.Ytihbejpkfifplaa.Z
section
set_option maxRecDepth 100000
namespace Go.Proofs.Ytihbejpkfifplaa.Z
open Go Go.Fw
/-- a pattern's edges lie between its nodes -/
def GoodE (c : CoreT) : Prop := ∀ e ∈ c.edges, 0 ≤ e.src ∧ 0 ≤ e.dst ∧ e.src < c.nodes.length ∧ e.dst < c.nodes.length
theorem goodE_of {c : CoreT} (h : patS c.nodes c.edges = true) : GoodE c := by
  intro e he
  simp only [patS, Bool.and_eq_true, Bool.not_eq_true', List.any_eq_false] at h
  have h1 := h.2 e he
  simp only [badE, Bool.or_eq_true, decide_eq_true_eq, not_or] at h1
  split at h1 <;> split at h1 <;> omega
def badEdge (c : CoreT) (p : PlanT) (b : List Bool) : Bool :=
  rdI b (c.nodes.length + rdI p.edges 0) || (!rdI b (if p.back then (rdI c.edges (rdI p.edges 0)).dst else (rdI c.edges (rdI p.edges 0)).src)) || (decide ((rdI c.edges (rdI p.edges 0)).mode = 0) != decide (p.op = 2))
def edgeB (c : CoreT) (p : PlanT) (b : List Bool) : Bool := !decide (p.edges.length ≠ 1 ∨ rdI p.edges 0 < 0 ∨ (c.edges.length : Int) ≤ rdI p.edges 0) && !badEdge c p b
def edgeL (c : CoreT) (p : PlanT) (b : List Bool) : List Bool :=
  if edgeB c p b then (b.set (c.nodes.length + rdI p.edges 0).toNat true).set (if p.back then (rdI c.edges (rdI p.edges 0)).src else (rdI c.edges (rdI p.edges 0)).dst).toNat true else b
@[simp] theorem rdI_toNat {α : Type} [Inhabited α] (l : List α) (i : Int) : rdI l ((i.toNat : Nat) : Int) = rdI l i := by unfold rdI; rw [Int.toNat_natCast]
@[simp] theorem rdI_max {α : Type} [Inhabited α] (l : List α) (i : Int) : rdI l (max i 0) = rdI l i := by unfold rdI; congr 1; omega
theorem encP_ok {p : PlanT} (h : (D.ag (encP p)).ok) : p.kids.length ≤ 9223372036854775807 ∧ p.edges.length ≤ 9223372036854775807 ∧ p.terms.length ≤ 9223372036854775807 := by
  rw [encP_cells] at h
  simp only [D.ok, D.okL, List.length_map] at h
  exact ⟨h.2.1.1, h.2.2.2.1.1, h.2.2.2.2.2.1.1⟩
@[simp] theorem set_encB (l : List Bool) (i : Nat) (v : Bool) : (l.map encB).set i [D.lit (.bool v)] = (l.set i v).map encB := by rw [List.map_set]; rfl
@[simp] theorem set_encI (l : List Int) (i : Nat) (v : Int) : (l.map encI).set i [D.lit (.int .i64 v)] = (l.set i v).map encI := by rw [List.map_set]; rfl
set_option maxHeartbeats 4000000 in
theorem edge_ok (c : CoreT) (p : PlanT) (b : List Bool) (hb : b.length = c.nodes.length + c.edges.length) (hE : GoodE c) : SndW P 73 [.d (.ag (encC c ++ [D.int c.nodes.length])), .d (.ag (encP p)), .rs 0 1 0 b.length] [(0, .data 1 (b.map encB))] (.bool (edgeB c p b)) [(0, .data 1 ((edgeL c p b).map encB))] := by
  obtain ⟨n, hn⟩ : ∃ k, c.nodes.length = k := ⟨_, rfl⟩
  obtain ⟨m, hm⟩ : ∃ m, p.edges.length = m := ⟨_, rfl⟩
  obtain ⟨k, hk⟩ : ∃ k, c.edges.length = k := ⟨_, rfl⟩
  obtain ⟨fr, hfr⟩ : ∃ x, (if p.back then (rdI c.edges (rdI p.edges 0)).dst else (rdI c.edges (rdI p.edges 0)).src) = x := ⟨_, rfl⟩
  obtain ⟨to, hto⟩ : ∃ x, (if p.back then (rdI c.edges (rdI p.edges 0)).src else (rdI c.edges (rdI p.edges 0)).dst) = x := ⟨_, rfl⟩
  rw [hn, hk] at hb
  refine sndW_of [0] Try.func73 rfl (by kernel_rfl) Try.ntmps73 (by simp) (by simp) ?_
  unfold Try.f73
  refine Run.okV 2 rfl fun hL => ?_
  simp only [List.cons_append, List.nil_append, List.length_cons, List.length_nil, Nat.reduceAdd, Nat.reduceSub, List.replicate]
  refine Run.seq ?_
  refine opsF oo0 fun K hK => ?_
  try simp
  repeat' first | ((refine evL_c ?_); simp [-List.map_set, hm, hk, hn, hb, hfr, hto]) | (with_reducible refine And.intro ?_ ?_) | intro _ | (with_reducible assumption) | omega
  all_goals (refine Fin.go hK ?_; clear hK K)
  simp only [Then_normal]
  refine Run.seq ?_
  refine Run.cut [10, 11, 12, 13, 14, 15, 16, 17, 18, 19, 20, 21, 22, 23, 24, 25, 26, 27, 28, 29, 30, 31] [(31, .bool (decide (m ≠ 1 ∨ rdI p.edges 0 < 0 ∨ (k : Int) ≤ rdI p.edges 0)))] [(0, .data 1 (b.map encB)), (400, .vals ((encC c ++ [D.int c.nodes.length]).map .d)), (500, .vals ((encP p).map .d))] ?_ ?_
  · refine opsF [⟨Op.fieldAddr 27 (Operand.tmp 4) 3, some 10, none⟩, ⟨Op.load 24 (Operand.tmp 10), some 11, none⟩, ⟨Op.call { callee := Callee.builtin Builtin.len, args := #[Operand.tmp 11], argTypes := #[24] }, some 12, none⟩, ⟨Op.binOp BinOp.neq 3 (Operand.tmp 12) (Operand.const (Value.int IntKind.i64 1)) 3, some 13, none⟩, ⟨Op.move (Operand.tmp 13), some 14, none⟩, ⟨Op.fieldAddr 27 (Operand.tmp 4) 3, some 15, some (some 14, false)⟩, ⟨Op.load 24 (Operand.tmp 15), some 16, some (some 14, false)⟩, ⟨Op.indexAddr 24 (Operand.tmp 16) (Operand.const (Value.int IntKind.i64 0)), some 17, some (some 14, false)⟩, ⟨Op.load 3 (Operand.tmp 17), some 18, some (some 14, false)⟩, ⟨Op.binOp BinOp.lss 3 (Operand.tmp 18) (Operand.const (Value.int IntKind.i64 0)) 3, some 19, some (some 14, false)⟩, ⟨Op.pick (Operand.tmp 14) (Operand.const (Value.bool true)) (Operand.tmp 19), some 20, none⟩, ⟨Op.move (Operand.tmp 20), some 21, none⟩, ⟨Op.fieldAddr 27 (Operand.tmp 4) 3, some 22, some (some 21, false)⟩, ⟨Op.load 24 (Operand.tmp 22), some 23, some (some 21, false)⟩, ⟨Op.indexAddr 24 (Operand.tmp 23) (Operand.const (Value.int IntKind.i64 0)), some 24, some (some 21, false)⟩, ⟨Op.load 3 (Operand.tmp 24), some 25, some (some 21, false)⟩, ⟨Op.fieldAddr 86 (Operand.tmp 3) 0, some 26, some (some 21, false)⟩, ⟨Op.fieldAddr 33 (Operand.tmp 26) 1, some 27, some (some 21, false)⟩, ⟨Op.load 29 (Operand.tmp 27), some 28, some (some 21, false)⟩, ⟨Op.call { callee := Callee.builtin Builtin.len, args := #[Operand.tmp 28], argTypes := #[29] }, some 29, some (some 21, false)⟩, ⟨Op.binOp BinOp.geq 3 (Operand.tmp 25) (Operand.tmp 29) 3, some 30, some (some 21, false)⟩, ⟨Op.pick (Operand.tmp 21) (Operand.const (Value.bool true)) (Operand.tmp 30), some 31, none⟩] fun K hK => ?_
    try simp
    repeat' first | ((first | refine evL_c ?_ | (refine evL_g rfl ?_; try simp only [gs_tt, gs_ff, gs_tf, gs_ft]) | refine evL_u rfl ?_ | (with_reducible refine gsplit (fun hg => ?_) (fun hg => ?_) <;> try simp at hg)) <;> try simp [-List.map_set, hm, hk, hn, hb, hfr, hto, *]) | (with_reducible refine And.intro ?_ ?_) | intro _ | (with_reducible assumption) | omega
    all_goals (refine Fin.go hK ?_; clear hK K)
    all_goals
      (try simp [hm, hk, hn, hb, hfr, hto]) <;> (first | omega | (simp; done) | (rw [Bool.eq_iff_iff]; simp only [Bool.or_eq_true, Bool.and_eq_true, Bool.not_eq_true', decide_eq_true_eq, decide_eq_false_iff_not]; omega) | (simp_all; done) | (simp_all; omega) | grind)
  · simp only [over, List.foldl, List.set]
    refine Run.cond rfl (fun h31 => ?_) (fun h31 => ?_)
    · replace h31 := of_decide_eq_true h31
      refine Run.seq ?_
      refine opsF oo1 fun K hK => ?_
      try simp
      repeat' first | ((refine evL_c ?_); simp [-List.map_set, hm, hk, hn, hb, hfr, hto]) | (with_reducible refine And.intro ?_ ?_) | intro _ | (with_reducible assumption) | omega
      all_goals (refine Fin.go hK ?_; clear hK K)
      simp only [Then_normal]
      refine Run.ret ?_
      try simp only [Then_ret, Blok_ret]
      first
        | (have e : edgeB c p b = false := by simp [edgeB, hm, hk, h31]
           simp [edgeL, e, hn]; done)
        | (have e : edgeB c p b = false := by simp [edgeB, h73]
           simp [edgeL, e, hn]; done)
        | (have e : edgeB c p b = true := by simp only [edgeB, h73, hm, hk, Bool.not_false, Bool.and_true, Bool.not_eq_true', decide_eq_false_iff_not]; omega
           simp [-List.map_set, edgeL, e, hn, hto]; done)
    · replace h31 := of_decide_eq_false h31
      have hm1 : m = 1 := by omega
      have h0 : 0 ≤ rdI p.edges 0 := by omega
      have h1 : rdI p.edges 0 < k := by omega
      have hG := hE (rdI c.edges (rdI p.edges 0)) (rdI_mem h0 (by omega))
      rw [hn] at hG
      have hf : 0 ≤ fr ∧ fr < n ∧ 0 ≤ to ∧ to < n := by subst hfr; subst hto; split <;> omega
      obtain ⟨hf1, hf2, hf3, hf4⟩ := hf
      have hf5 : fr < (n : Int) + k := by omega
      have hf6 : to < (n : Int) + k := by omega
      have hf7 : fr.toNat < n + k := by omega
      have hf8 : to.toNat < n + k := by omega
      have hf9 : ((n : Int) + rdI p.edges 0).toNat < n + k := by omega
      have hf0 : 0 ≤ (n : Int) + rdI p.edges 0 := by omega
      have hfa : (n : Int) + rdI p.edges 0 < n + k := by omega
      have hw := wrap_id (n := (n : Int) + rdI p.edges 0) (by omega) (by omega)
      refine Run.skip ?_
      simp only [Then_normal]
      refine Run.cut [7, 32, 33, 34, 35, 36, 37, 38, 39, 40] [(7, .pt 800 0 0 0)] [(0, .data 1 (b.map encB)), (400, .vals ((encC c ++ [D.int c.nodes.length]).map .d)), (500, .vals ((encP p).map .d)), (800, .vals ((encE (rdI c.edges (rdI p.edges 0))).map .d))] ?_ ?_
      · refine opsF [⟨Op.fieldAddr 86 (Operand.tmp 3) 0, some 32, none⟩, ⟨Op.fieldAddr 33 (Operand.tmp 32) 1, some 33, none⟩, ⟨Op.load 29 (Operand.tmp 33), some 34, none⟩, ⟨Op.fieldAddr 27 (Operand.tmp 4) 3, some 35, none⟩, ⟨Op.load 24 (Operand.tmp 35), some 36, none⟩, ⟨Op.indexAddr 24 (Operand.tmp 36) (Operand.const (Value.int IntKind.i64 0)), some 37, none⟩, ⟨Op.load 3 (Operand.tmp 37), some 38, none⟩, ⟨Op.indexAddr 29 (Operand.tmp 34) (Operand.tmp 38), some 39, none⟩, ⟨Op.load 105 (Operand.tmp 39), some 40, none⟩, ⟨Op.alloc 105, some 7, none⟩, ⟨Op.store 105 (Operand.tmp 7) (Operand.tmp 40), none, none⟩] fun K hK => ?_
        try simp
        repeat' first | ((refine evL_c ?_); simp [-List.map_set, hm, hk, hn, hb, hfr, hto, hm1, h0, h1, hf1, hf2, hf3, hf5, hf6, hf7, hf8, hf9, hf0, hfa, hw]) | (with_reducible refine And.intro ?_ ?_) | intro _ | (with_reducible assumption) | omega
        all_goals (refine Fin.go hK ?_; clear hK K)
        (try simp [hm, hk, hn, hb, hfr, hto]) <;> (first | omega | (simp; done) | (rw [Bool.eq_iff_iff]; simp only [Bool.or_eq_true, Bool.and_eq_true, Bool.not_eq_true', decide_eq_true_eq, decide_eq_false_iff_not]; omega) | (simp_all; done) | (simp_all; omega) | grind)
      · simp only [over, List.foldl, List.set]
        refine Run.seq ?_
        refine opsF [⟨Op.load 105 (Operand.tmp 7), some 42, none⟩, ⟨Op.fieldAddr 27 (Operand.tmp 4) 4, some 43, none⟩, ⟨Op.load 4 (Operand.tmp 43), some 44, none⟩, ⟨Op.call { callee := Callee.value (Operand.func 92), args := #[Operand.tmp 42, Operand.tmp 44], argTypes := #[105, 4] }, some 45, none⟩, ⟨Op.move (Operand.tmp 45), some 41, none⟩, ⟨Op.extract (Operand.tmp 41) 0, some 46, none⟩, ⟨Op.extract (Operand.tmp 41) 1, some 47, none⟩, ⟨Op.assign (Operand.tmp 46), some 8, none⟩, ⟨Op.assign (Operand.tmp 47), some 9, none⟩] fun K hK => ?_
        try simp
        repeat' first | (refine ecall (ends_ok (rdI c.edges (rdI p.edges 0)) p.back) rfl ?_) | ((refine evL_c ?_); simp [-List.map_set, hm, hk, hn, hb, hfr, hto, hm1, h0, h1, hf1, hf2, hf3, hf5, hf6, hf7, hf8, hf9, hf0, hfa, hw]) | (with_reducible refine And.intro ?_ ?_) | intro _ | (with_reducible assumption) | omega
        all_goals (refine Fin.go hK ?_; clear hK K)
        simp only [Then_normal]
        refine Run.seq ?_
        refine Run.cut [48, 49, 50, 51, 52, 53, 54, 55, 56, 57, 58, 59, 60, 61, 62, 63, 64, 65, 66, 67, 68, 69, 70, 71, 72, 73] [(73, .bool (badEdge c p b))] [(0, .data 1 (b.map encB)), (400, .vals ((encC c ++ [D.int c.nodes.length]).map .d)), (500, .vals ((encP p).map .d)), (800, .vals ((encE (rdI c.edges (rdI p.edges 0))).map .d))] ?_ ?_
        · refine opsF [⟨Op.move (Operand.tmp 2), some 48, none⟩, ⟨Op.fieldAddr 86 (Operand.tmp 3) 1, some 49, none⟩, ⟨Op.load 3 (Operand.tmp 49), some 50, none⟩, ⟨Op.fieldAddr 27 (Operand.tmp 4) 3, some 51, none⟩, ⟨Op.load 24 (Operand.tmp 51), some 52, none⟩, ⟨Op.indexAddr 24 (Operand.tmp 52) (Operand.const (Value.int IntKind.i64 0)), some 53, none⟩, ⟨Op.load 3 (Operand.tmp 53), some 54, none⟩, ⟨Op.binOp BinOp.add 3 (Operand.tmp 50) (Operand.tmp 54) 3, some 55, none⟩, ⟨Op.indexAddr 60 (Operand.tmp 48) (Operand.tmp 55), some 56, none⟩, ⟨Op.load 4 (Operand.tmp 56), some 57, none⟩, ⟨Op.move (Operand.tmp 57), some 58, none⟩, ⟨Op.move (Operand.tmp 2), some 59, some (some 58, false)⟩, ⟨Op.move (Operand.tmp 8), some 60, some (some 58, false)⟩, ⟨Op.indexAddr 60 (Operand.tmp 59) (Operand.tmp 60), some 61, some (some 58, false)⟩, ⟨Op.load 4 (Operand.tmp 61), some 62, some (some 58, false)⟩, ⟨Op.unOp UnOp.not 4 (Operand.tmp 62), some 63, some (some 58, false)⟩, ⟨Op.pick (Operand.tmp 58) (Operand.const (Value.bool true)) (Operand.tmp 63), some 64, none⟩, ⟨Op.move (Operand.tmp 64), some 65, none⟩, ⟨Op.fieldAddr 105 (Operand.tmp 7) 4, some 66, some (some 65, false)⟩, ⟨Op.load 103 (Operand.tmp 66), some 67, some (some 65, false)⟩, ⟨Op.binOp BinOp.eql 103 (Operand.tmp 67) (Operand.const (Value.int IntKind.i64 0)) 103, some 68, some (some 65, false)⟩, ⟨Op.fieldAddr 27 (Operand.tmp 4) 0, some 69, some (some 65, false)⟩, ⟨Op.load 22 (Operand.tmp 69), some 70, some (some 65, false)⟩, ⟨Op.binOp BinOp.eql 22 (Operand.tmp 70) (Operand.const (Value.int IntKind.i64 2)) 22, some 71, some (some 65, false)⟩, ⟨Op.binOp BinOp.neq 4 (Operand.tmp 68) (Operand.tmp 71) 4, some 72, some (some 65, false)⟩, ⟨Op.pick (Operand.tmp 65) (Operand.const (Value.bool true)) (Operand.tmp 72), some 73, none⟩] fun K hK => ?_
          try simp
          repeat' first | ((first | refine evL_c ?_ | (refine evL_g rfl ?_; try simp only [gs_tt, gs_ff, gs_tf, gs_ft]) | refine evL_u rfl ?_ | (with_reducible refine gsplit (fun hg => ?_) (fun hg => ?_) <;> try simp at hg)) <;> try simp [-List.map_set, hm, hk, hn, hb, hfr, hto, hm1, h0, h1, hf1, hf2, hf3, hf5, hf6, hf7, hf8, hf9, hf0, hfa, hw]) | (with_reducible refine And.intro ?_ ?_) | intro _ | (with_reducible assumption) | omega
          all_goals (refine Fin.go hK ?_; clear hK K)
          all_goals
            (try simp [hm, hk, hn, hb, hfr, hto, badEdge]) <;> (first | omega | (simp; done) | (rw [Bool.eq_iff_iff]; simp only [Bool.or_eq_true, Bool.and_eq_true, Bool.not_eq_true', decide_eq_true_eq, decide_eq_false_iff_not]; omega) | (simp_all; done) | (simp_all; omega) | grind)
        · simp only [over, List.foldl, List.set]
          refine Run.cond rfl (fun h73 => ?_) (fun h73 => ?_)
          · try simp at h73
            refine Run.seq ?_
            refine opsF oo1 fun K hK => ?_
            try simp
            repeat' first | ((refine evL_c ?_); simp [-List.map_set, hm, hk, hn, hb, hfr, hto, hm1, h0, h1, hf1, hf2, hf3, hf5, hf6, hf7, hf8, hf9, hf0, hfa, hw]) | (with_reducible refine And.intro ?_ ?_) | intro _ | (with_reducible assumption) | omega
            all_goals (refine Fin.go hK ?_; clear hK K)
            simp only [Then_normal]
            refine Run.ret ?_
            try simp only [Then_ret, Blok_ret]
            first
              | (have e : edgeB c p b = false := by simp [edgeB, hm, hk, h31]
                 simp [edgeL, e, hn]; done)
              | (have e : edgeB c p b = false := by simp [edgeB, h73]
                 simp [edgeL, e, hn]; done)
              | (have e : edgeB c p b = true := by simp only [edgeB, h73, hm, hk, Bool.not_false, Bool.and_true, Bool.not_eq_true', decide_eq_false_iff_not]; omega
                 simp [-List.map_set, edgeL, e, hn, hto]; done)
          · try simp at h73
            refine Run.skip ?_
            simp only [Then_normal]
            refine Run.seq ?_
            refine opsF [⟨Op.move (Operand.tmp 2), some 74, none⟩, ⟨Op.fieldAddr 86 (Operand.tmp 3) 1, some 75, none⟩, ⟨Op.load 3 (Operand.tmp 75), some 76, none⟩, ⟨Op.fieldAddr 27 (Operand.tmp 4) 3, some 77, none⟩, ⟨Op.load 24 (Operand.tmp 77), some 78, none⟩, ⟨Op.indexAddr 24 (Operand.tmp 78) (Operand.const (Value.int IntKind.i64 0)), some 79, none⟩, ⟨Op.load 3 (Operand.tmp 79), some 80, none⟩, ⟨Op.binOp BinOp.add 3 (Operand.tmp 76) (Operand.tmp 80) 3, some 81, none⟩, ⟨Op.move (Operand.tmp 2), some 82, none⟩, ⟨Op.move (Operand.tmp 9), some 83, none⟩, ⟨Op.indexAddr 60 (Operand.tmp 74) (Operand.tmp 81), some 84, none⟩, ⟨Op.store 4 (Operand.tmp 84) (Operand.const (Value.bool true)), none, none⟩, ⟨Op.indexAddr 60 (Operand.tmp 82) (Operand.tmp 83), some 85, none⟩, ⟨Op.store 4 (Operand.tmp 85) (Operand.const (Value.bool true)), none, none⟩] fun K hK => ?_
            try simp
            repeat' first | ((refine evL_c ?_); simp [-List.map_set, hm, hk, hn, hb, hfr, hto, hm1, h0, h1, hf1, hf2, hf3, hf5, hf6, hf7, hf8, hf9, hf0, hfa, hw]) | (with_reducible refine And.intro ?_ ?_) | intro _ | (with_reducible assumption) | omega
            all_goals (refine Fin.go hK ?_; clear hK K)
            simp only [Then_normal]
            refine Run.seq ?_
            refine opsF oo2 fun K hK => ?_
            try simp
            repeat' first | ((refine evL_c ?_); simp [-List.map_set, hm, hk, hn, hb, hfr, hto, hm1, h0, h1, hf1, hf2, hf3, hf5, hf6, hf7, hf8, hf9, hf0, hfa, hw]) | (with_reducible refine And.intro ?_ ?_) | intro _ | (with_reducible assumption) | omega
            all_goals (refine Fin.go hK ?_; clear hK K)
            simp only [Then_normal]
            refine Run.ret ?_
            try simp only [Then_ret, Blok_ret]
            first
              | (have e : edgeB c p b = false := by simp [edgeB, hm, hk, h31]
                 simp [edgeL, e, hn]; done)
              | (have e : edgeB c p b = false := by simp [edgeB, h73]
                 simp [edgeL, e, hn]; done)
              | (have e : edgeB c p b = true := by simp only [edgeB, h73, hm, hk, Bool.not_false, Bool.and_true, Bool.not_eq_true', decide_eq_false_iff_not]; omega
                 simp [-List.map_set, edgeL, e, hn, hto]; done)


end Go.Proofs.Ytihbejpkfifplaa.Z
end
section
set_option maxRecDepth 100000
namespace Go.Proofs.Ytihbejpkfifplaa.Z
open Go Go.Fw
theorem cloneIA_ok (l : List Int) (h0 : 0 < l.length) (hl : l.length ≤ 2000000) : Snd P 89 [.d (.sl false (l.map encI))] (.d (.sl false (l.map encI))) [] := by
  obtain ⟨m, hm⟩ : ∃ m, l.length = m := ⟨_, rfl⟩
  have hne : ¬ l = [] := by rintro rfl; simp at h0
  rw [hm] at h0 hl
  refine snd_of [] Try.func89 rfl (by kernel_rfl) Try.ntmps89 (by simp) ?_
  unfold Try.f89
  simp only [List.cons_append, List.nil_append, List.length_cons, List.length_nil, Nat.reduceAdd, Nat.reduceSub, List.replicate]
  refine Run.seq ?_
  refine opsF oo3 fun K hK => ?_
  try simp
  repeat' first | ((refine evL_c ?_); simp [hm, h0, hne]) | (with_reducible refine And.intro ?_ ?_) | intro _ | (with_reducible assumption) | omega
  all_goals (refine Fin.go hK ?_; clear hK K)
  simp only [Then_normal]
  refine Run.seq ?_
  refine Run.seq ?_
  refine opsF oo4 fun K hK => ?_
  try simp
  repeat' first | ((refine evL_c ?_); simp [hm, h0, hne]) | (with_reducible refine And.intro ?_ ?_) | intro _ | (with_reducible assumption) | omega
  all_goals (refine Fin.go hK ?_; clear hK K)
  simp only [Then_normal]
  refine Run.cond rfl (fun h4 => ?_) (fun h4 => ?_)
  · simp at h4
  · skip
    refine Run.skip ?_
    simp only [Then_normal]
    refine Run.seq ?_
    refine opsF oo5 fun K hK => ?_
    try simp
    repeat' first | ((refine evL_c ?_); simp [hm, h0, hne]) | (with_reducible refine And.intro ?_ ?_) | intro _ | (with_reducible assumption) | omega
    all_goals (refine Fin.go hK ?_; clear hK K)
    simp only [Then_normal]
    refine Run.ret ?_
    try simp only [Then_ret, Blok_ret]
    simp [hm, List.take_of_length_le]

theorem cloneIN_ok : Snd P 89 [.d (.sl false [])] (.d (.sl false [])) [] := by
  refine snd_of [] Try.func89 rfl (by kernel_rfl) Try.ntmps89 (by simp) ?_
  unfold Try.f89
  simp only [List.cons_append, List.nil_append, List.length_cons, List.length_nil, Nat.reduceAdd, Nat.reduceSub, List.replicate]
  refine Run.spl 0 rfl (fun cap => ?_) ?_ <;> simp only [List.set]
  · refine Run.seq ?_
    refine opsF oo3 fun K hK => ?_
    try simp
    repeat' first | ((refine evL_c ?_); simp) | (with_reducible refine And.intro ?_ ?_) | intro _ | (with_reducible assumption) | omega
    all_goals (refine Fin.go hK ?_; clear hK K)
    simp only [Then_normal]
    refine Run.seq ?_
    refine Run.seq ?_
    refine opsF oo4 fun K hK => ?_
    try simp
    repeat' first | ((refine evL_c ?_); simp) | (with_reducible refine And.intro ?_ ?_) | intro _ | (with_reducible assumption) | omega
    all_goals (refine Fin.go hK ?_; clear hK K)
    simp only [Then_normal]
    refine Run.cond rfl (fun h4 => ?_) (fun h4 => ?_)
    · skip
      refine Run.seq ?_
      refine opsF oo3 fun K hK => ?_
      try simp
      repeat' first | ((refine evL_c ?_); simp) | (with_reducible refine And.intro ?_ ?_) | intro _ | (with_reducible assumption) | omega
      all_goals (refine Fin.go hK ?_; clear hK K)
      simp only [Then_normal]
      refine Run.subV 2 (.d (.sl false [])) rfl nil_sl ?_
      simp only [List.set]
      refine Run.ret ?_
      try simp only [Then_ret, Blok_ret]
      simp
    · simp at h4
  · refine Run.seq ?_
    refine opsF oo3 fun K hK => ?_
    try simp
    repeat' first | ((refine evL_c ?_); simp) | (with_reducible refine And.intro ?_ ?_) | intro _ | (with_reducible assumption) | omega
    all_goals (refine Fin.go hK ?_; clear hK K)
    simp only [Then_normal]
    refine Run.seq ?_
    refine Run.seq ?_
    refine opsF oo4 fun K hK => ?_
    try simp
    repeat' first | ((refine evL_c ?_); simp) | (with_reducible refine And.intro ?_ ?_) | intro _ | (with_reducible assumption) | omega
    all_goals (refine Fin.go hK ?_; clear hK K)
    simp only [Then_normal]
    refine Run.cond rfl (fun h4 => ?_) (fun h4 => ?_)
    · simp at h4
    · skip
      refine Run.skip ?_
      simp only [Then_normal]
      refine Run.seq ?_
      refine opsF oo5 fun K hK => ?_
      try simp
      repeat' first | ((refine evL_c ?_); simp) | (with_reducible refine And.intro ?_ ?_) | intro _ | (with_reducible assumption) | omega
      all_goals (refine Fin.go hK ?_; clear hK K)
      simp only [Then_normal]
      refine Run.ret ?_
      try simp only [Then_ret, Blok_ret]
      simp

theorem cloneI_ok (l : List Int) (hl : l.length ≤ 2000000) : Snd P 89 [.d (.sl false (l.map encI))] (.d (.sl false (l.map encI))) [] := by
  cases l with
  | nil => exact cloneIN_ok
  | cons x r => exact cloneIA_ok (x :: r) (by simp) hl

theorem cloneTA_ok (l : List TermT) (h0 : 0 < l.length) (hl : l.length ≤ 2000000) : Snd P 40 [.d (.sl false (l.map encT))] (.d (.sl false (l.map encT))) [] := by
  obtain ⟨m, hm⟩ : ∃ m, l.length = m := ⟨_, rfl⟩
  have hne : ¬ l = [] := by rintro rfl; simp at h0
  rw [hm] at h0 hl
  refine snd_of [] Try.func40 rfl (by kernel_rfl) Try.ntmps40 (by simp) ?_
  unfold Try.f40
  simp only [List.cons_append, List.nil_append, List.length_cons, List.length_nil, Nat.reduceAdd, Nat.reduceSub, List.replicate]
  refine Run.seq ?_
  refine opsF oo3 fun K hK => ?_
  try simp
  repeat' first | ((refine evL_c ?_); simp [hm, h0, hne]) | (with_reducible refine And.intro ?_ ?_) | intro _ | (with_reducible assumption) | omega
  all_goals (refine Fin.go hK ?_; clear hK K)
  simp only [Then_normal]
  refine Run.seq ?_
  refine Run.seq ?_
  refine opsF oo6 fun K hK => ?_
  try simp
  repeat' first | ((refine evL_c ?_); simp [hm, h0, hne]) | (with_reducible refine And.intro ?_ ?_) | intro _ | (with_reducible assumption) | omega
  all_goals (refine Fin.go hK ?_; clear hK K)
  simp only [Then_normal]
  refine Run.cond rfl (fun h4 => ?_) (fun h4 => ?_)
  · simp at h4
  · skip
    refine Run.skip ?_
    simp only [Then_normal]
    refine Run.seq ?_
    refine opsF oo7 fun K hK => ?_
    try simp
    repeat' first | ((refine evL_c ?_); simp [hm, h0, hne]) | (with_reducible refine And.intro ?_ ?_) | intro _ | (with_reducible assumption) | omega
    all_goals (refine Fin.go hK ?_; clear hK K)
    simp only [Then_normal]
    refine Run.ret ?_
    try simp only [Then_ret, Blok_ret]
    simp [hm, List.take_of_length_le]

theorem cloneTN_ok : Snd P 40 [.d (.sl false [])] (.d (.sl false [])) [] := by
  refine snd_of [] Try.func40 rfl (by kernel_rfl) Try.ntmps40 (by simp) ?_
  unfold Try.f40
  simp only [List.cons_append, List.nil_append, List.length_cons, List.length_nil, Nat.reduceAdd, Nat.reduceSub, List.replicate]
  refine Run.spl 0 rfl (fun cap => ?_) ?_ <;> simp only [List.set]
  · refine Run.seq ?_
    refine opsF oo3 fun K hK => ?_
    try simp
    repeat' first | ((refine evL_c ?_); simp) | (with_reducible refine And.intro ?_ ?_) | intro _ | (with_reducible assumption) | omega
    all_goals (refine Fin.go hK ?_; clear hK K)
    simp only [Then_normal]
    refine Run.seq ?_
    refine Run.seq ?_
    refine opsF oo6 fun K hK => ?_
    try simp
    repeat' first | ((refine evL_c ?_); simp) | (with_reducible refine And.intro ?_ ?_) | intro _ | (with_reducible assumption) | omega
    all_goals (refine Fin.go hK ?_; clear hK K)
    simp only [Then_normal]
    refine Run.cond rfl (fun h4 => ?_) (fun h4 => ?_)
    · skip
      refine Run.seq ?_
      refine opsF oo3 fun K hK => ?_
      try simp
      repeat' first | ((refine evL_c ?_); simp) | (with_reducible refine And.intro ?_ ?_) | intro _ | (with_reducible assumption) | omega
      all_goals (refine Fin.go hK ?_; clear hK K)
      simp only [Then_normal]
      refine Run.subV 2 (.d (.sl false [])) rfl nil_sl ?_
      simp only [List.set]
      refine Run.ret ?_
      try simp only [Then_ret, Blok_ret]
      simp
    · simp at h4
  · refine Run.seq ?_
    refine opsF oo3 fun K hK => ?_
    try simp
    repeat' first | ((refine evL_c ?_); simp) | (with_reducible refine And.intro ?_ ?_) | intro _ | (with_reducible assumption) | omega
    all_goals (refine Fin.go hK ?_; clear hK K)
    simp only [Then_normal]
    refine Run.seq ?_
    refine Run.seq ?_
    refine opsF oo6 fun K hK => ?_
    try simp
    repeat' first | ((refine evL_c ?_); simp) | (with_reducible refine And.intro ?_ ?_) | intro _ | (with_reducible assumption) | omega
    all_goals (refine Fin.go hK ?_; clear hK K)
    simp only [Then_normal]
    refine Run.cond rfl (fun h4 => ?_) (fun h4 => ?_)
    · simp at h4
    · skip
      refine Run.skip ?_
      simp only [Then_normal]
      refine Run.seq ?_
      refine opsF oo7 fun K hK => ?_
      try simp
      repeat' first | ((refine evL_c ?_); simp) | (with_reducible refine And.intro ?_ ?_) | intro _ | (with_reducible assumption) | omega
      all_goals (refine Fin.go hK ?_; clear hK K)
      simp only [Then_normal]
      refine Run.ret ?_
      try simp only [Then_ret, Blok_ret]
      simp

theorem cloneT_ok (l : List TermT) (hl : l.length ≤ 2000000) : Snd P 40 [.d (.sl false (l.map encT))] (.d (.sl false (l.map encT))) [] := by
  cases l with
  | nil => exact cloneTN_ok
  | cons x r => exact cloneTA_ok (x :: r) (by simp) hl


end Go.Proofs.Ytihbejpkfifplaa.Z
end
section
namespace Go.Proofs.Ytihbejpkfifplaa.Z
open Go Go.Fw
theorem put_ints {w w' : World} {X : Nat → Prop} {m : Nat → Option Nat} {b : Nat} {cs : Array Value} {ty : TypeId} {fr : Nat × Nat} {l ts : List Int} (hm : m 0 = some b) (hcs : w.heap[b]? = some (.cells cs ty fr)) (hfree : Free fr cs.size) (hlen : l.length ≤ cs.size)
    (hX : ∀ x, X x → x < w.heap.size ∧ ¬ Own m [(0, .data 1 (l.map encI))] x) (hg : w.grownBy w' (some b)) (hw' : w'.heap[b]? = some (.cells (Go.Sort.putCells (Value.int .i64) 0 ts.toArray cs) ty fr)) (hts : ts.length = l.length) (hok : ∀ x ∈ ts, okLit (.int .i64 x) = true) :
    Ext (Own m [(0, .data 1 (l.map encI))]) w w' ∧ SRel w' X m [(0, .data 1 (ts.map encI))] ∧ ∀ r : Nat, r = b → Own m [(0, .data 1 (l.map encI))] r := by
  have hown : ∀ r : Nat, r = b → Own m [(0, .data 1 (l.map encI))] r := fun r e => ⟨0, _, rfl, by rw [e]; exact hm⟩
  have hsz : (Go.Sort.putCells (Value.int .i64) 0 ts.toArray cs).size = cs.size := by simp [Go.Sort.putCells]
  refine ⟨⟨hg.os, hg.tape, hg.output, hg.size, fun r hr hn => hg.block r hr (fun e => hn (hown r (Option.some.inj e))), fun r c t f hc => ?_⟩, ⟨fun id blk hi => ?_, fun i j r h1 h2 h3 h4 => ?_⟩, hown⟩
  · by_cases e : r = b
    · subst e
      rw [hcs] at hc
      obtain ⟨rfl, rfl, rfl⟩ := Obj.cells.inj (Option.some.inj hc)
      exact ⟨_, hw', hsz⟩
    · have hlt : r < w.heap.size := (Array.getElem?_eq_some_iff.1 hc).1
      exact ⟨c, by rw [hg.block r hlt (fun q => e (Option.some.inj q))]; exact hc, rfl⟩
  · have hi0 : id = 0 ∧ blk = .data 1 (ts.map encI) := by
      simp only [getB] at hi
      split at hi
      · rename_i e; exact ⟨e.symm, (Option.some.inj hi).symm⟩
      · cases hi
    obtain ⟨rfl, rfl⟩ := hi0
    refine .inl ⟨b, hm, _, ty, fr, hw', by rw [hsz]; exact hfree, by rw [hsz, List.length_map]; omega, fun r hr => ?_, fun i j r x hr hx => ?_⟩
    · obtain ⟨v, _, rfl⟩ := List.mem_map.1 hr; rfl
    · rw [List.getElem?_map] at hr
      obtain ⟨v, hv, rfl⟩ := Option.map_eq_some_iff.1 hr
      have hlt := (List.getElem?_eq_some_iff.1 hv).1
      have hj : j = 0 ∧ x = D.int v := by
        cases j with
        | zero => simp at hx; exact ⟨rfl, hx.symm⟩
        | succ j => simp at hx
      obtain ⟨rfl, rfl⟩ := hj
      refine ⟨.int .i64 v, ?_, rfl, .lit _ (hok v (List.mem_of_getElem? hv))⟩
      have hc : i < cs.size := by omega
      simp only [Nat.mul_one, Nat.add_zero, Go.Sort.putCells, Array.getElem?_mapIdx, Array.getElem?_eq_getElem hc, Option.map_some]
      rw [if_pos ⟨Nat.zero_le _, by simpa using hlt⟩]
      simp [hlt, (List.getElem?_eq_some_iff.1 hv).2]
  · have q : ∀ k, (getB [(0, Blk.data 1 (ts.map encI))] k).isSome = true → k = 0 := fun k hk => by
      simp only [getB] at hk
      split at hk
      · rename_i e; exact e.symm
      · cases hk
    rw [q i h3, q j h4]
/-- a row that a call is given, as the kit's contracts read it -/
theorem row_in {w : World} {X : Nat → Prop} {m : Nat → Option Nat} {l : List Int} {v : Value} (hS : SRel w X m [(0, .data 1 (l.map encI))]) (hv : VRel w (Live X m [(0, .data 1 (l.map encI))]) m (.rs 0 1 0 l.length) v) (hl : 0 < l.length) :
    ∃ b cap cs ty fr, v = .slice (some ⟨b, 0, none⟩) l.length cap ∧ m 0 = some b ∧ l.length ≤ cap ∧ cap ≤ cs.size ∧ w.heap[b]? = some (.cells cs ty fr) ∧ Free fr cs.size ∧ Go.Sort.Holds (Value.int .i64) w b 0 l.toArray ∧ ∀ x ∈ l, okLit (.int .i64 x) = true := by
  generalize hn : l.length = n at hv
  cases hv with
  | rsE => omega
  | rs id sz off len cap b cs ty fr hm hc hx hh hs =>
    rcases hS.blk 0 _ rfl with ⟨b', h1, cs', ty', fr', h2, h3, h4, h5, h6⟩ | ⟨h1, _⟩
    · rw [hm] at h1
      obtain rfl := Option.some.inj h1
      rw [hh] at h2
      obtain ⟨rfl, rfl, rfl⟩ := Obj.cells.inj (Option.some.inj h2)
      have hcell : ∀ j (hj : j < l.length), cs[j]? = some (.int .i64 l[j]) ∧ okLit (.int .i64 l[j]) = true := fun j hj => by
        obtain ⟨v, q1, q2, q3⟩ := h6 j 0 (encI l[j]) (D.int l[j]) (by simp [hj]) (by simp)
        cases q3 with
        | lit _ h => exact ⟨by simpa using q1, h⟩
      refine ⟨b, cap, cs, ty, fr, rfl, hm, by omega, by omega, hh, h3, fun j hj => ?_, fun x hx => ?_⟩
      · have hj' : j < l.length := by simpa using hj
        refine ⟨?_, ?_⟩
        · simp only [World.cell?, hh, Nat.zero_add]
          simp only [Option.isSome_none, Bool.false_eq_true, if_false]
          rw [(hcell j hj').1]
          simp [hj']
        · have hlt : j < cs.size := by
            have := (hcell j hj').1
            exact (Array.getElem?_eq_some_iff.1 this).1
          have := h3 j hlt
          simp only [World.frozen?, hh, Nat.zero_add]
          simpa using this
      · obtain ⟨j, hj⟩ := List.getElem?_of_mem hx
        have hlt := (List.getElem?_eq_some_iff.1 hj).1
        have := (hcell j hlt).2
        rw [(List.getElem?_eq_some_iff.1 hj).2] at this
        exact this
    · rw [hm] at h1; cases h1
theorem keep_nil {w : World} {X : Nat → Prop} {m : Nat → Option Nat} {s : Store} : Ext (Own m s) w w := ⟨rfl, rfl, rfl, Nat.le_refl _, fun _ _ _ => rfl, fun _ c _ _ h => ⟨c, h, rfl⟩⟩
theorem sort_ok (l : List Int) (hl : l.length < 4611686018427387904) : SndW P 98 [.rs 0 1 0 l.length] [(0, .data 1 (l.map encI))] (.tup []) [(0, .data 1 ((l.mergeSort fun x y => decide (x ≤ y)).map encI))] := by
  refine ⟨by kernel_rfl, fun w X m0 vs hX hS hargs => ?_⟩
  obtain ⟨v, tl, rfl, hv, ht⟩ := hargs.head
  have : tl = [] := by have := ht.len; simpa using this
  subst this
  by_cases hp : 0 < l.length
  · obtain ⟨b, cap, cs, ty, fr, rfl, hm, hc, hcs, hh, hf, hH, hk⟩ := row_in hS hv hp
    have hb : b < w.heap.size := (Array.getElem?_eq_some_iff.1 hh).1
    refine (Go.Proofs.Try.slices_Sort_int b 0 cap l w hH hb hl).mono ?_
    rintro e w' ⟨rfl, n, os, rfl⟩
    obtain ⟨h1, h2, h3⟩ := put_ints (ts := l.mergeSort fun x y => decide (x ≤ y)) hm hh hf (by omega) hX (grownBy_sortedI _) (heap_sortedI _ hh) (by simp) (fun x hx => hk x (by simpa using hx))
    refine ⟨_, m0, rfl, h1, .tup [] [] rfl (fun j x v h => by simp at h), h2, fun r hr => ?_, fun j _ _ => rfl⟩
    obtain ⟨i, blk, g1, g2⟩ := hr
    simp only [getB] at g1
    split at g1
    · rename_i e; subst e; rw [hm] at g2; exact .inl (h3 r (Option.some.inj g2).symm)
    · cases g1
  · obtain rfl : l = [] := by cases l with
      | nil => rfl
      | cons _ _ => simp at hp
    obtain ⟨A, cap, rfl⟩ : ∃ A cap, v = .slice A 0 cap := by
      generalize hn : ([] : List Int).length = n at hv
      cases hv with
      | rsE => exact ⟨_, _, rfl⟩
      | rs => simp at hn; subst hn; exact ⟨_, _, rfl⟩
    refine (Go.Proofs.Try.slices_Sort_int_none A cap w).mono ?_
    rintro e w' ⟨rfl, rfl⟩
    refine ⟨_, m0, rfl, keep_nil (X := X), .tup [] [] rfl (fun j x v h => by simp at h), by simpa using hS, fun r hr => .inl (by simpa using hr), fun j _ _ => rfl⟩
theorem compact_mem {l : List Int} {x : Int} (h : x ∈ Go.Lib.compact l) : x ∈ l := by
  unfold Go.Lib.compact Go.Lib.compactUpTo at h
  obtain ⟨j, hj, rfl⟩ := List.mem_map.1 h
  have hlt : j < l.length := by have := (List.mem_filter.1 hj).1; simpa using this
  simp [hlt]
theorem compact_ok (l : List Int) (hl : l.length ≤ 9223372036854775807) : SndW P 99 [.rs 0 1 0 l.length] [(0, .data 1 (l.map encI))] (.rs 0 1 0 (Go.Lib.compact l).length) [(0, .data 1 ((Go.Lib.compact l ++ List.replicate (l.length - (Go.Lib.compact l).length) 0).map encI))] := by
  refine ⟨by kernel_rfl, fun w X m0 vs hX hS hargs => ?_⟩
  obtain ⟨v, tl, rfl, hv, ht⟩ := hargs.head
  have : tl = [] := by have := ht.len; simpa using this
  subst this
  by_cases hp : 0 < l.length
  · obtain ⟨b, cap, cs, ty, fr, rfl, hm, hc, hcs, hh, hf, hH, hk⟩ := row_in hS hv hp
    have hb : b < w.heap.size := (Array.getElem?_eq_some_iff.1 hh).1
    have hcl := Go.Lib.compact_length_le l
    refine (Go.Proofs.Try.slices_Compact_int b 0 cap l w hH hl hc).mono ?_
    rintro e w' ⟨rfl, q, rfl⟩
    have g1 := grownBy_sortedI (w := w) (g := b) (n := q) (os := #[]) (Go.Lib.compact l ++ List.replicate (l.length - (Go.Lib.compact l).length) 0).toArray
    have g2 := heap_sortedI (n := q) (os := #[]) (Go.Lib.compact l ++ List.replicate (l.length - (Go.Lib.compact l).length) 0).toArray hh
    rw [Go.Sort.grow_empty] at g1 g2
    obtain ⟨h1, h2, h3⟩ := put_ints (ts := Go.Lib.compact l ++ List.replicate (l.length - (Go.Lib.compact l).length) 0) hm hh hf (by omega) hX g1 g2 (by simp; omega) (fun x hx => by
      rcases List.mem_append.1 hx with hx | hx
      · exact hk x (compact_mem hx)
      · rw [(List.mem_replicate.1 hx).2]; rfl)
    have hsz : (Go.Sort.putCells (Value.int .i64) 0 (Go.Lib.compact l ++ List.replicate (l.length - (Go.Lib.compact l).length) 0).toArray cs).size = cs.size := by simp [Go.Sort.putCells]
    refine ⟨_, m0, rfl, h1, VRel.rs 0 1 0 _ cap b _ ty fr hm (by omega) (by omega) g2 (by rw [hsz]; omega), h2, fun r hr => ?_, fun j _ _ => rfl⟩
    obtain ⟨i, blk, g1, g2⟩ := hr
    simp only [getB] at g1
    split at g1
    · rename_i e; subst e; rw [hm] at g2; exact .inl (h3 r (Option.some.inj g2).symm)
    · cases g1
  · obtain rfl : l = [] := by cases l with
      | nil => rfl
      | cons _ _ => simp at hp
    obtain ⟨A, cap, rfl⟩ : ∃ A cap, v = .slice A 0 cap := by
      generalize hn : ([] : List Int).length = n at hv
      cases hv with
      | rsE => exact ⟨_, _, rfl⟩
      | rs => simp at hn; subst hn; exact ⟨_, _, rfl⟩
    refine (Go.Proofs.Try.slices_Compact_int_empty A cap w).mono ?_
    rintro e w' ⟨rfl, rfl⟩
    exact ⟨_, m0, rfl, keep_nil (X := X), hv, hS, fun r hr => .inl hr, fun j _ _ => rfl⟩
end Go.Proofs.Ytihbejpkfifplaa.Z
end
section
set_option maxRecDepth 100000
namespace Go.Proofs.Ytihbejpkfifplaa.Z
open Go Go.Fw
mutual
def slotsT : TermT → List Int
  | .mk op kids sl _ _ => Go.Lib.compact (((if op = 2 ∨ op = 3 then [sl] else []) ++ slotsL kids).mergeSort fun x y => decide (x ≤ y))
def slotsL : List TermT → List Int
  | [] => []
  | t :: r => slotsT t ++ slotsL r
end
mutual
def cntT : TermT → Nat
  | .mk _ kids _ _ _ => 1 + cntL kids
def cntL : List TermT → Nat
  | [] => 0
  | t :: r => cntT t + cntL r
end
def own1 (op sl : Int) : List Int := if op = 2 ∨ op = 3 then [sl] else []
theorem own1_len (op sl : Int) : (own1 op sl).length ≤ 1 := by unfold own1; split <;> simp
theorem slotsT_eq (t : TermT) : slotsT t = Go.Lib.compact ((own1 t.op t.slot ++ slotsL t.kids).mergeSort fun x y => decide (x ≤ y)) := by cases t; rw [slotsT]; rfl
theorem cntT_eq (t : TermT) : cntT t = 1 + cntL t.kids := by cases t; rw [cntT]; rfl
theorem slotsL_app (a b : List TermT) : slotsL (a ++ b) = slotsL a ++ slotsL b := by
  induction a with
  | nil => rfl
  | cons x r ih => rw [List.cons_append, slotsL, slotsL, ih, List.append_assoc]
theorem cntL_app (a b : List TermT) : cntL (a ++ b) = cntL a + cntL b := by
  induction a with
  | nil => simp [cntL]
  | cons x r ih => rw [List.cons_append, cntL, cntL, ih]; omega
mutual
theorem slotsT_len : ∀ t : TermT, (slotsT t).length ≤ cntT t
  | .mk op kids sl nm v => by
    have h := slotsL_len kids
    have h1 := own1_len op sl
    have h2 := Go.Lib.compact_length_le ((own1 op sl ++ slotsL kids).mergeSort fun x y => decide (x ≤ y))
    rw [slotsT_eq, cntT_eq]
    simp only [List.length_mergeSort, List.length_append] at h2
    exact Nat.le_trans h2 (by show _ ≤ 1 + cntL kids; omega)
theorem slotsL_len : ∀ l : List TermT, (slotsL l).length ≤ cntL l
  | [] => by simp [slotsL]
  | t :: r => by
    have h1 := slotsT_len t
    have h2 := slotsL_len r
    rw [slotsL, cntL, List.length_append]
    omega
end
theorem take_rd {α : Type} [Inhabited α] {l : List α} {k : Nat} (h : k < l.length) : l.take (k + 1) = l.take k ++ [rdI l k] := by
  rw [List.take_succ_eq_append_getElem h]
  simp [rdI, List.getD_eq_getElem?_getD, h]
theorem cntL_take (l : List TermT) (k : Nat) : cntL (l.take k) ≤ cntL l := by
  have h := cntL_app (l.take k) (l.drop k)
  rw [List.take_append_drop] at h
  omega
theorem cnt_kid {t : TermT} {i : Nat} (h : i < t.kids.length) : cntT (rdI t.kids i) + cntL (t.kids.take i) + 1 ≤ cntT t := by
  have h1 := cntL_take t.kids (i + 1)
  rw [take_rd h, cntL_app, cntL, cntL] at h1
  have := cntT_eq t; omega
/-- the slots ahead of a kid -/
def acc (t : TermT) (i : Nat) : List Int := own1 t.op t.slot ++ slotsL (t.kids.take i)
theorem acc_zero (t : TermT) : acc t 0 = own1 t.op t.slot := by simp [acc, slotsL]
theorem acc_succ {t : TermT} {i : Nat} (h : i < t.kids.length) : acc t (i + 1) = acc t i ++ slotsT (rdI t.kids i) := by
  unfold acc
  rw [take_rd h, slotsL_app, ← List.append_assoc, slotsL, slotsL, List.append_nil]
theorem acc_len (t : TermT) (i : Nat) : (acc t i).length ≤ 1 + cntL (t.kids.take i) := by
  have h1 := own1_len t.op t.slot
  have h2 := slotsL_len (t.kids.take i)
  unfold acc
  rw [List.length_append]; omega
theorem acc_all {t : TermT} {i : Nat} (h : t.kids.length ≤ i) : slotsT t = Go.Lib.compact ((acc t i).mergeSort fun x y => decide (x ≤ y)) := by
  rw [acc, List.take_of_length_le h, slotsT_eq]
theorem kidT_lt {p q : TermT} (h : q ∈ p.kids) : SizeOf.sizeOf q < SizeOf.sizeOf p := by
  cases p with
  | mk o k s e b =>
    have := List.sizeOf_lt_of_mem (show q ∈ k from h)
    simp only [TermT.mk.sizeOf_spec]
    omega
theorem encT_ok {p : TermT} (h : (D.ag (encT p)).ok) : p.kids.length ≤ 9223372036854775807 := by
  rw [encT_cells] at h
  simp only [D.ok, D.okL, List.length_map] at h
  exact h.2.1.1
set_option maxHeartbeats 4000000 in
theorem slots1_ok (t : TermT) (ht : cntT t ≤ 1000000) (IH : ∀ i : Nat, i < t.kids.length → Snd P 94 [.d (.ag (encT (rdI t.kids i)))] (.d (.sl false ((slotsT (rdI t.kids i)).map encI))) []) : Snd P 94 [.d (.ag (encT t))] (.d (.sl false ((slotsT t).map encI))) [] := by
  refine Snd.ok 0 rfl (by kernel_rfl) fun hok => ?_
  have hkm := encT_ok hok
  clear hok
  obtain ⟨m, hm⟩ : ∃ m, t.kids.length = m := ⟨_, rfl⟩
  rw [hm] at hkm
  obtain ⟨ow, how⟩ : ∃ o, own1 t.op t.slot = o := ⟨_, rfl⟩
  have how1 : ow.length ≤ 1 := by rw [← how]; exact own1_len _ _
  refine snd_of [] Try.func94 rfl (by kernel_rfl) Try.ntmps94 (by simp) ?_
  unfold Try.f94
  simp only [List.cons_append, List.nil_append, List.length_cons, List.length_nil, Nat.reduceAdd, Nat.reduceSub, List.replicate]
  refine Run.seq ?_
  refine opsF [⟨Op.box 70 (Operand.tmp 0), some 1, none⟩, ⟨Op.assign (Operand.const (Value.slice none 0 0)), some 2, none⟩] fun K hK => ?_
  try simp
  repeat' first | ((refine evL_c ?_); simp [hm]) | (with_reducible refine And.intro ?_ ?_) | intro _ | (with_reducible assumption) | omega
  all_goals (refine Fin.go hK ?_; clear hK K)
  simp only [Then_normal]
  refine Run.seq ?_
  refine opsF [⟨Op.assign (Operand.const (Value.slice none 0 0)), some 3, none⟩] fun K hK => ?_
  try simp
  repeat' first | ((refine evL_c ?_); simp [hm]) | (with_reducible refine And.intro ?_ ?_) | intro _ | (with_reducible assumption) | omega
  all_goals (refine Fin.go hK ?_; clear hK K)
  simp only [Then_normal]
  refine Run.cut [3, 6, 7, 8, 9, 10, 11, 12, 13, 14, 15, 16, 17, 18] [(3, .rs 1900 1 0 ow.length)] [(200, .vals ((encT t).map .d)), (1900, .data 1 (ow.map encI))] ?_ ?_
  · refine Run.cut [6, 7, 8, 9, 10, 11, 12, 13] [(13, .bool (decide (t.op = 2 ∨ t.op = 3)))] [(200, .vals ((encT t).map .d))] ?_ ?_
    · refine opsF [⟨Op.fieldAddr 70 (Operand.tmp 1) 0, some 6, none⟩, ⟨Op.load 65 (Operand.tmp 6), some 7, none⟩, ⟨Op.binOp BinOp.eql 65 (Operand.tmp 7) (Operand.const (Value.int IntKind.i64 2)) 65, some 8, none⟩, ⟨Op.move (Operand.tmp 8), some 9, none⟩, ⟨Op.fieldAddr 70 (Operand.tmp 1) 0, some 10, some (some 9, false)⟩, ⟨Op.load 65 (Operand.tmp 10), some 11, some (some 9, false)⟩, ⟨Op.binOp BinOp.eql 65 (Operand.tmp 11) (Operand.const (Value.int IntKind.i64 3)) 65, some 12, some (some 9, false)⟩, ⟨Op.pick (Operand.tmp 9) (Operand.const (Value.bool true)) (Operand.tmp 12), some 13, none⟩] fun K hK => ?_
      try simp
      repeat' first | ((first | refine evL_c ?_ | (refine evL_g rfl ?_; try simp only [gs_tt, gs_ff, gs_tf, gs_ft]) | refine evL_u rfl ?_ | (with_reducible refine gsplit (fun hg => ?_) (fun hg => ?_) <;> try simp at hg)) <;> try simp [hm]) | (with_reducible refine And.intro ?_ ?_) | intro _ | (with_reducible assumption) | omega
      all_goals (refine Fin.go hK ?_; clear hK K)
      all_goals
        (try simp [*]) <;> (first | omega | (simp; done) | grind)
    · simp only [over, List.foldl, List.set]
      refine Run.cond rfl (fun h13 => ?_) (fun h13 => ?_)
      · have ho : ow = [t.slot] := by rw [← how, own1, if_pos (of_decide_eq_true h13)]
        refine opsF [⟨Op.move (Operand.tmp 3), some 14, none⟩, ⟨Op.fieldAddr 70 (Operand.tmp 1) 2, some 15, none⟩, ⟨Op.load 3 (Operand.tmp 15), some 16, none⟩, ⟨Op.buildSlice 24 1 #[(0, Operand.tmp 16)], some 17, none⟩, ⟨Op.call { callee := Callee.builtin Builtin.append, args := #[Operand.tmp 14, Operand.tmp 17], argTypes := #[24, 24] }, some 18, none⟩, ⟨Op.assign (Operand.tmp 18), some 3, none⟩] fun K hK => ?_
        try simp
        repeat' first | ((refine evL_c ?_); simp [hm]) | (with_reducible refine And.intro ?_ ?_) | intro _ | (with_reducible assumption) | omega
        all_goals (refine Fin.go hK ?_; clear hK K)
        simp [ho]
      · have ho : ow = [] := by rw [← how, own1, if_neg (of_decide_eq_false h13)]
        refine Run.virt 3 1900 1 (by omega) (.inl rfl) ?_ rfl
        refine Run.skip ?_
        simp [ho]
  · simp only [over, List.foldl, List.set]
    refine Run.seq ?_
    refine Run.seq ?_
    refine opsF [⟨Op.fieldAddr 70 (Operand.tmp 1) 1, some 19, none⟩, ⟨Op.load 25 (Operand.tmp 19), some 20, none⟩, ⟨Op.call { callee := Callee.builtin Builtin.len, args := #[Operand.tmp 20], argTypes := #[25] }, some 21, none⟩, ⟨Op.move (Operand.const (Value.int IntKind.i64 0)), some 22, none⟩] fun K hK => ?_
    try simp
    repeat' first | ((refine evL_c ?_); simp [hm]) | (with_reducible refine And.intro ?_ ?_) | intro _ | (with_reducible assumption) | omega
    all_goals (refine Fin.go hK ?_; clear hK K)
    simp only [Then_normal]
    refine Run.block ?_
    refine Run.loopO [3, 5, 22, 23, 24, 25, 26, 27, 28, 29, 30] (fun (i : Nat) => [(22, .int i), (3, .rs 1900 1 0 (acc t i).length)]) (fun (i : Nat) => [(200, .vals ((encT t).map .d)), (1900, .data 1 ((acc t i).map encI))]) (fun (i : Nat) => i ≤ m) (fun (i : Nat) => m - i) 0 (by omega) (by simp [acc_zero, how]) fun i hi => ?_
    simp only [over, List.foldl, List.set]
    obtain ⟨ac, hac⟩ : ∃ o, acc t i = o := ⟨_, rfl⟩
    refine Run.seq ?_
    refine opsF [⟨Op.binOp BinOp.lss 3 (Operand.tmp 22) (Operand.tmp 21) 3, some 23, none⟩] fun K hK => ?_
    try simp
    repeat' first | ((refine evL_c ?_); simp [hm]) | (with_reducible refine And.intro ?_ ?_) | intro _ | (with_reducible assumption) | omega
    all_goals (refine Fin.go hK ?_; clear hK K)
    simp only [Then_normal]
    refine Run.seq ?_
    refine Run.cond rfl (fun h23 => ?_) (fun h23 => ?_)
    · try simp [hac] at h23
      have hi1 : i < m := by omega
      have hc := cnt_kid (t := t) (i := i) (by omega)
      have hl1 := slotsT_len (rdI t.kids i)
      have hl2 := acc_len t i
      rw [hac] at hl2
      obtain ⟨l1, hl1e⟩ : ∃ x, (slotsT (rdI t.kids i)).length = x := ⟨_, rfl⟩
      obtain ⟨l2, hl2e⟩ : ∃ x, ac.length = x := ⟨_, rfl⟩
      have hl3 : l2 ≤ 1000000 := by omega
      have hl4 : l1 ≤ 1000000 := by omega
      have htk : (ac.map encI).take l2 = ac.map encI := by rw [List.take_of_length_le]; simp [hl2e]
      refine Run.skip ?_
      simp only [Then_normal]
      refine Run.seq ?_
      refine Run.block ?_
      refine Run.seq ?_
      refine opsF [⟨Op.indexAddr 25 (Operand.tmp 20) (Operand.tmp 22), some 24, none⟩, ⟨Op.load 70 (Operand.tmp 24), some 25, none⟩, ⟨Op.alloc 70, some 5, none⟩, ⟨Op.store 70 (Operand.tmp 5) (Operand.tmp 25), none, none⟩] fun K hK => ?_
      try simp
      repeat' first | ((refine evL_c ?_); simp [hm, hac, hl1e, hl2e, hi1, htk]) | (with_reducible refine And.intro ?_ ?_) | intro _ | (with_reducible assumption) | omega
      all_goals (refine Fin.go hK ?_; clear hK K)
      simp only [Then_normal]
      refine opsF [⟨Op.move (Operand.tmp 3), some 26, none⟩, ⟨Op.load 70 (Operand.tmp 5), some 27, none⟩, ⟨Op.call { callee := Callee.value (Operand.func 94), args := #[Operand.tmp 27], argTypes := #[70] }, some 28, none⟩, ⟨Op.call { callee := Callee.builtin Builtin.append, args := #[Operand.tmp 26, Operand.tmp 28], argTypes := #[24, 24] }, some 29, none⟩, ⟨Op.assign (Operand.tmp 29), some 3, none⟩] fun K hK => ?_
      try simp
      repeat' first | (refine ecallD (by have h := IH i (by omega); rw [encT_cells] at h; exact h) ?_) | ((refine evL_c ?_); simp [hm, hac, hl1e, hl2e, hi1, htk]) | (with_reducible refine And.intro ?_ ?_) | intro _ | (with_reducible assumption) | omega
      all_goals (refine Fin.go hK ?_; clear hK K)
      simp only [Blok_normal]
      simp only [Then_normal]
      refine Run.ren 3000 1900 (by omega) (by omega) (by simp) (by simp) ?_
      refine opsF [⟨Op.binOp BinOp.add 3 (Operand.tmp 22) (Operand.const (Value.int IntKind.i64 1)) 3, some 30, none⟩, ⟨Op.move (Operand.tmp 30), some 22, none⟩] fun K hK => ?_
      try simp
      repeat' first | ((refine evL_c ?_); simp [hm, hac, hl1e, hl2e, hi1, htk]) | (with_reducible refine And.intro ?_ ?_) | intro _ | (with_reducible assumption) | omega
      all_goals (refine Fin.go hK ?_; clear hK K)
      have hs := acc_succ (t := t) (i := i) (by omega)
      rw [hac] at hs
      refine ⟨i + 1, by omega, by omega, ?_⟩
      simp (disch := omega) [hm, wrap_id, hs, hac, hl1e, hl2e, htk]
    · try simp [hac] at h23
      have hl2 := acc_len t i
      have hl5 := cntL_take t.kids i
      rw [cntT_eq] at ht
      rw [hac] at hl2
      have hl3 : ac.length ≤ 1000000 := by omega
      have hst := acc_all (t := t) (i := i) (by omega)
      rw [hac] at hst
      obtain ⟨so, hso⟩ : ∃ s, (ac.mergeSort fun x y => decide (x ≤ y)) = s := ⟨_, rfl⟩
      have hsl : so.length = ac.length := by rw [← hso]; simp
      rw [hso] at hst
      have hsc := Go.Lib.compact_length_le so
      have hS := sort_ok ac (by omega)
      rw [hso] at hS
      have hC := compact_ok so (by omega)
      rw [← hst] at hC hsc
      obtain ⟨l2, hl2e⟩ : ∃ x, ac.length = x := ⟨_, rfl⟩
      rw [hl2e] at hS hsl
      obtain ⟨sl, hsle⟩ : ∃ x, slotsT t = x := ⟨_, rfl⟩
      rw [hsle] at hC hsc
      obtain ⟨l3, hl3e⟩ : ∃ x, sl.length = x := ⟨_, rfl⟩
      rw [hl3e, hsl] at hC hsc
      refine Run.exit ?_
      simp (decide := true) only [Then_exit, Blok_exit, if_true, if_false]
      simp only [Then_normal]
      refine Run.seq ?_
      refine opsT [⟨Op.move (Operand.tmp 3), some 31, none⟩, ⟨Op.call { callee := Callee.value (Operand.func 98), args := #[Operand.tmp 31], argTypes := #[24] }, some 32, none⟩] fun K hK => ?_
      try simp
      repeat' first | (refine ecallW [1900] hS (by simp) (by simp) (by simp) ?_) | ((refine evL_c ?_); simp [hm, hac, hl2e, hsl, hl3e, hsc]) | (with_reducible refine And.intro ?_ ?_) | intro _ | (with_reducible assumption) | omega
      all_goals (refine Fin.go hK ?_; clear hK K)
      simp only [Then_normal]
      refine Run.seq ?_
      refine opsT [⟨Op.move (Operand.tmp 3), some 33, none⟩, ⟨Op.call { callee := Callee.value (Operand.func 99), args := #[Operand.tmp 33], argTypes := #[24] }, some 34, none⟩, ⟨Op.assign (Operand.tmp 34), some 2, none⟩] fun K hK => ?_
      try simp
      repeat' first | (refine ecallW [1900] hC (by simp) (by simp) (by simp) ?_) | ((refine evL_c ?_); simp [hm, hac, hl2e, hsl, hl3e, hsc]) | (with_reducible refine And.intro ?_ ?_) | intro _ | (with_reducible assumption) | omega
      all_goals (refine Fin.go hK ?_; clear hK K)
      simp only [Then_normal]
      refine Run.ret ?_
      try simp only [Then_ret, Blok_ret]
      have htk : ((sl.map encI) ++ List.replicate (l2 - l3) [D.int 0]).take l3 = sl.map encI := by rw [List.take_append_of_le_length (by simp [hl3e]), List.take_of_length_le (by simp [hl3e])]
      simp [hsle, hl3e, htk]


theorem slots_ok (t : TermT) (ht : cntT t ≤ 1000000) : Snd P 94 [.d (.ag (encT t))] (.d (.sl false ((slotsT t).map encI))) [] :=
  slots1_ok t ht fun i hi =>
    have := kidT_lt (rdI_mem (l := t.kids) (i := i) (by omega) (by omega))
    slots_ok (rdI t.kids i) (by have := cnt_kid hi; omega)
termination_by SizeOf.sizeOf t
end Go.Proofs.Ytihbejpkfifplaa.Z
end
section
set_option maxRecDepth 100000
namespace Go.Proofs.Ytihbejpkfifplaa.Z
open Go Go.Fw
def badS (b : List Bool) (s : Int) : Bool := decide (s < 0) || decide ((b.length : Int) ≤ s) || !rdI b s
def bindsS (b : List Bool) (t : TermT) : Bool := !(slotsT t).any (badS b)
@[simp] theorem forall_lt2 {p : Nat → Prop} : (∀ x, x < 2 → p x) ↔ p 0 ∧ p 1 := ⟨fun h => ⟨h 0 (by omega), h 1 (by omega)⟩, fun h x hx => by
  match x, hx with
  | 0, _ => exact h.1
  | 1, _ => exact h.2⟩
@[simp] theorem exists_lt2 {p : Nat → Prop} : (∃ x, x < 2 ∧ p x) ↔ p 0 ∨ p 1 := ⟨fun ⟨x, hx, h⟩ => by
  match x, hx with
  | 0, _ => exact .inl h
  | 1, _ => exact .inr h, fun h => by rcases h with h | h <;> exact ⟨_, by omega, h⟩⟩
@[simp] theorem idx_cons (a b : Nat) (l : List Nat) : (a :: l).idxOf? b = if a = b then some 0 else (l.idxOf? b).map (· + 1) := by
  rw [List.idxOf?_cons]; simp
theorem findT_ok (nn : Bool) (l : List TermT) (fn : FuncId) (b : List Bool) (p : TermT → Bool) (hp : ∀ e ∈ l, SndW P fn [.d (.ag (encT e)), .pt 0 0 0 0] [(0, .vals [.rs 1 1 0 b.length]), (1, .data 1 (b.map encB))] (.bool (p e)) [(0, .vals [.rs 1 1 0 b.length]), (1, .data 1 (b.map encB))]) :
    SndW P 42 [.d (.sl nn (l.map encT)), .fn fn [.pt 0 0 0 0]] [(0, .vals [.rs 1 1 0 b.length]), (1, .data 1 (b.map encB))] (.int (findS p l)) [(0, .vals [.rs 1 1 0 b.length]), (1, .data 1 (b.map encB))] := by
  refine SndW.ok 0 rfl (by kernel_rfl) fun hl => ?_
  simp only [D.ok, List.length_map] at hl
  obtain ⟨hl, -⟩ := hl
  refine sndW_of [0, 1] Try.func42 rfl (by kernel_rfl) Try.ntmps42 (by simp) (by simp) ?_
  unfold Try.f42
  simp only [List.cons_append, List.nil_append, List.length_cons, List.length_nil, Nat.reduceAdd, Nat.reduceSub, List.replicate]
  refine Run.seq ?_
  refine opsF oo8 fun K hK => ?_
  try simp
  repeat' first | ((refine evL_c ?_); simp) | (with_reducible refine And.intro ?_ ?_) | intro _ | (with_reducible assumption) | omega
  all_goals (refine Fin.go hK ?_; clear hK K)
  simp only [Then_normal]
  refine Run.seq ?_
  refine Run.seq ?_
  refine opsF [⟨Op.move (Operand.tmp 0), some 6, none⟩, ⟨Op.call { callee := Callee.builtin Builtin.len, args := #[Operand.tmp 6], argTypes := #[25] }, some 7, none⟩, ⟨Op.move (Operand.const (Value.int IntKind.i64 0)), some 8, none⟩] fun K hK => ?_
  try simp
  repeat' first | ((refine evL_c ?_); simp) | (with_reducible refine And.intro ?_ ?_) | intro _ | (with_reducible assumption) | omega
  all_goals (refine Fin.go hK ?_; clear hK K)
  simp only [Then_normal]
  refine Run.block ?_
  refine Run.loopO [4, 5, 8, 9, 10, 11, 12, 13, 14, 15, 16, 17, 18] (fun (i : Nat) => [(8, .int i)]) (fun (i : Nat) => [(0, .vals [.rs 1 1 0 b.length]), (1, .data 1 (b.map encB))]) (fun (i : Nat) => i ≤ l.length ∧ ∀ j, j < i → p (rdI l (j : Nat)) = false) (fun (i : Nat) => l.length - i) 0 (by simp) (by simp) fun i ⟨hi, hz⟩ => ?_
  simp only [over, List.foldl, List.set]
  refine Run.seq ?_
  refine opsF oo9 fun K hK => ?_
  try simp
  repeat' first | ((refine evL_c ?_); simp) | (with_reducible refine And.intro ?_ ?_) | intro _ | (with_reducible assumption) | omega
  all_goals (refine Fin.go hK ?_; clear hK K)
  simp only [Then_normal]
  refine Run.seq ?_
  refine Run.cond rfl (fun h9 => ?_) (fun h9 => ?_)
  · try simp at h9
    refine Run.skip ?_
    simp only [Then_normal]
    refine Run.seq ?_
    refine Run.block ?_
    refine Run.seq ?_
    refine opsF oo10 fun K hK => ?_
    try simp
    repeat' first | ((refine evL_c ?_); simp [h9]) | (with_reducible refine And.intro ?_ ?_) | intro _ | (with_reducible assumption) | omega
    all_goals (refine Fin.go hK ?_; clear hK K)
    simp only [Then_normal]
    refine Run.seq ?_
    refine opsT [⟨Op.move (Operand.tmp 1), some 11, none⟩, ⟨Op.move (Operand.tmp 0), some 12, none⟩, ⟨Op.move (Operand.tmp 5), some 13, none⟩, ⟨Op.indexAddr 25 (Operand.tmp 12) (Operand.tmp 13), some 14, none⟩, ⟨Op.load 70 (Operand.tmp 14), some 15, none⟩, ⟨Op.call { callee := Callee.value (Operand.tmp 11), args := #[Operand.tmp 15], argTypes := #[70] }, some 16, none⟩] fun K hK => ?_
    try simp
    repeat' first | (refine ecallW [0, 1] (hp _ (rdI_mem (l := l) (i := i) (by omega) (by omega))) (by simp) (by simp) (by simp) ?_) | ((refine evL_c ?_); simp [h9]) | (with_reducible refine And.intro ?_ ?_) | intro _ | (with_reducible assumption) | omega
    all_goals (refine Fin.go hK ?_; clear hK K)
    simp only [Then_normal]
    refine Run.cond rfl (fun h16 => ?_) (fun h16 => ?_)
    · try simp at h16
      refine Run.seq ?_
      refine opsF oo11 fun K hK => ?_
      try simp
      repeat' first | ((refine evL_c ?_); simp [h9, h16]) | (with_reducible refine And.intro ?_ ?_) | intro _ | (with_reducible assumption) | omega
      all_goals (refine Fin.go hK ?_; clear hK K)
      simp only [Then_normal]
      refine Run.ret ?_
      try simp only [Then_ret, Blok_ret]
      first
        | (have e := findS_some h9 hz h16; simp [e]; done)
        | (have e := findS_none (p := p) (l := l) (fun j hj => hz j (by omega)); simp [e])
    · try simp at h16
      refine Run.skip ?_
      simp only [Blok_normal]
      simp only [Then_normal]
      refine opsF oo12 fun K hK => ?_
      try simp
      repeat' first | ((refine evL_c ?_); simp [h9, h16]) | (with_reducible refine And.intro ?_ ?_) | intro _ | (with_reducible assumption) | omega
      all_goals (refine Fin.go hK ?_; clear hK K)
      refine ⟨i + 1, ⟨by omega, fun j hj => ?_⟩, by omega, ?_⟩
      · by_cases e : j = i
        · subst e; exact h16
        · exact hz j (by omega)
      · simp (disch := omega) [wrap_id]
  · try simp at h9
    refine Run.exit ?_
    simp (decide := true) only [Then_exit, Blok_exit, if_true, if_false]
    simp only [Then_normal]
    refine Run.seq ?_
    refine opsF oo13 fun K hK => ?_
    try simp
    repeat' first | ((refine evL_c ?_); simp [h9]) | (with_reducible refine And.intro ?_ ?_) | intro _ | (with_reducible assumption) | omega
    all_goals (refine Fin.go hK ?_; clear hK K)
    simp only [Then_normal]
    refine Run.ret ?_
    try simp only [Then_ret, Blok_ret]
    first
      | (have e := findS_some h9 hz h16; simp [e]; done)
      | (have e := findS_none (p := p) (l := l) (fun j hj => hz j (by omega)); simp [e])

theorem anyT_ok (nn : Bool) (l : List TermT) (fn : FuncId) (b : List Bool) (p : TermT → Bool) (hp : ∀ e ∈ l, SndW P fn [.d (.ag (encT e)), .pt 0 0 0 0] [(0, .vals [.rs 1 1 0 b.length]), (1, .data 1 (b.map encB))] (.bool (p e)) [(0, .vals [.rs 1 1 0 b.length]), (1, .data 1 (b.map encB))]) :
    SndW P 75 [.d (.sl nn (l.map encT)), .fn fn [.pt 0 0 0 0]] [(0, .vals [.rs 1 1 0 b.length]), (1, .data 1 (b.map encB))] (.bool (l.any p)) [(0, .vals [.rs 1 1 0 b.length]), (1, .data 1 (b.map encB))] := by
  refine sndW_of [0, 1] Try.func75 rfl (by kernel_rfl) Try.ntmps75 (by simp) (by simp) ?_
  unfold Try.f75
  simp only [List.cons_append, List.nil_append, List.length_cons, List.length_nil, Nat.reduceAdd, Nat.reduceSub, List.replicate]
  refine Run.seq ?_
  refine opsF oo14 fun K hK => ?_
  try simp
  repeat' first | ((refine evL_c ?_); simp) | (with_reducible refine And.intro ?_ ?_) | intro _ | (with_reducible assumption) | omega
  all_goals (refine Fin.go hK ?_; clear hK K)
  simp only [Then_normal]
  refine Run.seq ?_
  refine opsT [⟨Op.move (Operand.tmp 0), some 5, none⟩, ⟨Op.move (Operand.tmp 1), some 6, none⟩, ⟨Op.call { callee := Callee.value (Operand.func 42), args := #[Operand.tmp 5, Operand.tmp 6], argTypes := #[25, 96] }, some 7, none⟩, ⟨Op.binOp BinOp.geq 3 (Operand.tmp 7) (Operand.const (Value.int IntKind.i64 0)) 3, some 8, none⟩, ⟨Op.assign (Operand.tmp 8), some 4, none⟩] fun K hK => ?_
  try simp
  repeat' first | (refine ecallW [0, 1] (findT_ok nn l fn b p hp) (by simp) (by simp) (by simp) ?_) | ((refine evL_c ?_); simp) | (with_reducible refine And.intro ?_ ?_) | intro _ | (with_reducible assumption) | omega
  all_goals (refine Fin.go hK ?_; clear hK K)
  simp only [Then_normal]
  refine Run.ret ?_
  try simp only [Then_ret, Blok_ret]
  simp [findS_any]

theorem findI_ok (nn : Bool) (l : List Int) (fn : FuncId) (b : List Bool) (p : Int → Bool) (hp : ∀ e ∈ l, SndW P fn [.int e, .pt 0 0 0 0] [(0, .vals [.rs 1 1 0 b.length]), (1, .data 1 (b.map encB))] (.bool (p e)) [(0, .vals [.rs 1 1 0 b.length]), (1, .data 1 (b.map encB))]) :
    SndW P 97 [.d (.sl nn (l.map encI)), .fn fn [.pt 0 0 0 0]] [(0, .vals [.rs 1 1 0 b.length]), (1, .data 1 (b.map encB))] (.int (findS p l)) [(0, .vals [.rs 1 1 0 b.length]), (1, .data 1 (b.map encB))] := by
  refine SndW.ok 0 rfl (by kernel_rfl) fun hl => ?_
  simp only [D.ok, List.length_map] at hl
  obtain ⟨hl, -⟩ := hl
  refine sndW_of [0, 1] Try.func97 rfl (by kernel_rfl) Try.ntmps97 (by simp) (by simp) ?_
  unfold Try.f97
  simp only [List.cons_append, List.nil_append, List.length_cons, List.length_nil, Nat.reduceAdd, Nat.reduceSub, List.replicate]
  refine Run.seq ?_
  refine opsF oo8 fun K hK => ?_
  try simp
  repeat' first | ((refine evL_c ?_); simp) | (with_reducible refine And.intro ?_ ?_) | intro _ | (with_reducible assumption) | omega
  all_goals (refine Fin.go hK ?_; clear hK K)
  simp only [Then_normal]
  refine Run.seq ?_
  refine Run.seq ?_
  refine opsF [⟨Op.move (Operand.tmp 0), some 6, none⟩, ⟨Op.call { callee := Callee.builtin Builtin.len, args := #[Operand.tmp 6], argTypes := #[24] }, some 7, none⟩, ⟨Op.move (Operand.const (Value.int IntKind.i64 0)), some 8, none⟩] fun K hK => ?_
  try simp
  repeat' first | ((refine evL_c ?_); simp) | (with_reducible refine And.intro ?_ ?_) | intro _ | (with_reducible assumption) | omega
  all_goals (refine Fin.go hK ?_; clear hK K)
  simp only [Then_normal]
  refine Run.block ?_
  refine Run.loopO [4, 5, 8, 9, 10, 11, 12, 13, 14, 15, 16, 17, 18] (fun (i : Nat) => [(8, .int i)]) (fun (i : Nat) => [(0, .vals [.rs 1 1 0 b.length]), (1, .data 1 (b.map encB))]) (fun (i : Nat) => i ≤ l.length ∧ ∀ j, j < i → p (rdI l (j : Nat)) = false) (fun (i : Nat) => l.length - i) 0 (by simp) (by simp) fun i ⟨hi, hz⟩ => ?_
  simp only [over, List.foldl, List.set]
  refine Run.seq ?_
  refine opsF oo9 fun K hK => ?_
  try simp
  repeat' first | ((refine evL_c ?_); simp) | (with_reducible refine And.intro ?_ ?_) | intro _ | (with_reducible assumption) | omega
  all_goals (refine Fin.go hK ?_; clear hK K)
  simp only [Then_normal]
  refine Run.seq ?_
  refine Run.cond rfl (fun h9 => ?_) (fun h9 => ?_)
  · try simp at h9
    refine Run.skip ?_
    simp only [Then_normal]
    refine Run.seq ?_
    refine Run.block ?_
    refine Run.seq ?_
    refine opsF oo10 fun K hK => ?_
    try simp
    repeat' first | ((refine evL_c ?_); simp [h9]) | (with_reducible refine And.intro ?_ ?_) | intro _ | (with_reducible assumption) | omega
    all_goals (refine Fin.go hK ?_; clear hK K)
    simp only [Then_normal]
    refine Run.seq ?_
    refine opsT [⟨Op.move (Operand.tmp 1), some 11, none⟩, ⟨Op.move (Operand.tmp 0), some 12, none⟩, ⟨Op.move (Operand.tmp 5), some 13, none⟩, ⟨Op.indexAddr 24 (Operand.tmp 12) (Operand.tmp 13), some 14, none⟩, ⟨Op.load 3 (Operand.tmp 14), some 15, none⟩, ⟨Op.call { callee := Callee.value (Operand.tmp 11), args := #[Operand.tmp 15], argTypes := #[3] }, some 16, none⟩] fun K hK => ?_
    try simp
    repeat' first | (refine ecallW [0, 1] (hp _ (rdI_mem (l := l) (i := i) (by omega) (by omega))) (by simp) (by simp) (by simp) ?_) | ((refine evL_c ?_); simp [h9]) | (with_reducible refine And.intro ?_ ?_) | intro _ | (with_reducible assumption) | omega
    all_goals (refine Fin.go hK ?_; clear hK K)
    simp only [Then_normal]
    refine Run.cond rfl (fun h16 => ?_) (fun h16 => ?_)
    · try simp at h16
      refine Run.seq ?_
      refine opsF oo11 fun K hK => ?_
      try simp
      repeat' first | ((refine evL_c ?_); simp [h9, h16]) | (with_reducible refine And.intro ?_ ?_) | intro _ | (with_reducible assumption) | omega
      all_goals (refine Fin.go hK ?_; clear hK K)
      simp only [Then_normal]
      refine Run.ret ?_
      try simp only [Then_ret, Blok_ret]
      first
        | (have e := findS_some h9 hz h16; simp [e]; done)
        | (have e := findS_none (p := p) (l := l) (fun j hj => hz j (by omega)); simp [e])
    · try simp at h16
      refine Run.skip ?_
      simp only [Blok_normal]
      simp only [Then_normal]
      refine opsF oo12 fun K hK => ?_
      try simp
      repeat' first | ((refine evL_c ?_); simp [h9, h16]) | (with_reducible refine And.intro ?_ ?_) | intro _ | (with_reducible assumption) | omega
      all_goals (refine Fin.go hK ?_; clear hK K)
      refine ⟨i + 1, ⟨by omega, fun j hj => ?_⟩, by omega, ?_⟩
      · by_cases e : j = i
        · subst e; exact h16
        · exact hz j (by omega)
      · simp (disch := omega) [wrap_id]
  · try simp at h9
    refine Run.exit ?_
    simp (decide := true) only [Then_exit, Blok_exit, if_true, if_false]
    simp only [Then_normal]
    refine Run.seq ?_
    refine opsF oo13 fun K hK => ?_
    try simp
    repeat' first | ((refine evL_c ?_); simp [h9]) | (with_reducible refine And.intro ?_ ?_) | intro _ | (with_reducible assumption) | omega
    all_goals (refine Fin.go hK ?_; clear hK K)
    simp only [Then_normal]
    refine Run.ret ?_
    try simp only [Then_ret, Blok_ret]
    first
      | (have e := findS_some h9 hz h16; simp [e]; done)
      | (have e := findS_none (p := p) (l := l) (fun j hj => hz j (by omega)); simp [e])

theorem anyI_ok (nn : Bool) (l : List Int) (fn : FuncId) (b : List Bool) (p : Int → Bool) (hp : ∀ e ∈ l, SndW P fn [.int e, .pt 0 0 0 0] [(0, .vals [.rs 1 1 0 b.length]), (1, .data 1 (b.map encB))] (.bool (p e)) [(0, .vals [.rs 1 1 0 b.length]), (1, .data 1 (b.map encB))]) :
    SndW P 93 [.d (.sl nn (l.map encI)), .fn fn [.pt 0 0 0 0]] [(0, .vals [.rs 1 1 0 b.length]), (1, .data 1 (b.map encB))] (.bool (l.any p)) [(0, .vals [.rs 1 1 0 b.length]), (1, .data 1 (b.map encB))] := by
  refine sndW_of [0, 1] Try.func93 rfl (by kernel_rfl) Try.ntmps93 (by simp) (by simp) ?_
  unfold Try.f93
  simp only [List.cons_append, List.nil_append, List.length_cons, List.length_nil, Nat.reduceAdd, Nat.reduceSub, List.replicate]
  refine Run.seq ?_
  refine opsF oo14 fun K hK => ?_
  try simp
  repeat' first | ((refine evL_c ?_); simp) | (with_reducible refine And.intro ?_ ?_) | intro _ | (with_reducible assumption) | omega
  all_goals (refine Fin.go hK ?_; clear hK K)
  simp only [Then_normal]
  refine Run.seq ?_
  refine opsT [⟨Op.move (Operand.tmp 0), some 5, none⟩, ⟨Op.move (Operand.tmp 1), some 6, none⟩, ⟨Op.call { callee := Callee.value (Operand.func 97), args := #[Operand.tmp 5, Operand.tmp 6], argTypes := #[24, 135] }, some 7, none⟩, ⟨Op.binOp BinOp.geq 3 (Operand.tmp 7) (Operand.const (Value.int IntKind.i64 0)) 3, some 8, none⟩, ⟨Op.assign (Operand.tmp 8), some 4, none⟩] fun K hK => ?_
  try simp
  repeat' first | (refine ecallW [0, 1] (findI_ok nn l fn b p hp) (by simp) (by simp) (by simp) ?_) | ((refine evL_c ?_); simp) | (with_reducible refine And.intro ?_ ?_) | intro _ | (with_reducible assumption) | omega
  all_goals (refine Fin.go hK ?_; clear hK K)
  simp only [Then_normal]
  refine Run.ret ?_
  try simp only [Then_ret, Blok_ret]
  simp [findS_any]

theorem badS_ok (b : List Bool) (s : Int) : SndW P 95 [.int s, .pt 0 0 0 0] [(0, .vals [.rs 1 1 0 b.length]), (1, .data 1 (b.map encB))] (.bool (badS b s)) [(0, .vals [.rs 1 1 0 b.length]), (1, .data 1 (b.map encB))] := by
  obtain ⟨n, hn⟩ : ∃ n, b.length = n := ⟨_, rfl⟩
  refine sndW_of [0, 1] Try.func95 rfl (by kernel_rfl) Try.ntmps95 (by simp) (by simp) ?_
  unfold Try.f95
  simp only [List.cons_append, List.nil_append, List.length_cons, List.length_nil, Nat.reduceAdd, Nat.reduceSub, List.replicate]
  refine Run.seq ?_
  refine opsF [⟨Op.assign (Operand.const (Value.bool false)), some 3, none⟩] fun K hK => ?_
  try simp
  repeat' first | ((refine evL_c ?_); simp [hn]) | (with_reducible refine And.intro ?_ ?_) | intro _ | (with_reducible assumption) | omega
  all_goals (refine Fin.go hK ?_; clear hK K)
  simp only [Then_normal]
  refine Run.seq ?_
  refine opsF [⟨Op.move (Operand.tmp 0), some 4, none⟩, ⟨Op.binOp BinOp.lss 3 (Operand.tmp 4) (Operand.const (Value.int IntKind.i64 0)) 3, some 5, none⟩, ⟨Op.move (Operand.tmp 5), some 6, none⟩, ⟨Op.move (Operand.tmp 0), some 7, some (some 6, false)⟩, ⟨Op.load 60 (Operand.tmp 1), some 8, some (some 6, false)⟩, ⟨Op.call { callee := Callee.builtin Builtin.len, args := #[Operand.tmp 8], argTypes := #[60] }, some 9, some (some 6, false)⟩, ⟨Op.binOp BinOp.geq 3 (Operand.tmp 7) (Operand.tmp 9) 3, some 10, some (some 6, false)⟩, ⟨Op.pick (Operand.tmp 6) (Operand.const (Value.bool true)) (Operand.tmp 10), some 11, none⟩, ⟨Op.move (Operand.tmp 11), some 12, none⟩, ⟨Op.load 60 (Operand.tmp 1), some 13, some (some 12, false)⟩, ⟨Op.move (Operand.tmp 0), some 14, some (some 12, false)⟩, ⟨Op.indexAddr 60 (Operand.tmp 13) (Operand.tmp 14), some 15, some (some 12, false)⟩, ⟨Op.load 4 (Operand.tmp 15), some 16, some (some 12, false)⟩, ⟨Op.unOp UnOp.not 4 (Operand.tmp 16), some 17, some (some 12, false)⟩, ⟨Op.pick (Operand.tmp 12) (Operand.const (Value.bool true)) (Operand.tmp 17), some 18, none⟩, ⟨Op.assign (Operand.tmp 18), some 3, none⟩] fun K hK => ?_
  try simp
  repeat' first | ((first | refine evL_c ?_ | (refine evL_g rfl ?_; try simp only [gs_tt, gs_ff, gs_tf, gs_ft]) | refine evL_u rfl ?_ | (with_reducible refine gsplit (fun hg => ?_) (fun hg => ?_) <;> try simp at hg)) <;> try simp [hn, *]) | (with_reducible refine And.intro ?_ ?_) | intro _ | (with_reducible assumption) | omega
  all_goals (refine Fin.go hK ?_; clear hK K)
  all_goals
    simp only [Then_normal]
    refine Run.ret ?_
    try simp only [Then_ret, Blok_ret]
    (try simp [badS, hn]) <;> (first | omega | (simp; done) | (rw [Bool.eq_iff_iff]; simp only [Bool.or_eq_true, Bool.and_eq_true, Bool.not_eq_true', decide_eq_true_eq, decide_eq_false_iff_not]; omega) | (simp_all; done) | (simp_all; omega) | grind)

theorem binds_ok (b : List Bool) (t : TermT) (ht : cntT t ≤ 1000000) : SndW P 77 [.rs 0 1 0 b.length, .d (.ag (encT t))] [(0, .data 1 (b.map encB))] (.bool (bindsS b t)) [(0, .data 1 (b.map encB))] := by
  refine sndW_of [0] Try.func77 rfl (by kernel_rfl) Try.ntmps77 (by simp) (by simp) ?_
  unfold Try.f77
  simp only [List.cons_append, List.nil_append, List.length_cons, List.length_nil, Nat.reduceAdd, Nat.reduceSub, List.replicate]
  refine Run.seq ?_
  refine opsF [⟨Op.box 60 (Operand.tmp 0), some 2, none⟩, ⟨Op.box 70 (Operand.tmp 1), some 3, none⟩, ⟨Op.assign (Operand.const (Value.bool false)), some 4, none⟩] fun K hK => ?_
  try simp
  repeat' first | ((refine evL_c ?_); simp) | (with_reducible refine And.intro ?_ ?_) | intro _ | (with_reducible assumption) | omega
  all_goals (refine Fin.go hK ?_; clear hK K)
  simp only [Then_normal]
  refine Run.seq ?_
  refine opsT [⟨Op.load 70 (Operand.tmp 3), some 5, none⟩, ⟨Op.call { callee := Callee.value (Operand.func 94), args := #[Operand.tmp 5], argTypes := #[70] }, some 6, none⟩, ⟨Op.makeFunc (Fn.func 95) #[] #[Operand.tmp 2], some 7, none⟩, ⟨Op.call { callee := Callee.value (Operand.func 93), args := #[Operand.tmp 6, Operand.tmp 7], argTypes := #[24, 135] }, some 8, none⟩, ⟨Op.unOp UnOp.not 4 (Operand.tmp 8), some 9, none⟩, ⟨Op.assign (Operand.tmp 9), some 4, none⟩] fun K hK => ?_
  try simp
  repeat' first | (refine ecallP (by simp) (by have h := slots_ok t ht; rw [encT_cells] at h; exact h) ?_) | (refine ecallW [300, 0] (anyI_ok false (slotsT t) 95 b (badS b) (fun s _ => badS_ok b s)) (by simp) (by simp) (by simp) ?_) | ((refine evL_c ?_); simp) | (with_reducible refine And.intro ?_ ?_) | intro _ | (with_reducible assumption) | omega
  all_goals (refine Fin.go hK ?_; clear hK K)
  simp only [Then_normal]
  refine Run.ret ?_
  try simp only [Then_ret, Blok_ret]
  simp [bindsS]

theorem bindsN_ok (b : List Bool) (t : TermT) (ht : cntT t ≤ 1000000) : SndW P 76 [.d (.ag (encT t)), .pt 0 0 0 0] [(0, .vals [.rs 1 1 0 b.length]), (1, .data 1 (b.map encB))] (.bool (!bindsS b t)) [(0, .vals [.rs 1 1 0 b.length]), (1, .data 1 (b.map encB))] := by
  refine sndW_of [0, 1] Try.func76 rfl (by kernel_rfl) Try.ntmps76 (by simp) (by simp) ?_
  unfold Try.f76
  simp only [List.cons_append, List.nil_append, List.length_cons, List.length_nil, Nat.reduceAdd, Nat.reduceSub, List.replicate]
  refine Run.seq ?_
  refine opsF [⟨Op.box 70 (Operand.tmp 0), some 2, none⟩, ⟨Op.assign (Operand.const (Value.bool false)), some 3, none⟩] fun K hK => ?_
  try simp
  repeat' first | ((refine evL_c ?_); simp) | (with_reducible refine And.intro ?_ ?_) | intro _ | (with_reducible assumption) | omega
  all_goals (refine Fin.go hK ?_; clear hK K)
  simp only [Then_normal]
  refine Run.seq ?_
  refine opsT [⟨Op.load 60 (Operand.tmp 1), some 4, none⟩, ⟨Op.load 70 (Operand.tmp 2), some 5, none⟩, ⟨Op.call { callee := Callee.value (Operand.func 77), args := #[Operand.tmp 4, Operand.tmp 5], argTypes := #[60, 70] }, some 6, none⟩, ⟨Op.unOp UnOp.not 4 (Operand.tmp 6), some 7, none⟩, ⟨Op.assign (Operand.tmp 7), some 3, none⟩] fun K hK => ?_
  try simp
  repeat' first | (refine ecallW [1] (by have h := binds_ok b t ht; rw [encT_cells] at h; exact h) (by simp) (by simp) (by simp) ?_) | ((refine evL_c ?_); simp) | (with_reducible refine And.intro ?_ ?_) | intro _ | (with_reducible assumption) | omega
  all_goals (refine Fin.go hK ?_; clear hK K)
  simp only [Then_normal]
  refine Run.ret ?_
  try simp only [Then_ret, Blok_ret]
  simp


end Go.Proofs.Ytihbejpkfifplaa.Z
end
section
set_option maxRecDepth 100000
namespace Go.Proofs.Ytihbejpkfifplaa.Z
open Go Go.Fw
def badM1 (c : CoreT) (e : Int) (b : List Bool) : Bool := decide (e < 0) || decide ((c.edges.length : Int) ≤ e) || rdI b (c.nodes.length + e)
def touchM (c : CoreT) (s e : Int) (b : List Bool) : Bool := (decide ((rdI c.edges e).src = s) && rdI b (rdI c.edges e).dst) || (decide ((rdI c.edges e).dst = s) && rdI b (rdI c.edges e).src)
def badM2 (c : CoreT) (s e : Int) (b : List Bool) : Bool := !touchM c s e b || !decide ((rdI c.edges e).mode = 0)
def meetL (c : CoreT) (s : Int) : List Int → List Bool → Bool × List Bool
  | [], b => (true, b)
  | e :: r, b => if badM1 c e b || badM2 c s e b then (false, b) else meetL c s r (b.set (c.nodes.length + e).toNat true)
def badSlot (c : CoreT) (p : PlanT) (b : List Bool) : Bool := decide (p.slot < 0) || decide ((c.nodes.length : Int) ≤ p.slot) || rdI b p.slot || decide (p.edges.length = 0)
def meetB (c : CoreT) (p : PlanT) (b : List Bool) : Bool := !badSlot c p b && (meetL c p.slot p.edges b).1
def meetR (c : CoreT) (p : PlanT) (b : List Bool) : List Bool := if badSlot c p b then b else if (meetL c p.slot p.edges b).1 then (meetL c p.slot p.edges b).2.set p.slot.toNat true else (meetL c p.slot p.edges b).2
theorem meetL_bad {c : CoreT} {s : Int} {l : List Int} {i : Nat} {b : List Bool} (hi : i < l.length) (h : badM1 c (rdI l i) b = true ∨ badM2 c s (rdI l i) b = true) : meetL c s (l.drop i) b = (false, b) := by
  rw [drop_rd hi, meetL, if_pos (by simpa using h)]
theorem meetL_step {c : CoreT} {s : Int} {l : List Int} {i : Nat} {b : List Bool} (hi : i < l.length) (h1 : badM1 c (rdI l i) b = false) (h2 : badM2 c s (rdI l i) b = false) : meetL c s (l.drop i) b = meetL c s (l.drop (i + 1)) (b.set (c.nodes.length + rdI l i).toNat true) := by
  rw [drop_rd hi, meetL, if_neg (by simp [h1, h2])]
theorem meetL_end {c : CoreT} {s : Int} {l : List Int} {i : Nat} {b : List Bool} (hi : l.length ≤ i) : meetL c s (l.drop i) b = (true, b) := by
  rw [List.drop_of_length_le hi, meetL]
set_option maxHeartbeats 4000000 in
theorem meet_ok (c : CoreT) (p : PlanT) (b : List Bool) (hb : b.length = c.nodes.length + c.edges.length) (hE : GoodE c) : SndW P 74 [.d (.ag (encC c ++ [D.int c.nodes.length])), .d (.ag (encP p)), .rs 0 1 0 b.length] [(0, .data 1 (b.map encB))] (.bool (meetB c p b)) [(0, .data 1 ((meetR c p b).map encB))] := by
  refine SndW.ok 1 rfl (by kernel_rfl) fun hp => ?_
  have hpm := (encP_ok hp).2.1
  clear hp
  obtain ⟨n, hn⟩ : ∃ k, c.nodes.length = k := ⟨_, rfl⟩
  obtain ⟨m, hm⟩ : ∃ m, p.edges.length = m := ⟨_, rfl⟩
  obtain ⟨k, hk⟩ : ∃ k, c.edges.length = k := ⟨_, rfl⟩
  rw [hn, hk] at hb
  rw [hm] at hpm
  refine sndW_of [0] Try.func74 rfl (by kernel_rfl) Try.ntmps74 (by simp) (by simp) ?_
  unfold Try.f74
  refine Run.okV 2 rfl fun hL => ?_
  have hs1 : 0 ≤ p.slot → p.slot < (n:Int) → p.slot.toNat < n + k := by omega
  have hs2 : 0 ≤ p.slot → p.slot < (n:Int) → p.slot < (n:Int) + k := by omega
  have hq1 : ∀ e : Int, 0 ≤ e → e < k → ((n:Int) + e).toNat < n + k := by omega
  have hq2 : ∀ e : Int, 0 ≤ e → e < k → 0 ≤ (n:Int) + e := by omega
  have hq3 : ∀ e : Int, 0 ≤ e → e < k → IntKind.i64.wrap ((n:Int) + e) = (n:Int) + e := fun e _ _ => wrap_id (by omega) (by omega)
  have hg0 : ∀ e : Int, 0 ≤ e → e < k → 0 ≤ (rdI c.edges e).src ∧ 0 ≤ (rdI c.edges e).dst ∧ (rdI c.edges e).src < (n : Int) + k ∧ (rdI c.edges e).dst < (n : Int) + k ∧ (rdI c.edges e).src.toNat < n + k ∧ (rdI c.edges e).dst.toNat < n + k := fun e h0 h1 => by
    have := hE (rdI c.edges e) (rdI_mem h0 (by omega)); rw [hn] at this; omega
  simp only [List.cons_append, List.nil_append, List.length_cons, List.length_nil, Nat.reduceAdd, Nat.reduceSub, List.replicate]
  refine Run.seq ?_
  refine opsF oo0 fun K hK => ?_
  try simp
  repeat' first | ((refine evL_c ?_); simp [-List.map_set, hm, hk, hn, hb, hs1, hs2, hq1, hq2, hq3, hg0]) | (with_reducible refine And.intro ?_ ?_) | intro _ | (with_reducible assumption) | omega
  all_goals (refine Fin.go hK ?_; clear hK K)
  simp only [Then_normal]
  refine Run.seq ?_
  refine Run.cut [11, 12, 13, 14, 15, 16, 17, 18, 19, 20, 21, 22, 23, 24, 25, 26, 27, 28, 29, 30, 31, 32, 33] [(33, .bool (badSlot c p b))] [(0, .data 1 (b.map encB)), (400, .vals ((encC c ++ [D.int c.nodes.length]).map .d)), (500, .vals ((encP p).map .d))] ?_ ?_
  · refine opsF [⟨Op.fieldAddr 27 (Operand.tmp 4) 2, some 11, none⟩, ⟨Op.load 3 (Operand.tmp 11), some 12, none⟩, ⟨Op.binOp BinOp.lss 3 (Operand.tmp 12) (Operand.const (Value.int IntKind.i64 0)) 3, some 13, none⟩, ⟨Op.move (Operand.tmp 13), some 14, none⟩, ⟨Op.fieldAddr 27 (Operand.tmp 4) 2, some 15, some (some 14, false)⟩, ⟨Op.load 3 (Operand.tmp 15), some 16, some (some 14, false)⟩, ⟨Op.fieldAddr 86 (Operand.tmp 3) 1, some 17, some (some 14, false)⟩, ⟨Op.load 3 (Operand.tmp 17), some 18, some (some 14, false)⟩, ⟨Op.binOp BinOp.geq 3 (Operand.tmp 16) (Operand.tmp 18) 3, some 19, some (some 14, false)⟩, ⟨Op.pick (Operand.tmp 14) (Operand.const (Value.bool true)) (Operand.tmp 19), some 20, none⟩, ⟨Op.move (Operand.tmp 20), some 21, none⟩, ⟨Op.move (Operand.tmp 2), some 22, some (some 21, false)⟩, ⟨Op.fieldAddr 27 (Operand.tmp 4) 2, some 23, some (some 21, false)⟩, ⟨Op.load 3 (Operand.tmp 23), some 24, some (some 21, false)⟩, ⟨Op.indexAddr 60 (Operand.tmp 22) (Operand.tmp 24), some 25, some (some 21, false)⟩, ⟨Op.load 4 (Operand.tmp 25), some 26, some (some 21, false)⟩, ⟨Op.pick (Operand.tmp 21) (Operand.const (Value.bool true)) (Operand.tmp 26), some 27, none⟩, ⟨Op.move (Operand.tmp 27), some 28, none⟩, ⟨Op.fieldAddr 27 (Operand.tmp 4) 3, some 29, some (some 28, false)⟩, ⟨Op.load 24 (Operand.tmp 29), some 30, some (some 28, false)⟩, ⟨Op.call { callee := Callee.builtin Builtin.len, args := #[Operand.tmp 30], argTypes := #[24] }, some 31, some (some 28, false)⟩, ⟨Op.binOp BinOp.eql 3 (Operand.tmp 31) (Operand.const (Value.int IntKind.i64 0)) 3, some 32, some (some 28, false)⟩, ⟨Op.pick (Operand.tmp 28) (Operand.const (Value.bool true)) (Operand.tmp 32), some 33, none⟩] fun K hK => ?_
    try simp
    repeat' first | ((first | refine evL_c ?_ | (refine evL_g rfl ?_; try simp only [gs_tt, gs_ff, gs_tf, gs_ft]) | refine evL_u rfl ?_ | (with_reducible refine gsplit (fun hg => ?_) (fun hg => ?_) <;> try simp at hg)) <;> try simp [-List.map_set, hm, hk, hn, hb, hs1, hs2, hq1, hq2, hq3, hg0, *]) | (with_reducible refine And.intro ?_ ?_) | intro _ | (with_reducible assumption) | omega
    all_goals (refine Fin.go hK ?_; clear hK K)
    all_goals
      (try simp [hm, hk, hn, hb, badSlot, *]) <;> (first | omega | (simp; done) | (rw [Bool.eq_iff_iff]; simp only [Bool.or_eq_true, Bool.and_eq_true, Bool.not_eq_true', decide_eq_true_eq, decide_eq_false_iff_not]; omega) | (clear hq1 hq2 hq3 hs1 hs2 hg0 hE; grind) | (simp_all; done) | (simp_all; omega))
  · simp only [over, List.foldl, List.set]
    refine Run.cond rfl (fun h33 => ?_) (fun h33 => ?_)
    · try simp at h33
      refine Run.seq ?_
      refine opsF oo1 fun K hK => ?_
      try simp
      repeat' first | ((refine evL_c ?_); simp [-List.map_set, hm, hk, hn, hb, hs1, hs2, hq1, hq2, hq3, hg0]) | (with_reducible refine And.intro ?_ ?_) | intro _ | (with_reducible assumption) | omega
      all_goals (refine Fin.go hK ?_; clear hK K)
      simp only [Then_normal]
      refine Run.ret ?_
      try simp only [Then_ret, Blok_ret]
      first
        | (have e : meetB c p b = false := by simp [meetB, h33]
           simp [meetR, e, h33, hn]; done)
        | (have e1 : meetL c p.slot p.edges b = (false, bi) := by rw [hml, meetL_bad (by omega) (.inl h59)]
           simp [meetR, meetB, e1, h33, hn]; done)
        | (have e1 : meetL c p.slot p.edges b = (false, bi) := by rw [hml, meetL_bad (by omega) (.inr h98)]
           simp [meetR, meetB, e1, h33, hn]; done)
        | (have e1 : meetL c p.slot p.edges b = (true, bi) := by rw [hml, meetL_end (by omega)]
           simp [-List.map_set, meetR, meetB, e1, h33, hn]; done)
    · try simp at h33
      have h33' := h33
      simp [badSlot, hk, hn, hm] at h33'
      obtain ⟨⟨⟨hp0, hp1⟩, hp2⟩, hp3⟩ := h33'
      refine Run.skip ?_
      simp only [Then_normal]
      refine Run.seq ?_
      refine Run.seq ?_
      refine opsF [⟨Op.fieldAddr 27 (Operand.tmp 4) 3, some 34, none⟩, ⟨Op.load 24 (Operand.tmp 34), some 35, none⟩, ⟨Op.call { callee := Callee.builtin Builtin.len, args := #[Operand.tmp 35], argTypes := #[24] }, some 36, none⟩, ⟨Op.move (Operand.const (Value.int IntKind.i64 0)), some 37, none⟩] fun K hK => ?_
      try simp
      repeat' first | ((refine evL_c ?_); simp [-List.map_set, hm, hk, hn, hb, hs1, hs2, hq1, hq2, hq3, hg0, hp0, hp1]) | (with_reducible refine And.intro ?_ ?_) | intro _ | (with_reducible assumption) | omega
      all_goals (refine Fin.go hK ?_; clear hK K)
      simp only [Then_normal]
      refine Run.block ?_
      refine Run.loopO [6, 8, 9, 10, 37, 38, 39, 40, 41, 42, 43, 44, 45, 46, 47, 48, 49, 50, 51, 52, 53, 54, 55, 56, 57, 58, 59, 60, 61, 62, 63, 64, 65, 66, 67, 68, 69, 70, 71, 72, 73, 74, 75, 76, 77, 78, 79, 80, 81, 82, 83, 84, 85, 86, 87, 88, 89, 90, 91, 92, 93, 94, 95, 96, 97, 98, 99, 100, 101, 102, 103, 104, 105] (fun (x : Nat × List Bool) => [(37, .int x.1)]) (fun (x : Nat × List Bool) => [(0, .data 1 (x.2.map encB)), (400, .vals ((encC c ++ [D.int c.nodes.length]).map .d)), (500, .vals ((encP p).map .d))]) (fun (x : Nat × List Bool) => x.1 ≤ m ∧ x.2.length = n + k ∧ meetL c p.slot p.edges b = meetL c p.slot (p.edges.drop x.1) x.2) (fun (x : Nat × List Bool) => m - x.1) (0, b) (by simp [hb]) (by simp [hb, hn]) fun ⟨i, bi⟩ ⟨hi, hbi, hml⟩ => ?_
      simp only at hi hbi hml
      simp only [over, List.foldl, List.set]
      refine Run.seq ?_
      refine opsF [⟨Op.binOp BinOp.lss 3 (Operand.tmp 37) (Operand.tmp 36) 3, some 38, none⟩] fun K hK => ?_
      try simp
      repeat' first | ((refine evL_c ?_); simp [-List.map_set, hm, hk, hn, hb, hs1, hs2, hq1, hq2, hq3, hg0, hp0, hp1]) | (with_reducible refine And.intro ?_ ?_) | intro _ | (with_reducible assumption) | omega
      all_goals (refine Fin.go hK ?_; clear hK K)
      simp only [Then_normal]
      refine Run.seq ?_
      refine Run.cond rfl (fun h38 => ?_) (fun h38 => ?_)
      · try simp at h38
        have hi1 : i < m := by omega
        refine Run.skip ?_
        simp only [Then_normal]
        refine Run.seq ?_
        refine Run.block ?_
        refine Run.seq ?_
        refine opsF [⟨Op.indexAddr 24 (Operand.tmp 35) (Operand.tmp 37), some 39, none⟩, ⟨Op.load 3 (Operand.tmp 39), some 40, none⟩, ⟨Op.assign (Operand.tmp 40), some 8, none⟩] fun K hK => ?_
        try simp
        repeat' first | ((refine evL_c ?_); simp [-List.map_set, hm, hk, hn, hb, hs1, hs2, hq1, hq2, hq3, hg0, hp0, hp1, hi1, hbi]) | (with_reducible refine And.intro ?_ ?_) | intro _ | (with_reducible assumption) | omega
        all_goals (refine Fin.go hK ?_; clear hK K)
        simp only [Then_normal]
        refine Run.seq ?_
        refine Run.cut [41, 42, 43, 44, 45, 46, 47, 48, 49, 50, 51, 52, 53, 54, 55, 56, 57, 58, 59] [(59, .bool (badM1 c (rdI p.edges i) bi))] [(0, .data 1 (bi.map encB)), (400, .vals ((encC c ++ [D.int c.nodes.length]).map .d)), (500, .vals ((encP p).map .d))] ?_ ?_
        · refine opsF [⟨Op.move (Operand.tmp 8), some 41, none⟩, ⟨Op.binOp BinOp.lss 3 (Operand.tmp 41) (Operand.const (Value.int IntKind.i64 0)) 3, some 42, none⟩, ⟨Op.move (Operand.tmp 42), some 43, none⟩, ⟨Op.move (Operand.tmp 8), some 44, some (some 43, false)⟩, ⟨Op.fieldAddr 86 (Operand.tmp 3) 0, some 45, some (some 43, false)⟩, ⟨Op.fieldAddr 33 (Operand.tmp 45) 1, some 46, some (some 43, false)⟩, ⟨Op.load 29 (Operand.tmp 46), some 47, some (some 43, false)⟩, ⟨Op.call { callee := Callee.builtin Builtin.len, args := #[Operand.tmp 47], argTypes := #[29] }, some 48, some (some 43, false)⟩, ⟨Op.binOp BinOp.geq 3 (Operand.tmp 44) (Operand.tmp 48) 3, some 49, some (some 43, false)⟩, ⟨Op.pick (Operand.tmp 43) (Operand.const (Value.bool true)) (Operand.tmp 49), some 50, none⟩, ⟨Op.move (Operand.tmp 50), some 51, none⟩, ⟨Op.move (Operand.tmp 2), some 52, some (some 51, false)⟩, ⟨Op.fieldAddr 86 (Operand.tmp 3) 1, some 53, some (some 51, false)⟩, ⟨Op.load 3 (Operand.tmp 53), some 54, some (some 51, false)⟩, ⟨Op.move (Operand.tmp 8), some 55, some (some 51, false)⟩, ⟨Op.binOp BinOp.add 3 (Operand.tmp 54) (Operand.tmp 55) 3, some 56, some (some 51, false)⟩, ⟨Op.indexAddr 60 (Operand.tmp 52) (Operand.tmp 56), some 57, some (some 51, false)⟩, ⟨Op.load 4 (Operand.tmp 57), some 58, some (some 51, false)⟩, ⟨Op.pick (Operand.tmp 51) (Operand.const (Value.bool true)) (Operand.tmp 58), some 59, none⟩] fun K hK => ?_
          try simp
          repeat' first | ((first | refine evL_c ?_ | (refine evL_g rfl ?_; try simp only [gs_tt, gs_ff, gs_tf, gs_ft]) | refine evL_u rfl ?_ | (with_reducible refine gsplit (fun hg => ?_) (fun hg => ?_) <;> try simp at hg)) <;> try simp [-List.map_set, hm, hk, hn, hb, hs1, hs2, hq1, hq2, hq3, hg0, hp0, hp1, hi1, hbi, *]) | (with_reducible refine And.intro ?_ ?_) | intro _ | (with_reducible assumption) | omega
          all_goals (refine Fin.go hK ?_; clear hK K)
          all_goals
            (try simp [hm, hk, hn, hb, badM1, *]) <;> (first | omega | (simp; done) | (rw [Bool.eq_iff_iff]; simp only [Bool.or_eq_true, Bool.and_eq_true, Bool.not_eq_true', decide_eq_true_eq, decide_eq_false_iff_not]; omega) | (clear hq1 hq2 hq3 hs1 hs2 hg0 hE; grind) | (simp_all; done) | (simp_all; omega))
        · simp only [over, List.foldl, List.set]
          refine Run.cond rfl (fun h59 => ?_) (fun h59 => ?_)
          · try simp at h59
            refine Run.seq ?_
            refine opsF oo1 fun K hK => ?_
            try simp
            repeat' first | ((refine evL_c ?_); simp [-List.map_set, hm, hk, hn, hb, hs1, hs2, hq1, hq2, hq3, hg0, hp0, hp1, hi1, hbi]) | (with_reducible refine And.intro ?_ ?_) | intro _ | (with_reducible assumption) | omega
            all_goals (refine Fin.go hK ?_; clear hK K)
            simp only [Then_normal]
            refine Run.ret ?_
            try simp only [Then_ret, Blok_ret]
            first
              | (have e : meetB c p b = false := by simp [meetB, h33]
                 simp [meetR, e, h33, hn]; done)
              | (have e1 : meetL c p.slot p.edges b = (false, bi) := by rw [hml, meetL_bad (by omega) (.inl h59)]
                 simp [meetR, meetB, e1, h33, hn]; done)
              | (have e1 : meetL c p.slot p.edges b = (false, bi) := by rw [hml, meetL_bad (by omega) (.inr h98)]
                 simp [meetR, meetB, e1, h33, hn]; done)
              | (have e1 : meetL c p.slot p.edges b = (true, bi) := by rw [hml, meetL_end (by omega)]
                 simp [-List.map_set, meetR, meetB, e1, h33, hn]; done)
          · try simp at h59
            have h59' := h59
            simp [badM1, hk, hn] at h59'
            obtain ⟨⟨he0, he1⟩, he2⟩ := h59'
            refine Run.skip ?_
            simp only [Then_normal]
            refine Run.cut [9, 60, 61, 62, 63, 64, 65] [(9, .pt 1000 0 0 0)] [(0, .data 1 (bi.map encB)), (400, .vals ((encC c ++ [D.int c.nodes.length]).map .d)), (500, .vals ((encP p).map .d)), (1000, .vals ((encE (rdI c.edges (rdI p.edges i))).map .d))] ?_ ?_
            · refine opsF [⟨Op.fieldAddr 86 (Operand.tmp 3) 0, some 60, none⟩, ⟨Op.fieldAddr 33 (Operand.tmp 60) 1, some 61, none⟩, ⟨Op.load 29 (Operand.tmp 61), some 62, none⟩, ⟨Op.move (Operand.tmp 8), some 63, none⟩, ⟨Op.indexAddr 29 (Operand.tmp 62) (Operand.tmp 63), some 64, none⟩, ⟨Op.load 105 (Operand.tmp 64), some 65, none⟩, ⟨Op.alloc 105, some 9, none⟩, ⟨Op.store 105 (Operand.tmp 9) (Operand.tmp 65), none, none⟩] fun K hK => ?_
              try simp
              repeat' first | ((refine evL_c ?_); simp [-List.map_set, hm, hk, hn, hb, hs1, hs2, hq1, hq2, hq3, hg0, hp0, hp1, hi1, hbi, he0, he1]) | (with_reducible refine And.intro ?_ ?_) | intro _ | (with_reducible assumption) | omega
              all_goals (refine Fin.go hK ?_; clear hK K)
              (try simp [hm, hk, hn, hb]) <;> (first | omega | (simp; done) | (rw [Bool.eq_iff_iff]; simp only [Bool.or_eq_true, Bool.and_eq_true, Bool.not_eq_true', decide_eq_true_eq, decide_eq_false_iff_not]; omega) | (clear hq1 hq2 hq3 hs1 hs2 hg0 hE; grind) | (simp_all; done) | (simp_all; omega))
            · simp only [over, List.foldl, List.set]
              refine Run.cut [10, 66, 67, 68, 69, 70, 71, 72, 73, 74, 75, 76, 77, 78, 79, 80, 81, 82, 83, 84, 85, 86, 87, 88, 89, 90, 91] [(10, .bool (touchM c p.slot (rdI p.edges i) bi))] [(0, .data 1 (bi.map encB)), (400, .vals ((encC c ++ [D.int c.nodes.length]).map .d)), (500, .vals ((encP p).map .d)), (1000, .vals ((encE (rdI c.edges (rdI p.edges i))).map .d))] ?_ ?_
              · refine opsF [⟨Op.fieldAddr 105 (Operand.tmp 9) 2, some 66, none⟩, ⟨Op.load 3 (Operand.tmp 66), some 67, none⟩, ⟨Op.fieldAddr 27 (Operand.tmp 4) 2, some 68, none⟩, ⟨Op.load 3 (Operand.tmp 68), some 69, none⟩, ⟨Op.binOp BinOp.eql 3 (Operand.tmp 67) (Operand.tmp 69) 3, some 70, none⟩, ⟨Op.move (Operand.tmp 70), some 71, none⟩, ⟨Op.move (Operand.tmp 2), some 72, some (some 71, true)⟩, ⟨Op.fieldAddr 105 (Operand.tmp 9) 3, some 73, some (some 71, true)⟩, ⟨Op.load 3 (Operand.tmp 73), some 74, some (some 71, true)⟩, ⟨Op.indexAddr 60 (Operand.tmp 72) (Operand.tmp 74), some 75, some (some 71, true)⟩, ⟨Op.load 4 (Operand.tmp 75), some 76, some (some 71, true)⟩, ⟨Op.pick (Operand.tmp 71) (Operand.tmp 76) (Operand.const (Value.bool false)), some 77, none⟩, ⟨Op.move (Operand.tmp 77), some 78, none⟩, ⟨Op.fieldAddr 105 (Operand.tmp 9) 3, some 79, some (some 78, false)⟩, ⟨Op.load 3 (Operand.tmp 79), some 80, some (some 78, false)⟩, ⟨Op.fieldAddr 27 (Operand.tmp 4) 2, some 81, some (some 78, false)⟩, ⟨Op.load 3 (Operand.tmp 81), some 82, some (some 78, false)⟩, ⟨Op.binOp BinOp.eql 3 (Operand.tmp 80) (Operand.tmp 82) 3, some 83, some (some 78, false)⟩, ⟨Op.move (Operand.tmp 83), some 84, some (some 78, false)⟩, ⟨Op.move (Operand.tmp 2), some 85, some (some 84, true)⟩, ⟨Op.fieldAddr 105 (Operand.tmp 9) 2, some 86, some (some 84, true)⟩, ⟨Op.load 3 (Operand.tmp 86), some 87, some (some 84, true)⟩, ⟨Op.indexAddr 60 (Operand.tmp 85) (Operand.tmp 87), some 88, some (some 84, true)⟩, ⟨Op.load 4 (Operand.tmp 88), some 89, some (some 84, true)⟩, ⟨Op.pick (Operand.tmp 84) (Operand.tmp 89) (Operand.const (Value.bool false)), some 90, some (some 78, false)⟩, ⟨Op.pick (Operand.tmp 78) (Operand.const (Value.bool true)) (Operand.tmp 90), some 91, none⟩, ⟨Op.assign (Operand.tmp 91), some 10, none⟩] fun K hK => ?_
                try simp
                repeat' first | ((first | refine evL_c ?_ | (refine evL_g rfl ?_; try simp only [gs_tt, gs_ff, gs_tf, gs_ft]) | refine evL_u rfl ?_ | (with_reducible refine gsplit (fun hg => ?_) (fun hg => ?_) <;> try simp at hg)) <;> try simp [-List.map_set, hm, hk, hn, hb, hs1, hs2, hq1, hq2, hq3, hg0, hp0, hp1, hi1, hbi, he0, he1]) | (with_reducible refine And.intro ?_ ?_) | intro _ | (with_reducible assumption) | omega
                all_goals (refine Fin.go hK ?_; clear hK K)
                all_goals
                  (try simp [hm, hk, hn, hb, touchM, *]) <;> (first | omega | (simp; done) | (rw [Bool.eq_iff_iff]; simp only [Bool.or_eq_true, Bool.and_eq_true, Bool.not_eq_true', decide_eq_true_eq, decide_eq_false_iff_not]; omega) | (clear hq1 hq2 hq3 hs1 hs2 hg0 hE; grind) | (simp_all; done) | (simp_all; omega))
              · simp only [over, List.foldl, List.set]
                refine Run.seq ?_
                refine Run.cut [92, 93, 94, 95, 96, 97, 98] [(98, .bool (badM2 c p.slot (rdI p.edges i) bi))] [(0, .data 1 (bi.map encB)), (400, .vals ((encC c ++ [D.int c.nodes.length]).map .d)), (500, .vals ((encP p).map .d)), (1000, .vals ((encE (rdI c.edges (rdI p.edges i))).map .d))] ?_ ?_
                · refine opsF [⟨Op.move (Operand.tmp 10), some 92, none⟩, ⟨Op.unOp UnOp.not 4 (Operand.tmp 92), some 93, none⟩, ⟨Op.move (Operand.tmp 93), some 94, none⟩, ⟨Op.fieldAddr 105 (Operand.tmp 9) 4, some 95, some (some 94, false)⟩, ⟨Op.load 103 (Operand.tmp 95), some 96, some (some 94, false)⟩, ⟨Op.binOp BinOp.neq 103 (Operand.tmp 96) (Operand.const (Value.int IntKind.i64 0)) 103, some 97, some (some 94, false)⟩, ⟨Op.pick (Operand.tmp 94) (Operand.const (Value.bool true)) (Operand.tmp 97), some 98, none⟩] fun K hK => ?_
                  try simp
                  repeat' first | ((first | refine evL_c ?_ | (refine evL_g rfl ?_; try simp only [gs_tt, gs_ff, gs_tf, gs_ft]) | refine evL_u rfl ?_ | (with_reducible refine gsplit (fun hg => ?_) (fun hg => ?_) <;> try simp at hg)) <;> try simp [-List.map_set, hm, hk, hn, hb, hs1, hs2, hq1, hq2, hq3, hg0, hp0, hp1, hi1, hbi, he0, he1]) | (with_reducible refine And.intro ?_ ?_) | intro _ | (with_reducible assumption) | omega
                  all_goals (refine Fin.go hK ?_; clear hK K)
                  all_goals
                    (try simp [hm, hk, hn, hb, badM2, *]) <;> (first | omega | (simp; done) | (rw [Bool.eq_iff_iff]; simp only [Bool.or_eq_true, Bool.and_eq_true, Bool.not_eq_true', decide_eq_true_eq, decide_eq_false_iff_not]; omega) | (clear hq1 hq2 hq3 hs1 hs2 hg0 hE; grind) | (simp_all; done) | (simp_all; omega))
                · simp only [over, List.foldl, List.set]
                  refine Run.cond rfl (fun h98 => ?_) (fun h98 => ?_)
                  · try simp at h98
                    refine Run.seq ?_
                    refine opsF oo1 fun K hK => ?_
                    try simp
                    repeat' first | ((refine evL_c ?_); simp [-List.map_set, hm, hk, hn, hb, hs1, hs2, hq1, hq2, hq3, hg0, hp0, hp1, hi1, hbi, he0, he1]) | (with_reducible refine And.intro ?_ ?_) | intro _ | (with_reducible assumption) | omega
                    all_goals (refine Fin.go hK ?_; clear hK K)
                    simp only [Then_normal]
                    refine Run.ret ?_
                    try simp only [Then_ret, Blok_ret]
                    first
                      | (have e : meetB c p b = false := by simp [meetB, h33]
                         simp [meetR, e, h33, hn]; done)
                      | (have e1 : meetL c p.slot p.edges b = (false, bi) := by rw [hml, meetL_bad (by omega) (.inl h59)]
                         simp [meetR, meetB, e1, h33, hn]; done)
                      | (have e1 : meetL c p.slot p.edges b = (false, bi) := by rw [hml, meetL_bad (by omega) (.inr h98)]
                         simp [meetR, meetB, e1, h33, hn]; done)
                      | (have e1 : meetL c p.slot p.edges b = (true, bi) := by rw [hml, meetL_end (by omega)]
                         simp [-List.map_set, meetR, meetB, e1, h33, hn]; done)
                  · try simp at h98
                    refine Run.skip ?_
                    simp only [Then_normal]
                    refine opsF [⟨Op.move (Operand.tmp 2), some 99, none⟩, ⟨Op.fieldAddr 86 (Operand.tmp 3) 1, some 100, none⟩, ⟨Op.load 3 (Operand.tmp 100), some 101, none⟩, ⟨Op.move (Operand.tmp 8), some 102, none⟩, ⟨Op.binOp BinOp.add 3 (Operand.tmp 101) (Operand.tmp 102) 3, some 103, none⟩, ⟨Op.indexAddr 60 (Operand.tmp 99) (Operand.tmp 103), some 104, none⟩, ⟨Op.store 4 (Operand.tmp 104) (Operand.const (Value.bool true)), none, none⟩] fun K hK => ?_
                    try simp
                    repeat' first | ((refine evL_c ?_); simp [-List.map_set, hm, hk, hn, hb, hs1, hs2, hq1, hq2, hq3, hg0, hp0, hp1, hi1, hbi, he0, he1]) | (with_reducible refine And.intro ?_ ?_) | intro _ | (with_reducible assumption) | omega
                    all_goals (refine Fin.go hK ?_; clear hK K)
                    simp only [Blok_normal]
                    simp only [Then_normal]
                    refine opsF [⟨Op.binOp BinOp.add 3 (Operand.tmp 37) (Operand.const (Value.int IntKind.i64 1)) 3, some 105, none⟩, ⟨Op.move (Operand.tmp 105), some 37, none⟩] fun K hK => ?_
                    try simp
                    repeat' first | ((refine evL_c ?_); simp [-List.map_set, hm, hk, hn, hb, hs1, hs2, hq1, hq2, hq3, hg0, hp0, hp1, hi1, hbi, he0, he1]) | (with_reducible refine And.intro ?_ ?_) | intro _ | (with_reducible assumption) | omega
                    all_goals (refine Fin.go hK ?_; clear hK K)
                    refine ⟨(i + 1, bi.set ((n:Int) + rdI p.edges i).toNat true), ⟨by simp; omega, by simp [hbi], ?_⟩, by simp; omega, ?_⟩
                    · rw [hml, meetL_step (by omega) h59 h98, hn]
                    · simp (disch := omega) [wrap_id, -List.map_set, hn]
      · try simp at h38
        refine Run.exit ?_
        simp (decide := true) only [Then_exit, Blok_exit, if_true, if_false]
        simp only [Then_normal]
        refine Run.seq ?_
        refine opsF [⟨Op.move (Operand.tmp 2), some 106, none⟩, ⟨Op.fieldAddr 27 (Operand.tmp 4) 2, some 107, none⟩, ⟨Op.load 3 (Operand.tmp 107), some 108, none⟩, ⟨Op.indexAddr 60 (Operand.tmp 106) (Operand.tmp 108), some 109, none⟩, ⟨Op.store 4 (Operand.tmp 109) (Operand.const (Value.bool true)), none, none⟩] fun K hK => ?_
        try simp
        repeat' first | ((refine evL_c ?_); simp [-List.map_set, hm, hk, hn, hb, hs1, hs2, hq1, hq2, hq3, hg0, hp0, hp1, hbi]) | (with_reducible refine And.intro ?_ ?_) | intro _ | (with_reducible assumption) | omega
        all_goals (refine Fin.go hK ?_; clear hK K)
        simp only [Then_normal]
        refine Run.seq ?_
        refine opsF oo2 fun K hK => ?_
        try simp
        repeat' first | ((refine evL_c ?_); simp [-List.map_set, hm, hk, hn, hb, hs1, hs2, hq1, hq2, hq3, hg0, hp0, hp1, hbi]) | (with_reducible refine And.intro ?_ ?_) | intro _ | (with_reducible assumption) | omega
        all_goals (refine Fin.go hK ?_; clear hK K)
        simp only [Then_normal]
        refine Run.ret ?_
        try simp only [Then_ret, Blok_ret]
        first
          | (have e : meetB c p b = false := by simp [meetB, h33]
             simp [meetR, e, h33, hn]; done)
          | (have e1 : meetL c p.slot p.edges b = (false, bi) := by rw [hml, meetL_bad (by omega) (.inl h59)]
             simp [meetR, meetB, e1, h33, hn]; done)
          | (have e1 : meetL c p.slot p.edges b = (false, bi) := by rw [hml, meetL_bad (by omega) (.inr h98)]
             simp [meetR, meetB, e1, h33, hn]; done)
          | (have e1 : meetL c p.slot p.edges b = (true, bi) := by rw [hml, meetL_end (by omega)]
             simp [-List.map_set, meetR, meetB, e1, h33, hn]; done)


end Go.Proofs.Ytihbejpkfifplaa.Z
end
section
set_option maxRecDepth 100000
namespace Go.Proofs.Ytihbejpkfifplaa.Z
open Go Go.Fw
def wants (op : Int) : Option Nat := if op = 1 then some 0 else if op = 2 then some 1 else if op = 3 then some 1 else if op = 4 then some 2 else if op = 5 then some 1 else if op = 6 then some 1 else none
/-- a Join's second kid's, behind so many slots of the first one's -/
def jn (n : Int) (a b : List Bool) : Nat → Bool × List Bool
  | 0 => (true, b)
  | i + 1 => ((jn n a b i).1 && !(rdI a i && (rdI (jn n a b i).2 i && decide (n ≤ i))), (jn n a b i).2.set i (rdI (jn n a b i).2 i || rdI a i))
def opS (c : CoreT) (p : PlanT) (bs : List (List Bool)) : Option (List Bool) :=
  if p.op = 1 then (if 0 ≤ p.slot ∧ p.slot < c.nodes.length then some ((List.replicate (c.nodes.length + c.edges.length) false).set p.slot.toNat true) else none)
  else if p.op = 2 ∨ p.op = 3 then (if edgeB c p (bs.getD 0 []) then some (edgeL c p (bs.getD 0 [])) else none)
  else if p.op = 4 then (if (jn c.nodes.length (bs.getD 0 []) (bs.getD 1 []) (c.nodes.length + c.edges.length)).1 then some (jn c.nodes.length (bs.getD 0 []) (bs.getD 1 []) (c.nodes.length + c.edges.length)).2 else none)
  else if p.op = 5 then (if meetB c p (bs.getD 0 []) then some (meetR c p (bs.getD 0 [])) else none)
  else if p.terms.all (bindsS (bs.getD 0 [])) then some (bs.getD 0 []) else none
mutual
def bndT (c : CoreT) : PlanT → Option (List Bool)
  | .mk o k s e b t => if wants o = some k.length then (bndL c k).bind (opS c (.mk o k s e b t)) else none
def bndL (c : CoreT) : List PlanT → Option (List (List Bool))
  | [] => some []
  | p :: r => (bndT c p).bind fun b => (bndL c r).map fun bs => b :: bs
end
theorem bndT_eq (c : CoreT) (p : PlanT) : bndT c p = if wants p.op = some p.kids.length then (bndL c p.kids).bind (opS c p) else none := by cases p; rw [bndT]; rfl
def resB : Option (List Bool) → V
  | none => vnil
  | some b => .rs 0 1 0 b.length
def stoB : Option (List Bool) → Store
  | none => []
  | some b => [(0, .data 1 (b.map encB))]
theorem pat_rng {c : CoreT} (h : patS c.nodes c.edges = true) : 1 ≤ c.nodes.length ∧ c.nodes.length ≤ 8 ∧ c.edges.length ≤ 8 := by
  simp [patS] at h; omega
theorem edgeL_len (c : CoreT) (p : PlanT) (b : List Bool) : (edgeL c p b).length = b.length := by unfold edgeL; split <;> simp
theorem meetL_len (c : CoreT) (s : Int) (l : List Int) (b : List Bool) : (meetL c s l b).2.length = b.length := by
  induction l generalizing b with
  | nil => rfl
  | cons e r ih => rw [meetL]; split <;> simp [ih]
theorem meetR_len (c : CoreT) (p : PlanT) (b : List Bool) : (meetR c p b).length = b.length := by
  unfold meetR; split
  · rfl
  · split <;> simp [meetL_len]
theorem jn_len (n : Int) (a b : List Bool) (i : Nat) : (jn n a b i).2.length = b.length := by
  induction i with
  | zero => rfl
  | succ i ih => simp [jn, ih]
end Go.Proofs.Ytihbejpkfifplaa.Z
end
section
namespace Go.Proofs.Ytihbejpkfifplaa.Z
open Go Go.Fw
structure StepC where
  op : Int
  slot : Int
  edges : D
  back : Bool
  terms : D
  table : Int
abbrev nilD : D := .lit (.slice none 0 0)
instance : Inhabited StepC := ⟨⟨0, 0, nilD, false, nilD, 0⟩⟩
structure PipeC where
  scan : Int
  steps : List StepC
  sink : Int
instance : Inhabited PipeC := ⟨⟨0, [], 0⟩⟩
def encK (s : StepC) : List D := [.int s.op, .int s.slot, s.edges, .bool s.back, s.terms, .int s.table]
def encW (p : PipeC) : List D := [.int p.scan, .sl false (p.steps.map encK), .int p.sink]
def encTb (l : List Int) : List D := [.sl false (l.map encI)]
attribute [simp] encK encW encTb
abbrev StC := List (List Int) × List PipeC
/-- the slots by which a table is asked -/
def keyN (a b : List Bool) : Nat → List Int
  | 0 => []
  | i + 1 => if rdI a i && rdI b i then keyN a b i ++ [(i : Int)] else keyN a b i
def stepO (p : PlanT) : StepC :=
  if p.op = 2 then ⟨1, 0, .sl false (p.edges.map encI), p.back, nilD, 0⟩
  else if p.op = 3 then ⟨2, 0, .sl false (p.edges.map encI), p.back, nilD, 0⟩
  else if p.op = 5 then ⟨3, p.slot, .sl false (p.edges.map encI), false, nilD, 0⟩
  else ⟨4, 0, nilD, false, .sl false (p.terms.map encT), 0⟩
def onC (x : PipeC) (s : StepC) : PipeC := ⟨x.scan, x.steps ++ [s], x.sink⟩
def pipeO (c : CoreT) (p : PlanT) (xs : List PipeC) (st : StC) : PipeC × StC :=
  if p.op = 1 then (⟨p.slot, [], -1⟩, st)
  else if p.op = 4 then
    (onC (xs.getD 0 default) ⟨5, 0, nilD, false, nilD, st.1.length⟩, (st.1 ++ [keyN ((bndT c (rdI p.kids 0)).getD []) ((bndT c (rdI p.kids 1)).getD []) (c.nodes.length + c.edges.length)], st.2 ++ [⟨(xs.getD 1 default).scan, (xs.getD 1 default).steps, st.1.length⟩]))
  else (onC (xs.getD 0 default) (stepO p), st)
mutual
def pipeT (c : CoreT) : PlanT → StC → PipeC × StC
  | .mk o k s e b t, st => pipeO c (.mk o k s e b t) (pipeL c k st).1 (pipeL c k st).2
def pipeL (c : CoreT) : List PlanT → StC → List PipeC × StC
  | [], st => ([], st)
  | p :: r, st => ((pipeT c p st).1 :: (pipeL c r (pipeT c p st).2).1, (pipeL c r (pipeT c p st).2).2)
end
theorem pipeT_eq (c : CoreT) (p : PlanT) (st : StC) : pipeT c p st = pipeO c p (pipeL c p.kids st).1 (pipeL c p.kids st).2 := by cases p; rw [pipeT]; rfl
/-- what a pipe's making is given, what it leaves, what it answers -/
def s0C (c : CoreT) (st : StC) : Store := [(0, .vals ((encC c).map .d ++ [.rs 1 1 0 st.1.length, .rs 2 3 0 st.2.length])), (1, .data 1 (st.1.map encTb)), (2, .data 3 (st.2.map encW))]
def s1C (c : CoreT) (st : StC) (x : PipeC) : Store := [(0, .vals ((encC c).map .d ++ [.rs 3 1 0 st.1.length, .rs 4 3 0 st.2.length])), (3, .data 1 (st.1.map encTb)), (4, .data 3 (st.2.map encW)), (5, .data 6 (x.steps.map encK))]
def resC (x : PipeC) : V := .ag [.int x.scan, .rs 5 6 0 x.steps.length, .int x.sink]
@[simp] theorem lost3 (a b c : Nat) (s1 : Store) (id : Nat) : lost [a, b, c] s1 id = ((a == id && (getB s1 0).isNone) || (b == id && (getB s1 1).isNone) || (c == id && (getB s1 2).isNone)) := by
  have : List.range 3 = [0, 1, 2] := rfl
  simp only [lost, List.length_cons, List.length_nil, Nat.reduceAdd, this, List.any_cons, List.any_nil, Bool.or_false, Bool.or_assoc]
  rfl
end Go.Proofs.Ytihbejpkfifplaa.Z
end
section
set_option maxRecDepth 100000
namespace Go.Proofs.Ytihbejpkfifplaa.Z
open Go Go.Fw
attribute [-simp] lost
set_option maxHeartbeats 4000000 in
theorem on_ok (c : CoreT) (p : PlanT) (s : StepC) (st st' : StC) (x : PipeC) (hk : 0 < p.kids.length) (hl : x.steps.length ≤ 1000000) (IH : SndW P 31 [.pt 0 0 0 0, .d (.ag (encP (rdI p.kids 0)))] (s0C c st) (resC x) (s1C c st' x)) : SndW P 88 [.pt 0 0 0 0, .d (.ag (encP p)), .d (.ag (encK s))] (s0C c st) (resC (onC x s)) (s1C c st' (onC x s)) := by
  obtain ⟨k, hkl⟩ : ∃ x, p.kids.length = x := ⟨_, rfl⟩
  obtain ⟨m, hm⟩ : ∃ y, x.steps.length = y := ⟨_, rfl⟩
  rw [hkl] at hk
  rw [hm] at hl
  have hI := IH
  simp only [encP_cells, s0C, s1C, resC, hm] at hI
  simp only [s0C, s1C, resC]
  refine sndW_of [0, 1, 2, 1403, 1404, 1900] Try.func88 rfl (by kernel_rfl) Try.ntmps88 (by simp) (by simp [s0C]) ?_
  unfold Try.f88
  simp only [List.cons_append, List.nil_append, List.length_cons, List.length_nil, Nat.reduceAdd, Nat.reduceSub, List.replicate]
  refine Run.seq ?_
  refine opsF [⟨Op.box 27 (Operand.tmp 1), some 4, none⟩, ⟨Op.box 48 (Operand.tmp 2), some 5, none⟩, ⟨Op.alloc 45, some 6, none⟩] fun K hK => ?_
  try simp
  repeat' first | ((refine evL_c ?_); simp [hkl, hm, hk]) | (with_reducible refine And.intro ?_ ?_) | intro _ | (with_reducible assumption) | omega
  all_goals (refine Fin.go hK ?_; clear hK K)
  simp only [Then_normal]
  refine Run.seq ?_
  refine opsT [⟨Op.move (Operand.tmp 0), some 8, none⟩, ⟨Op.fieldAddr 27 (Operand.tmp 4) 1, some 9, none⟩, ⟨Op.load 23 (Operand.tmp 9), some 10, none⟩, ⟨Op.indexAddr 23 (Operand.tmp 10) (Operand.const (Value.int IntKind.i64 0)), some 11, none⟩, ⟨Op.load 27 (Operand.tmp 11), some 12, none⟩, ⟨Op.call { callee := Callee.value (Operand.func 31), args := #[Operand.tmp 8, Operand.tmp 12], argTypes := #[77, 27] }, some 13, none⟩, ⟨Op.alloc 45, some 7, none⟩, ⟨Op.store 45 (Operand.tmp 7) (Operand.tmp 13), none, none⟩] fun K hK => ?_
  try simp
  repeat' first | (refine ecallW [0, 1, 2] (by exact hI) (by simp) (by simp) rfl ?_) | ((refine evL_c ?_); simp [hkl, hm, hk]) | (with_reducible refine And.intro ?_ ?_) | intro _ | (with_reducible assumption) | omega
  all_goals (refine Fin.go hK ?_; clear hK K)
  simp only [Then_normal]
  refine Run.seq ?_
  refine opsF [⟨Op.fieldAddr 45 (Operand.tmp 7) 1, some 14, none⟩, ⟨Op.load 43 (Operand.tmp 14), some 15, none⟩, ⟨Op.load 48 (Operand.tmp 5), some 16, none⟩, ⟨Op.buildSlice 43 1 #[(0, Operand.tmp 16)], some 17, none⟩, ⟨Op.call { callee := Callee.builtin Builtin.append, args := #[Operand.tmp 15, Operand.tmp 17], argTypes := #[43, 43] }, some 18, none⟩, ⟨Op.fieldAddr 45 (Operand.tmp 7) 1, some 19, none⟩, ⟨Op.store 43 (Operand.tmp 19) (Operand.tmp 18), none, none⟩] fun K hK => ?_
  try simp
  repeat' first | ((refine evL_c ?_); simp [hkl, hm, hk]) | (with_reducible refine And.intro ?_ ?_) | intro _ | (with_reducible assumption) | omega
  all_goals (refine Fin.go hK ?_; clear hK K)
  simp only [Then_normal]
  refine Run.seq ?_
  refine opsF [⟨Op.load 45 (Operand.tmp 7), some 20, none⟩, ⟨Op.store 45 (Operand.tmp 6) (Operand.tmp 20), none, none⟩] fun K hK => ?_
  try simp
  repeat' first | ((refine evL_c ?_); simp [hkl, hm, hk]) | (with_reducible refine And.intro ?_ ?_) | intro _ | (with_reducible assumption) | omega
  all_goals (refine Fin.go hK ?_; clear hK K)
  simp only [Then_normal]
  refine Run.ret ?_
  try simp only [Then_ret, Blok_ret]
  simp [onC, hm, List.take_of_length_le]

theorem scan_ok (c : CoreT) (p : PlanT) (st : StC) : SndW P 57 [.pt 0 0 0 0, .d (.ag (encP p))] (s0C c st) (.d (.ag [.int p.slot, nilD, .int (-1)])) (s0C c st) := by
  simp only [s0C]
  refine sndW_of [0, 1, 2] Try.func57 rfl (by kernel_rfl) Try.ntmps57 (by simp) (by simp [s0C]) ?_
  unfold Try.f57
  simp only [List.cons_append, List.nil_append, List.length_cons, List.length_nil, Nat.reduceAdd, Nat.reduceSub, List.replicate]
  refine Run.seq ?_
  refine opsF oo15 fun K hK => ?_
  try simp
  repeat' first | ((refine evL_c ?_); simp) | (with_reducible refine And.intro ?_ ?_) | intro _ | (with_reducible assumption) | omega
  all_goals (refine Fin.go hK ?_; clear hK K)
  simp only [Then_normal]
  refine Run.seq ?_
  refine opsF [⟨Op.fieldAddr 27 (Operand.tmp 3) 2, some 5, none⟩, ⟨Op.load 3 (Operand.tmp 5), some 6, none⟩, ⟨Op.build 45 #[(0, Operand.tmp 6), (2, Operand.const (Value.int IntKind.i64 (-1)))], some 7, none⟩, ⟨Op.store 45 (Operand.tmp 4) (Operand.tmp 7), none, none⟩] fun K hK => ?_
  try simp
  repeat' first | ((refine evL_c ?_); simp) | (with_reducible refine And.intro ?_ ?_) | intro _ | (with_reducible assumption) | omega
  all_goals (refine Fin.go hK ?_; clear hK K)
  simp only [Then_normal]
  refine Run.ret ?_
  try simp only [Then_ret, Blok_ret]
  simp

set_option maxHeartbeats 4000000 in
theorem expand_ok (c : CoreT) (p : PlanT) (st st' : StC) (x : PipeC) (hop : p.op = 2) (hk : 0 < p.kids.length) (hll : p.edges.length ≤ 2000000) (hl : x.steps.length ≤ 1000000) (IH : SndW P 31 [.pt 0 0 0 0, .d (.ag (encP (rdI p.kids 0)))] (s0C c st) (resC x) (s1C c st' x)) : SndW P 58 [.pt 0 0 0 0, .d (.ag (encP p))] (s0C c st) (resC (onC x (stepO p))) (s1C c st' (onC x (stepO p))) := by
  have hC := cloneI_ok p.edges hll
  have hs : stepO p = ⟨1, 0, .sl false (p.edges.map encI), p.back, nilD, 0⟩ := by simp [stepO, hop]
  have hO := on_ok c p ⟨1, 0, .sl false (p.edges.map encI), p.back, nilD, 0⟩ st st' x hk hl IH
  rw [hs]
  obtain ⟨xs, hxs⟩ : ∃ y, onC x ⟨1, 0, .sl false (p.edges.map encI), p.back, nilD, 0⟩ = y := ⟨_, rfl⟩
  rw [hxs] at hO ⊢
  obtain ⟨m, hm⟩ : ∃ y, xs.steps.length = y := ⟨_, rfl⟩
  simp only [encP_cells, s0C, s1C, resC, hm, encK] at hO
  simp only [s0C, s1C, resC, hm]
  refine sndW_of [0, 1, 2, 1403, 1404, 1405] Try.func58 rfl (by kernel_rfl) Try.ntmps58 (by simp) (by simp [s0C]) ?_
  unfold Try.f58
  simp only [List.cons_append, List.nil_append, List.length_cons, List.length_nil, Nat.reduceAdd, Nat.reduceSub, List.replicate]
  refine Run.seq ?_
  refine opsF oo15 fun K hK => ?_
  try simp
  repeat' first | ((refine evL_c ?_); simp) | (with_reducible refine And.intro ?_ ?_) | intro _ | (with_reducible assumption) | omega
  all_goals (refine Fin.go hK ?_; clear hK K)
  simp only [Then_normal]
  refine Run.seq ?_
  refine Run.opsP [89] [⟨Op.move (Operand.tmp 0), some 5, none⟩, ⟨Op.load 27 (Operand.tmp 3), some 6, none⟩, ⟨Op.fieldAddr 27 (Operand.tmp 3) 3, some 7, none⟩, ⟨Op.load 24 (Operand.tmp 7), some 8, none⟩, ⟨Op.call { callee := Callee.value (Operand.func 89), args := #[Operand.tmp 8], argTypes := #[24] }, some 9, none⟩, ⟨Op.fieldAddr 27 (Operand.tmp 3) 4, some 10, none⟩, ⟨Op.load 4 (Operand.tmp 10), some 11, none⟩, ⟨Op.build 48 #[(0, Operand.const (Value.int IntKind.i64 1)), (2, Operand.tmp 9), (3, Operand.tmp 11)], some 12, none⟩, ⟨Op.call { callee := Callee.value (Operand.func 88), args := #[Operand.tmp 5, Operand.tmp 6, Operand.tmp 12], argTypes := #[77, 27, 48] }, some 13, none⟩, ⟨Op.store 45 (Operand.tmp 4) (Operand.tmp 13), none, none⟩] mixed (by decide) rfl fun K hK => ?_
  try simp
  repeat' first | (refine ecallD (by exact hC) ?_) | (refine ecallW [0, 1, 2] (by exact hO) (by simp) (by simp) rfl ?_) | ((refine evL_c ?_); simp) | (with_reducible refine And.intro ?_ ?_) | intro _ | (with_reducible assumption) | omega
  all_goals (refine Fin.go hK ?_; clear hK K)
  simp only [Then_normal]
  refine Run.ret ?_
  try simp only [Then_ret, Blok_ret]
  simp [hm]

set_option maxHeartbeats 4000000 in
theorem path_ok (c : CoreT) (p : PlanT) (st st' : StC) (x : PipeC) (hop : p.op = 3) (hk : 0 < p.kids.length) (hll : p.edges.length ≤ 2000000) (hl : x.steps.length ≤ 1000000) (IH : SndW P 31 [.pt 0 0 0 0, .d (.ag (encP (rdI p.kids 0)))] (s0C c st) (resC x) (s1C c st' x)) : SndW P 59 [.pt 0 0 0 0, .d (.ag (encP p))] (s0C c st) (resC (onC x (stepO p))) (s1C c st' (onC x (stepO p))) := by
  have hC := cloneI_ok p.edges hll
  have hs : stepO p = ⟨2, 0, .sl false (p.edges.map encI), p.back, nilD, 0⟩ := by simp [stepO, hop]
  have hO := on_ok c p ⟨2, 0, .sl false (p.edges.map encI), p.back, nilD, 0⟩ st st' x hk hl IH
  rw [hs]
  obtain ⟨xs, hxs⟩ : ∃ y, onC x ⟨2, 0, .sl false (p.edges.map encI), p.back, nilD, 0⟩ = y := ⟨_, rfl⟩
  rw [hxs] at hO ⊢
  obtain ⟨m, hm⟩ : ∃ y, xs.steps.length = y := ⟨_, rfl⟩
  simp only [encP_cells, s0C, s1C, resC, hm, encK] at hO
  simp only [s0C, s1C, resC, hm]
  refine sndW_of [0, 1, 2, 1403, 1404, 1405] Try.func59 rfl (by kernel_rfl) Try.ntmps59 (by simp) (by simp [s0C]) ?_
  unfold Try.f59
  simp only [List.cons_append, List.nil_append, List.length_cons, List.length_nil, Nat.reduceAdd, Nat.reduceSub, List.replicate]
  refine Run.seq ?_
  refine opsF oo15 fun K hK => ?_
  try simp
  repeat' first | ((refine evL_c ?_); simp) | (with_reducible refine And.intro ?_ ?_) | intro _ | (with_reducible assumption) | omega
  all_goals (refine Fin.go hK ?_; clear hK K)
  simp only [Then_normal]
  refine Run.seq ?_
  refine Run.opsP [89] [⟨Op.move (Operand.tmp 0), some 5, none⟩, ⟨Op.load 27 (Operand.tmp 3), some 6, none⟩, ⟨Op.fieldAddr 27 (Operand.tmp 3) 3, some 7, none⟩, ⟨Op.load 24 (Operand.tmp 7), some 8, none⟩, ⟨Op.call { callee := Callee.value (Operand.func 89), args := #[Operand.tmp 8], argTypes := #[24] }, some 9, none⟩, ⟨Op.fieldAddr 27 (Operand.tmp 3) 4, some 10, none⟩, ⟨Op.load 4 (Operand.tmp 10), some 11, none⟩, ⟨Op.build 48 #[(0, Operand.const (Value.int IntKind.i64 2)), (2, Operand.tmp 9), (3, Operand.tmp 11)], some 12, none⟩, ⟨Op.call { callee := Callee.value (Operand.func 88), args := #[Operand.tmp 5, Operand.tmp 6, Operand.tmp 12], argTypes := #[77, 27, 48] }, some 13, none⟩, ⟨Op.store 45 (Operand.tmp 4) (Operand.tmp 13), none, none⟩] mixed (by decide) rfl fun K hK => ?_
  try simp
  repeat' first | (refine ecallD (by exact hC) ?_) | (refine ecallW [0, 1, 2] (by exact hO) (by simp) (by simp) rfl ?_) | ((refine evL_c ?_); simp) | (with_reducible refine And.intro ?_ ?_) | intro _ | (with_reducible assumption) | omega
  all_goals (refine Fin.go hK ?_; clear hK K)
  simp only [Then_normal]
  refine Run.ret ?_
  try simp only [Then_ret, Blok_ret]
  simp [hm]

set_option maxHeartbeats 4000000 in
theorem meetC_ok (c : CoreT) (p : PlanT) (st st' : StC) (x : PipeC) (hop : p.op = 5) (hk : 0 < p.kids.length) (hll : p.edges.length ≤ 2000000) (hl : x.steps.length ≤ 1000000) (IH : SndW P 31 [.pt 0 0 0 0, .d (.ag (encP (rdI p.kids 0)))] (s0C c st) (resC x) (s1C c st' x)) : SndW P 61 [.pt 0 0 0 0, .d (.ag (encP p))] (s0C c st) (resC (onC x (stepO p))) (s1C c st' (onC x (stepO p))) := by
  have hC := cloneI_ok p.edges hll
  have hs : stepO p = ⟨3, p.slot, .sl false (p.edges.map encI), false, nilD, 0⟩ := by simp [stepO, hop]
  have hO := on_ok c p ⟨3, p.slot, .sl false (p.edges.map encI), false, nilD, 0⟩ st st' x hk hl IH
  rw [hs]
  obtain ⟨xs, hxs⟩ : ∃ y, onC x ⟨3, p.slot, .sl false (p.edges.map encI), false, nilD, 0⟩ = y := ⟨_, rfl⟩
  rw [hxs] at hO ⊢
  obtain ⟨m, hm⟩ : ∃ y, xs.steps.length = y := ⟨_, rfl⟩
  simp only [encP_cells, s0C, s1C, resC, hm, encK] at hO
  simp only [s0C, s1C, resC, hm]
  refine sndW_of [0, 1, 2, 1403, 1404, 1405] Try.func61 rfl (by kernel_rfl) Try.ntmps61 (by simp) (by simp [s0C]) ?_
  unfold Try.f61
  simp only [List.cons_append, List.nil_append, List.length_cons, List.length_nil, Nat.reduceAdd, Nat.reduceSub, List.replicate]
  refine Run.seq ?_
  refine opsF oo15 fun K hK => ?_
  try simp
  repeat' first | ((refine evL_c ?_); simp) | (with_reducible refine And.intro ?_ ?_) | intro _ | (with_reducible assumption) | omega
  all_goals (refine Fin.go hK ?_; clear hK K)
  simp only [Then_normal]
  refine Run.seq ?_
  refine Run.opsP [89] [⟨Op.move (Operand.tmp 0), some 5, none⟩, ⟨Op.load 27 (Operand.tmp 3), some 6, none⟩, ⟨Op.fieldAddr 27 (Operand.tmp 3) 2, some 7, none⟩, ⟨Op.load 3 (Operand.tmp 7), some 8, none⟩, ⟨Op.fieldAddr 27 (Operand.tmp 3) 3, some 9, none⟩, ⟨Op.load 24 (Operand.tmp 9), some 10, none⟩, ⟨Op.call { callee := Callee.value (Operand.func 89), args := #[Operand.tmp 10], argTypes := #[24] }, some 11, none⟩, ⟨Op.build 48 #[(0, Operand.const (Value.int IntKind.i64 3)), (1, Operand.tmp 8), (2, Operand.tmp 11)], some 12, none⟩, ⟨Op.call { callee := Callee.value (Operand.func 88), args := #[Operand.tmp 5, Operand.tmp 6, Operand.tmp 12], argTypes := #[77, 27, 48] }, some 13, none⟩, ⟨Op.store 45 (Operand.tmp 4) (Operand.tmp 13), none, none⟩] mixed (by decide) rfl fun K hK => ?_
  try simp
  repeat' first | (refine ecallD (by exact hC) ?_) | (refine ecallW [0, 1, 2] (by exact hO) (by simp) (by simp) rfl ?_) | ((refine evL_c ?_); simp) | (with_reducible refine And.intro ?_ ?_) | intro _ | (with_reducible assumption) | omega
  all_goals (refine Fin.go hK ?_; clear hK K)
  simp only [Then_normal]
  refine Run.ret ?_
  try simp only [Then_ret, Blok_ret]
  simp [hm]

set_option maxHeartbeats 4000000 in
theorem filter_ok (c : CoreT) (p : PlanT) (st st' : StC) (x : PipeC) (hop : p.op = 6) (hk : 0 < p.kids.length) (hll : p.terms.length ≤ 2000000) (hl : x.steps.length ≤ 1000000) (IH : SndW P 31 [.pt 0 0 0 0, .d (.ag (encP (rdI p.kids 0)))] (s0C c st) (resC x) (s1C c st' x)) : SndW P 62 [.pt 0 0 0 0, .d (.ag (encP p))] (s0C c st) (resC (onC x (stepO p))) (s1C c st' (onC x (stepO p))) := by
  have hC := cloneT_ok p.terms hll
  have hs : stepO p = ⟨4, 0, nilD, false, .sl false (p.terms.map encT), 0⟩ := by simp [stepO, hop]
  have hO := on_ok c p ⟨4, 0, nilD, false, .sl false (p.terms.map encT), 0⟩ st st' x hk hl IH
  rw [hs]
  obtain ⟨xs, hxs⟩ : ∃ y, onC x ⟨4, 0, nilD, false, .sl false (p.terms.map encT), 0⟩ = y := ⟨_, rfl⟩
  rw [hxs] at hO ⊢
  obtain ⟨m, hm⟩ : ∃ y, xs.steps.length = y := ⟨_, rfl⟩
  simp only [encP_cells, s0C, s1C, resC, hm, encK] at hO
  simp only [s0C, s1C, resC, hm]
  refine sndW_of [0, 1, 2, 1203, 1204, 1205] Try.func62 rfl (by kernel_rfl) Try.ntmps62 (by simp) (by simp [s0C]) ?_
  unfold Try.f62
  simp only [List.cons_append, List.nil_append, List.length_cons, List.length_nil, Nat.reduceAdd, Nat.reduceSub, List.replicate]
  refine Run.seq ?_
  refine opsF oo15 fun K hK => ?_
  try simp
  repeat' first | ((refine evL_c ?_); simp) | (with_reducible refine And.intro ?_ ?_) | intro _ | (with_reducible assumption) | omega
  all_goals (refine Fin.go hK ?_; clear hK K)
  simp only [Then_normal]
  refine Run.seq ?_
  refine Run.opsP [40] [⟨Op.move (Operand.tmp 0), some 5, none⟩, ⟨Op.load 27 (Operand.tmp 3), some 6, none⟩, ⟨Op.fieldAddr 27 (Operand.tmp 3) 5, some 7, none⟩, ⟨Op.load 25 (Operand.tmp 7), some 8, none⟩, ⟨Op.call { callee := Callee.value (Operand.func 40), args := #[Operand.tmp 8], argTypes := #[25] }, some 9, none⟩, ⟨Op.build 48 #[(0, Operand.const (Value.int IntKind.i64 4)), (4, Operand.tmp 9)], some 10, none⟩, ⟨Op.call { callee := Callee.value (Operand.func 88), args := #[Operand.tmp 5, Operand.tmp 6, Operand.tmp 10], argTypes := #[77, 27, 48] }, some 11, none⟩, ⟨Op.store 45 (Operand.tmp 4) (Operand.tmp 11), none, none⟩] mixed (by decide) rfl fun K hK => ?_
  try simp
  repeat' first | (refine ecallD (by exact hC) ?_) | (refine ecallW [0, 1, 2] (by exact hO) (by simp) (by simp) rfl ?_) | ((refine evL_c ?_); simp) | (with_reducible refine And.intro ?_ ?_) | intro _ | (with_reducible assumption) | omega
  all_goals (refine Fin.go hK ?_; clear hK K)
  simp only [Then_normal]
  refine Run.ret ?_
  try simp only [Then_ret, Blok_ret]
  simp [hm]


end Go.Proofs.Ytihbejpkfifplaa.Z
end
section
set_option maxRecDepth 100000
namespace Go.Proofs.Ytihbejpkfifplaa.Z
open Go Go.Fw
attribute [-simp] lost
set_option maxHeartbeats 4000000 in
theorem pipe2_ok (c : CoreT) (p : PlanT) (st st' : StC) (y : PipeC) (hop : p.op = 2) (H : SndW P 58 [.pt 0 0 0 0, .d (.ag (encP p))] (s0C c st) (resC y) (s1C c st' y)) : SndW P 31 [.pt 0 0 0 0, .d (.ag (encP p))] (s0C c st) (resC y) (s1C c st' y) := by
  obtain ⟨m, hm⟩ : ∃ x, y.steps.length = x := ⟨_, rfl⟩
  simp only [encP_cells, hop, s0C, s1C, resC, hm] at H
  simp only [s0C, s1C, resC, hm]
  refine sndW_of [0, 1, 2, 1703, 1704, 1705] Try.func31 rfl (by kernel_rfl) Try.ntmps31 (by simp) (by simp [s0C]) ?_
  unfold Try.f31
  simp only [List.cons_append, List.nil_append, List.length_cons, List.length_nil, Nat.reduceAdd, Nat.reduceSub, List.replicate]
  refine Run.seq ?_
  refine opsF oo15 fun K hK => ?_
  try simp
  repeat' first | ((refine evL_c ?_); simp [hop]) | (with_reducible refine And.intro ?_ ?_) | intro _ | (with_reducible assumption) | omega
  all_goals (refine Fin.go hK ?_; clear hK K)
  simp only [Then_normal]
  refine Run.seq ?_
  refine Run.seq ?_
  refine opsF oo16 fun K hK => ?_
  try simp
  repeat' first | ((refine evL_c ?_); simp [hop]) | (with_reducible refine And.intro ?_ ?_) | intro _ | (with_reducible assumption) | omega
  all_goals (refine Fin.go hK ?_; clear hK K)
  simp only [Then_normal]
  refine Run.block ?_
  refine Run.seq ?_
  refine opsF oo17 fun K hK => ?_
  try simp
  repeat' first | ((refine evL_c ?_); simp [hop]) | (with_reducible refine And.intro ?_ ?_) | intro _ | (with_reducible assumption) | omega
  all_goals (refine Fin.go hK ?_; clear hK K)
  simp only [Then_normal]
  refine Run.cond rfl (fun h7 => ?_) (fun h7 => ?_)
  · simp at h7
  · skip
    refine Run.seq ?_
    refine opsF oo18 fun K hK => ?_
    try simp
    repeat' first | ((refine evL_c ?_); simp [hop]) | (with_reducible refine And.intro ?_ ?_) | intro _ | (with_reducible assumption) | omega
    all_goals (refine Fin.go hK ?_; clear hK K)
    simp only [Then_normal]
    refine Run.cond rfl (fun h12 => ?_) (fun h12 => ?_)
    · skip
      refine Run.seq ?_
      refine opsT [⟨Op.move (Operand.tmp 0), some 14, none⟩, ⟨Op.load 27 (Operand.tmp 3), some 15, none⟩, ⟨Op.call { callee := Callee.value (Operand.func 58), args := #[Operand.tmp 14, Operand.tmp 15], argTypes := #[77, 27] }, some 16, none⟩, ⟨Op.store 45 (Operand.tmp 4) (Operand.tmp 16), none, none⟩] fun K hK => ?_
      try simp
      repeat' first | (refine ecallW [0, 1, 2] (by exact H) (by simp) (by simp) rfl ?_) | ((refine evL_c ?_); simp [hop]) | (with_reducible refine And.intro ?_ ?_) | intro _ | (with_reducible assumption) | omega
      all_goals (refine Fin.go hK ?_; clear hK K)
      simp only [Then_normal]
      refine Run.ret ?_
      try simp only [Then_ret, Blok_ret]
      simp [hm]
    · simp at h12

set_option maxHeartbeats 4000000 in
theorem pipe3_ok (c : CoreT) (p : PlanT) (st st' : StC) (y : PipeC) (hop : p.op = 3) (H : SndW P 59 [.pt 0 0 0 0, .d (.ag (encP p))] (s0C c st) (resC y) (s1C c st' y)) : SndW P 31 [.pt 0 0 0 0, .d (.ag (encP p))] (s0C c st) (resC y) (s1C c st' y) := by
  obtain ⟨m, hm⟩ : ∃ x, y.steps.length = x := ⟨_, rfl⟩
  simp only [encP_cells, hop, s0C, s1C, resC, hm] at H
  simp only [s0C, s1C, resC, hm]
  refine sndW_of [0, 1, 2, 2203, 2204, 2205] Try.func31 rfl (by kernel_rfl) Try.ntmps31 (by simp) (by simp [s0C]) ?_
  unfold Try.f31
  simp only [List.cons_append, List.nil_append, List.length_cons, List.length_nil, Nat.reduceAdd, Nat.reduceSub, List.replicate]
  refine Run.seq ?_
  refine opsF oo15 fun K hK => ?_
  try simp
  repeat' first | ((refine evL_c ?_); simp [hop]) | (with_reducible refine And.intro ?_ ?_) | intro _ | (with_reducible assumption) | omega
  all_goals (refine Fin.go hK ?_; clear hK K)
  simp only [Then_normal]
  refine Run.seq ?_
  refine Run.seq ?_
  refine opsF oo16 fun K hK => ?_
  try simp
  repeat' first | ((refine evL_c ?_); simp [hop]) | (with_reducible refine And.intro ?_ ?_) | intro _ | (with_reducible assumption) | omega
  all_goals (refine Fin.go hK ?_; clear hK K)
  simp only [Then_normal]
  refine Run.block ?_
  refine Run.seq ?_
  refine opsF oo17 fun K hK => ?_
  try simp
  repeat' first | ((refine evL_c ?_); simp [hop]) | (with_reducible refine And.intro ?_ ?_) | intro _ | (with_reducible assumption) | omega
  all_goals (refine Fin.go hK ?_; clear hK K)
  simp only [Then_normal]
  refine Run.cond rfl (fun h7 => ?_) (fun h7 => ?_)
  · simp at h7
  · skip
    refine Run.seq ?_
    refine opsF oo18 fun K hK => ?_
    try simp
    repeat' first | ((refine evL_c ?_); simp [hop]) | (with_reducible refine And.intro ?_ ?_) | intro _ | (with_reducible assumption) | omega
    all_goals (refine Fin.go hK ?_; clear hK K)
    simp only [Then_normal]
    refine Run.cond rfl (fun h12 => ?_) (fun h12 => ?_)
    · simp at h12
    · skip
      refine Run.seq ?_
      refine opsF oo19 fun K hK => ?_
      try simp
      repeat' first | ((refine evL_c ?_); simp [hop]) | (with_reducible refine And.intro ?_ ?_) | intro _ | (with_reducible assumption) | omega
      all_goals (refine Fin.go hK ?_; clear hK K)
      simp only [Then_normal]
      refine Run.cond rfl (fun h17 => ?_) (fun h17 => ?_)
      · skip
        refine Run.seq ?_
        refine opsT [⟨Op.move (Operand.tmp 0), some 19, none⟩, ⟨Op.load 27 (Operand.tmp 3), some 20, none⟩, ⟨Op.call { callee := Callee.value (Operand.func 59), args := #[Operand.tmp 19, Operand.tmp 20], argTypes := #[77, 27] }, some 21, none⟩, ⟨Op.store 45 (Operand.tmp 4) (Operand.tmp 21), none, none⟩] fun K hK => ?_
        try simp
        repeat' first | (refine ecallW [0, 1, 2] (by exact H) (by simp) (by simp) rfl ?_) | ((refine evL_c ?_); simp [hop]) | (with_reducible refine And.intro ?_ ?_) | intro _ | (with_reducible assumption) | omega
        all_goals (refine Fin.go hK ?_; clear hK K)
        simp only [Then_normal]
        refine Run.ret ?_
        try simp only [Then_ret, Blok_ret]
        simp [hm]
      · simp at h17

set_option maxHeartbeats 4000000 in
theorem pipe4_ok (c : CoreT) (p : PlanT) (st st' : StC) (y : PipeC) (hop : p.op = 4) (H : SndW P 60 [.pt 0 0 0 0, .d (.ag (encP p))] (s0C c st) (resC y) (s1C c st' y)) : SndW P 31 [.pt 0 0 0 0, .d (.ag (encP p))] (s0C c st) (resC y) (s1C c st' y) := by
  obtain ⟨m, hm⟩ : ∃ x, y.steps.length = x := ⟨_, rfl⟩
  simp only [encP_cells, hop, s0C, s1C, resC, hm] at H
  simp only [s0C, s1C, resC, hm]
  refine sndW_of [0, 1, 2, 2703, 2704, 2705] Try.func31 rfl (by kernel_rfl) Try.ntmps31 (by simp) (by simp [s0C]) ?_
  unfold Try.f31
  simp only [List.cons_append, List.nil_append, List.length_cons, List.length_nil, Nat.reduceAdd, Nat.reduceSub, List.replicate]
  refine Run.seq ?_
  refine opsF oo15 fun K hK => ?_
  try simp
  repeat' first | ((refine evL_c ?_); simp [hop]) | (with_reducible refine And.intro ?_ ?_) | intro _ | (with_reducible assumption) | omega
  all_goals (refine Fin.go hK ?_; clear hK K)
  simp only [Then_normal]
  refine Run.seq ?_
  refine Run.seq ?_
  refine opsF oo16 fun K hK => ?_
  try simp
  repeat' first | ((refine evL_c ?_); simp [hop]) | (with_reducible refine And.intro ?_ ?_) | intro _ | (with_reducible assumption) | omega
  all_goals (refine Fin.go hK ?_; clear hK K)
  simp only [Then_normal]
  refine Run.block ?_
  refine Run.seq ?_
  refine opsF oo17 fun K hK => ?_
  try simp
  repeat' first | ((refine evL_c ?_); simp [hop]) | (with_reducible refine And.intro ?_ ?_) | intro _ | (with_reducible assumption) | omega
  all_goals (refine Fin.go hK ?_; clear hK K)
  simp only [Then_normal]
  refine Run.cond rfl (fun h7 => ?_) (fun h7 => ?_)
  · simp at h7
  · skip
    refine Run.seq ?_
    refine opsF oo18 fun K hK => ?_
    try simp
    repeat' first | ((refine evL_c ?_); simp [hop]) | (with_reducible refine And.intro ?_ ?_) | intro _ | (with_reducible assumption) | omega
    all_goals (refine Fin.go hK ?_; clear hK K)
    simp only [Then_normal]
    refine Run.cond rfl (fun h12 => ?_) (fun h12 => ?_)
    · simp at h12
    · skip
      refine Run.seq ?_
      refine opsF oo19 fun K hK => ?_
      try simp
      repeat' first | ((refine evL_c ?_); simp [hop]) | (with_reducible refine And.intro ?_ ?_) | intro _ | (with_reducible assumption) | omega
      all_goals (refine Fin.go hK ?_; clear hK K)
      simp only [Then_normal]
      refine Run.cond rfl (fun h17 => ?_) (fun h17 => ?_)
      · simp at h17
      · skip
        refine Run.seq ?_
        refine opsF oo20 fun K hK => ?_
        try simp
        repeat' first | ((refine evL_c ?_); simp [hop]) | (with_reducible refine And.intro ?_ ?_) | intro _ | (with_reducible assumption) | omega
        all_goals (refine Fin.go hK ?_; clear hK K)
        simp only [Then_normal]
        refine Run.cond rfl (fun h22 => ?_) (fun h22 => ?_)
        · skip
          refine Run.seq ?_
          refine opsT [⟨Op.move (Operand.tmp 0), some 24, none⟩, ⟨Op.load 27 (Operand.tmp 3), some 25, none⟩, ⟨Op.call { callee := Callee.value (Operand.func 60), args := #[Operand.tmp 24, Operand.tmp 25], argTypes := #[77, 27] }, some 26, none⟩, ⟨Op.store 45 (Operand.tmp 4) (Operand.tmp 26), none, none⟩] fun K hK => ?_
          try simp
          repeat' first | (refine ecallW [0, 1, 2] (by exact H) (by simp) (by simp) rfl ?_) | ((refine evL_c ?_); simp [hop]) | (with_reducible refine And.intro ?_ ?_) | intro _ | (with_reducible assumption) | omega
          all_goals (refine Fin.go hK ?_; clear hK K)
          simp only [Then_normal]
          refine Run.ret ?_
          try simp only [Then_ret, Blok_ret]
          simp [hm]
        · simp at h22

set_option maxHeartbeats 4000000 in
theorem pipe5_ok (c : CoreT) (p : PlanT) (st st' : StC) (y : PipeC) (hop : p.op = 5) (H : SndW P 61 [.pt 0 0 0 0, .d (.ag (encP p))] (s0C c st) (resC y) (s1C c st' y)) : SndW P 31 [.pt 0 0 0 0, .d (.ag (encP p))] (s0C c st) (resC y) (s1C c st' y) := by
  obtain ⟨m, hm⟩ : ∃ x, y.steps.length = x := ⟨_, rfl⟩
  simp only [encP_cells, hop, s0C, s1C, resC, hm] at H
  simp only [s0C, s1C, resC, hm]
  refine sndW_of [0, 1, 2, 3203, 3204, 3205] Try.func31 rfl (by kernel_rfl) Try.ntmps31 (by simp) (by simp [s0C]) ?_
  unfold Try.f31
  simp only [List.cons_append, List.nil_append, List.length_cons, List.length_nil, Nat.reduceAdd, Nat.reduceSub, List.replicate]
  refine Run.seq ?_
  refine opsF oo15 fun K hK => ?_
  try simp
  repeat' first | ((refine evL_c ?_); simp [hop]) | (with_reducible refine And.intro ?_ ?_) | intro _ | (with_reducible assumption) | omega
  all_goals (refine Fin.go hK ?_; clear hK K)
  simp only [Then_normal]
  refine Run.seq ?_
  refine Run.seq ?_
  refine opsF oo16 fun K hK => ?_
  try simp
  repeat' first | ((refine evL_c ?_); simp [hop]) | (with_reducible refine And.intro ?_ ?_) | intro _ | (with_reducible assumption) | omega
  all_goals (refine Fin.go hK ?_; clear hK K)
  simp only [Then_normal]
  refine Run.block ?_
  refine Run.seq ?_
  refine opsF oo17 fun K hK => ?_
  try simp
  repeat' first | ((refine evL_c ?_); simp [hop]) | (with_reducible refine And.intro ?_ ?_) | intro _ | (with_reducible assumption) | omega
  all_goals (refine Fin.go hK ?_; clear hK K)
  simp only [Then_normal]
  refine Run.cond rfl (fun h7 => ?_) (fun h7 => ?_)
  · simp at h7
  · skip
    refine Run.seq ?_
    refine opsF oo18 fun K hK => ?_
    try simp
    repeat' first | ((refine evL_c ?_); simp [hop]) | (with_reducible refine And.intro ?_ ?_) | intro _ | (with_reducible assumption) | omega
    all_goals (refine Fin.go hK ?_; clear hK K)
    simp only [Then_normal]
    refine Run.cond rfl (fun h12 => ?_) (fun h12 => ?_)
    · simp at h12
    · skip
      refine Run.seq ?_
      refine opsF oo19 fun K hK => ?_
      try simp
      repeat' first | ((refine evL_c ?_); simp [hop]) | (with_reducible refine And.intro ?_ ?_) | intro _ | (with_reducible assumption) | omega
      all_goals (refine Fin.go hK ?_; clear hK K)
      simp only [Then_normal]
      refine Run.cond rfl (fun h17 => ?_) (fun h17 => ?_)
      · simp at h17
      · skip
        refine Run.seq ?_
        refine opsF oo20 fun K hK => ?_
        try simp
        repeat' first | ((refine evL_c ?_); simp [hop]) | (with_reducible refine And.intro ?_ ?_) | intro _ | (with_reducible assumption) | omega
        all_goals (refine Fin.go hK ?_; clear hK K)
        simp only [Then_normal]
        refine Run.cond rfl (fun h22 => ?_) (fun h22 => ?_)
        · simp at h22
        · skip
          refine Run.seq ?_
          refine opsF oo21 fun K hK => ?_
          try simp
          repeat' first | ((refine evL_c ?_); simp [hop]) | (with_reducible refine And.intro ?_ ?_) | intro _ | (with_reducible assumption) | omega
          all_goals (refine Fin.go hK ?_; clear hK K)
          simp only [Then_normal]
          refine Run.cond rfl (fun h27 => ?_) (fun h27 => ?_)
          · skip
            refine Run.seq ?_
            refine opsT [⟨Op.move (Operand.tmp 0), some 29, none⟩, ⟨Op.load 27 (Operand.tmp 3), some 30, none⟩, ⟨Op.call { callee := Callee.value (Operand.func 61), args := #[Operand.tmp 29, Operand.tmp 30], argTypes := #[77, 27] }, some 31, none⟩, ⟨Op.store 45 (Operand.tmp 4) (Operand.tmp 31), none, none⟩] fun K hK => ?_
            try simp
            repeat' first | (refine ecallW [0, 1, 2] (by exact H) (by simp) (by simp) rfl ?_) | ((refine evL_c ?_); simp [hop]) | (with_reducible refine And.intro ?_ ?_) | intro _ | (with_reducible assumption) | omega
            all_goals (refine Fin.go hK ?_; clear hK K)
            simp only [Then_normal]
            refine Run.ret ?_
            try simp only [Then_ret, Blok_ret]
            simp [hm]
          · simp at h27

set_option maxHeartbeats 4000000 in
theorem pipe6_ok (c : CoreT) (p : PlanT) (st st' : StC) (y : PipeC) (hop : p.op = 6) (H : SndW P 62 [.pt 0 0 0 0, .d (.ag (encP p))] (s0C c st) (resC y) (s1C c st' y)) : SndW P 31 [.pt 0 0 0 0, .d (.ag (encP p))] (s0C c st) (resC y) (s1C c st' y) := by
  obtain ⟨m, hm⟩ : ∃ x, y.steps.length = x := ⟨_, rfl⟩
  simp only [encP_cells, hop, s0C, s1C, resC, hm] at H
  simp only [s0C, s1C, resC, hm]
  refine sndW_of [0, 1, 2, 3503, 3504, 3505] Try.func31 rfl (by kernel_rfl) Try.ntmps31 (by simp) (by simp [s0C]) ?_
  unfold Try.f31
  simp only [List.cons_append, List.nil_append, List.length_cons, List.length_nil, Nat.reduceAdd, Nat.reduceSub, List.replicate]
  refine Run.seq ?_
  refine opsF oo15 fun K hK => ?_
  try simp
  repeat' first | ((refine evL_c ?_); simp [hop]) | (with_reducible refine And.intro ?_ ?_) | intro _ | (with_reducible assumption) | omega
  all_goals (refine Fin.go hK ?_; clear hK K)
  simp only [Then_normal]
  refine Run.seq ?_
  refine Run.seq ?_
  refine opsF oo16 fun K hK => ?_
  try simp
  repeat' first | ((refine evL_c ?_); simp [hop]) | (with_reducible refine And.intro ?_ ?_) | intro _ | (with_reducible assumption) | omega
  all_goals (refine Fin.go hK ?_; clear hK K)
  simp only [Then_normal]
  refine Run.block ?_
  refine Run.seq ?_
  refine opsF oo17 fun K hK => ?_
  try simp
  repeat' first | ((refine evL_c ?_); simp [hop]) | (with_reducible refine And.intro ?_ ?_) | intro _ | (with_reducible assumption) | omega
  all_goals (refine Fin.go hK ?_; clear hK K)
  simp only [Then_normal]
  refine Run.cond rfl (fun h7 => ?_) (fun h7 => ?_)
  · simp at h7
  · skip
    refine Run.seq ?_
    refine opsF oo18 fun K hK => ?_
    try simp
    repeat' first | ((refine evL_c ?_); simp [hop]) | (with_reducible refine And.intro ?_ ?_) | intro _ | (with_reducible assumption) | omega
    all_goals (refine Fin.go hK ?_; clear hK K)
    simp only [Then_normal]
    refine Run.cond rfl (fun h12 => ?_) (fun h12 => ?_)
    · simp at h12
    · skip
      refine Run.seq ?_
      refine opsF oo19 fun K hK => ?_
      try simp
      repeat' first | ((refine evL_c ?_); simp [hop]) | (with_reducible refine And.intro ?_ ?_) | intro _ | (with_reducible assumption) | omega
      all_goals (refine Fin.go hK ?_; clear hK K)
      simp only [Then_normal]
      refine Run.cond rfl (fun h17 => ?_) (fun h17 => ?_)
      · simp at h17
      · skip
        refine Run.seq ?_
        refine opsF oo20 fun K hK => ?_
        try simp
        repeat' first | ((refine evL_c ?_); simp [hop]) | (with_reducible refine And.intro ?_ ?_) | intro _ | (with_reducible assumption) | omega
        all_goals (refine Fin.go hK ?_; clear hK K)
        simp only [Then_normal]
        refine Run.cond rfl (fun h22 => ?_) (fun h22 => ?_)
        · simp at h22
        · skip
          refine Run.seq ?_
          refine opsF oo21 fun K hK => ?_
          try simp
          repeat' first | ((refine evL_c ?_); simp [hop]) | (with_reducible refine And.intro ?_ ?_) | intro _ | (with_reducible assumption) | omega
          all_goals (refine Fin.go hK ?_; clear hK K)
          simp only [Then_normal]
          refine Run.cond rfl (fun h27 => ?_) (fun h27 => ?_)
          · simp at h27
          · skip
            refine Run.skip ?_
            simp only [Blok_normal]
            simp only [Then_normal]
            refine Run.seq ?_
            refine opsT [⟨Op.move (Operand.tmp 0), some 32, none⟩, ⟨Op.load 27 (Operand.tmp 3), some 33, none⟩, ⟨Op.call { callee := Callee.value (Operand.func 62), args := #[Operand.tmp 32, Operand.tmp 33], argTypes := #[77, 27] }, some 34, none⟩, ⟨Op.store 45 (Operand.tmp 4) (Operand.tmp 34), none, none⟩] fun K hK => ?_
            try simp
            repeat' first | (refine ecallW [0, 1, 2] (by exact H) (by simp) (by simp) rfl ?_) | ((refine evL_c ?_); simp [hop]) | (with_reducible refine And.intro ?_ ?_) | intro _ | (with_reducible assumption) | omega
            all_goals (refine Fin.go hK ?_; clear hK K)
            simp only [Then_normal]
            refine Run.ret ?_
            try simp only [Then_ret, Blok_ret]
            simp [hm]

set_option maxHeartbeats 4000000 in
theorem pipe1_ok (c : CoreT) (p : PlanT) (st : StC) (hop : p.op = 1) : SndW P 31 [.pt 0 0 0 0, .d (.ag (encP p))] (s0C c st) (resC ⟨p.slot, [], -1⟩) (s1C c st ⟨p.slot, [], -1⟩) := by
  have H := scan_ok c p st
  simp only [encP_cells, hop, s0C] at H
  simp only [s0C, s1C, resC]
  refine sndW_of [0, 1, 2, 301, 302, 303] Try.func31 rfl (by kernel_rfl) Try.ntmps31 (by simp) (by simp [s0C]) ?_
  unfold Try.f31
  simp only [List.cons_append, List.nil_append, List.length_cons, List.length_nil, Nat.reduceAdd, Nat.reduceSub, List.replicate]
  refine Run.seq ?_
  refine opsF oo15 fun K hK => ?_
  try simp
  repeat' first | ((refine evL_c ?_); simp [hop]) | (with_reducible refine And.intro ?_ ?_) | intro _ | (with_reducible assumption) | omega
  all_goals (refine Fin.go hK ?_; clear hK K)
  simp only [Then_normal]
  refine Run.seq ?_
  refine Run.seq ?_
  refine opsF oo16 fun K hK => ?_
  try simp
  repeat' first | ((refine evL_c ?_); simp [hop]) | (with_reducible refine And.intro ?_ ?_) | intro _ | (with_reducible assumption) | omega
  all_goals (refine Fin.go hK ?_; clear hK K)
  simp only [Then_normal]
  refine Run.block ?_
  refine Run.seq ?_
  refine opsF oo17 fun K hK => ?_
  try simp
  repeat' first | ((refine evL_c ?_); simp [hop]) | (with_reducible refine And.intro ?_ ?_) | intro _ | (with_reducible assumption) | omega
  all_goals (refine Fin.go hK ?_; clear hK K)
  simp only [Then_normal]
  refine Run.cond rfl (fun h7 => ?_) (fun h7 => ?_)
  · skip
    refine Run.seq ?_
    refine opsT [⟨Op.move (Operand.tmp 0), some 9, none⟩, ⟨Op.load 27 (Operand.tmp 3), some 10, none⟩, ⟨Op.call { callee := Callee.value (Operand.func 57), args := #[Operand.tmp 9, Operand.tmp 10], argTypes := #[77, 27] }, some 11, none⟩, ⟨Op.store 45 (Operand.tmp 4) (Operand.tmp 11), none, none⟩] fun K hK => ?_
    try simp
    repeat' first | (refine ecallW [0, 1, 2] (by exact H) (by simp) (by simp) rfl ?_) | ((refine evL_c ?_); simp [hop]) | (with_reducible refine And.intro ?_ ?_) | intro _ | (with_reducible assumption) | omega
    all_goals (refine Fin.go hK ?_; clear hK K)
    simp only [Then_normal]
    refine Run.vir 303 6 (by omega) ?_
    simp
    refine Run.subB 500 1 (.rs 303 6 0 0) rfl rfl (nil_rs 303 6) ?_
    simp
    refine Run.mv 1 301 (by omega) (by simp) (by simp) ?_
    simp
    refine Run.mv 2 302 (by omega) (by simp) (by simp) ?_
    simp
    refine Run.ret ?_
    try simp only [Then_ret, Blok_ret]
    simp [hop]
  · simp at h7


end Go.Proofs.Ytihbejpkfifplaa.Z
end
section
set_option maxRecDepth 100000
namespace Go.Proofs.Ytihbejpkfifplaa.Z
open Go Go.Fw
attribute [-simp] lost
theorem keyN_len (a b : List Bool) (i : Nat) : (keyN a b i).length ≤ i := by
  induction i with
  | zero => simp [keyN]
  | succ i ih => rw [keyN]; split <;> (try simp) <;> omega
set_option maxHeartbeats 8000000 in
theorem join_ok (c : CoreT) (p : PlanT) (st st1 st2 : StC) (x y : PipeC) (b0 b1 : List Bool) (hop : p.op = 4) (hk2 : p.kids.length = 2) (hw : c.nodes.length + c.edges.length ≤ 16) (IH0 : SndW P 31 [.pt 0 0 0 0, .d (.ag (encP (rdI p.kids 0)))] (s0C c st) (resC x) (s1C c st1 x)) (IH1 : SndW P 31 [.pt 0 0 0 0, .d (.ag (encP (rdI p.kids 1)))] (s0C c st1) (resC y) (s1C c st2 y)) (hB0 : Snd P 20 [.d (.ag (encP (rdI p.kids 0))), .d (.ag (encC c))] (.tup [.d (.sl false (b0.map encB)), .int 0]) []) (hb0 : b0.length = c.nodes.length + c.edges.length) (hB1 : Snd P 20 [.d (.ag (encP (rdI p.kids 1))), .d (.ag (encC c))] (.tup [.d (.sl false (b1.map encB)), .int 0]) []) (hb1 : b1.length = c.nodes.length + c.edges.length) (l1 : x.steps.length ≤ 1000000) (l2 : st2.1.length ≤ 1000000) (l3 : st2.2.length ≤ 1000000)
    : SndW P 60 [.pt 0 0 0 0, .d (.ag (encP p))] (s0C c st) (resC (onC x ⟨5, 0, nilD, false, nilD, st2.1.length⟩)) (s1C c (st2.1 ++ [keyN b0 b1 (c.nodes.length + c.edges.length)], st2.2 ++ [⟨y.scan, y.steps, st2.1.length⟩]) (onC x ⟨5, 0, nilD, false, nilD, st2.1.length⟩)) := by
  obtain ⟨nx, hnx⟩ : ∃ z, x.steps.length = z := ⟨_, rfl⟩
  obtain ⟨ny, hny⟩ : ∃ z, y.steps.length = z := ⟨_, rfl⟩
  obtain ⟨m2, hm2⟩ : ∃ z, st2.1.length = z := ⟨_, rfl⟩
  obtain ⟨q2, hq2⟩ : ∃ z, st2.2.length = z := ⟨_, rfl⟩
  obtain ⟨n, hn⟩ : ∃ z, c.nodes.length + c.edges.length = z := ⟨_, rfl⟩
  have hkl : p.kids.length = 2 := hk2
  have hb0n : b0.length = n := by rw [hb0, hn]
  have hb1n : b1.length = n := by rw [hb1, hn]
  rw [hn] at hw
  rw [hnx] at l1
  rw [hm2] at l2
  rw [hq2] at l3
  have hI0 := IH0
  have hI1 := IH1
  have hJ0 := hB0
  have hJ1 := hB1
  rw [encP_cells] at hJ0 hJ1
  simp only [encP_cells, s0C, s1C, resC, hnx] at hI0
  simp only [encP_cells, s0C, s1C, resC, hny, hm2, hq2] at hI1
  simp only [s0C, s1C, resC, hm2, hn]
  refine sndW_of [0, 1, 2, 8500, 9700, 10700] Try.func60 rfl (by kernel_rfl) Try.ntmps60 (by simp) (by simp [s0C]) ?_
  unfold Try.f60
  simp only [List.cons_append, List.nil_append, List.length_cons, List.length_nil, Nat.reduceAdd, Nat.reduceSub, List.replicate]
  refine Run.seq ?_
  refine opsF oo15 fun K hK => ?_
  try simp
  repeat' first | ((refine evL_c ?_); simp [hkl, hnx, hny, hm2, hq2, hb0n, hb1n]) | (with_reducible refine And.intro ?_ ?_) | intro _ | (with_reducible assumption) | omega
  all_goals (refine Fin.go hK ?_; clear hK K)
  simp only [Then_normal]
  refine Run.seq ?_
  refine opsT [⟨Op.move (Operand.tmp 0), some 14, none⟩, ⟨Op.fieldAddr 27 (Operand.tmp 3) 1, some 15, none⟩, ⟨Op.load 23 (Operand.tmp 15), some 16, none⟩, ⟨Op.indexAddr 23 (Operand.tmp 16) (Operand.const (Value.int IntKind.i64 0)), some 17, none⟩, ⟨Op.load 27 (Operand.tmp 17), some 18, none⟩, ⟨Op.call { callee := Callee.value (Operand.func 31), args := #[Operand.tmp 14, Operand.tmp 18], argTypes := #[77, 27] }, some 19, none⟩, ⟨Op.alloc 45, some 5, none⟩, ⟨Op.store 45 (Operand.tmp 5) (Operand.tmp 19), none, none⟩] fun K hK => ?_
  try simp
  repeat' first | (refine ecallW [0, 1, 2] (by exact hI0) (by simp) (by simp) rfl ?_) | ((refine evL_c ?_); simp [hkl, hnx, hny, hm2, hq2, hb0n, hb1n]) | (with_reducible refine And.intro ?_ ?_) | intro _ | (with_reducible assumption) | omega
  all_goals (refine Fin.go hK ?_; clear hK K)
  simp only [Then_normal]
  refine Run.seq ?_
  refine opsT [⟨Op.move (Operand.tmp 0), some 20, none⟩, ⟨Op.fieldAddr 27 (Operand.tmp 3) 1, some 21, none⟩, ⟨Op.load 23 (Operand.tmp 21), some 22, none⟩, ⟨Op.indexAddr 23 (Operand.tmp 22) (Operand.const (Value.int IntKind.i64 1)), some 23, none⟩, ⟨Op.load 27 (Operand.tmp 23), some 24, none⟩, ⟨Op.call { callee := Callee.value (Operand.func 31), args := #[Operand.tmp 20, Operand.tmp 24], argTypes := #[77, 27] }, some 25, none⟩, ⟨Op.alloc 45, some 6, none⟩, ⟨Op.store 45 (Operand.tmp 6) (Operand.tmp 25), none, none⟩] fun K hK => ?_
  try simp
  repeat' first | (refine ecallW [0, 2003, 2004] (by exact hI1) (by simp) (by simp) rfl ?_) | ((refine evL_c ?_); simp [hkl, hnx, hny, hm2, hq2, hb0n, hb1n]) | (with_reducible refine And.intro ?_ ?_) | intro _ | (with_reducible assumption) | omega
  all_goals (refine Fin.go hK ?_; clear hK K)
  simp only [Then_normal]
  refine Run.seq ?_
  refine opsF [⟨Op.fieldAddr 27 (Operand.tmp 3) 1, some 27, none⟩, ⟨Op.load 23 (Operand.tmp 27), some 28, none⟩, ⟨Op.indexAddr 23 (Operand.tmp 28) (Operand.const (Value.int IntKind.i64 0)), some 29, none⟩, ⟨Op.load 27 (Operand.tmp 29), some 30, none⟩, ⟨Op.move (Operand.tmp 0), some 31, none⟩, ⟨Op.nilCheck (Operand.tmp 31), some 32, none⟩, ⟨Op.fieldAddr 79 (Operand.tmp 32) 0, some 33, none⟩, ⟨Op.load 33 (Operand.tmp 33), some 34, none⟩, ⟨Op.call { callee := Callee.value (Operand.func 20), args := #[Operand.tmp 30, Operand.tmp 34], argTypes := #[27, 33] }, some 35, none⟩, ⟨Op.move (Operand.tmp 35), some 26, none⟩, ⟨Op.extract (Operand.tmp 26) 0, some 36, none⟩, ⟨Op.extract (Operand.tmp 26) 1, some 37, none⟩, ⟨Op.assign (Operand.tmp 36), some 7, none⟩, ⟨Op.assign (Operand.tmp 37), some 8, none⟩] fun K hK => ?_
  try simp
  repeat' first | (refine ecall (by exact hJ0) rfl ?_) | ((refine evL_c ?_); simp [hkl, hnx, hny, hm2, hq2, hb0n, hb1n]) | (with_reducible refine And.intro ?_ ?_) | intro _ | (with_reducible assumption) | omega
  all_goals (refine Fin.go hK ?_; clear hK K)
  simp only [Then_normal]
  refine Run.seq ?_
  refine opsF [⟨Op.fieldAddr 27 (Operand.tmp 3) 1, some 39, none⟩, ⟨Op.load 23 (Operand.tmp 39), some 40, none⟩, ⟨Op.indexAddr 23 (Operand.tmp 40) (Operand.const (Value.int IntKind.i64 1)), some 41, none⟩, ⟨Op.load 27 (Operand.tmp 41), some 42, none⟩, ⟨Op.move (Operand.tmp 0), some 43, none⟩, ⟨Op.nilCheck (Operand.tmp 43), some 44, none⟩, ⟨Op.fieldAddr 79 (Operand.tmp 44) 0, some 45, none⟩, ⟨Op.load 33 (Operand.tmp 45), some 46, none⟩, ⟨Op.call { callee := Callee.value (Operand.func 20), args := #[Operand.tmp 42, Operand.tmp 46], argTypes := #[27, 33] }, some 47, none⟩, ⟨Op.move (Operand.tmp 47), some 38, none⟩, ⟨Op.extract (Operand.tmp 38) 0, some 48, none⟩, ⟨Op.extract (Operand.tmp 38) 1, some 49, none⟩, ⟨Op.assign (Operand.tmp 48), some 9, none⟩, ⟨Op.assign (Operand.tmp 49), some 10, none⟩] fun K hK => ?_
  try simp
  repeat' first | (refine ecall (by exact hJ1) rfl ?_) | ((refine evL_c ?_); simp [hkl, hnx, hny, hm2, hq2, hb0n, hb1n]) | (with_reducible refine And.intro ?_ ?_) | intro _ | (with_reducible assumption) | omega
  all_goals (refine Fin.go hK ?_; clear hK K)
  simp only [Then_normal]
  refine Run.seq ?_
  refine opsF [⟨Op.assign (Operand.const (Value.slice none 0 0)), some 11, none⟩] fun K hK => ?_
  try simp
  repeat' first | ((refine evL_c ?_); simp [hkl, hnx, hny, hm2, hq2, hb0n, hb1n]) | (with_reducible refine And.intro ?_ ?_) | intro _ | (with_reducible assumption) | omega
  all_goals (refine Fin.go hK ?_; clear hK K)
  simp only [Then_normal]
  refine Run.vir 6800 1 (by omega) ?_
  simp
  refine Run.subV 11 (.rs 6800 1 0 0) rfl (nil_rs 6800 1) ?_
  simp
  refine Run.seq ?_
  refine Run.seq ?_
  refine opsF [⟨Op.move (Operand.tmp 7), some 50, none⟩, ⟨Op.call { callee := Callee.builtin Builtin.len, args := #[Operand.tmp 50], argTypes := #[60] }, some 51, none⟩, ⟨Op.move (Operand.const (Value.int IntKind.i64 0)), some 52, none⟩] fun K hK => ?_
  try simp
  repeat' first | ((refine evL_c ?_); simp [hkl, hnx, hny, hm2, hq2, hb0n, hb1n]) | (with_reducible refine And.intro ?_ ?_) | intro _ | (with_reducible assumption) | omega
  all_goals (refine Fin.go hK ?_; clear hK K)
  simp only [Then_normal]
  refine Run.block ?_
  refine Run.loopO [11, 12, 13, 52, 53, 54, 55, 56, 57, 58, 59, 60, 61, 62, 63, 64, 65, 66, 67, 68] (fun (i : Nat) => [(52, .int i), (11, .rs 6800 1 0 (keyN b0 b1 i).length)]) (fun (i : Nat) => [(0, .vals ((encC c).map .d ++ [.rs 2603 1 0 m2, .rs 2604 3 0 q2])), (400, .vals ((encP p).map .d)), (500, .vals [.int 0, vnil, .int 0]), (600, .vals [.int x.scan, .rs 2005 6 0 nx, .int x.sink]), (700, .vals [.int y.scan, .rs 2605 6 0 ny, .int y.sink]), (2005, .data 6 (x.steps.map encK)), (2603, .data 1 (st2.1.map encTb)), (2604, .data 3 (st2.2.map encW)), (2605, .data 6 (y.steps.map encK)), (6800, .data 1 ((keyN b0 b1 i).map encI))]) (fun (i : Nat) => i ≤ n) (fun (i : Nat) => n - i) 0 (by omega) (by simp [keyN, hkl, hnx, hny, hm2, hq2, hb0n, hb1n]) fun i hi => ?_
  simp only [over, List.foldl, List.set]
  have hkn := keyN_len b0 b1 i
  have hju : keyN b0 b1 (i + 1) = if rdI b0 i && rdI b1 i then keyN b0 b1 i ++ [(i : Int)] else keyN b0 b1 i := rfl
  obtain ⟨ks, hks⟩ : ∃ z, keyN b0 b1 i = z := ⟨_, rfl⟩
  rw [hks] at hkn hju
  obtain ⟨kn, hkl2⟩ : ∃ z, ks.length = z := ⟨_, rfl⟩
  rw [hkl2] at hkn
  have htk : (ks.map encI).take kn = ks.map encI := List.take_of_length_le (by simp [hkl2])
  refine Run.seq ?_
  refine opsF [⟨Op.binOp BinOp.lss 3 (Operand.tmp 52) (Operand.tmp 51) 3, some 53, none⟩] fun K hK => ?_
  try simp
  repeat' first | ((refine evL_c ?_); simp [hkl, hnx, hny, hm2, hq2, hb0n, hb1n]) | (with_reducible refine And.intro ?_ ?_) | intro _ | (with_reducible assumption) | omega
  all_goals (refine Fin.go hK ?_; clear hK K)
  simp only [Then_normal]
  refine Run.seq ?_
  refine Run.cond rfl (fun h53 => ?_) (fun h53 => ?_)
  · try simp at h53
    have hi1 : i < n := by omega
    have hi2 : (i : Int) < n := by omega
    refine Run.skip ?_
    simp only [Then_normal]
    refine Run.seq ?_
    refine Run.block ?_
    refine Run.seq ?_
    refine opsF [⟨Op.move (Operand.tmp 52), some 54, none⟩, ⟨Op.indexAddr 60 (Operand.tmp 50) (Operand.tmp 52), some 55, none⟩, ⟨Op.load 4 (Operand.tmp 55), some 56, none⟩, ⟨Op.assign (Operand.tmp 54), some 12, none⟩, ⟨Op.assign (Operand.tmp 56), some 13, none⟩] fun K hK => ?_
    try simp
    repeat' first | ((refine evL_c ?_); simp [hkl, hnx, hny, hm2, hq2, hb0n, hb1n, hi1, hi2, hks, hkl2, htk]) | (with_reducible refine And.intro ?_ ?_) | intro _ | (with_reducible assumption) | omega
    all_goals (refine Fin.go hK ?_; clear hK K)
    simp only [Then_normal]
    refine Run.cut [57, 58, 59, 60, 61, 62, 63] [(63, .bool (rdI b0 i && rdI b1 i))] [(0, .vals ((encC c).map .d ++ [.rs 2603 1 0 m2, .rs 2604 3 0 q2])), (400, .vals ((encP p).map .d)), (500, .vals [.int 0, vnil, .int 0]), (600, .vals [.int x.scan, .rs 2005 6 0 nx, .int x.sink]), (700, .vals [.int y.scan, .rs 2605 6 0 ny, .int y.sink]), (2005, .data 6 (x.steps.map encK)), (2603, .data 1 (st2.1.map encTb)), (2604, .data 3 (st2.2.map encW)), (2605, .data 6 (y.steps.map encK)), (6800, .data 1 (ks.map encI))] ?_ ?_
    · refine opsF [⟨Op.move (Operand.tmp 13), some 57, none⟩, ⟨Op.move (Operand.tmp 57), some 58, none⟩, ⟨Op.move (Operand.tmp 9), some 59, some (some 58, true)⟩, ⟨Op.move (Operand.tmp 12), some 60, some (some 58, true)⟩, ⟨Op.indexAddr 60 (Operand.tmp 59) (Operand.tmp 60), some 61, some (some 58, true)⟩, ⟨Op.load 4 (Operand.tmp 61), some 62, some (some 58, true)⟩, ⟨Op.pick (Operand.tmp 58) (Operand.tmp 62) (Operand.const (Value.bool false)), some 63, none⟩] fun K hK => ?_
      try simp
      repeat' first | ((first | refine evL_c ?_ | (refine evL_g rfl ?_; try simp only [gs_tt, gs_ff, gs_tf, gs_ft]) | refine evL_u rfl ?_ | (with_reducible refine gsplit (fun hg => ?_) (fun hg => ?_) <;> try simp at hg)) <;> try simp [hkl, hnx, hny, hm2, hq2, hb0n, hb1n, hi1, hi2, hks, hkl2, htk, *]) | (with_reducible refine And.intro ?_ ?_) | intro _ | (with_reducible assumption) | omega
      all_goals (refine Fin.go hK ?_; clear hK K)
      all_goals
        (try simp [*]) <;> (first | omega | (simp; done) | grind)
    · simp only [over, List.foldl, List.set]
      refine Run.cond rfl (fun h63 => ?_) (fun h63 => ?_)
      · try simp at h63
        refine opsF [⟨Op.move (Operand.tmp 11), some 64, none⟩, ⟨Op.move (Operand.tmp 12), some 65, none⟩, ⟨Op.buildSlice 24 1 #[(0, Operand.tmp 65)], some 66, none⟩, ⟨Op.call { callee := Callee.builtin Builtin.append, args := #[Operand.tmp 64, Operand.tmp 66], argTypes := #[24, 24] }, some 67, none⟩, ⟨Op.assign (Operand.tmp 67), some 11, none⟩] fun K hK => ?_
        try simp
        repeat' first | ((refine evL_c ?_); simp [hkl, hnx, hny, hm2, hq2, hb0n, hb1n, hi1, hi2, hks, hkl2, htk]) | (with_reducible refine And.intro ?_ ?_) | intro _ | (with_reducible assumption) | omega
        all_goals (refine Fin.go hK ?_; clear hK K)
        simp only [Blok_normal]
        simp only [Then_normal]
        refine opsF oo22 fun K hK => ?_
        try simp
        repeat' first | ((refine evL_c ?_); simp [hkl, hnx, hny, hm2, hq2, hb0n, hb1n, hi1, hi2, hks, hkl2, htk]) | (with_reducible refine And.intro ?_ ?_) | intro _ | (with_reducible assumption) | omega
        all_goals (refine Fin.go hK ?_; clear hK K)
        refine ⟨i + 1, by omega, by omega, ?_⟩
        (try simp at h63)
        (try simp (disch := omega) [wrap_id, hju, h63, hks, hkl2, htk, hkl, hnx, hny, hm2, hq2, hb0n, hb1n]) <;> (first | done | grind)
      · try simp at h63
        refine Run.skip ?_
        simp only [Blok_normal]
        simp only [Then_normal]
        refine opsF oo22 fun K hK => ?_
        try simp
        repeat' first | ((refine evL_c ?_); simp [hkl, hnx, hny, hm2, hq2, hb0n, hb1n, hi1, hi2, hks, hkl2, htk]) | (with_reducible refine And.intro ?_ ?_) | intro _ | (with_reducible assumption) | omega
        all_goals (refine Fin.go hK ?_; clear hK K)
        refine ⟨i + 1, by omega, by omega, ?_⟩
        (try simp at h63)
        (try simp (disch := omega) [wrap_id, hju, h63, hks, hkl2, htk, hkl, hnx, hny, hm2, hq2, hb0n, hb1n]) <;> (first | done | grind)
  · try simp at h53
    have hi3 : i = n := by omega
    subst hi3
    refine Run.exit ?_
    simp (decide := true) only [Then_exit, Blok_exit, if_true, if_false]
    simp only [Then_normal]
    refine Run.seq ?_
    refine opsF [⟨Op.move (Operand.tmp 0), some 69, none⟩, ⟨Op.nilCheck (Operand.tmp 69), some 70, none⟩, ⟨Op.fieldAddr 79 (Operand.tmp 70) 1, some 71, none⟩, ⟨Op.fieldAddr 39 (Operand.tmp 71) 0, some 72, none⟩, ⟨Op.load 36 (Operand.tmp 72), some 73, none⟩, ⟨Op.call { callee := Callee.builtin Builtin.len, args := #[Operand.tmp 73], argTypes := #[36] }, some 74, none⟩, ⟨Op.fieldAddr 45 (Operand.tmp 6) 2, some 75, none⟩, ⟨Op.store 3 (Operand.tmp 75) (Operand.tmp 74), none, none⟩] fun K hK => ?_
    try simp
    repeat' first | ((refine evL_c ?_); simp [hkl, hnx, hny, hm2, hq2, hb0n, hb1n, hks, hkl2]) | (with_reducible refine And.intro ?_ ?_) | intro _ | (with_reducible assumption) | omega
    all_goals (refine Fin.go hK ?_; clear hK K)
    simp only [Then_normal]
    refine Run.frz 11 6800 rfl (by simp [hkl2]) rfl ?_
    simp [htk]
    refine Run.seq ?_
    refine opsF [⟨Op.move (Operand.tmp 0), some 76, none⟩, ⟨Op.move (Operand.tmp 0), some 77, none⟩, ⟨Op.nilCheck (Operand.tmp 77), some 78, none⟩, ⟨Op.fieldAddr 79 (Operand.tmp 78) 1, some 79, none⟩, ⟨Op.fieldAddr 39 (Operand.tmp 79) 0, some 80, none⟩, ⟨Op.load 36 (Operand.tmp 80), some 81, none⟩, ⟨Op.move (Operand.tmp 11), some 82, none⟩, ⟨Op.buildSlice 36 1 #[(0, Operand.tmp 82)], some 83, none⟩, ⟨Op.call { callee := Callee.builtin Builtin.append, args := #[Operand.tmp 81, Operand.tmp 83], argTypes := #[36, 36] }, some 84, none⟩, ⟨Op.nilCheck (Operand.tmp 76), some 85, none⟩, ⟨Op.fieldAddr 79 (Operand.tmp 85) 1, some 86, none⟩, ⟨Op.fieldAddr 39 (Operand.tmp 86) 0, some 87, none⟩, ⟨Op.store 36 (Operand.tmp 87) (Operand.tmp 84), none, none⟩] fun K hK => ?_
    try simp
    repeat' first | ((refine evL_c ?_); simp [hkl, hnx, hny, hm2, hq2, hb0n, hb1n, hks, hkl2]) | (with_reducible refine And.intro ?_ ?_) | intro _ | (with_reducible assumption) | omega
    all_goals (refine Fin.go hK ?_; clear hK K)
    simp only [Then_normal]
    refine Run.fra 2605 ?_
    simp [V.fra, V.fraL, Blk.fra, fraS, frz, List.take_of_length_le, hny]
    refine Run.seq ?_
    refine opsF [⟨Op.move (Operand.tmp 0), some 88, none⟩, ⟨Op.move (Operand.tmp 0), some 89, none⟩, ⟨Op.nilCheck (Operand.tmp 89), some 90, none⟩, ⟨Op.fieldAddr 79 (Operand.tmp 90) 1, some 91, none⟩, ⟨Op.fieldAddr 39 (Operand.tmp 91) 1, some 92, none⟩, ⟨Op.load 37 (Operand.tmp 92), some 93, none⟩, ⟨Op.load 45 (Operand.tmp 6), some 94, none⟩, ⟨Op.buildSlice 37 1 #[(0, Operand.tmp 94)], some 95, none⟩, ⟨Op.call { callee := Callee.builtin Builtin.append, args := #[Operand.tmp 93, Operand.tmp 95], argTypes := #[37, 37] }, some 96, none⟩, ⟨Op.nilCheck (Operand.tmp 88), some 97, none⟩, ⟨Op.fieldAddr 79 (Operand.tmp 97) 1, some 98, none⟩, ⟨Op.fieldAddr 39 (Operand.tmp 98) 1, some 99, none⟩, ⟨Op.store 37 (Operand.tmp 99) (Operand.tmp 96), none, none⟩] fun K hK => ?_
    try simp
    repeat' first | ((refine evL_c ?_); simp [hkl, hnx, hny, hm2, hq2, hb0n, hb1n, hks, hkl2]) | (with_reducible refine And.intro ?_ ?_) | intro _ | (with_reducible assumption) | omega
    all_goals (refine Fin.go hK ?_; clear hK K)
    simp only [Then_normal]
    refine Run.seq ?_
    refine opsF [⟨Op.fieldAddr 45 (Operand.tmp 5) 1, some 100, none⟩, ⟨Op.load 43 (Operand.tmp 100), some 101, none⟩, ⟨Op.fieldAddr 45 (Operand.tmp 6) 2, some 102, none⟩, ⟨Op.load 3 (Operand.tmp 102), some 103, none⟩, ⟨Op.build 48 #[(0, Operand.const (Value.int IntKind.i64 5)), (5, Operand.tmp 103)], some 104, none⟩, ⟨Op.buildSlice 43 1 #[(0, Operand.tmp 104)], some 105, none⟩, ⟨Op.call { callee := Callee.builtin Builtin.append, args := #[Operand.tmp 101, Operand.tmp 105], argTypes := #[43, 43] }, some 106, none⟩, ⟨Op.fieldAddr 45 (Operand.tmp 5) 1, some 107, none⟩, ⟨Op.store 43 (Operand.tmp 107) (Operand.tmp 106), none, none⟩] fun K hK => ?_
    try simp
    repeat' first | ((refine evL_c ?_); simp [hkl, hnx, hny, hm2, hq2, hb0n, hb1n, hks, hkl2]) | (with_reducible refine And.intro ?_ ?_) | intro _ | (with_reducible assumption) | omega
    all_goals (refine Fin.go hK ?_; clear hK K)
    simp only [Then_normal]
    refine Run.seq ?_
    refine opsF [⟨Op.load 45 (Operand.tmp 5), some 108, none⟩, ⟨Op.store 45 (Operand.tmp 4) (Operand.tmp 108), none, none⟩] fun K hK => ?_
    try simp
    repeat' first | ((refine evL_c ?_); simp [hkl, hnx, hny, hm2, hq2, hb0n, hb1n, hks, hkl2]) | (with_reducible refine And.intro ?_ ?_) | intro _ | (with_reducible assumption) | omega
    all_goals (refine Fin.go hK ?_; clear hK K)
    simp only [Then_normal]
    refine Run.ret ?_
    try simp only [Then_ret, Blok_ret]
    simp [onC, encW, encK, hkl, hnx, hny, hm2, hq2, hb0n, hb1n, hks, hkl2, List.take_of_length_le]


end Go.Proofs.Ytihbejpkfifplaa.Z
end
