/- A Meet's edges. -/
import Derived.Test.YtihbejpkfifplaaPf
set_option linter.unusedVariables false
set_option linter.unusedSimpArgs false
set_option maxRecDepth 100000
namespace Go.Proofs.Ytihbejpkfifplaa.Z
open Go Go.Fw
def badM1 (c : CoreT) (e : Int) (b : List Bool) : Bool := decide (e < 0) || decide ((c.edges.length : Int) ≤ e) || rdI b (c.nodes.length + e)
def touchM (c : CoreT) (s e : Int) (b : List Bool) : Bool := (decide ((rdI c.edges e).src = s) && rdI b (rdI c.edges e).dst) || (decide ((rdI c.edges e).dst = s) && rdI b (rdI c.edges e).src)
def badM2 (c : CoreT) (s e : Int) (b : List Bool) : Bool := !touchM c s e b || !decide ((rdI c.edges e).mode = 0)
def meetL (c : CoreT) (s : Int) : List Int → List Bool → Bool × List Bool
  | [], b => (true, b)
  | e :: r, b => if badM1 c e b || badM2 c s e b then (false, b) else meetL c s r (b.set (c.nodes.length + e).toNat true)
def badSlot (c : CoreT) (p : PlanT) (b : List Bool) : Bool := decide (p.slot < 0) || decide ((c.nodes.length : Int) ≤ p.slot) || rdI b p.slot || decide (p.edges.length = 0)
def meetB (c : CoreT) (p : PlanT) (b : List Bool) : Bool := !badSlot c p b && (meetL c p.slot p.edges b).1
def meetR (c : CoreT) (p : PlanT) (b : List Bool) : List Bool := if badSlot c p b then b else if (meetL c p.slot p.edges b).1 then (meetL c p.slot p.edges b).2.set p.slot.toNat true else (meetL c p.slot p.edges b).2
theorem meetL_bad {c : CoreT} {s : Int} {l : List Int} {i : Nat} {b : List Bool} (hi : i < l.length) (h : badM1 c (rdI l i) b = true ∨ badM2 c s (rdI l i) b = true) : meetL c s (l.drop i) b = (false, b) := by
  rw [drop_rd hi, meetL, if_pos (by simpa using h)]
theorem meetL_step {c : CoreT} {s : Int} {l : List Int} {i : Nat} {b : List Bool} (hi : i < l.length) (h1 : badM1 c (rdI l i) b = false) (h2 : badM2 c s (rdI l i) b = false) : meetL c s (l.drop i) b = meetL c s (l.drop (i + 1)) (b.set (c.nodes.length + rdI l i).toNat true) := by
  rw [drop_rd hi, meetL, if_neg (by simp [h1, h2])]
theorem meetL_end {c : CoreT} {s : Int} {l : List Int} {i : Nat} {b : List Bool} (hi : l.length ≤ i) : meetL c s (l.drop i) b = (true, b) := by
  rw [List.drop_of_length_le hi, meetL]
set_option maxHeartbeats 4000000 in
theorem meet_ok (c : CoreT) (p : PlanT) (b : List Bool) (hb : b.length = c.nodes.length + c.edges.length) (hE : GoodE c) : SndW P 74 [.d (.ag (encC c ++ [D.int c.nodes.length])), .d (.ag (encP p)), .rs 0 1 0 b.length] [(0, .data 1 (b.map encB))] (.bool (meetB c p b)) [(0, .data 1 ((meetR c p b).map encB))] := by
  refine SndW.ok 1 rfl (by kernel_rfl) fun hp => ?_
  have hpm := (encP_ok hp).2.1
  clear hp
  obtain ⟨n, hn⟩ : ∃ k, c.nodes.length = k := ⟨_, rfl⟩
  obtain ⟨m, hm⟩ : ∃ m, p.edges.length = m := ⟨_, rfl⟩
  obtain ⟨k, hk⟩ : ∃ k, c.edges.length = k := ⟨_, rfl⟩
  rw [hn, hk] at hb
  rw [hm] at hpm
  refine sndW_of [0] Try.func74 rfl (by kernel_rfl) Try.ntmps74 (by simp) (by simp) ?_
  unfold Try.f74
  refine Run.okV 2 rfl fun hL => ?_
  have hs1 : 0 ≤ p.slot → p.slot < (n:Int) → p.slot.toNat < n + k := by omega
  have hs2 : 0 ≤ p.slot → p.slot < (n:Int) → p.slot < (n:Int) + k := by omega
  have hq1 : ∀ e : Int, 0 ≤ e → e < k → ((n:Int) + e).toNat < n + k := by omega
  have hq2 : ∀ e : Int, 0 ≤ e → e < k → 0 ≤ (n:Int) + e := by omega
  have hq3 : ∀ e : Int, 0 ≤ e → e < k → IntKind.i64.wrap ((n:Int) + e) = (n:Int) + e := fun e _ _ => wrap_id (by omega) (by omega)
  have hg0 : ∀ e : Int, 0 ≤ e → e < k → 0 ≤ (rdI c.edges e).src ∧ 0 ≤ (rdI c.edges e).dst ∧ (rdI c.edges e).src < (n : Int) + k ∧ (rdI c.edges e).dst < (n : Int) + k ∧ (rdI c.edges e).src.toNat < n + k ∧ (rdI c.edges e).dst.toNat < n + k := fun e h0 h1 => by
    have := hE (rdI c.edges e) (rdI_mem h0 (by omega)); rw [hn] at this; omega
  simp only [List.cons_append, List.nil_append, List.length_cons, List.length_nil, Nat.reduceAdd, Nat.reduceSub, List.replicate]
  refine Run.seq ?_
  refine Run.opsM false [⟨Op.box 86 (Operand.tmp 0), some 3, none⟩, ⟨Op.box 27 (Operand.tmp 1), some 4, none⟩, ⟨Op.assign (Operand.const (Value.bool false)), some 6, none⟩] mixed (by decide) rfl fun K hK => ?_
  try simp
  repeat' first | ((refine evL_c ?_); simp [-List.map_set, hm, hk, hn, hb, hs1, hs2, hq1, hq2, hq3, hg0]) | (with_reducible refine And.intro ?_ ?_) | intro _ | (with_reducible assumption) | omega
  all_goals (refine Fin.go hK ?_; clear hK K)
  simp only [Then_normal]
  refine Run.seq ?_
  refine Run.cut [11, 12, 13, 14, 15, 16, 17, 18, 19, 20, 21, 22, 23, 24, 25, 26, 27, 28, 29, 30, 31, 32, 33] [(33, .bool (badSlot c p b))] [(0, .data 1 (b.map encB)), (400, .vals ((encC c ++ [D.int c.nodes.length]).map .d)), (500, .vals ((encP p).map .d))] ?_ ?_
  · refine Run.opsM false [⟨Op.fieldAddr 27 (Operand.tmp 4) 2, some 11, none⟩, ⟨Op.load 3 (Operand.tmp 11), some 12, none⟩, ⟨Op.binOp BinOp.lss 3 (Operand.tmp 12) (Operand.const (Value.int IntKind.i64 0)) 3, some 13, none⟩, ⟨Op.move (Operand.tmp 13), some 14, none⟩, ⟨Op.fieldAddr 27 (Operand.tmp 4) 2, some 15, some (some 14, false)⟩, ⟨Op.load 3 (Operand.tmp 15), some 16, some (some 14, false)⟩, ⟨Op.fieldAddr 86 (Operand.tmp 3) 1, some 17, some (some 14, false)⟩, ⟨Op.load 3 (Operand.tmp 17), some 18, some (some 14, false)⟩, ⟨Op.binOp BinOp.geq 3 (Operand.tmp 16) (Operand.tmp 18) 3, some 19, some (some 14, false)⟩, ⟨Op.pick (Operand.tmp 14) (Operand.const (Value.bool true)) (Operand.tmp 19), some 20, none⟩, ⟨Op.move (Operand.tmp 20), some 21, none⟩, ⟨Op.move (Operand.tmp 2), some 22, some (some 21, false)⟩, ⟨Op.fieldAddr 27 (Operand.tmp 4) 2, some 23, some (some 21, false)⟩, ⟨Op.load 3 (Operand.tmp 23), some 24, some (some 21, false)⟩, ⟨Op.indexAddr 60 (Operand.tmp 22) (Operand.tmp 24), some 25, some (some 21, false)⟩, ⟨Op.load 4 (Operand.tmp 25), some 26, some (some 21, false)⟩, ⟨Op.pick (Operand.tmp 21) (Operand.const (Value.bool true)) (Operand.tmp 26), some 27, none⟩, ⟨Op.move (Operand.tmp 27), some 28, none⟩, ⟨Op.fieldAddr 27 (Operand.tmp 4) 3, some 29, some (some 28, false)⟩, ⟨Op.load 24 (Operand.tmp 29), some 30, some (some 28, false)⟩, ⟨Op.call { callee := Callee.builtin Builtin.len, args := #[Operand.tmp 30], argTypes := #[24] }, some 31, some (some 28, false)⟩, ⟨Op.binOp BinOp.eql 3 (Operand.tmp 31) (Operand.const (Value.int IntKind.i64 0)) 3, some 32, some (some 28, false)⟩, ⟨Op.pick (Operand.tmp 28) (Operand.const (Value.bool true)) (Operand.tmp 32), some 33, none⟩] mixed (by decide) rfl fun K hK => ?_
    try simp
    repeat' first | ((refine evL_c ?_); simp [-List.map_set, hm, hk, hn, hb, hs1, hs2, hq1, hq2, hq3, hg0, *]) | ((refine evL_g rfl ?_); (try simp only [gs_tt, gs_ff, gs_tf, gs_ft]); (try simp [-List.map_set, hm, hk, hn, hb, hs1, hs2, hq1, hq2, hq3, hg0, *])) | (refine evL_u rfl ?_) | ((with_reducible refine gsplit (fun hg => ?_) (fun hg => ?_)) <;> (try simp at hg) <;> (try simp [-List.map_set, hm, hk, hn, hb, hs1, hs2, hq1, hq2, hq3, hg0, *])) | (with_reducible refine And.intro ?_ ?_) | intro _ | (with_reducible assumption) | omega
    all_goals (refine Fin.go hK ?_; clear hK K)
    all_goals
      (try simp [hm, hk, hn, hb, badSlot, *]) <;> (first | omega | (simp; done) | (rw [Bool.eq_iff_iff]; simp only [Bool.or_eq_true, Bool.and_eq_true, Bool.not_eq_true', decide_eq_true_eq, decide_eq_false_iff_not]; omega) | (clear hq1 hq2 hq3 hs1 hs2 hg0 hE; grind) | (simp_all; done) | (simp_all; omega))
  · simp only [over, List.foldl, List.set]
    refine Run.cond rfl (fun h33 => ?_) (fun h33 => ?_)
    · try simp at h33
      refine Run.seq ?_
      refine Run.opsM false [⟨Op.assign (Operand.const (Value.bool false)), some 6, none⟩] mixed (by decide) rfl fun K hK => ?_
      try simp
      repeat' first | ((refine evL_c ?_); simp [-List.map_set, hm, hk, hn, hb, hs1, hs2, hq1, hq2, hq3, hg0]) | (with_reducible refine And.intro ?_ ?_) | intro _ | (with_reducible assumption) | omega
      all_goals (refine Fin.go hK ?_; clear hK K)
      simp only [Then_normal]
      refine Run.ret ?_
      try simp only [Then_ret, Blok_ret]
      first
        | (have e : meetB c p b = false := by simp [meetB, h33]
           simp [meetR, e, h33, hn]; done)
        | (have e1 : meetL c p.slot p.edges b = (false, bi) := by rw [hml, meetL_bad (by omega) (.inl h59)]
           simp [meetR, meetB, e1, h33, hn]; done)
        | (have e1 : meetL c p.slot p.edges b = (false, bi) := by rw [hml, meetL_bad (by omega) (.inr h98)]
           simp [meetR, meetB, e1, h33, hn]; done)
        | (have e1 : meetL c p.slot p.edges b = (true, bi) := by rw [hml, meetL_end (by omega)]
           simp [-List.map_set, meetR, meetB, e1, h33, hn]; done)
    · try simp at h33
      have h33' := h33
      simp [badSlot, hk, hn, hm] at h33'
      obtain ⟨⟨⟨hp0, hp1⟩, hp2⟩, hp3⟩ := h33'
      refine Run.skip ?_
      simp only [Then_normal]
      refine Run.seq ?_
      refine Run.seq ?_
      refine Run.opsM false [⟨Op.fieldAddr 27 (Operand.tmp 4) 3, some 34, none⟩, ⟨Op.load 24 (Operand.tmp 34), some 35, none⟩, ⟨Op.call { callee := Callee.builtin Builtin.len, args := #[Operand.tmp 35], argTypes := #[24] }, some 36, none⟩, ⟨Op.move (Operand.const (Value.int IntKind.i64 0)), some 37, none⟩] mixed (by decide) rfl fun K hK => ?_
      try simp
      repeat' first | ((refine evL_c ?_); simp [-List.map_set, hm, hk, hn, hb, hs1, hs2, hq1, hq2, hq3, hg0, hp0, hp1]) | (with_reducible refine And.intro ?_ ?_) | intro _ | (with_reducible assumption) | omega
      all_goals (refine Fin.go hK ?_; clear hK K)
      simp only [Then_normal]
      refine Run.block ?_
      refine Run.loopO [6, 8, 9, 10, 37, 38, 39, 40, 41, 42, 43, 44, 45, 46, 47, 48, 49, 50, 51, 52, 53, 54, 55, 56, 57, 58, 59, 60, 61, 62, 63, 64, 65, 66, 67, 68, 69, 70, 71, 72, 73, 74, 75, 76, 77, 78, 79, 80, 81, 82, 83, 84, 85, 86, 87, 88, 89, 90, 91, 92, 93, 94, 95, 96, 97, 98, 99, 100, 101, 102, 103, 104, 105] (fun (x : Nat × List Bool) => [(37, .int x.1)]) (fun (x : Nat × List Bool) => [(0, .data 1 (x.2.map encB)), (400, .vals ((encC c ++ [D.int c.nodes.length]).map .d)), (500, .vals ((encP p).map .d))]) (fun (x : Nat × List Bool) => x.1 ≤ m ∧ x.2.length = n + k ∧ meetL c p.slot p.edges b = meetL c p.slot (p.edges.drop x.1) x.2) (fun (x : Nat × List Bool) => m - x.1) (0, b) (by simp [hb]) (by simp [hb, hn]) fun ⟨i, bi⟩ ⟨hi, hbi, hml⟩ => ?_
      simp only at hi hbi hml
      simp only [over, List.foldl, List.set]
      refine Run.seq ?_
      refine Run.opsM false [⟨Op.binOp BinOp.lss 3 (Operand.tmp 37) (Operand.tmp 36) 3, some 38, none⟩] mixed (by decide) rfl fun K hK => ?_
      try simp
      repeat' first | ((refine evL_c ?_); simp [-List.map_set, hm, hk, hn, hb, hs1, hs2, hq1, hq2, hq3, hg0, hp0, hp1]) | (with_reducible refine And.intro ?_ ?_) | intro _ | (with_reducible assumption) | omega
      all_goals (refine Fin.go hK ?_; clear hK K)
      simp only [Then_normal]
      refine Run.seq ?_
      refine Run.cond rfl (fun h38 => ?_) (fun h38 => ?_)
      · try simp at h38
        have hi1 : i < m := by omega
        refine Run.skip ?_
        simp only [Then_normal]
        refine Run.seq ?_
        refine Run.block ?_
        refine Run.seq ?_
        refine Run.opsM false [⟨Op.indexAddr 24 (Operand.tmp 35) (Operand.tmp 37), some 39, none⟩, ⟨Op.load 3 (Operand.tmp 39), some 40, none⟩, ⟨Op.assign (Operand.tmp 40), some 8, none⟩] mixed (by decide) rfl fun K hK => ?_
        try simp
        repeat' first | ((refine evL_c ?_); simp [-List.map_set, hm, hk, hn, hb, hs1, hs2, hq1, hq2, hq3, hg0, hp0, hp1, hi1, hbi]) | (with_reducible refine And.intro ?_ ?_) | intro _ | (with_reducible assumption) | omega
        all_goals (refine Fin.go hK ?_; clear hK K)
        simp only [Then_normal]
        refine Run.seq ?_
        refine Run.cut [41, 42, 43, 44, 45, 46, 47, 48, 49, 50, 51, 52, 53, 54, 55, 56, 57, 58, 59] [(59, .bool (badM1 c (rdI p.edges i) bi))] [(0, .data 1 (bi.map encB)), (400, .vals ((encC c ++ [D.int c.nodes.length]).map .d)), (500, .vals ((encP p).map .d))] ?_ ?_
        · refine Run.opsM false [⟨Op.move (Operand.tmp 8), some 41, none⟩, ⟨Op.binOp BinOp.lss 3 (Operand.tmp 41) (Operand.const (Value.int IntKind.i64 0)) 3, some 42, none⟩, ⟨Op.move (Operand.tmp 42), some 43, none⟩, ⟨Op.move (Operand.tmp 8), some 44, some (some 43, false)⟩, ⟨Op.fieldAddr 86 (Operand.tmp 3) 0, some 45, some (some 43, false)⟩, ⟨Op.fieldAddr 33 (Operand.tmp 45) 1, some 46, some (some 43, false)⟩, ⟨Op.load 29 (Operand.tmp 46), some 47, some (some 43, false)⟩, ⟨Op.call { callee := Callee.builtin Builtin.len, args := #[Operand.tmp 47], argTypes := #[29] }, some 48, some (some 43, false)⟩, ⟨Op.binOp BinOp.geq 3 (Operand.tmp 44) (Operand.tmp 48) 3, some 49, some (some 43, false)⟩, ⟨Op.pick (Operand.tmp 43) (Operand.const (Value.bool true)) (Operand.tmp 49), some 50, none⟩, ⟨Op.move (Operand.tmp 50), some 51, none⟩, ⟨Op.move (Operand.tmp 2), some 52, some (some 51, false)⟩, ⟨Op.fieldAddr 86 (Operand.tmp 3) 1, some 53, some (some 51, false)⟩, ⟨Op.load 3 (Operand.tmp 53), some 54, some (some 51, false)⟩, ⟨Op.move (Operand.tmp 8), some 55, some (some 51, false)⟩, ⟨Op.binOp BinOp.add 3 (Operand.tmp 54) (Operand.tmp 55) 3, some 56, some (some 51, false)⟩, ⟨Op.indexAddr 60 (Operand.tmp 52) (Operand.tmp 56), some 57, some (some 51, false)⟩, ⟨Op.load 4 (Operand.tmp 57), some 58, some (some 51, false)⟩, ⟨Op.pick (Operand.tmp 51) (Operand.const (Value.bool true)) (Operand.tmp 58), some 59, none⟩] mixed (by decide) rfl fun K hK => ?_
          try simp
          repeat' first | ((refine evL_c ?_); simp [-List.map_set, hm, hk, hn, hb, hs1, hs2, hq1, hq2, hq3, hg0, hp0, hp1, hi1, hbi, *]) | ((refine evL_g rfl ?_); (try simp only [gs_tt, gs_ff, gs_tf, gs_ft]); (try simp [-List.map_set, hm, hk, hn, hb, hs1, hs2, hq1, hq2, hq3, hg0, hp0, hp1, hi1, hbi, *])) | (refine evL_u rfl ?_) | ((with_reducible refine gsplit (fun hg => ?_) (fun hg => ?_)) <;> (try simp at hg) <;> (try simp [-List.map_set, hm, hk, hn, hb, hs1, hs2, hq1, hq2, hq3, hg0, hp0, hp1, hi1, hbi, *])) | (with_reducible refine And.intro ?_ ?_) | intro _ | (with_reducible assumption) | omega
          all_goals (refine Fin.go hK ?_; clear hK K)
          all_goals
            (try simp [hm, hk, hn, hb, badM1, *]) <;> (first | omega | (simp; done) | (rw [Bool.eq_iff_iff]; simp only [Bool.or_eq_true, Bool.and_eq_true, Bool.not_eq_true', decide_eq_true_eq, decide_eq_false_iff_not]; omega) | (clear hq1 hq2 hq3 hs1 hs2 hg0 hE; grind) | (simp_all; done) | (simp_all; omega))
        · simp only [over, List.foldl, List.set]
          refine Run.cond rfl (fun h59 => ?_) (fun h59 => ?_)
          · try simp at h59
            refine Run.seq ?_
            refine Run.opsM false [⟨Op.assign (Operand.const (Value.bool false)), some 6, none⟩] mixed (by decide) rfl fun K hK => ?_
            try simp
            repeat' first | ((refine evL_c ?_); simp [-List.map_set, hm, hk, hn, hb, hs1, hs2, hq1, hq2, hq3, hg0, hp0, hp1, hi1, hbi]) | (with_reducible refine And.intro ?_ ?_) | intro _ | (with_reducible assumption) | omega
            all_goals (refine Fin.go hK ?_; clear hK K)
            simp only [Then_normal]
            refine Run.ret ?_
            try simp only [Then_ret, Blok_ret]
            first
              | (have e : meetB c p b = false := by simp [meetB, h33]
                 simp [meetR, e, h33, hn]; done)
              | (have e1 : meetL c p.slot p.edges b = (false, bi) := by rw [hml, meetL_bad (by omega) (.inl h59)]
                 simp [meetR, meetB, e1, h33, hn]; done)
              | (have e1 : meetL c p.slot p.edges b = (false, bi) := by rw [hml, meetL_bad (by omega) (.inr h98)]
                 simp [meetR, meetB, e1, h33, hn]; done)
              | (have e1 : meetL c p.slot p.edges b = (true, bi) := by rw [hml, meetL_end (by omega)]
                 simp [-List.map_set, meetR, meetB, e1, h33, hn]; done)
          · try simp at h59
            have h59' := h59
            simp [badM1, hk, hn] at h59'
            obtain ⟨⟨he0, he1⟩, he2⟩ := h59'
            refine Run.skip ?_
            simp only [Then_normal]
            refine Run.cut [9, 60, 61, 62, 63, 64, 65] [(9, .pt 1000 0 0 0)] [(0, .data 1 (bi.map encB)), (400, .vals ((encC c ++ [D.int c.nodes.length]).map .d)), (500, .vals ((encP p).map .d)), (1000, .vals ((encE (rdI c.edges (rdI p.edges i))).map .d))] ?_ ?_
            · refine Run.opsM false [⟨Op.fieldAddr 86 (Operand.tmp 3) 0, some 60, none⟩, ⟨Op.fieldAddr 33 (Operand.tmp 60) 1, some 61, none⟩, ⟨Op.load 29 (Operand.tmp 61), some 62, none⟩, ⟨Op.move (Operand.tmp 8), some 63, none⟩, ⟨Op.indexAddr 29 (Operand.tmp 62) (Operand.tmp 63), some 64, none⟩, ⟨Op.load 105 (Operand.tmp 64), some 65, none⟩, ⟨Op.alloc 105, some 9, none⟩, ⟨Op.store 105 (Operand.tmp 9) (Operand.tmp 65), none, none⟩] mixed (by decide) rfl fun K hK => ?_
              try simp
              repeat' first | ((refine evL_c ?_); simp [-List.map_set, hm, hk, hn, hb, hs1, hs2, hq1, hq2, hq3, hg0, hp0, hp1, hi1, hbi, he0, he1]) | (with_reducible refine And.intro ?_ ?_) | intro _ | (with_reducible assumption) | omega
              all_goals (refine Fin.go hK ?_; clear hK K)
              (try simp [hm, hk, hn, hb]) <;> (first | omega | (simp; done) | (rw [Bool.eq_iff_iff]; simp only [Bool.or_eq_true, Bool.and_eq_true, Bool.not_eq_true', decide_eq_true_eq, decide_eq_false_iff_not]; omega) | (clear hq1 hq2 hq3 hs1 hs2 hg0 hE; grind) | (simp_all; done) | (simp_all; omega))
            · simp only [over, List.foldl, List.set]
              refine Run.cut [10, 66, 67, 68, 69, 70, 71, 72, 73, 74, 75, 76, 77, 78, 79, 80, 81, 82, 83, 84, 85, 86, 87, 88, 89, 90, 91] [(10, .bool (touchM c p.slot (rdI p.edges i) bi))] [(0, .data 1 (bi.map encB)), (400, .vals ((encC c ++ [D.int c.nodes.length]).map .d)), (500, .vals ((encP p).map .d)), (1000, .vals ((encE (rdI c.edges (rdI p.edges i))).map .d))] ?_ ?_
              · refine Run.opsM false [⟨Op.fieldAddr 105 (Operand.tmp 9) 2, some 66, none⟩, ⟨Op.load 3 (Operand.tmp 66), some 67, none⟩, ⟨Op.fieldAddr 27 (Operand.tmp 4) 2, some 68, none⟩, ⟨Op.load 3 (Operand.tmp 68), some 69, none⟩, ⟨Op.binOp BinOp.eql 3 (Operand.tmp 67) (Operand.tmp 69) 3, some 70, none⟩, ⟨Op.move (Operand.tmp 70), some 71, none⟩, ⟨Op.move (Operand.tmp 2), some 72, some (some 71, true)⟩, ⟨Op.fieldAddr 105 (Operand.tmp 9) 3, some 73, some (some 71, true)⟩, ⟨Op.load 3 (Operand.tmp 73), some 74, some (some 71, true)⟩, ⟨Op.indexAddr 60 (Operand.tmp 72) (Operand.tmp 74), some 75, some (some 71, true)⟩, ⟨Op.load 4 (Operand.tmp 75), some 76, some (some 71, true)⟩, ⟨Op.pick (Operand.tmp 71) (Operand.tmp 76) (Operand.const (Value.bool false)), some 77, none⟩, ⟨Op.move (Operand.tmp 77), some 78, none⟩, ⟨Op.fieldAddr 105 (Operand.tmp 9) 3, some 79, some (some 78, false)⟩, ⟨Op.load 3 (Operand.tmp 79), some 80, some (some 78, false)⟩, ⟨Op.fieldAddr 27 (Operand.tmp 4) 2, some 81, some (some 78, false)⟩, ⟨Op.load 3 (Operand.tmp 81), some 82, some (some 78, false)⟩, ⟨Op.binOp BinOp.eql 3 (Operand.tmp 80) (Operand.tmp 82) 3, some 83, some (some 78, false)⟩, ⟨Op.move (Operand.tmp 83), some 84, some (some 78, false)⟩, ⟨Op.move (Operand.tmp 2), some 85, some (some 84, true)⟩, ⟨Op.fieldAddr 105 (Operand.tmp 9) 2, some 86, some (some 84, true)⟩, ⟨Op.load 3 (Operand.tmp 86), some 87, some (some 84, true)⟩, ⟨Op.indexAddr 60 (Operand.tmp 85) (Operand.tmp 87), some 88, some (some 84, true)⟩, ⟨Op.load 4 (Operand.tmp 88), some 89, some (some 84, true)⟩, ⟨Op.pick (Operand.tmp 84) (Operand.tmp 89) (Operand.const (Value.bool false)), some 90, some (some 78, false)⟩, ⟨Op.pick (Operand.tmp 78) (Operand.const (Value.bool true)) (Operand.tmp 90), some 91, none⟩, ⟨Op.assign (Operand.tmp 91), some 10, none⟩] mixed (by decide) rfl fun K hK => ?_
                try simp
                repeat' first | ((refine evL_c ?_); simp [-List.map_set, hm, hk, hn, hb, hs1, hs2, hq1, hq2, hq3, hg0, hp0, hp1, hi1, hbi, he0, he1]) | ((refine evL_g rfl ?_); (try simp only [gs_tt, gs_ff, gs_tf, gs_ft]); (try simp [-List.map_set, hm, hk, hn, hb, hs1, hs2, hq1, hq2, hq3, hg0, hp0, hp1, hi1, hbi, he0, he1])) | (refine evL_u rfl ?_) | ((with_reducible refine gsplit (fun hg => ?_) (fun hg => ?_)) <;> (try simp at hg) <;> (try simp [-List.map_set, hm, hk, hn, hb, hs1, hs2, hq1, hq2, hq3, hg0, hp0, hp1, hi1, hbi, he0, he1])) | (with_reducible refine And.intro ?_ ?_) | intro _ | (with_reducible assumption) | omega
                all_goals (refine Fin.go hK ?_; clear hK K)
                all_goals
                  (try simp [hm, hk, hn, hb, touchM, *]) <;> (first | omega | (simp; done) | (rw [Bool.eq_iff_iff]; simp only [Bool.or_eq_true, Bool.and_eq_true, Bool.not_eq_true', decide_eq_true_eq, decide_eq_false_iff_not]; omega) | (clear hq1 hq2 hq3 hs1 hs2 hg0 hE; grind) | (simp_all; done) | (simp_all; omega))
              · simp only [over, List.foldl, List.set]
                refine Run.seq ?_
                refine Run.cut [92, 93, 94, 95, 96, 97, 98] [(98, .bool (badM2 c p.slot (rdI p.edges i) bi))] [(0, .data 1 (bi.map encB)), (400, .vals ((encC c ++ [D.int c.nodes.length]).map .d)), (500, .vals ((encP p).map .d)), (1000, .vals ((encE (rdI c.edges (rdI p.edges i))).map .d))] ?_ ?_
                · refine Run.opsM false [⟨Op.move (Operand.tmp 10), some 92, none⟩, ⟨Op.unOp UnOp.not 4 (Operand.tmp 92), some 93, none⟩, ⟨Op.move (Operand.tmp 93), some 94, none⟩, ⟨Op.fieldAddr 105 (Operand.tmp 9) 4, some 95, some (some 94, false)⟩, ⟨Op.load 103 (Operand.tmp 95), some 96, some (some 94, false)⟩, ⟨Op.binOp BinOp.neq 103 (Operand.tmp 96) (Operand.const (Value.int IntKind.i64 0)) 103, some 97, some (some 94, false)⟩, ⟨Op.pick (Operand.tmp 94) (Operand.const (Value.bool true)) (Operand.tmp 97), some 98, none⟩] mixed (by decide) rfl fun K hK => ?_
                  try simp
                  repeat' first | ((refine evL_c ?_); simp [-List.map_set, hm, hk, hn, hb, hs1, hs2, hq1, hq2, hq3, hg0, hp0, hp1, hi1, hbi, he0, he1]) | ((refine evL_g rfl ?_); (try simp only [gs_tt, gs_ff, gs_tf, gs_ft]); (try simp [-List.map_set, hm, hk, hn, hb, hs1, hs2, hq1, hq2, hq3, hg0, hp0, hp1, hi1, hbi, he0, he1])) | (refine evL_u rfl ?_) | ((with_reducible refine gsplit (fun hg => ?_) (fun hg => ?_)) <;> (try simp at hg) <;> (try simp [-List.map_set, hm, hk, hn, hb, hs1, hs2, hq1, hq2, hq3, hg0, hp0, hp1, hi1, hbi, he0, he1])) | (with_reducible refine And.intro ?_ ?_) | intro _ | (with_reducible assumption) | omega
                  all_goals (refine Fin.go hK ?_; clear hK K)
                  all_goals
                    (try simp [hm, hk, hn, hb, badM2, *]) <;> (first | omega | (simp; done) | (rw [Bool.eq_iff_iff]; simp only [Bool.or_eq_true, Bool.and_eq_true, Bool.not_eq_true', decide_eq_true_eq, decide_eq_false_iff_not]; omega) | (clear hq1 hq2 hq3 hs1 hs2 hg0 hE; grind) | (simp_all; done) | (simp_all; omega))
                · simp only [over, List.foldl, List.set]
                  refine Run.cond rfl (fun h98 => ?_) (fun h98 => ?_)
                  · try simp at h98
                    refine Run.seq ?_
                    refine Run.opsM false [⟨Op.assign (Operand.const (Value.bool false)), some 6, none⟩] mixed (by decide) rfl fun K hK => ?_
                    try simp
                    repeat' first | ((refine evL_c ?_); simp [-List.map_set, hm, hk, hn, hb, hs1, hs2, hq1, hq2, hq3, hg0, hp0, hp1, hi1, hbi, he0, he1]) | (with_reducible refine And.intro ?_ ?_) | intro _ | (with_reducible assumption) | omega
                    all_goals (refine Fin.go hK ?_; clear hK K)
                    simp only [Then_normal]
                    refine Run.ret ?_
                    try simp only [Then_ret, Blok_ret]
                    first
                      | (have e : meetB c p b = false := by simp [meetB, h33]
                         simp [meetR, e, h33, hn]; done)
                      | (have e1 : meetL c p.slot p.edges b = (false, bi) := by rw [hml, meetL_bad (by omega) (.inl h59)]
                         simp [meetR, meetB, e1, h33, hn]; done)
                      | (have e1 : meetL c p.slot p.edges b = (false, bi) := by rw [hml, meetL_bad (by omega) (.inr h98)]
                         simp [meetR, meetB, e1, h33, hn]; done)
                      | (have e1 : meetL c p.slot p.edges b = (true, bi) := by rw [hml, meetL_end (by omega)]
                         simp [-List.map_set, meetR, meetB, e1, h33, hn]; done)
                  · try simp at h98
                    refine Run.skip ?_
                    simp only [Then_normal]
                    refine Run.opsM false [⟨Op.move (Operand.tmp 2), some 99, none⟩, ⟨Op.fieldAddr 86 (Operand.tmp 3) 1, some 100, none⟩, ⟨Op.load 3 (Operand.tmp 100), some 101, none⟩, ⟨Op.move (Operand.tmp 8), some 102, none⟩, ⟨Op.binOp BinOp.add 3 (Operand.tmp 101) (Operand.tmp 102) 3, some 103, none⟩, ⟨Op.indexAddr 60 (Operand.tmp 99) (Operand.tmp 103), some 104, none⟩, ⟨Op.store 4 (Operand.tmp 104) (Operand.const (Value.bool true)), none, none⟩] mixed (by decide) rfl fun K hK => ?_
                    try simp
                    repeat' first | ((refine evL_c ?_); simp [-List.map_set, hm, hk, hn, hb, hs1, hs2, hq1, hq2, hq3, hg0, hp0, hp1, hi1, hbi, he0, he1]) | (with_reducible refine And.intro ?_ ?_) | intro _ | (with_reducible assumption) | omega
                    all_goals (refine Fin.go hK ?_; clear hK K)
                    simp only [Blok_normal]
                    simp only [Then_normal]
                    refine Run.opsM false [⟨Op.binOp BinOp.add 3 (Operand.tmp 37) (Operand.const (Value.int IntKind.i64 1)) 3, some 105, none⟩, ⟨Op.move (Operand.tmp 105), some 37, none⟩] mixed (by decide) rfl fun K hK => ?_
                    try simp
                    repeat' first | ((refine evL_c ?_); simp [-List.map_set, hm, hk, hn, hb, hs1, hs2, hq1, hq2, hq3, hg0, hp0, hp1, hi1, hbi, he0, he1]) | (with_reducible refine And.intro ?_ ?_) | intro _ | (with_reducible assumption) | omega
                    all_goals (refine Fin.go hK ?_; clear hK K)
                    refine ⟨(i + 1, bi.set ((n:Int) + rdI p.edges i).toNat true), ⟨by simp; omega, by simp [hbi], ?_⟩, by simp; omega, ?_⟩
                    · rw [hml, meetL_step (by omega) h59 h98, hn]
                    · simp (disch := omega) [wrap_id, -List.map_set, hn]
      · try simp at h38
        refine Run.exit ?_
        simp (decide := true) only [Then_exit, Blok_exit, if_true, if_false]
        simp only [Then_normal]
        refine Run.seq ?_
        refine Run.opsM false [⟨Op.move (Operand.tmp 2), some 106, none⟩, ⟨Op.fieldAddr 27 (Operand.tmp 4) 2, some 107, none⟩, ⟨Op.load 3 (Operand.tmp 107), some 108, none⟩, ⟨Op.indexAddr 60 (Operand.tmp 106) (Operand.tmp 108), some 109, none⟩, ⟨Op.store 4 (Operand.tmp 109) (Operand.const (Value.bool true)), none, none⟩] mixed (by decide) rfl fun K hK => ?_
        try simp
        repeat' first | ((refine evL_c ?_); simp [-List.map_set, hm, hk, hn, hb, hs1, hs2, hq1, hq2, hq3, hg0, hp0, hp1, hbi]) | (with_reducible refine And.intro ?_ ?_) | intro _ | (with_reducible assumption) | omega
        all_goals (refine Fin.go hK ?_; clear hK K)
        simp only [Then_normal]
        refine Run.seq ?_
        refine Run.opsM false [⟨Op.assign (Operand.const (Value.bool true)), some 6, none⟩] mixed (by decide) rfl fun K hK => ?_
        try simp
        repeat' first | ((refine evL_c ?_); simp [-List.map_set, hm, hk, hn, hb, hs1, hs2, hq1, hq2, hq3, hg0, hp0, hp1, hbi]) | (with_reducible refine And.intro ?_ ?_) | intro _ | (with_reducible assumption) | omega
        all_goals (refine Fin.go hK ?_; clear hK K)
        simp only [Then_normal]
        refine Run.ret ?_
        try simp only [Then_ret, Blok_ret]
        first
          | (have e : meetB c p b = false := by simp [meetB, h33]
             simp [meetR, e, h33, hn]; done)
          | (have e1 : meetL c p.slot p.edges b = (false, bi) := by rw [hml, meetL_bad (by omega) (.inl h59)]
             simp [meetR, meetB, e1, h33, hn]; done)
          | (have e1 : meetL c p.slot p.edges b = (false, bi) := by rw [hml, meetL_bad (by omega) (.inr h98)]
             simp [meetR, meetB, e1, h33, hn]; done)
          | (have e1 : meetL c p.slot p.edges b = (true, bi) := by rw [hml, meetL_end (by omega)]
             simp [-List.map_set, meetR, meetB, e1, h33, hn]; done)


end Go.Proofs.Ytihbejpkfifplaa.Z
