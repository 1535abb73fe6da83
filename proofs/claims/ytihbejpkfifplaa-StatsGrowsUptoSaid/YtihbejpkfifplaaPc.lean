/- Counts: of a type; a product. -/
import Derived.Test.YtihbejpkfifplaaPb
set_option linter.unusedVariables false
set_option linter.unusedSimpArgs false
set_option maxRecDepth 100000
namespace Go.Proofs.Ytihbejpkfifplaa.Z
open Go Go.Fw
theorem drop_rd {α : Type} [Inhabited α] {l : List α} {i : Nat} (h : i < l.length) : l.drop i = rdI l i :: l.drop (i + 1) := by
  rw [List.drop_eq_getElem_cons h]
  simp [rdI, List.getD_eq_getElem?_getD, h]
def prodS : Int → List Int → Int
  | n, [] => n
  | n, f :: r => if f = 0 then 0 else if 1099511627776 / f < n then (if 0 ∈ r then 0 else 1099511627776) else prodS (n * f) r
theorem prod_two {a b : Int} (h0 : 0 ≤ a) (h1 : a ≤ 1099511627776) (h2 : 0 ≤ b) (h3 : b ≤ 1099511627776) : prodS 1 [a, b] = mulS a b := by
  unfold mulS
  simp only [prodS, List.mem_singleton, List.not_mem_nil, if_false, Int.one_mul]
  by_cases ha : a = 0
  · subst ha; simp
  · have ha' : 1 ≤ 1099511627776 / a := by rw [Int.le_ediv_iff_mul_le (by omega)]; omega
    rw [if_neg ha, if_neg (by omega)]
    by_cases hb : b = 0
    · subst hb
      rw [if_pos rfl, if_neg (by omega)]; simp
    · rw [if_neg hb]
      have e : 1099511627776 / b < a ↔ 0 < a ∧ 1099511627776 / a < b := by
        rw [Int.ediv_lt_iff_lt_mul (by omega), Int.ediv_lt_iff_lt_mul (by omega), Int.mul_comm b a]
        constructor
        · intro h; exact ⟨by omega, h⟩
        · intro h; exact h.2
      by_cases hc : 1099511627776 / b < a
      · rw [if_pos hc, if_pos (e.1 hc)]
      · rw [if_neg hc, if_neg (fun h => hc (e.2 h))]
theorem prod_step {n f : Int} (h0 : 0 ≤ n) (hf : 0 < f) (h : n ≤ 1099511627776 / f) : 0 ≤ n * f ∧ n * f ≤ 1099511627776 := by
  refine ⟨Int.mul_nonneg h0 (by omega), ?_⟩
  rwa [Int.le_ediv_iff_mul_le hf] at h
theorem mem_drop_rd {l : List Int} {i k : Nat} (h : k < l.length) (hk : i ≤ k) : rdI l k ∈ l.drop i := by
  rw [List.mem_iff_getElem?]
  refine ⟨k - i, ?_⟩
  rw [List.getElem?_drop, show i + (k - i) = k by omega]
  simp [rdI, List.getD_eq_getElem?_getD, h]
theorem no_zero {l : List Int} (h : ∀ j, j < l.length → rdI l (j : Nat) ≠ 0) (i : Nat) : 0 ∉ l.drop i := by
  intro hm
  obtain ⟨j, hj⟩ := List.getElem?_of_mem hm
  rw [List.getElem?_drop] at hj
  have hlt := (List.getElem?_eq_some_iff.1 hj).1
  refine h (i + j) hlt ?_
  unfold rdI
  rw [Int.toNat_natCast, List.getD_eq_getElem?_getD, hj]; rfl
theorem count_ok (nn : Bool) (l : List Int) (t : Int) : Snd P 67 [.d (.sl nn (l.map encI)), .int t] (.int (cntS l t)) [] := by
  refine Snd.ok 0 rfl (by kernel_rfl) fun hl => Snd.ok 1 rfl (by kernel_rfl) fun ht => ?_
  simp only [D.ok, List.length_map] at hl
  rw [ok_i64] at ht
  obtain ⟨hl, -⟩ := hl
  refine snd_of [] Try.func67 rfl (by kernel_rfl) Try.ntmps67 (by simp) ?_
  unfold Try.f67
  simp only [List.cons_append, List.nil_append, List.length_cons, List.length_nil, Nat.reduceAdd, Nat.reduceSub, List.replicate]
  refine Run.seq ?_
  refine Run.opsL false [⟨Op.assign (Operand.const (Value.int IntKind.i64 0)), some 4, none⟩] mixed (by decide) rfl fun K hK => ?_
  try simp
  repeat' first | (simp only [evL_cons, evL_guard]; simp) | (refine gsplit (fun hg => ?_) (fun hg => ?_) <;> (try simp at hg) <;> (try simp)) | (with_reducible assumption) | omega | refine And.intro ?_ ?_ | intro _
  all_goals (try simp only [evL_nil]; refine hK _ _ ?_; clear hK K)
  simp only [Then_normal]
  refine Run.seq ?_
  refine Run.seq ?_
  refine Run.opsL false [⟨Op.move (Operand.tmp 1), some 7, none⟩, ⟨Op.binOp BinOp.eql 3 (Operand.tmp 7) (Operand.const (Value.int IntKind.i64 (-1))) 3, some 8, none⟩] mixed (by decide) rfl fun K hK => ?_
  try simp
  repeat' first | (simp only [evL_cons, evL_guard]; simp) | (refine gsplit (fun hg => ?_) (fun hg => ?_) <;> (try simp at hg) <;> (try simp)) | (with_reducible assumption) | omega | refine And.intro ?_ ?_ | intro _
  all_goals (try simp only [evL_nil]; refine hK _ _ ?_; clear hK K)
  simp only [Then_normal]
  refine Run.cond rfl (fun h8 => ?_) (fun h8 => ?_)
  · try simp at h8
    refine Run.seq ?_
    refine Run.opsL false [⟨Op.assign (Operand.const (Value.int IntKind.i64 0)), some 5, none⟩] mixed (by decide) rfl fun K hK => ?_
    try simp
    repeat' first | (simp only [evL_cons, evL_guard]; simp [h8]) | (refine gsplit (fun hg => ?_) (fun hg => ?_) <;> (try simp at hg) <;> (try simp [h8])) | (with_reducible assumption) | omega | refine And.intro ?_ ?_ | intro _
    all_goals (try simp only [evL_nil]; refine hK _ _ ?_; clear hK K)
    simp only [Then_normal]
    refine Run.seq ?_
    refine Run.seq ?_
    refine Run.opsL false [⟨Op.assign (Operand.const (Value.int IntKind.i64 0)), some 6, none⟩] mixed (by decide) rfl fun K hK => ?_
    try simp
    repeat' first | (simp only [evL_cons, evL_guard]; simp [h8]) | (refine gsplit (fun hg => ?_) (fun hg => ?_) <;> (try simp at hg) <;> (try simp [h8])) | (with_reducible assumption) | omega | refine And.intro ?_ ?_ | intro _
    all_goals (try simp only [evL_nil]; refine hK _ _ ?_; clear hK K)
    simp only [Then_normal]
    refine Run.block ?_
    refine Run.loopO [5, 6, 9, 10, 11, 12, 13, 14, 15, 16, 17, 18, 19, 20, 21, 22] (fun (i : Nat) => [(5, .int (cntN l (-1) i)), (6, .int i)]) (fun (i : Nat) => []) (fun (i : Nat) => i ≤ l.length) (fun (i : Nat) => l.length - i) 0 (by simp) (by simp [cntN_zero]) fun i hi => ?_
    simp only [over, List.foldl, List.set]
    refine Run.seq ?_
    refine Run.seq ?_
    refine Run.opsL false [⟨Op.move (Operand.tmp 6), some 9, none⟩, ⟨Op.move (Operand.tmp 0), some 10, none⟩, ⟨Op.call { callee := Callee.builtin Builtin.len, args := #[Operand.tmp 10], argTypes := #[51] }, some 11, none⟩, ⟨Op.binOp BinOp.lss 3 (Operand.tmp 9) (Operand.tmp 11) 3, some 12, none⟩] mixed (by decide) rfl fun K hK => ?_
    try simp
    repeat' first | (simp only [evL_cons, evL_guard]; simp [h8]) | (refine gsplit (fun hg => ?_) (fun hg => ?_) <;> (try simp at hg) <;> (try simp [h8])) | (with_reducible assumption) | omega | refine And.intro ?_ ?_ | intro _
    all_goals (try simp only [evL_nil]; refine hK _ _ ?_; clear hK K)
    simp only [Then_normal]
    refine Run.cond rfl (fun h12 => ?_) (fun h12 => ?_)
    · try simp at h12
      refine Run.skip ?_
      simp only [Then_normal]
      refine Run.seq ?_
      refine Run.block ?_
      refine Run.opsL false [⟨Op.move (Operand.tmp 5), some 15, none⟩, ⟨Op.move (Operand.tmp 0), some 16, none⟩, ⟨Op.move (Operand.tmp 6), some 17, none⟩, ⟨Op.indexAddr 51 (Operand.tmp 16) (Operand.tmp 17), some 18, none⟩, ⟨Op.load 2 (Operand.tmp 18), some 19, none⟩, ⟨Op.call { callee := Callee.value (Operand.func 35), args := #[Operand.tmp 19], argTypes := #[2] }, some 20, none⟩, ⟨Op.binOp BinOp.add 2 (Operand.tmp 15) (Operand.tmp 20) 2, some 21, none⟩, ⟨Op.call { callee := Callee.value (Operand.func 35), args := #[Operand.tmp 21], argTypes := #[2] }, some 22, none⟩, ⟨Op.assign (Operand.tmp 22), some 5, none⟩] mixed (by decide) rfl fun K hK => ?_
      try simp
      repeat' first | (refine ecallD (rclip_ok _) ?_) | (simp only [evL_cons, evL_guard]; simp [h8, h12]) | (refine gsplit (fun hg => ?_) (fun hg => ?_) <;> (try simp at hg) <;> (try simp [h8, h12])) | (with_reducible assumption) | omega | refine And.intro ?_ ?_ | intro _
      all_goals (try simp only [evL_nil]; refine hK _ _ ?_; clear hK K)
      simp only [Blok_normal]
      simp only [Then_normal]
      refine Run.opsL false [⟨Op.move (Operand.tmp 6), some 13, none⟩, ⟨Op.binOp BinOp.add 3 (Operand.tmp 13) (Operand.const (Value.int IntKind.i64 1)) 3, some 14, none⟩, ⟨Op.assign (Operand.tmp 14), some 6, none⟩] mixed (by decide) rfl fun K hK => ?_
      try simp
      repeat' first | (simp only [evL_cons, evL_guard]; simp [h8, h12]) | (refine gsplit (fun hg => ?_) (fun hg => ?_) <;> (try simp at hg) <;> (try simp [h8, h12])) | (with_reducible assumption) | omega | refine And.intro ?_ ?_ | intro _
      all_goals (try simp only [evL_nil]; refine hK _ _ ?_; clear hK K)
      have hr := cntN_rng l (-1) i
      have hc := clip_rng (rdI l i)
      refine ⟨i + 1, by omega, by omega, ?_⟩
      simp (disch := omega) [cntN_succ l (-1) i h12, wrap_id]
    · try simp at h12
      refine Run.exit ?_
      simp (decide := true) only [Then_exit, Blok_exit, if_true, if_false]
      simp only [Then_normal]
      refine Run.seq ?_
      refine Run.opsL false [⟨Op.move (Operand.tmp 5), some 23, none⟩, ⟨Op.assign (Operand.tmp 23), some 4, none⟩] mixed (by decide) rfl fun K hK => ?_
      try simp
      repeat' first | (simp only [evL_cons, evL_guard]; simp [h8, h12]) | (refine gsplit (fun hg => ?_) (fun hg => ?_) <;> (try simp at hg) <;> (try simp [h8, h12])) | (with_reducible assumption) | omega | refine And.intro ?_ ?_ | intro _
      all_goals (try simp only [evL_nil]; refine hK _ _ ?_; clear hK K)
      simp only [Then_normal]
      refine Run.ret ?_
      try simp only [Then_ret, Blok_ret]
      first
        | (have : i = l.length := by omega
           subst this
           simp [h8, cntN_all])
        | (rw [cntS_one _ _ h8, if_neg (by omega)]; simp)
        | (rw [cntS_one _ _ h8, if_pos (by omega)]; simp)
  · try simp at h8
    refine Run.skip ?_
    simp only [Then_normal]
    refine Run.seq ?_
    refine Run.cut0 [24, 25, 26, 27, 28, 29, 30, 31] [(31, .bool (decide (t < 0 ∨ (l.length : Int) ≤ t)))] ?_ ?_
    · refine Run.opsL false [⟨Op.move (Operand.tmp 1), some 24, none⟩, ⟨Op.binOp BinOp.lss 3 (Operand.tmp 24) (Operand.const (Value.int IntKind.i64 0)) 3, some 25, none⟩, ⟨Op.move (Operand.tmp 25), some 26, none⟩, ⟨Op.move (Operand.tmp 1), some 27, some (some 26, false)⟩, ⟨Op.move (Operand.tmp 0), some 28, some (some 26, false)⟩, ⟨Op.call { callee := Callee.builtin Builtin.len, args := #[Operand.tmp 28], argTypes := #[51] }, some 29, some (some 26, false)⟩, ⟨Op.binOp BinOp.geq 3 (Operand.tmp 27) (Operand.tmp 29) 3, some 30, some (some 26, false)⟩, ⟨Op.pick (Operand.tmp 26) (Operand.const (Value.bool true)) (Operand.tmp 30), some 31, none⟩] mixed (by decide) rfl fun K hK => ?_
      try simp
      repeat' first | (simp only [evL_cons, evL_guard]; simp [h8]) | (refine gsplit (fun hg => ?_) (fun hg => ?_) <;> (try simp at hg) <;> (try simp [h8])) | (with_reducible assumption) | omega | refine And.intro ?_ ?_ | intro _
      all_goals (try simp only [evL_nil]; refine hK _ _ ?_; clear hK K)
      all_goals (first | (simp_all; done) | (simp_all; intro h; omega))
    · simp only [over, List.foldl, List.set]
      refine Run.cond rfl (fun h31 => ?_) (fun h31 => ?_)
      · try simp at h31
        refine Run.seq ?_
        refine Run.opsL false [⟨Op.assign (Operand.const (Value.int IntKind.i64 0)), some 4, none⟩] mixed (by decide) rfl fun K hK => ?_
        try simp
        repeat' first | (simp only [evL_cons, evL_guard]; simp [h8]) | (refine gsplit (fun hg => ?_) (fun hg => ?_) <;> (try simp at hg) <;> (try simp [h8])) | (with_reducible assumption) | omega | refine And.intro ?_ ?_ | intro _
        all_goals (try simp only [evL_nil]; refine hK _ _ ?_; clear hK K)
        simp only [Then_normal]
        refine Run.ret ?_
        try simp only [Then_ret, Blok_ret]
        first
          | (have : i = l.length := by omega
             subst this
             simp [h8, cntN_all])
          | (rw [cntS_one _ _ h8, if_neg (by omega)]; simp)
          | (rw [cntS_one _ _ h8, if_pos (by omega)]; simp)
      · simp at h31
        obtain ⟨h31, h32⟩ := h31
        refine Run.skip ?_
        simp only [Then_normal]
        refine Run.seq ?_
        refine Run.opsL false [⟨Op.move (Operand.tmp 0), some 32, none⟩, ⟨Op.move (Operand.tmp 1), some 33, none⟩, ⟨Op.indexAddr 51 (Operand.tmp 32) (Operand.tmp 33), some 34, none⟩, ⟨Op.load 2 (Operand.tmp 34), some 35, none⟩, ⟨Op.call { callee := Callee.value (Operand.func 35), args := #[Operand.tmp 35], argTypes := #[2] }, some 36, none⟩, ⟨Op.assign (Operand.tmp 36), some 4, none⟩] mixed (by decide) rfl fun K hK => ?_
        try simp
        repeat' first | (refine ecallD (rclip_ok _) ?_) | (simp only [evL_cons, evL_guard]; simp [h8, h31, h32]) | (refine gsplit (fun hg => ?_) (fun hg => ?_) <;> (try simp at hg) <;> (try simp [h8, h31, h32])) | (with_reducible assumption) | omega | refine And.intro ?_ ?_ | intro _
        all_goals (try simp only [evL_nil]; refine hK _ _ ?_; clear hK K)
        simp only [Then_normal]
        refine Run.ret ?_
        try simp only [Then_ret, Blok_ret]
        first
          | (have : i = l.length := by omega
             subst this
             simp [h8, cntN_all])
          | (rw [cntS_one _ _ h8, if_neg (by omega)]; simp)
          | (rw [cntS_one _ _ h8, if_pos (by omega)]; simp)

theorem product_ok (l : List Int) (hl : ∀ x ∈ l, 0 ≤ x ∧ x ≤ 1099511627776) (hn : l.length ≤ 1000) : SndW P 66 [.rs 0 1 0 l.length] [(0, .data 1 (l.map encI))] (.int (prodS 1 l)) [(0, .data 1 (l.map encI))] := by
  refine sndW_of [0] Try.func66 rfl (by kernel_rfl) Try.ntmps66 (by simp) (by simp) ?_
  unfold Try.f66
  simp only [List.cons_append, List.nil_append, List.length_cons, List.length_nil, Nat.reduceAdd, Nat.reduceSub, List.replicate]
  refine Run.seq ?_
  refine Run.opsL false [⟨Op.assign (Operand.const (Value.int IntKind.i64 0)), some 2, none⟩] mixed (by decide) rfl fun K hK => ?_
  try simp
  repeat' first | (simp only [evL_cons, evL_guard]; simp) | (refine gsplit (fun hg => ?_) (fun hg => ?_) <;> (try simp at hg) <;> (try simp)) | (with_reducible assumption) | omega | refine And.intro ?_ ?_ | intro _
  all_goals (try simp only [evL_nil]; refine hK _ _ ?_; clear hK K)
  simp only [Then_normal]
  refine Run.scope 0 _ rfl ?_
  refine Run.seq ?_
  refine Run.opsL false [⟨Op.assign (Operand.const (Value.int IntKind.i64 1)), some 3, none⟩] mixed (by decide) rfl fun K hK => ?_
  try simp
  repeat' first | (simp only [evL_cons, evL_guard]; simp) | (refine gsplit (fun hg => ?_) (fun hg => ?_) <;> (try simp at hg) <;> (try simp)) | (with_reducible assumption) | omega | refine And.intro ?_ ?_ | intro _
  all_goals (try simp only [evL_nil]; refine hK _ _ ?_; clear hK K)
  simp only [Then_normal]
  refine Run.seq ?_
  refine Run.seq ?_
  refine Run.opsL false [⟨Op.move (Operand.tmp 0), some 8, none⟩, ⟨Op.call { callee := Callee.builtin Builtin.len, args := #[Operand.tmp 8], argTypes := #[51] }, some 9, none⟩, ⟨Op.move (Operand.const (Value.int IntKind.i64 0)), some 10, none⟩] mixed (by decide) rfl fun K hK => ?_
  try simp
  repeat' first | (simp only [evL_cons, evL_guard]; simp) | (refine gsplit (fun hg => ?_) (fun hg => ?_) <;> (try simp at hg) <;> (try simp)) | (with_reducible assumption) | omega | refine And.intro ?_ ?_ | intro _
  all_goals (try simp only [evL_nil]; refine hK _ _ ?_; clear hK K)
  simp only [Then_normal]
  refine Run.block ?_
  refine Run.loopO [2, 3, 5, 10, 11, 12, 13, 14, 15, 16, 17, 18, 19, 20, 21, 22, 23] (fun (x : Nat × Int) => [(3, .int x.2), (10, .int x.1)]) (fun (x : Nat × Int) => [(0, .data 1 (l.map encI))]) (fun (x : Nat × Int) => x.1 ≤ l.length ∧ (0 ≤ x.2 ∧ x.2 ≤ 1099511627776) ∧ prodS x.2 (l.drop x.1) = prodS 1 l ∧ ∀ j, j < x.1 → rdI l (j : Nat) ≠ 0) (fun (x : Nat × Int) => l.length - x.1) (0, 1) (by simp) (by simp) fun ⟨i, n⟩ ⟨hi, hr, hp, hz⟩ => ?_
  simp only [over, List.foldl, List.set]
  refine Run.seq ?_
  refine Run.opsL false [⟨Op.binOp BinOp.lss 3 (Operand.tmp 10) (Operand.tmp 9) 3, some 11, none⟩] mixed (by decide) rfl fun K hK => ?_
  try simp
  repeat' first | (simp only [evL_cons, evL_guard]; simp) | (refine gsplit (fun hg => ?_) (fun hg => ?_) <;> (try simp at hg) <;> (try simp)) | (with_reducible assumption) | omega | refine And.intro ?_ ?_ | intro _
  all_goals (try simp only [evL_nil]; refine hK _ _ ?_; clear hK K)
  simp only [Then_normal]
  refine Run.seq ?_
  refine Run.cond rfl (fun h11 => ?_) (fun h11 => ?_)
  · try simp at h11
    have hx := hl _ (rdI_mem (l := l) (i := i) (by omega) (by omega))
    refine Run.skip ?_
    simp only [Then_normal]
    refine Run.seq ?_
    refine Run.block ?_
    refine Run.seq ?_
    refine Run.opsL false [⟨Op.indexAddr 51 (Operand.tmp 8) (Operand.tmp 10), some 12, none⟩, ⟨Op.load 2 (Operand.tmp 12), some 13, none⟩, ⟨Op.assign (Operand.tmp 13), some 5, none⟩] mixed (by decide) rfl fun K hK => ?_
    try simp
    repeat' first | (simp only [evL_cons, evL_guard]; simp [h11]) | (refine gsplit (fun hg => ?_) (fun hg => ?_) <;> (try simp at hg) <;> (try simp [h11])) | (with_reducible assumption) | omega | refine And.intro ?_ ?_ | intro _
    all_goals (try simp only [evL_nil]; refine hK _ _ ?_; clear hK K)
    simp only [Then_normal]
    refine Run.seq ?_
    refine Run.seq ?_
    refine Run.opsL false [⟨Op.move (Operand.tmp 5), some 14, none⟩, ⟨Op.binOp BinOp.eql 2 (Operand.tmp 14) (Operand.const (Value.int IntKind.i64 0)) 2, some 15, none⟩] mixed (by decide) rfl fun K hK => ?_
    try simp
    repeat' first | (simp only [evL_cons, evL_guard]; simp [h11]) | (refine gsplit (fun hg => ?_) (fun hg => ?_) <;> (try simp at hg) <;> (try simp [h11])) | (with_reducible assumption) | omega | refine And.intro ?_ ?_ | intro _
    all_goals (try simp only [evL_nil]; refine hK _ _ ?_; clear hK K)
    simp only [Then_normal]
    refine Run.cond rfl (fun h15 => ?_) (fun h15 => ?_)
    · try simp at h15
      refine Run.seq ?_
      refine Run.opsL false [⟨Op.assign (Operand.const (Value.int IntKind.i64 0)), some 2, none⟩] mixed (by decide) rfl fun K hK => ?_
      try simp
      repeat' first | (simp only [evL_cons, evL_guard]; simp [h11, h15]) | (refine gsplit (fun hg => ?_) (fun hg => ?_) <;> (try simp at hg) <;> (try simp [h11, h15])) | (with_reducible assumption) | omega | refine And.intro ?_ ?_ | intro _
      all_goals (try simp only [evL_nil]; refine hK _ _ ?_; clear hK K)
      simp only [Then_normal]
      refine Run.ret ?_
      try simp only [Then_ret, Blok_ret]
      try simp only [Fwd_ret]
      first
        | (have e : prodS 1 l = 0 := by rw [← hp, drop_rd h11]; simp [prodS, h15]
           simp [e]; done)
        | (have hk1 : i + 1 ≤ k := by
             rcases Nat.lt_or_ge k (i + 1) with q | q
             · by_cases e : k = i
               · subst e; exact absurd h32 h15
               · exact absurd h32 (hz k (by simp; omega))
             · exact q
           have hm := mem_drop_rd h28 hk1
           rw [h32] at hm
           have e : prodS 1 l = 0 := by rw [← hp, drop_rd h11]; simp only [prodS]; rw [if_neg h15, if_pos h19, if_pos hm]
           simp [e]; done)
        | (have e : prodS 1 l = 1099511627776 := by rw [← hp, drop_rd h11]; simp only [prodS]; rw [if_neg h15, if_pos h19, if_neg (no_zero (fun j hj => hkz j (by omega)) _)]
           simp [e]; done)
        | (have e : prodS 1 l = n := by rw [← hp, List.drop_of_length_le (by simp; omega)]; rfl
           simp [e])
    · try simp at h15
      have hf : 0 < rdI l i := by omega
      have hd : 0 ≤ 1099511627776 / rdI l i ∧ 1099511627776 / rdI l i ≤ 1099511627776 := div_rng (by omega) (by omega)
      have e1 : (1099511627776 : Int).tdiv (rdI l i) = 1099511627776 / rdI l i := Int.tdiv_eq_ediv_of_nonneg (by omega)
      refine Run.skip ?_
      simp only [Then_normal]
      refine Run.seq ?_
      refine Run.seq ?_
      refine Run.opsL false [⟨Op.move (Operand.tmp 3), some 16, none⟩, ⟨Op.move (Operand.tmp 5), some 17, none⟩, ⟨Op.binOp BinOp.quo 2 (Operand.const (Value.int IntKind.i64 1099511627776)) (Operand.tmp 17) 2, some 18, none⟩, ⟨Op.binOp BinOp.gtr 2 (Operand.tmp 16) (Operand.tmp 18) 2, some 19, none⟩] mixed (by decide) rfl fun K hK => ?_
      try simp
      repeat' first | (simp only [evL_cons, evL_guard]; simp [h11, h15]) | (refine gsplit (fun hg => ?_) (fun hg => ?_) <;> (try simp at hg) <;> (try simp [h11, h15])) | (with_reducible assumption) | omega | refine And.intro ?_ ?_ | intro _
      all_goals (try simp only [evL_nil]; refine hK _ _ ?_; clear hK K)
      simp only [Then_normal]
      refine Run.cond rfl (fun h19 => ?_) (fun h19 => ?_)
      · try simp [e1] at h19
        rw [wrap_id (by omega) (by omega)] at h19
        refine Run.goto ?_
        simp (decide := true) only [Then_goto, Blok_goto, Fwd_goto]
        refine Run.seq ?_
        refine Run.skip ?_
        simp only [Then_normal]
        refine Run.seq ?_
        refine Run.seq ?_
        refine Run.opsL false [⟨Op.move (Operand.tmp 0), some 25, none⟩, ⟨Op.call { callee := Callee.builtin Builtin.len, args := #[Operand.tmp 25], argTypes := #[51] }, some 26, none⟩, ⟨Op.move (Operand.const (Value.int IntKind.i64 0)), some 27, none⟩] mixed (by decide) rfl fun K hK => ?_
        try simp
        repeat' first | (simp only [evL_cons, evL_guard]; simp [h11, h15]) | (refine gsplit (fun hg => ?_) (fun hg => ?_) <;> (try simp at hg) <;> (try simp [h11, h15])) | (with_reducible assumption) | omega | refine And.intro ?_ ?_ | intro _
        all_goals (try simp only [evL_nil]; refine hK _ _ ?_; clear hK K)
        simp only [Then_normal]
        refine Run.block ?_
        refine Run.loopO [2, 7, 27, 28, 29, 30, 31, 32, 33] (fun (k : Nat) => [(27, .int k)]) (fun (k : Nat) => [(0, .data 1 (l.map encI))]) (fun (k : Nat) => k ≤ l.length ∧ ∀ j, j < k → rdI l (j : Nat) ≠ 0) (fun (k : Nat) => l.length - k) 0 (by simp) (by simp) fun k ⟨hk, hkz⟩ => ?_
        simp only [over, List.foldl, List.set]
        refine Run.seq ?_
        refine Run.opsL false [⟨Op.binOp BinOp.lss 3 (Operand.tmp 27) (Operand.tmp 26) 3, some 28, none⟩] mixed (by decide) rfl fun K hK => ?_
        try simp
        repeat' first | (simp only [evL_cons, evL_guard]; simp [h11, h15]) | (refine gsplit (fun hg => ?_) (fun hg => ?_) <;> (try simp at hg) <;> (try simp [h11, h15])) | (with_reducible assumption) | omega | refine And.intro ?_ ?_ | intro _
        all_goals (try simp only [evL_nil]; refine hK _ _ ?_; clear hK K)
        simp only [Then_normal]
        refine Run.seq ?_
        refine Run.cond rfl (fun h28 => ?_) (fun h28 => ?_)
        · try simp at h28
          refine Run.skip ?_
          simp only [Then_normal]
          refine Run.seq ?_
          refine Run.block ?_
          refine Run.seq ?_
          refine Run.opsL false [⟨Op.indexAddr 51 (Operand.tmp 25) (Operand.tmp 27), some 29, none⟩, ⟨Op.load 2 (Operand.tmp 29), some 30, none⟩, ⟨Op.assign (Operand.tmp 30), some 7, none⟩] mixed (by decide) rfl fun K hK => ?_
          try simp
          repeat' first | (simp only [evL_cons, evL_guard]; simp [h11, h15, h28]) | (refine gsplit (fun hg => ?_) (fun hg => ?_) <;> (try simp at hg) <;> (try simp [h11, h15, h28])) | (with_reducible assumption) | omega | refine And.intro ?_ ?_ | intro _
          all_goals (try simp only [evL_nil]; refine hK _ _ ?_; clear hK K)
          simp only [Then_normal]
          refine Run.seq ?_
          refine Run.opsL false [⟨Op.move (Operand.tmp 7), some 31, none⟩, ⟨Op.binOp BinOp.eql 2 (Operand.tmp 31) (Operand.const (Value.int IntKind.i64 0)) 2, some 32, none⟩] mixed (by decide) rfl fun K hK => ?_
          try simp
          repeat' first | (simp only [evL_cons, evL_guard]; simp [h11, h15, h28]) | (refine gsplit (fun hg => ?_) (fun hg => ?_) <;> (try simp at hg) <;> (try simp [h11, h15, h28])) | (with_reducible assumption) | omega | refine And.intro ?_ ?_ | intro _
          all_goals (try simp only [evL_nil]; refine hK _ _ ?_; clear hK K)
          simp only [Then_normal]
          refine Run.cond rfl (fun h32 => ?_) (fun h32 => ?_)
          · try simp at h32
            refine Run.seq ?_
            refine Run.opsL false [⟨Op.assign (Operand.const (Value.int IntKind.i64 0)), some 2, none⟩] mixed (by decide) rfl fun K hK => ?_
            try simp
            repeat' first | (simp only [evL_cons, evL_guard]; simp [h11, h15, h28, h32]) | (refine gsplit (fun hg => ?_) (fun hg => ?_) <;> (try simp at hg) <;> (try simp [h11, h15, h28, h32])) | (with_reducible assumption) | omega | refine And.intro ?_ ?_ | intro _
            all_goals (try simp only [evL_nil]; refine hK _ _ ?_; clear hK K)
            simp only [Then_normal]
            refine Run.ret ?_
            try simp only [Then_ret, Blok_ret]
            try simp only [NoGoto_ret]
            first
              | (have e : prodS 1 l = 0 := by rw [← hp, drop_rd h11]; simp [prodS, h15]
                 simp [e]; done)
              | (have hk1 : i + 1 ≤ k := by
                   rcases Nat.lt_or_ge k (i + 1) with q | q
                   · by_cases e : k = i
                     · subst e; exact absurd h32 h15
                     · exact absurd h32 (hz k (by simp; omega))
                   · exact q
                 have hm := mem_drop_rd h28 hk1
                 rw [h32] at hm
                 have e : prodS 1 l = 0 := by rw [← hp, drop_rd h11]; simp only [prodS]; rw [if_neg h15, if_pos h19, if_pos hm]
                 simp [e]; done)
              | (have e : prodS 1 l = 1099511627776 := by rw [← hp, drop_rd h11]; simp only [prodS]; rw [if_neg h15, if_pos h19, if_neg (no_zero (fun j hj => hkz j (by omega)) _)]
                 simp [e]; done)
              | (have e : prodS 1 l = n := by rw [← hp, List.drop_of_length_le (by simp; omega)]; rfl
                 simp [e])
          · try simp at h32
            refine Run.skip ?_
            simp only [Blok_normal]
            simp only [Then_normal]
            refine Run.opsL false [⟨Op.binOp BinOp.add 3 (Operand.tmp 27) (Operand.const (Value.int IntKind.i64 1)) 3, some 33, none⟩, ⟨Op.move (Operand.tmp 33), some 27, none⟩] mixed (by decide) rfl fun K hK => ?_
            try simp
            repeat' first | (simp only [evL_cons, evL_guard]; simp [h11, h15, h28, h32]) | (refine gsplit (fun hg => ?_) (fun hg => ?_) <;> (try simp at hg) <;> (try simp [h11, h15, h28, h32])) | (with_reducible assumption) | omega | refine And.intro ?_ ?_ | intro _
            all_goals (try simp only [evL_nil]; refine hK _ _ ?_; clear hK K)
            refine ⟨k + 1, ⟨by omega, fun j hj => ?_⟩, by omega, ?_⟩
            · by_cases e : j = k
              · subst e; exact h32
              · exact hkz j (by omega)
            · simp (disch := omega) [wrap_id]
        · try simp at h28
          refine Run.exit ?_
          simp (decide := true) only [Then_exit, Blok_exit, if_true, if_false]
          simp only [Then_normal]
          refine Run.seq ?_
          refine Run.opsL false [⟨Op.assign (Operand.const (Value.int IntKind.i64 1099511627776)), some 2, none⟩] mixed (by decide) rfl fun K hK => ?_
          try simp
          repeat' first | (simp only [evL_cons, evL_guard]; simp [h11, h15, h28]) | (refine gsplit (fun hg => ?_) (fun hg => ?_) <;> (try simp at hg) <;> (try simp [h11, h15, h28])) | (with_reducible assumption) | omega | refine And.intro ?_ ?_ | intro _
          all_goals (try simp only [evL_nil]; refine hK _ _ ?_; clear hK K)
          simp only [Then_normal]
          refine Run.ret ?_
          try simp only [Then_ret, Blok_ret]
          try simp only [NoGoto_ret]
          first
            | (have e : prodS 1 l = 0 := by rw [← hp, drop_rd h11]; simp [prodS, h15]
               simp [e]; done)
            | (have hk1 : i + 1 ≤ k := by
                 rcases Nat.lt_or_ge k (i + 1) with q | q
                 · by_cases e : k = i
                   · subst e; exact absurd h32 h15
                   · exact absurd h32 (hz k (by simp; omega))
                 · exact q
               have hm := mem_drop_rd h28 hk1
               rw [h32] at hm
               have e : prodS 1 l = 0 := by rw [← hp, drop_rd h11]; simp only [prodS]; rw [if_neg h15, if_pos h19, if_pos hm]
               simp [e]; done)
            | (have e : prodS 1 l = 1099511627776 := by rw [← hp, drop_rd h11]; simp only [prodS]; rw [if_neg h15, if_pos h19, if_neg (no_zero (fun j hj => hkz j (by omega)) _)]
               simp [e]; done)
            | (have e : prodS 1 l = n := by rw [← hp, List.drop_of_length_le (by simp; omega)]; rfl
               simp [e])
      · try simp [e1] at h19
        rw [wrap_id (by omega) (by omega)] at h19
        refine Run.skip ?_
        simp only [Then_normal]
        refine Run.opsL false [⟨Op.move (Operand.tmp 3), some 20, none⟩, ⟨Op.move (Operand.tmp 5), some 21, none⟩, ⟨Op.binOp BinOp.mul 2 (Operand.tmp 20) (Operand.tmp 21) 2, some 22, none⟩, ⟨Op.assign (Operand.tmp 22), some 3, none⟩] mixed (by decide) rfl fun K hK => ?_
        try simp
        repeat' first | (simp only [evL_cons, evL_guard]; simp [h11, h15]) | (refine gsplit (fun hg => ?_) (fun hg => ?_) <;> (try simp at hg) <;> (try simp [h11, h15])) | (with_reducible assumption) | omega | refine And.intro ?_ ?_ | intro _
        all_goals (try simp only [evL_nil]; refine hK _ _ ?_; clear hK K)
        simp only [Blok_normal]
        simp only [Then_normal]
        refine Run.opsL false [⟨Op.binOp BinOp.add 3 (Operand.tmp 10) (Operand.const (Value.int IntKind.i64 1)) 3, some 23, none⟩, ⟨Op.move (Operand.tmp 23), some 10, none⟩] mixed (by decide) rfl fun K hK => ?_
        try simp
        repeat' first | (simp only [evL_cons, evL_guard]; simp [h11, h15]) | (refine gsplit (fun hg => ?_) (fun hg => ?_) <;> (try simp at hg) <;> (try simp [h11, h15])) | (with_reducible assumption) | omega | refine And.intro ?_ ?_ | intro _
        all_goals (try simp only [evL_nil]; refine hK _ _ ?_; clear hK K)
        have hm := prod_step (n := n) hr.1 hf h19
        refine ⟨(i + 1, n * rdI l i), ⟨by simp; omega, hm, ?_, fun j hj => ?_⟩, by simp; omega, ?_⟩
        · rw [← hp, drop_rd h11]; simp only [prodS]; rw [if_neg h15, if_neg (by omega)]
        · by_cases e : j = i
          · subst e; exact h15
          · exact hz j (by simp at hj; omega)
        · simp (disch := omega) [wrap_id]
  · try simp at h11
    refine Run.exit ?_
    simp (decide := true) only [Then_exit, Blok_exit, if_true, if_false]
    simp only [Then_normal]
    refine Run.seq ?_
    refine Run.seq ?_
    refine Run.opsL false [⟨Op.move (Operand.tmp 3), some 24, none⟩, ⟨Op.assign (Operand.tmp 24), some 2, none⟩] mixed (by decide) rfl fun K hK => ?_
    try simp
    repeat' first | (simp only [evL_cons, evL_guard]; simp [h11]) | (refine gsplit (fun hg => ?_) (fun hg => ?_) <;> (try simp at hg) <;> (try simp [h11])) | (with_reducible assumption) | omega | refine And.intro ?_ ?_ | intro _
    all_goals (try simp only [evL_nil]; refine hK _ _ ?_; clear hK K)
    simp only [Then_normal]
    refine Run.ret ?_
    try simp only [Then_ret, Blok_ret]
    try simp only [Fwd_ret]
    first
      | (have e : prodS 1 l = 0 := by rw [← hp, drop_rd h11]; simp [prodS, h15]
         simp [e]; done)
      | (have hk1 : i + 1 ≤ k := by
           rcases Nat.lt_or_ge k (i + 1) with q | q
           · by_cases e : k = i
             · subst e; exact absurd h32 h15
             · exact absurd h32 (hz k (by simp; omega))
           · exact q
         have hm := mem_drop_rd h28 hk1
         rw [h32] at hm
         have e : prodS 1 l = 0 := by rw [← hp, drop_rd h11]; simp only [prodS]; rw [if_neg h15, if_pos h19, if_pos hm]
         simp [e]; done)
      | (have e : prodS 1 l = 1099511627776 := by rw [← hp, drop_rd h11]; simp only [prodS]; rw [if_neg h15, if_pos h19, if_neg (no_zero (fun j hj => hkz j (by omega)) _)]
         simp [e]; done)
      | (have e : prodS 1 l = n := by rw [← hp, List.drop_of_length_le (by simp; omega)]; rfl
         simp [e])


end Go.Proofs.Ytihbejpkfifplaa.Z
