/- Counts: the small functions, as the program and the document write them. -/
import Derived.Test.YtihbejpkfifplaaPa
set_option linter.unusedVariables false
set_option linter.unusedSimpArgs false
set_option maxRecDepth 100000
namespace Go.Proofs.Ytihbejpkfifplaa.Z
open Go Go.Fw
def clipS (n : Int) : Int := if n < 0 then 0 else if 1099511627776 < n then 1099511627776 else n
/-- the first i -/
def cntF (t : Int) (n : Int) (x : Int × Nat) : Int := if (x.2 : Int) = t ∨ t = -1 then clipS (n + clipS x.1) else n
def cntS (l : List Int) (t : Int) : Int := l.zipIdx.foldl (cntF t) 0
def cntN (l : List Int) (t : Int) (i : Nat) : Int := (l.zipIdx.take i).foldl (cntF t) 0
theorem cntN_zero (l t) : cntN l t 0 = 0 := by simp [cntN]
theorem cntN_all (l t) : cntN l t l.length = cntS l t := by simp [cntN, cntS, List.take_of_length_le]
theorem cntN_succ (l : List Int) (t : Int) (i : Nat) (h : i < l.length) : cntN l t (i + 1) = if (i : Int) = t ∨ t = -1 then clipS (cntN l t i + clipS (rdI l i)) else cntN l t i := by
  unfold cntN
  rw [List.take_add_one]
  simp [List.getElem?_zipIdx, h, List.foldl_append, rdI, List.getD_eq_getElem?_getD, cntF]
theorem clip_rng (n : Int) : 0 ≤ clipS n ∧ clipS n ≤ 1099511627776 := by unfold clipS; grind
theorem cntN_rng (l : List Int) (t : Int) (i : Nat) : 0 ≤ cntN l t i ∧ cntN l t i ≤ 1099511627776 := by
  unfold cntN
  generalize l.zipIdx.take i = r
  have : ∀ a : Int, 0 ≤ a ∧ a ≤ 1099511627776 → 0 ≤ r.foldl (cntF t) a ∧ r.foldl (cntF t) a ≤ 1099511627776 := by
    induction r with
    | nil => intro a h; exact h
    | cons x r ih =>
      intro a h
      refine ih _ ?_
      unfold cntF
      split
      · exact clip_rng _
      · exact h
  exact this 0 (by omega)
/-- by a type's place -/
theorem cntS_all (l : List Int) (i : Nat) : cntN l (-1) i = (l.take i).foldl (fun n x => clipS (n + clipS x)) 0 := by
  unfold cntN
  have : ∀ (l : List (Int × Nat)) (a : Int), l.foldl (cntF (-1)) a = (l.map (·.1)).foldl (fun n x => clipS (n + clipS x)) a := by
    intro l
    induction l with
    | nil => intro a; rfl
    | cons x r ih => intro a; simp only [List.foldl_cons, List.map_cons, ih]; simp [cntF]
  rw [this]
  congr 1
  apply List.ext_getElem?
  intro j
  simp only [List.getElem?_map, List.getElem?_take, List.getElem?_zipIdx]
  split <;> simp
  cases l[j]? <;> rfl
theorem clip_clip (n : Int) : clipS (0 + clipS n) = clipS n := by
  have := clip_rng n
  unfold clipS at *; grind
theorem cntS_one (l : List Int) (t : Int) (ht : t ≠ -1) : cntS l t = if 0 ≤ t ∧ t < l.length then clipS (rdI l t) else 0 := by
  have key : ∀ i : Nat, i ≤ l.length → cntN l t i = if 0 ≤ t ∧ t < i then clipS (rdI l t) else 0 := by
    intro i
    induction i with
    | zero => intro _; rw [cntN_zero, if_neg (by omega)]
    | succ i ih =>
      intro hi
      rw [cntN_succ l t i (by omega), ih (by omega)]
      by_cases e : (i : Int) = t
      · subst e
        rw [if_pos (.inl rfl), if_neg (by omega), if_pos (by omega), clip_clip]
      · rw [if_neg (by simp [e, ht])]
        by_cases h : 0 ≤ t ∧ t < (i : Int)
        · rw [if_pos h, if_pos (by omega)]
        · rw [if_neg h, if_neg (by omega)]
  rw [← cntN_all, key _ (Nat.le_refl _)]
theorem cntS_rng (l : List Int) (t : Int) : 0 ≤ cntS l t ∧ cntS l t ≤ 1099511627776 := by rw [← cntN_all]; exact cntN_rng _ _ _
/-- a share, rounded up -/
def shareS (a b : Int) : Int := (a + max b 1 - 1) / max b 1
/-- a product, no more than there may be -/
def mulS (a b : Int) : Int := if 0 < a ∧ 1099511627776 / a < b then 1099511627776 else a * b
theorem share_rng {a b : Int} (h0 : 0 ≤ a) (h1 : a ≤ 1099511627776) (h2 : 0 ≤ b) : 0 ≤ shareS a b ∧ shareS a b ≤ a := by
  unfold shareS
  generalize hb : max b 1 = c
  have hc : 1 ≤ c := by omega
  refine ⟨Int.ediv_nonneg (by omega) (by omega), ?_⟩
  rcases Int.lt_or_le 0 a with h | h
  · have : a + c - 1 < (a + 1) * c := by
      have := Int.mul_le_mul_of_nonneg_left hc (show 0 ≤ a by omega)
      rw [Int.add_mul]; omega
    have := (Int.ediv_lt_iff_lt_mul (show 0 < c by omega)).2 this
    omega
  · have e : a = 0 := by omega
    subst e
    rw [Int.ediv_eq_zero_of_lt (by omega) (by omega)]
    omega
theorem mul_rng {a b : Int} (h0 : 0 ≤ a) (h1 : a ≤ 1099511627776) (h2 : 0 ≤ b) (h3 : b ≤ 1099511627776) : 0 ≤ mulS a b ∧ mulS a b ≤ 1099511627776 := by
  unfold mulS
  split
  · omega
  · rename_i h
    refine ⟨Int.mul_nonneg h0 h2, ?_⟩
    rcases Int.lt_or_le 0 a with h4 | h4
    · have h5 : b ≤ 1099511627776 / a := by
        rcases Int.lt_or_le (1099511627776 / a) b with h6 | h6
        · exact absurd ⟨h4, h6⟩ h
        · exact h6
      have := Int.mul_le_mul_of_nonneg_left h5 h0
      have := Int.mul_ediv_self_le (x := 1099511627776) (show a ≠ 0 by omega)
      omega
    · have e : a = 0 := by omega
      subst e; simp
theorem share_up {a c : Int} (hc : 1 ≤ c) (h : 0 < a % c) : a / c + 1 = (a + c - 1) / c := by
  have h1 := Int.mul_ediv_add_emod a c
  have h2 := Int.emod_lt_of_pos a (show 0 < c by omega)
  have e : a + c - 1 = (a % c - 1) + c * (a / c + 1) := by rw [Int.mul_add]; omega
  rw [e, Int.add_mul_ediv_left _ _ (by omega), Int.ediv_eq_zero_of_lt (a := a % c - 1) (by omega) (by omega)]
  omega
theorem share_ev {a c : Int} (hc : 1 ≤ c) (h : a % c ≤ 0) : a / c = (a + c - 1) / c := by
  have h1 := Int.mul_ediv_add_emod a c
  have h2 := Int.emod_nonneg a (show c ≠ 0 by omega)
  have e : a + c - 1 = (c - 1) + c * (a / c) := by omega
  rw [e, Int.add_mul_ediv_left _ _ (by omega), Int.ediv_eq_zero_of_lt (a := c - 1) (by omega) (by omega)]
  omega
theorem div_rng {a c : Int} (h0 : 0 ≤ a) (hc : 1 ≤ c) : 0 ≤ a / c ∧ a / c ≤ a := ⟨Int.ediv_nonneg h0 (by omega), Int.ediv_le_self _ h0⟩
theorem clip_ok (n : Int) : Snd P 34 [.int n] (.int (clipS n)) [] := by
  refine snd_of [] Try.func34 rfl (by kernel_rfl) Try.ntmps34 (by simp) ?_
  unfold Try.f34
  simp only [List.cons_append, List.nil_append, List.length_cons, List.length_nil, Nat.reduceAdd, Nat.reduceSub, List.replicate]
  refine Run.seq ?_
  refine Run.opsL false [⟨Op.assign (Operand.const (Value.int IntKind.i64 0)), some 2, none⟩] mixed (by decide) rfl fun K hK => ?_
  try simp
  repeat' first | (simp only [evL_cons, evL_guard]; simp) | (refine gsplit (fun hg => ?_) (fun hg => ?_) <;> (try simp at hg) <;> (try simp)) | (with_reducible assumption) | omega | refine And.intro ?_ ?_ | intro _
  all_goals (try simp only [evL_nil]; refine hK _ _ ?_; clear hK K)
  simp only [Then_normal]
  refine Run.seq ?_
  refine Run.opsL false [⟨Op.move (Operand.tmp 0), some 3, none⟩, ⟨Op.call { callee := Callee.builtin Builtin.max, args := #[Operand.tmp 3, Operand.const (Value.int IntKind.i64 0)], argTypes := #[2, 2] }, some 4, none⟩, ⟨Op.call { callee := Callee.builtin Builtin.min, args := #[Operand.tmp 4, Operand.const (Value.int IntKind.i64 1099511627776)], argTypes := #[2, 2] }, some 5, none⟩, ⟨Op.assign (Operand.tmp 5), some 2, none⟩] mixed (by decide) rfl fun K hK => ?_
  try simp
  repeat' first | (simp only [evL_cons, evL_guard]; simp) | (refine gsplit (fun hg => ?_) (fun hg => ?_) <;> (try simp at hg) <;> (try simp)) | (with_reducible assumption) | omega | refine And.intro ?_ ?_ | intro _
  all_goals (try simp only [evL_nil]; refine hK _ _ ?_; clear hK K)
  simp only [Then_normal]
  refine Run.ret ?_
  try simp only [Then_ret, Blok_ret]
  simp [clipS]
  grind

theorem rclip_ok (n : Int) : Snd P 35 [.int n] (.int (clipS n)) [] := by
  refine snd_of [] Try.func35 rfl (by kernel_rfl) Try.ntmps35 (by simp) ?_
  unfold Try.f35
  simp only [List.cons_append, List.nil_append, List.length_cons, List.length_nil, Nat.reduceAdd, Nat.reduceSub, List.replicate]
  refine Run.seq ?_
  refine Run.opsL false [⟨Op.assign (Operand.const (Value.int IntKind.i64 0)), some 2, none⟩] mixed (by decide) rfl fun K hK => ?_
  try simp
  repeat' first | (simp only [evL_cons, evL_guard]; simp) | (refine gsplit (fun hg => ?_) (fun hg => ?_) <;> (try simp at hg) <;> (try simp)) | (with_reducible assumption) | omega | refine And.intro ?_ ?_ | intro _
  all_goals (try simp only [evL_nil]; refine hK _ _ ?_; clear hK K)
  simp only [Then_normal]
  refine Run.seq ?_
  refine Run.seq ?_
  refine Run.opsL false [⟨Op.move (Operand.tmp 0), some 3, none⟩, ⟨Op.binOp BinOp.lss 2 (Operand.tmp 3) (Operand.const (Value.int IntKind.i64 0)) 2, some 4, none⟩] mixed (by decide) rfl fun K hK => ?_
  try simp
  repeat' first | (simp only [evL_cons, evL_guard]; simp) | (refine gsplit (fun hg => ?_) (fun hg => ?_) <;> (try simp at hg) <;> (try simp)) | (with_reducible assumption) | omega | refine And.intro ?_ ?_ | intro _
  all_goals (try simp only [evL_nil]; refine hK _ _ ?_; clear hK K)
  simp only [Then_normal]
  refine Run.cond rfl (fun h4 => ?_) (fun h4 => ?_)
  · try simp at h4
    refine Run.seq ?_
    refine Run.opsL false [⟨Op.assign (Operand.const (Value.int IntKind.i64 0)), some 2, none⟩] mixed (by decide) rfl fun K hK => ?_
    try simp
    repeat' first | (simp only [evL_cons, evL_guard]; simp [h4]) | (refine gsplit (fun hg => ?_) (fun hg => ?_) <;> (try simp at hg) <;> (try simp [h4])) | (with_reducible assumption) | omega | refine And.intro ?_ ?_ | intro _
    all_goals (try simp only [evL_nil]; refine hK _ _ ?_; clear hK K)
    simp only [Then_normal]
    refine Run.ret ?_
    try simp only [Then_ret, Blok_ret]
    simp [clipS]
    grind
  · try simp at h4
    refine Run.skip ?_
    simp only [Then_normal]
    refine Run.seq ?_
    refine Run.seq ?_
    refine Run.opsL false [⟨Op.move (Operand.tmp 0), some 5, none⟩, ⟨Op.binOp BinOp.gtr 2 (Operand.tmp 5) (Operand.const (Value.int IntKind.i64 1099511627776)) 2, some 6, none⟩] mixed (by decide) rfl fun K hK => ?_
    try simp
    repeat' first | (simp only [evL_cons, evL_guard]; simp [h4]) | (refine gsplit (fun hg => ?_) (fun hg => ?_) <;> (try simp at hg) <;> (try simp [h4])) | (with_reducible assumption) | omega | refine And.intro ?_ ?_ | intro _
    all_goals (try simp only [evL_nil]; refine hK _ _ ?_; clear hK K)
    simp only [Then_normal]
    refine Run.cond rfl (fun h6 => ?_) (fun h6 => ?_)
    · try simp at h6
      refine Run.seq ?_
      refine Run.opsL false [⟨Op.assign (Operand.const (Value.int IntKind.i64 1099511627776)), some 2, none⟩] mixed (by decide) rfl fun K hK => ?_
      try simp
      repeat' first | (simp only [evL_cons, evL_guard]; simp [h4, h6]) | (refine gsplit (fun hg => ?_) (fun hg => ?_) <;> (try simp at hg) <;> (try simp [h4, h6])) | (with_reducible assumption) | omega | refine And.intro ?_ ?_ | intro _
      all_goals (try simp only [evL_nil]; refine hK _ _ ?_; clear hK K)
      simp only [Then_normal]
      refine Run.ret ?_
      try simp only [Then_ret, Blok_ret]
      simp [clipS]
      grind
    · try simp at h6
      refine Run.skip ?_
      simp only [Then_normal]
      refine Run.seq ?_
      refine Run.opsL false [⟨Op.move (Operand.tmp 0), some 7, none⟩, ⟨Op.assign (Operand.tmp 7), some 2, none⟩] mixed (by decide) rfl fun K hK => ?_
      try simp
      repeat' first | (simp only [evL_cons, evL_guard]; simp [h4, h6]) | (refine gsplit (fun hg => ?_) (fun hg => ?_) <;> (try simp at hg) <;> (try simp [h4, h6])) | (with_reducible assumption) | omega | refine And.intro ?_ ?_ | intro _
      all_goals (try simp only [evL_nil]; refine hK _ _ ?_; clear hK K)
      simp only [Then_normal]
      refine Run.ret ?_
      try simp only [Then_ret, Blok_ret]
      simp [clipS]
      grind

theorem of_ok (nn : Bool) (l : List Int) (t : Int) : Snd P 90 [.d (.sl nn (l.map encI)), .int t] (.int (cntS l t)) [] := by
  refine Snd.ok 0 rfl (by kernel_rfl) fun hl => Snd.ok 1 rfl (by kernel_rfl) fun ht => ?_
  simp only [D.ok, List.length_map] at hl
  rw [ok_i64] at ht
  obtain ⟨hl, -⟩ := hl
  refine snd_of [] Try.func90 rfl (by kernel_rfl) Try.ntmps90 (by simp) ?_
  unfold Try.f90
  simp only [List.cons_append, List.nil_append, List.length_cons, List.length_nil, Nat.reduceAdd, Nat.reduceSub, List.replicate]
  refine Run.seq ?_
  refine Run.opsL false [⟨Op.assign (Operand.const (Value.int IntKind.i64 0)), some 4, none⟩] mixed (by decide) rfl fun K hK => ?_
  try simp
  repeat' first | (simp only [evL_cons, evL_guard]; simp) | (refine gsplit (fun hg => ?_) (fun hg => ?_) <;> (try simp at hg) <;> (try simp)) | (with_reducible assumption) | omega | refine And.intro ?_ ?_ | intro _
  all_goals (try simp only [evL_nil]; refine hK _ _ ?_; clear hK K)
  simp only [Then_normal]
  refine Run.seq ?_
  refine Run.opsL false [⟨Op.assign (Operand.const (Value.int IntKind.i64 0)), some 5, none⟩] mixed (by decide) rfl fun K hK => ?_
  try simp
  repeat' first | (simp only [evL_cons, evL_guard]; simp) | (refine gsplit (fun hg => ?_) (fun hg => ?_) <;> (try simp at hg) <;> (try simp)) | (with_reducible assumption) | omega | refine And.intro ?_ ?_ | intro _
  all_goals (try simp only [evL_nil]; refine hK _ _ ?_; clear hK K)
  simp only [Then_normal]
  refine Run.seq ?_
  refine Run.seq ?_
  refine Run.opsL false [⟨Op.move (Operand.tmp 0), some 8, none⟩, ⟨Op.call { callee := Callee.builtin Builtin.len, args := #[Operand.tmp 8], argTypes := #[51] }, some 9, none⟩, ⟨Op.move (Operand.const (Value.int IntKind.i64 0)), some 10, none⟩] mixed (by decide) rfl fun K hK => ?_
  try simp
  repeat' first | (simp only [evL_cons, evL_guard]; simp) | (refine gsplit (fun hg => ?_) (fun hg => ?_) <;> (try simp at hg) <;> (try simp)) | (with_reducible assumption) | omega | refine And.intro ?_ ?_ | intro _
  all_goals (try simp only [evL_nil]; refine hK _ _ ?_; clear hK K)
  simp only [Then_normal]
  refine Run.block ?_
  refine Run.loopO [5, 6, 7, 10, 11, 12, 13, 14, 15, 16, 17, 18, 19, 20, 21, 22, 23, 24, 25, 26, 27] (fun (i : Nat) => [(5, .int (cntN l t i)), (10, .int i)]) (fun (i : Nat) => []) (fun (i : Nat) => i ≤ l.length) (fun (i : Nat) => l.length - i) 0 (by simp) (by simp [cntN_zero]) fun i hi => ?_
  simp only [over, List.foldl, List.set]
  refine Run.seq ?_
  refine Run.opsL false [⟨Op.binOp BinOp.lss 3 (Operand.tmp 10) (Operand.tmp 9) 3, some 11, none⟩] mixed (by decide) rfl fun K hK => ?_
  try simp
  repeat' first | (simp only [evL_cons, evL_guard]; simp) | (refine gsplit (fun hg => ?_) (fun hg => ?_) <;> (try simp at hg) <;> (try simp)) | (with_reducible assumption) | omega | refine And.intro ?_ ?_ | intro _
  all_goals (try simp only [evL_nil]; refine hK _ _ ?_; clear hK K)
  simp only [Then_normal]
  refine Run.seq ?_
  refine Run.cond rfl (fun h11 => ?_) (fun h11 => ?_)
  · try simp at h11
    refine Run.skip ?_
    simp only [Then_normal]
    refine Run.seq ?_
    refine Run.block ?_
    refine Run.seq ?_
    refine Run.opsL false [⟨Op.move (Operand.tmp 10), some 12, none⟩, ⟨Op.indexAddr 51 (Operand.tmp 8) (Operand.tmp 10), some 13, none⟩, ⟨Op.load 2 (Operand.tmp 13), some 14, none⟩, ⟨Op.assign (Operand.tmp 12), some 6, none⟩, ⟨Op.assign (Operand.tmp 14), some 7, none⟩] mixed (by decide) rfl fun K hK => ?_
    try simp
    repeat' first | (simp only [evL_cons, evL_guard]; simp [h11]) | (refine gsplit (fun hg => ?_) (fun hg => ?_) <;> (try simp at hg) <;> (try simp [h11])) | (with_reducible assumption) | omega | refine And.intro ?_ ?_ | intro _
    all_goals (try simp only [evL_nil]; refine hK _ _ ?_; clear hK K)
    simp only [Then_normal]
    refine Run.cut0 [15, 16, 17, 18, 19, 20, 21] [(21, .bool (decide ((i : Int) = t ∨ t = -1)))] ?_ ?_
    · refine Run.opsL false [⟨Op.move (Operand.tmp 6), some 15, none⟩, ⟨Op.move (Operand.tmp 1), some 16, none⟩, ⟨Op.binOp BinOp.eql 3 (Operand.tmp 15) (Operand.tmp 16) 3, some 17, none⟩, ⟨Op.move (Operand.tmp 17), some 18, none⟩, ⟨Op.move (Operand.tmp 1), some 19, some (some 18, false)⟩, ⟨Op.binOp BinOp.eql 3 (Operand.tmp 19) (Operand.const (Value.int IntKind.i64 (-1))) 3, some 20, some (some 18, false)⟩, ⟨Op.pick (Operand.tmp 18) (Operand.const (Value.bool true)) (Operand.tmp 20), some 21, none⟩] mixed (by decide) rfl fun K hK => ?_
      try simp
      repeat' first | (simp only [evL_cons, evL_guard]; simp [h11]) | (refine gsplit (fun hg => ?_) (fun hg => ?_) <;> (try simp at hg) <;> (try simp [h11])) | (with_reducible assumption) | omega | refine And.intro ?_ ?_ | intro _
      all_goals (try simp only [evL_nil]; refine hK _ _ ?_; clear hK K)
      all_goals (simp_all)
    · simp only [over, List.foldl, List.set]
      refine Run.cond rfl (fun h21 => ?_) (fun h21 => ?_)
      · try simp at h21
        refine Run.opsL false [⟨Op.move (Operand.tmp 5), some 22, none⟩, ⟨Op.move (Operand.tmp 7), some 23, none⟩, ⟨Op.call { callee := Callee.value (Operand.func 34), args := #[Operand.tmp 23], argTypes := #[2] }, some 24, none⟩, ⟨Op.binOp BinOp.add 2 (Operand.tmp 22) (Operand.tmp 24) 2, some 25, none⟩, ⟨Op.call { callee := Callee.value (Operand.func 34), args := #[Operand.tmp 25], argTypes := #[2] }, some 26, none⟩, ⟨Op.assign (Operand.tmp 26), some 5, none⟩] mixed (by decide) rfl fun K hK => ?_
        try simp
        repeat' first | (refine ecallD (clip_ok _) ?_) | (simp only [evL_cons, evL_guard]; simp [h11, h21]) | (refine gsplit (fun hg => ?_) (fun hg => ?_) <;> (try simp at hg) <;> (try simp [h11, h21])) | (with_reducible assumption) | omega | refine And.intro ?_ ?_ | intro _
        all_goals (try simp only [evL_nil]; refine hK _ _ ?_; clear hK K)
        simp only [Blok_normal]
        simp only [Then_normal]
        refine Run.opsL false [⟨Op.binOp BinOp.add 3 (Operand.tmp 10) (Operand.const (Value.int IntKind.i64 1)) 3, some 27, none⟩, ⟨Op.move (Operand.tmp 27), some 10, none⟩] mixed (by decide) rfl fun K hK => ?_
        try simp
        repeat' first | (simp only [evL_cons, evL_guard]; simp [h11, h21]) | (refine gsplit (fun hg => ?_) (fun hg => ?_) <;> (try simp at hg) <;> (try simp [h11, h21])) | (with_reducible assumption) | omega | refine And.intro ?_ ?_ | intro _
        all_goals (try simp only [evL_nil]; refine hK _ _ ?_; clear hK K)
        have hr := cntN_rng l t i
        have hc := clip_rng (rdI l i)
        refine ⟨i + 1, by omega, by omega, ?_⟩
        simp (disch := omega) [cntN_succ l t i h11, h21, wrap_id]
      · try simp at h21
        refine Run.skip ?_
        simp only [Blok_normal]
        simp only [Then_normal]
        refine Run.opsL false [⟨Op.binOp BinOp.add 3 (Operand.tmp 10) (Operand.const (Value.int IntKind.i64 1)) 3, some 27, none⟩, ⟨Op.move (Operand.tmp 27), some 10, none⟩] mixed (by decide) rfl fun K hK => ?_
        try simp
        repeat' first | (simp only [evL_cons, evL_guard]; simp [h11, h21]) | (refine gsplit (fun hg => ?_) (fun hg => ?_) <;> (try simp at hg) <;> (try simp [h11, h21])) | (with_reducible assumption) | omega | refine And.intro ?_ ?_ | intro _
        all_goals (try simp only [evL_nil]; refine hK _ _ ?_; clear hK K)
        have hr := cntN_rng l t i
        have hc := clip_rng (rdI l i)
        refine ⟨i + 1, by omega, by omega, ?_⟩
        simp (disch := omega) [cntN_succ l t i h11, h21, wrap_id]
  · try simp at h11
    refine Run.exit ?_
    simp (decide := true) only [Then_exit, Blok_exit, if_true, if_false]
    simp only [Then_normal]
    refine Run.seq ?_
    refine Run.opsL false [⟨Op.move (Operand.tmp 5), some 28, none⟩, ⟨Op.assign (Operand.tmp 28), some 4, none⟩] mixed (by decide) rfl fun K hK => ?_
    try simp
    repeat' first | (simp only [evL_cons, evL_guard]; simp [h11]) | (refine gsplit (fun hg => ?_) (fun hg => ?_) <;> (try simp at hg) <;> (try simp [h11])) | (with_reducible assumption) | omega | refine And.intro ?_ ?_ | intro _
    all_goals (try simp only [evL_nil]; refine hK _ _ ?_; clear hK K)
    simp only [Then_normal]
    refine Run.ret ?_
    try simp only [Then_ret, Blok_ret]
    have : i = l.length := by omega
    subst this
    simp [cntN_all]

theorem share_ok (a b : Int) (h0 : 0 ≤ a) (h1 : a ≤ 1099511627776) (h2 : 0 ≤ b) (h3 : b ≤ 1099511627776) : Snd P 64 [.int a, .int b] (.int (shareS a b)) [] := by
  refine snd_of [] Try.func64 rfl (by kernel_rfl) Try.ntmps64 (by simp) ?_
  unfold Try.f64
  simp only [List.cons_append, List.nil_append, List.length_cons, List.length_nil, Nat.reduceAdd, Nat.reduceSub, List.replicate]
  refine Run.seq ?_
  refine Run.opsL false [⟨Op.assign (Operand.const (Value.int IntKind.i64 0)), some 4, none⟩] mixed (by decide) rfl fun K hK => ?_
  try simp
  repeat' first | (simp only [evL_cons, evL_guard]; simp) | (refine gsplit (fun hg => ?_) (fun hg => ?_) <;> (try simp at hg) <;> (try simp)) | (with_reducible assumption) | omega | refine And.intro ?_ ?_ | intro _
  all_goals (try simp only [evL_nil]; refine hK _ _ ?_; clear hK K)
  simp only [Then_normal]
  refine Run.cut0 [1, 6, 7] [(1, .int (max b 1))] ?_ ?_
  · refine Run.opsL false [⟨Op.move (Operand.tmp 1), some 6, none⟩, ⟨Op.call { callee := Callee.builtin Builtin.max, args := #[Operand.tmp 6, Operand.const (Value.int IntKind.i64 1)], argTypes := #[2, 2] }, some 7, none⟩, ⟨Op.assign (Operand.tmp 7), some 1, none⟩] mixed (by decide) rfl fun K hK => ?_
    try simp
    repeat' first | (simp only [evL_cons, evL_guard]; simp) | (refine gsplit (fun hg => ?_) (fun hg => ?_) <;> (try simp at hg) <;> (try simp)) | (with_reducible assumption) | omega | refine And.intro ?_ ?_ | intro _
    all_goals (try simp only [evL_nil]; refine hK _ _ ?_; clear hK K)
    simp
    grind
  · simp only [over, List.foldl, List.set]
    obtain ⟨c, hc, hm⟩ : ∃ c, 1 ≤ c ∧ c = max b 1 := ⟨_, by omega, rfl⟩
    have hs : shareS a b = (a + c - 1) / c := by rw [hm]; rfl
    rw [hs, ← hm]
    have hc0 : ¬ c = 0 := by omega
    have e1 : a.tdiv c = a / c := Int.tdiv_eq_ediv_of_nonneg h0
    have e2 : a.tmod c = a % c := Int.tmod_eq_emod_of_nonneg h0
    have hd := div_rng h0 hc
    refine Run.seq ?_
    refine Run.opsL false [⟨Op.move (Operand.tmp 0), some 8, none⟩, ⟨Op.move (Operand.tmp 1), some 9, none⟩, ⟨Op.binOp BinOp.quo 2 (Operand.tmp 8) (Operand.tmp 9) 2, some 10, none⟩, ⟨Op.assign (Operand.tmp 10), some 5, none⟩] mixed (by decide) rfl fun K hK => ?_
    try simp
    repeat' first | (simp only [evL_cons, evL_guard]; simp [hc0]) | (refine gsplit (fun hg => ?_) (fun hg => ?_) <;> (try simp at hg) <;> (try simp [hc0])) | (with_reducible assumption) | omega | refine And.intro ?_ ?_ | intro _
    all_goals (try simp only [evL_nil]; refine hK _ _ ?_; clear hK K)
    simp only [Then_normal]
    refine Run.seq ?_
    refine Run.seq ?_
    refine Run.opsL false [⟨Op.move (Operand.tmp 0), some 11, none⟩, ⟨Op.move (Operand.tmp 1), some 12, none⟩, ⟨Op.binOp BinOp.rem 2 (Operand.tmp 11) (Operand.tmp 12) 2, some 13, none⟩, ⟨Op.binOp BinOp.gtr 2 (Operand.tmp 13) (Operand.const (Value.int IntKind.i64 0)) 2, some 14, none⟩] mixed (by decide) rfl fun K hK => ?_
    try simp
    repeat' first | (simp only [evL_cons, evL_guard]; simp [hc0]) | (refine gsplit (fun hg => ?_) (fun hg => ?_) <;> (try simp at hg) <;> (try simp [hc0])) | (with_reducible assumption) | omega | refine And.intro ?_ ?_ | intro _
    all_goals (try simp only [evL_nil]; refine hK _ _ ?_; clear hK K)
    simp only [Then_normal]
    refine Run.cond rfl (fun h14 => ?_) (fun h14 => ?_)
    · simp [e2] at h14
      refine Run.opsL false [⟨Op.move (Operand.tmp 5), some 15, none⟩, ⟨Op.binOp BinOp.add 2 (Operand.tmp 15) (Operand.const (Value.int IntKind.i64 1)) 2, some 16, none⟩, ⟨Op.assign (Operand.tmp 16), some 5, none⟩] mixed (by decide) rfl fun K hK => ?_
      try simp
      repeat' first | (simp only [evL_cons, evL_guard]; simp [hc0]) | (refine gsplit (fun hg => ?_) (fun hg => ?_) <;> (try simp at hg) <;> (try simp [hc0])) | (with_reducible assumption) | omega | refine And.intro ?_ ?_ | intro _
      all_goals (try simp only [evL_nil]; refine hK _ _ ?_; clear hK K)
      simp only [Then_normal]
      refine Run.seq ?_
      refine Run.opsL false [⟨Op.move (Operand.tmp 5), some 17, none⟩, ⟨Op.assign (Operand.tmp 17), some 4, none⟩] mixed (by decide) rfl fun K hK => ?_
      try simp
      repeat' first | (simp only [evL_cons, evL_guard]; simp [hc0]) | (refine gsplit (fun hg => ?_) (fun hg => ?_) <;> (try simp at hg) <;> (try simp [hc0])) | (with_reducible assumption) | omega | refine And.intro ?_ ?_ | intro _
      all_goals (try simp only [evL_nil]; refine hK _ _ ?_; clear hK K)
      simp only [Then_normal]
      refine Run.ret ?_
      try simp only [Then_ret, Blok_ret]
      first
        | (have := share_up hc h14; simp [e1]; simp (disch := omega) only [wrap_id, this])
        | (have := share_ev hc h14; simp [e1]; simp (disch := omega) only [wrap_id, this])
    · simp [e2] at h14
      refine Run.skip ?_
      simp only [Then_normal]
      refine Run.seq ?_
      refine Run.opsL false [⟨Op.move (Operand.tmp 5), some 17, none⟩, ⟨Op.assign (Operand.tmp 17), some 4, none⟩] mixed (by decide) rfl fun K hK => ?_
      try simp
      repeat' first | (simp only [evL_cons, evL_guard]; simp [hc0]) | (refine gsplit (fun hg => ?_) (fun hg => ?_) <;> (try simp at hg) <;> (try simp [hc0])) | (with_reducible assumption) | omega | refine And.intro ?_ ?_ | intro _
      all_goals (try simp only [evL_nil]; refine hK _ _ ?_; clear hK K)
      simp only [Then_normal]
      refine Run.ret ?_
      try simp only [Then_ret, Blok_ret]
      first
        | (have := share_up hc h14; simp [e1]; simp (disch := omega) only [wrap_id, this])
        | (have := share_ev hc h14; simp [e1]; simp (disch := omega) only [wrap_id, this])

theorem rshare_ok (a b : Int) (h0 : 0 ≤ a) (h1 : a ≤ 1099511627776) (h2 : 0 ≤ b) (h3 : b ≤ 1099511627776) : Snd P 69 [.int a, .int b] (.int (shareS a b)) [] := by
  refine snd_of [] Try.func69 rfl (by kernel_rfl) Try.ntmps69 (by simp) ?_
  unfold Try.f69
  simp only [List.cons_append, List.nil_append, List.length_cons, List.length_nil, Nat.reduceAdd, Nat.reduceSub, List.replicate]
  refine Run.seq ?_
  refine Run.opsL false [⟨Op.assign (Operand.const (Value.int IntKind.i64 0)), some 4, none⟩] mixed (by decide) rfl fun K hK => ?_
  try simp
  repeat' first | (simp only [evL_cons, evL_guard]; simp) | (refine gsplit (fun hg => ?_) (fun hg => ?_) <;> (try simp at hg) <;> (try simp)) | (with_reducible assumption) | omega | refine And.intro ?_ ?_ | intro _
  all_goals (try simp only [evL_nil]; refine hK _ _ ?_; clear hK K)
  simp only [Then_normal]
  refine Run.seq ?_
  refine Run.seq ?_
  refine Run.opsL false [⟨Op.move (Operand.tmp 1), some 5, none⟩, ⟨Op.binOp BinOp.eql 2 (Operand.tmp 5) (Operand.const (Value.int IntKind.i64 0)) 2, some 6, none⟩] mixed (by decide) rfl fun K hK => ?_
  try simp
  repeat' first | (simp only [evL_cons, evL_guard]; simp) | (refine gsplit (fun hg => ?_) (fun hg => ?_) <;> (try simp at hg) <;> (try simp)) | (with_reducible assumption) | omega | refine And.intro ?_ ?_ | intro _
  all_goals (try simp only [evL_nil]; refine hK _ _ ?_; clear hK K)
  simp only [Then_normal]
  refine Run.cond rfl (fun h6 => ?_) (fun h6 => ?_)
  · try simp at h6
    refine Run.opsL false [⟨Op.assign (Operand.const (Value.int IntKind.i64 1)), some 1, none⟩] mixed (by decide) rfl fun K hK => ?_
    try simp
    repeat' first | (simp only [evL_cons, evL_guard]; simp [h6]) | (refine gsplit (fun hg => ?_) (fun hg => ?_) <;> (try simp at hg) <;> (try simp [h6])) | (with_reducible assumption) | omega | refine And.intro ?_ ?_ | intro _
    all_goals (try simp only [evL_nil]; refine hK _ _ ?_; clear hK K)
    simp only [Then_normal]
    refine Run.seq ?_
    refine Run.opsL false [⟨Op.move (Operand.tmp 0), some 7, none⟩, ⟨Op.move (Operand.tmp 1), some 8, none⟩, ⟨Op.binOp BinOp.add 2 (Operand.tmp 7) (Operand.tmp 8) 2, some 9, none⟩, ⟨Op.binOp BinOp.sub 2 (Operand.tmp 9) (Operand.const (Value.int IntKind.i64 1)) 2, some 10, none⟩, ⟨Op.move (Operand.tmp 1), some 11, none⟩, ⟨Op.binOp BinOp.quo 2 (Operand.tmp 10) (Operand.tmp 11) 2, some 12, none⟩, ⟨Op.assign (Operand.tmp 12), some 4, none⟩] mixed (by decide) rfl fun K hK => ?_
    try simp
    repeat' first | (simp only [evL_cons, evL_guard]; simp [h6]) | (refine gsplit (fun hg => ?_) (fun hg => ?_) <;> (try simp at hg) <;> (try simp [h6])) | (with_reducible assumption) | omega | refine And.intro ?_ ?_ | intro _
    all_goals (try simp only [evL_nil]; refine hK _ _ ?_; clear hK K)
    simp only [Then_normal]
    refine Run.ret ?_
    try simp only [Then_ret, Blok_ret]
    first
      | (have hs : shareS a b = a := by unfold shareS; rw [show max b 1 = 1 by omega]; simp
         simp [hs]; simp (disch := omega) only [wrap_id]; omega)
      | (have hs : shareS a b = (a + b - 1) / b := by unfold shareS; rw [show max b 1 = b by omega]
         have hd := share_rng h0 h1 h2
         rw [hs] at hd
         simp [hs]; simp (disch := omega) only [wrap_id, Int.tdiv_eq_ediv_of_nonneg])
  · try simp at h6
    refine Run.skip ?_
    simp only [Then_normal]
    refine Run.seq ?_
    refine Run.opsL false [⟨Op.move (Operand.tmp 0), some 7, none⟩, ⟨Op.move (Operand.tmp 1), some 8, none⟩, ⟨Op.binOp BinOp.add 2 (Operand.tmp 7) (Operand.tmp 8) 2, some 9, none⟩, ⟨Op.binOp BinOp.sub 2 (Operand.tmp 9) (Operand.const (Value.int IntKind.i64 1)) 2, some 10, none⟩, ⟨Op.move (Operand.tmp 1), some 11, none⟩, ⟨Op.binOp BinOp.quo 2 (Operand.tmp 10) (Operand.tmp 11) 2, some 12, none⟩, ⟨Op.assign (Operand.tmp 12), some 4, none⟩] mixed (by decide) rfl fun K hK => ?_
    try simp
    repeat' first | (simp only [evL_cons, evL_guard]; simp [h6]) | (refine gsplit (fun hg => ?_) (fun hg => ?_) <;> (try simp at hg) <;> (try simp [h6])) | (with_reducible assumption) | omega | refine And.intro ?_ ?_ | intro _
    all_goals (try simp only [evL_nil]; refine hK _ _ ?_; clear hK K)
    simp only [Then_normal]
    refine Run.ret ?_
    try simp only [Then_ret, Blok_ret]
    first
      | (have hs : shareS a b = a := by unfold shareS; rw [show max b 1 = 1 by omega]; simp
         simp [hs]; simp (disch := omega) only [wrap_id]; omega)
      | (have hs : shareS a b = (a + b - 1) / b := by unfold shareS; rw [show max b 1 = b by omega]
         have hd := share_rng h0 h1 h2
         rw [hs] at hd
         simp [hs]; simp (disch := omega) only [wrap_id, Int.tdiv_eq_ediv_of_nonneg])

theorem rmul_ok (a b : Int) (h0 : 0 ≤ a) (h1 : a ≤ 1099511627776) (h2 : 0 ≤ b) (h3 : b ≤ 1099511627776) : Snd P 70 [.int a, .int b] (.int (mulS a b)) [] := by
  have e1 : (1099511627776 : Int).tdiv a = 1099511627776 / a := Int.tdiv_eq_ediv_of_nonneg (by omega)
  have hd : 0 < a → 0 ≤ 1099511627776 / a ∧ 1099511627776 / a ≤ 1099511627776 := fun h => div_rng (by omega) (by omega)
  refine snd_of [] Try.func70 rfl (by kernel_rfl) Try.ntmps70 (by simp) ?_
  unfold Try.f70
  simp only [List.cons_append, List.nil_append, List.length_cons, List.length_nil, Nat.reduceAdd, Nat.reduceSub, List.replicate]
  refine Run.seq ?_
  refine Run.opsL false [⟨Op.assign (Operand.const (Value.int IntKind.i64 0)), some 4, none⟩] mixed (by decide) rfl fun K hK => ?_
  try simp
  repeat' first | (simp only [evL_cons, evL_guard]; simp) | (refine gsplit (fun hg => ?_) (fun hg => ?_) <;> (try simp at hg) <;> (try simp)) | (with_reducible assumption) | omega | refine And.intro ?_ ?_ | intro _
  all_goals (try simp only [evL_nil]; refine hK _ _ ?_; clear hK K)
  simp only [Then_normal]
  refine Run.seq ?_
  refine Run.cut0 [5, 6, 7, 8, 9, 10, 11, 12] [(12, .bool (decide (0 < a ∧ 1099511627776 / a < b)))] ?_ ?_
  · refine Run.opsL false [⟨Op.move (Operand.tmp 0), some 5, none⟩, ⟨Op.binOp BinOp.gtr 2 (Operand.tmp 5) (Operand.const (Value.int IntKind.i64 0)) 2, some 6, none⟩, ⟨Op.move (Operand.tmp 6), some 7, none⟩, ⟨Op.move (Operand.tmp 1), some 8, some (some 7, true)⟩, ⟨Op.move (Operand.tmp 0), some 9, some (some 7, true)⟩, ⟨Op.binOp BinOp.quo 2 (Operand.const (Value.int IntKind.i64 1099511627776)) (Operand.tmp 9) 2, some 10, some (some 7, true)⟩, ⟨Op.binOp BinOp.gtr 2 (Operand.tmp 8) (Operand.tmp 10) 2, some 11, some (some 7, true)⟩, ⟨Op.pick (Operand.tmp 7) (Operand.tmp 11) (Operand.const (Value.bool false)), some 12, none⟩] mixed (by decide) rfl fun K hK => ?_
    try simp
    repeat' first | (simp only [evL_cons, evL_guard]; simp [e1]) | (refine gsplit (fun hg => ?_) (fun hg => ?_) <;> (try simp at hg) <;> (try simp [e1])) | (with_reducible assumption) | omega | refine And.intro ?_ ?_ | intro _
    all_goals (try simp only [evL_nil]; refine hK _ _ ?_; clear hK K)
    all_goals (first | (simp_all; done) | (simp_all; rw [wrap_id (by omega) (by omega)]; done) | (simp_all; intro h; omega) | (simp_all; rw [if_neg (by omega)]; simp; omega))
  · simp only [over, List.foldl, List.set]
    refine Run.cond rfl (fun h12 => ?_) (fun h12 => ?_)
    · try simp at h12
      refine Run.seq ?_
      refine Run.opsL false [⟨Op.assign (Operand.const (Value.int IntKind.i64 1099511627776)), some 4, none⟩] mixed (by decide) rfl fun K hK => ?_
      try simp
      repeat' first | (simp only [evL_cons, evL_guard]; simp [h12]) | (refine gsplit (fun hg => ?_) (fun hg => ?_) <;> (try simp at hg) <;> (try simp [h12])) | (with_reducible assumption) | omega | refine And.intro ?_ ?_ | intro _
      all_goals (try simp only [evL_nil]; refine hK _ _ ?_; clear hK K)
      simp only [Then_normal]
      refine Run.ret ?_
      try simp only [Then_ret, Blok_ret]
      first
        | (have hm : mulS a b = 1099511627776 := by unfold mulS; rw [if_pos h12]
           simp [hm])
        | (have hm : mulS a b = a * b := by unfold mulS; rw [if_neg (by intro h; have := h12 h.1; omega)]
           have hr := mul_rng h0 h1 h2 h3
           rw [hm] at hr
           simp [hm]; simp (disch := omega) only [wrap_id])
    · try simp at h12
      refine Run.skip ?_
      simp only [Then_normal]
      refine Run.seq ?_
      refine Run.opsL false [⟨Op.move (Operand.tmp 0), some 13, none⟩, ⟨Op.move (Operand.tmp 1), some 14, none⟩, ⟨Op.binOp BinOp.mul 2 (Operand.tmp 13) (Operand.tmp 14) 2, some 15, none⟩, ⟨Op.assign (Operand.tmp 15), some 4, none⟩] mixed (by decide) rfl fun K hK => ?_
      try simp
      repeat' first | (simp only [evL_cons, evL_guard]; simp [h12]) | (refine gsplit (fun hg => ?_) (fun hg => ?_) <;> (try simp at hg) <;> (try simp [h12])) | (with_reducible assumption) | omega | refine And.intro ?_ ?_ | intro _
      all_goals (try simp only [evL_nil]; refine hK _ _ ?_; clear hK K)
      simp only [Then_normal]
      refine Run.ret ?_
      try simp only [Then_ret, Blok_ret]
      first
        | (have hm : mulS a b = 1099511627776 := by unfold mulS; rw [if_pos h12]
           simp [hm])
        | (have hm : mulS a b = a * b := by unfold mulS; rw [if_neg (by intro h; have := h12 h.1; omega)]
           have hr := mul_rng h0 h1 h2 h3
           rw [hm] at hr
           simp [hm]; simp (disch := omega) only [wrap_id])

theorem nodes_ok (c : CoreT) (s : StatsT) (slot : Int) (h0 : 0 ≤ slot) (h1 : slot < c.nodes.length) : Snd P 63 [.d (.ag (encC c ++ encS s)), .int slot] (.int (cntS s.nodes (rdI c.nodes slot).type)) [] := by
  refine snd_of [] Try.func63 rfl (by kernel_rfl) Try.ntmps63 (by simp) ?_
  unfold Try.f63
  simp only [List.cons_append, List.nil_append, List.length_cons, List.length_nil, Nat.reduceAdd, Nat.reduceSub, List.replicate]
  refine Run.seq ?_
  refine Run.opsL false [⟨Op.box 82 (Operand.tmp 0), some 2, none⟩, ⟨Op.assign (Operand.const (Value.int IntKind.i64 0)), some 4, none⟩] mixed (by decide) rfl fun K hK => ?_
  try simp
  repeat' first | (simp only [evL_cons, evL_guard]; simp [h0, h1]) | (refine gsplit (fun hg => ?_) (fun hg => ?_) <;> (try simp at hg) <;> (try simp [h0, h1])) | (with_reducible assumption) | omega | refine And.intro ?_ ?_ | intro _
  all_goals (try simp only [evL_nil]; refine hK _ _ ?_; clear hK K)
  simp only [Then_normal]
  refine Run.seq ?_
  refine Run.opsL false [⟨Op.fieldAddr 82 (Operand.tmp 2) 1, some 5, none⟩, ⟨Op.fieldAddr 53 (Operand.tmp 5) 0, some 6, none⟩, ⟨Op.load 51 (Operand.tmp 6), some 7, none⟩, ⟨Op.fieldAddr 82 (Operand.tmp 2) 0, some 8, none⟩, ⟨Op.fieldAddr 33 (Operand.tmp 8) 0, some 9, none⟩, ⟨Op.load 28 (Operand.tmp 9), some 10, none⟩, ⟨Op.move (Operand.tmp 1), some 11, none⟩, ⟨Op.indexAddr 28 (Operand.tmp 10) (Operand.tmp 11), some 12, none⟩, ⟨Op.fieldAddr 76 (Operand.tmp 12) 1, some 13, none⟩, ⟨Op.load 3 (Operand.tmp 13), some 14, none⟩, ⟨Op.call { callee := Callee.value (Operand.func 90), args := #[Operand.tmp 7, Operand.tmp 14], argTypes := #[51, 3] }, some 15, none⟩, ⟨Op.assign (Operand.tmp 15), some 4, none⟩] mixed (by decide) rfl fun K hK => ?_
  try simp
  repeat' first | (refine ecallD (of_ok _ _ _) ?_) | (simp only [evL_cons, evL_guard]; simp [h0, h1]) | (refine gsplit (fun hg => ?_) (fun hg => ?_) <;> (try simp at hg) <;> (try simp [h0, h1])) | (with_reducible assumption) | omega | refine And.intro ?_ ?_ | intro _
  all_goals (try simp only [evL_nil]; refine hK _ _ ?_; clear hK K)
  simp only [Then_normal]
  refine Run.ret ?_
  try simp only [Then_ret, Blok_ret]
  simp

theorem edges_ok (c : CoreT) (s : StatsT) (slot : Int) (h0 : 0 ≤ slot) (h1 : slot < c.edges.length) : Snd P 65 [.d (.ag (encC c ++ encS s)), .int slot] (.int (cntS s.edges (rdI c.edges slot).type)) [] := by
  refine snd_of [] Try.func65 rfl (by kernel_rfl) Try.ntmps65 (by simp) ?_
  unfold Try.f65
  simp only [List.cons_append, List.nil_append, List.length_cons, List.length_nil, Nat.reduceAdd, Nat.reduceSub, List.replicate]
  refine Run.seq ?_
  refine Run.opsL false [⟨Op.box 82 (Operand.tmp 0), some 2, none⟩, ⟨Op.assign (Operand.const (Value.int IntKind.i64 0)), some 4, none⟩] mixed (by decide) rfl fun K hK => ?_
  try simp
  repeat' first | (simp only [evL_cons, evL_guard]; simp [h0, h1]) | (refine gsplit (fun hg => ?_) (fun hg => ?_) <;> (try simp at hg) <;> (try simp [h0, h1])) | (with_reducible assumption) | omega | refine And.intro ?_ ?_ | intro _
  all_goals (try simp only [evL_nil]; refine hK _ _ ?_; clear hK K)
  simp only [Then_normal]
  refine Run.seq ?_
  refine Run.opsL false [⟨Op.fieldAddr 82 (Operand.tmp 2) 1, some 5, none⟩, ⟨Op.fieldAddr 53 (Operand.tmp 5) 1, some 6, none⟩, ⟨Op.load 51 (Operand.tmp 6), some 7, none⟩, ⟨Op.fieldAddr 82 (Operand.tmp 2) 0, some 8, none⟩, ⟨Op.fieldAddr 33 (Operand.tmp 8) 1, some 9, none⟩, ⟨Op.load 29 (Operand.tmp 9), some 10, none⟩, ⟨Op.move (Operand.tmp 1), some 11, none⟩, ⟨Op.indexAddr 29 (Operand.tmp 10) (Operand.tmp 11), some 12, none⟩, ⟨Op.fieldAddr 105 (Operand.tmp 12) 1, some 13, none⟩, ⟨Op.load 3 (Operand.tmp 13), some 14, none⟩, ⟨Op.call { callee := Callee.value (Operand.func 90), args := #[Operand.tmp 7, Operand.tmp 14], argTypes := #[51, 3] }, some 15, none⟩, ⟨Op.assign (Operand.tmp 15), some 4, none⟩] mixed (by decide) rfl fun K hK => ?_
  try simp
  repeat' first | (refine ecallD (of_ok _ _ _) ?_) | (simp only [evL_cons, evL_guard]; simp [h0, h1]) | (refine gsplit (fun hg => ?_) (fun hg => ?_) <;> (try simp at hg) <;> (try simp [h0, h1])) | (with_reducible assumption) | omega | refine And.intro ?_ ?_ | intro _
  all_goals (try simp only [evL_nil]; refine hK _ _ ?_; clear hK K)
  simp only [Then_normal]
  refine Run.ret ?_
  try simp only [Then_ret, Blok_ret]
  simp

theorem rends_ok (e : EdgeT) (back : Bool) : Snd P 68 [.d (.ag (encE e)), .bool back] (.tup [.int (if back then e.dst else e.src), .int (if back then e.src else e.dst)]) [] := by
  refine snd_of [] Try.func68 rfl (by kernel_rfl) Try.ntmps68 (by simp) ?_
  unfold Try.f68
  simp only [List.cons_append, List.nil_append, List.length_cons, List.length_nil, Nat.reduceAdd, Nat.reduceSub, List.replicate]
  refine Run.seq ?_
  refine Run.opsL false [⟨Op.box 105 (Operand.tmp 0), some 2, none⟩, ⟨Op.assign (Operand.const (Value.int IntKind.i64 0)), some 4, none⟩, ⟨Op.assign (Operand.const (Value.int IntKind.i64 0)), some 5, none⟩] mixed (by decide) rfl fun K hK => ?_
  try simp
  repeat' first | (simp only [evL_cons, evL_guard]; simp) | (refine gsplit (fun hg => ?_) (fun hg => ?_) <;> (try simp at hg) <;> (try simp)) | (with_reducible assumption) | omega | refine And.intro ?_ ?_ | intro _
  all_goals (try simp only [evL_nil]; refine hK _ _ ?_; clear hK K)
  simp only [Then_normal]
  refine Run.seq ?_
  refine Run.seq ?_
  refine Run.opsL false [⟨Op.move (Operand.tmp 1), some 6, none⟩] mixed (by decide) rfl fun K hK => ?_
  try simp
  repeat' first | (simp only [evL_cons, evL_guard]; simp) | (refine gsplit (fun hg => ?_) (fun hg => ?_) <;> (try simp at hg) <;> (try simp)) | (with_reducible assumption) | omega | refine And.intro ?_ ?_ | intro _
  all_goals (try simp only [evL_nil]; refine hK _ _ ?_; clear hK K)
  simp only [Then_normal]
  refine Run.cond rfl (fun h6 => ?_) (fun h6 => ?_)
  · try simp at h6
    refine Run.seq ?_
    refine Run.opsL false [⟨Op.fieldAddr 105 (Operand.tmp 2) 3, some 7, none⟩, ⟨Op.load 3 (Operand.tmp 7), some 8, none⟩, ⟨Op.fieldAddr 105 (Operand.tmp 2) 2, some 9, none⟩, ⟨Op.load 3 (Operand.tmp 9), some 10, none⟩, ⟨Op.assign (Operand.tmp 8), some 4, none⟩, ⟨Op.assign (Operand.tmp 10), some 5, none⟩] mixed (by decide) rfl fun K hK => ?_
    try simp
    repeat' first | (simp only [evL_cons, evL_guard]; simp [h6]) | (refine gsplit (fun hg => ?_) (fun hg => ?_) <;> (try simp at hg) <;> (try simp [h6])) | (with_reducible assumption) | omega | refine And.intro ?_ ?_ | intro _
    all_goals (try simp only [evL_nil]; refine hK _ _ ?_; clear hK K)
    simp only [Then_normal]
    refine Run.ret ?_
    try simp only [Then_ret, Blok_ret]
    simp [*]
  · try simp at h6
    refine Run.skip ?_
    simp only [Then_normal]
    refine Run.seq ?_
    refine Run.opsL false [⟨Op.fieldAddr 105 (Operand.tmp 2) 2, some 11, none⟩, ⟨Op.load 3 (Operand.tmp 11), some 12, none⟩, ⟨Op.fieldAddr 105 (Operand.tmp 2) 3, some 13, none⟩, ⟨Op.load 3 (Operand.tmp 13), some 14, none⟩, ⟨Op.assign (Operand.tmp 12), some 4, none⟩, ⟨Op.assign (Operand.tmp 14), some 5, none⟩] mixed (by decide) rfl fun K hK => ?_
    try simp
    repeat' first | (simp only [evL_cons, evL_guard]; simp [h6]) | (refine gsplit (fun hg => ?_) (fun hg => ?_) <;> (try simp at hg) <;> (try simp [h6])) | (with_reducible assumption) | omega | refine And.intro ?_ ?_ | intro _
    all_goals (try simp only [evL_nil]; refine hK _ _ ?_; clear hK K)
    simp only [Then_normal]
    refine Run.ret ?_
    try simp only [Then_ret, Blok_ret]
    simp [*]

theorem ends_ok (e : EdgeT) (back : Bool) : Snd P 92 [.d (.ag (encE e)), .bool back] (.tup [.int (if back then e.dst else e.src), .int (if back then e.src else e.dst)]) [] := by
  refine snd_of [] Try.func92 rfl (by kernel_rfl) Try.ntmps92 (by simp) ?_
  unfold Try.f92
  simp only [List.cons_append, List.nil_append, List.length_cons, List.length_nil, Nat.reduceAdd, Nat.reduceSub, List.replicate]
  refine Run.seq ?_
  refine Run.opsL false [⟨Op.box 105 (Operand.tmp 0), some 2, none⟩, ⟨Op.assign (Operand.const (Value.int IntKind.i64 0)), some 4, none⟩, ⟨Op.assign (Operand.const (Value.int IntKind.i64 0)), some 5, none⟩] mixed (by decide) rfl fun K hK => ?_
  try simp
  repeat' first | (simp only [evL_cons, evL_guard]; simp) | (refine gsplit (fun hg => ?_) (fun hg => ?_) <;> (try simp at hg) <;> (try simp)) | (with_reducible assumption) | omega | refine And.intro ?_ ?_ | intro _
  all_goals (try simp only [evL_nil]; refine hK _ _ ?_; clear hK K)
  simp only [Then_normal]
  refine Run.seq ?_
  refine Run.seq ?_
  refine Run.opsL false [⟨Op.move (Operand.tmp 1), some 6, none⟩] mixed (by decide) rfl fun K hK => ?_
  try simp
  repeat' first | (simp only [evL_cons, evL_guard]; simp) | (refine gsplit (fun hg => ?_) (fun hg => ?_) <;> (try simp at hg) <;> (try simp)) | (with_reducible assumption) | omega | refine And.intro ?_ ?_ | intro _
  all_goals (try simp only [evL_nil]; refine hK _ _ ?_; clear hK K)
  simp only [Then_normal]
  refine Run.cond rfl (fun h6 => ?_) (fun h6 => ?_)
  · try simp at h6
    refine Run.seq ?_
    refine Run.opsL false [⟨Op.fieldAddr 105 (Operand.tmp 2) 3, some 7, none⟩, ⟨Op.load 3 (Operand.tmp 7), some 8, none⟩, ⟨Op.fieldAddr 105 (Operand.tmp 2) 2, some 9, none⟩, ⟨Op.load 3 (Operand.tmp 9), some 10, none⟩, ⟨Op.assign (Operand.tmp 8), some 4, none⟩, ⟨Op.assign (Operand.tmp 10), some 5, none⟩] mixed (by decide) rfl fun K hK => ?_
    try simp
    repeat' first | (simp only [evL_cons, evL_guard]; simp [h6]) | (refine gsplit (fun hg => ?_) (fun hg => ?_) <;> (try simp at hg) <;> (try simp [h6])) | (with_reducible assumption) | omega | refine And.intro ?_ ?_ | intro _
    all_goals (try simp only [evL_nil]; refine hK _ _ ?_; clear hK K)
    simp only [Then_normal]
    refine Run.ret ?_
    try simp only [Then_ret, Blok_ret]
    simp [*]
  · try simp at h6
    refine Run.skip ?_
    simp only [Then_normal]
    refine Run.seq ?_
    refine Run.opsL false [⟨Op.fieldAddr 105 (Operand.tmp 2) 2, some 11, none⟩, ⟨Op.load 3 (Operand.tmp 11), some 12, none⟩, ⟨Op.fieldAddr 105 (Operand.tmp 2) 3, some 13, none⟩, ⟨Op.load 3 (Operand.tmp 13), some 14, none⟩, ⟨Op.assign (Operand.tmp 12), some 4, none⟩, ⟨Op.assign (Operand.tmp 14), some 5, none⟩] mixed (by decide) rfl fun K hK => ?_
    try simp
    repeat' first | (simp only [evL_cons, evL_guard]; simp [h6]) | (refine gsplit (fun hg => ?_) (fun hg => ?_) <;> (try simp at hg) <;> (try simp [h6])) | (with_reducible assumption) | omega | refine And.intro ?_ ?_ | intro _
    all_goals (try simp only [evL_nil]; refine hK _ _ ?_; clear hK K)
    simp only [Then_normal]
    refine Run.ret ?_
    try simp only [Then_ret, Blok_ret]
    simp [*]


end Go.Proofs.Ytihbejpkfifplaa.Z
