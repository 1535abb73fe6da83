/- Texts of this claim, put together: Pb, Pc, Pd, Pf, Pq, Pn. -/
import Derived.Test.YtihbejpkfifplaaCc
import Derived.Test.YtihbejpkfifplaaShelf
import Derived.Sort.OwnSortedInts
set_option linter.unusedVariables false
set_option linter.unusedSimpArgs false
section
set_option maxRecDepth 100000
namespace Go.Proofs.Ytihbejpkfifplaa.Z
open Go Go.Fw
def clipS (n : Int) : Int := if n < 0 then 0 else if 1099511627776 < n then 1099511627776 else n
/-- the first i -/
def cntF (t : Int) (n : Int) (x : Int × Nat) : Int := if (x.2 : Int) = t ∨ t = -1 then clipS (n + clipS x.1) else n
def cntS (l : List Int) (t : Int) : Int := l.zipIdx.foldl (cntF t) 0
def cntN (l : List Int) (t : Int) (i : Nat) : Int := (l.zipIdx.take i).foldl (cntF t) 0
theorem cntN_zero (l t) : cntN l t 0 = 0 := by simp [cntN]
theorem cntN_all (l t) : cntN l t l.length = cntS l t := by simp [cntN, cntS, List.take_of_length_le]
theorem cntN_succ (l : List Int) (t : Int) (i : Nat) (h : i < l.length) : cntN l t (i + 1) = if (i : Int) = t ∨ t = -1 then clipS (cntN l t i + clipS (rdI l i)) else cntN l t i := by
  unfold cntN
  rw [List.take_add_one]
  simp [List.getElem?_zipIdx, h, List.foldl_append, rdI, List.getD_eq_getElem?_getD, cntF]
theorem clip_rng (n : Int) : 0 ≤ clipS n ∧ clipS n ≤ 1099511627776 := by unfold clipS; grind
theorem cntN_rng (l : List Int) (t : Int) (i : Nat) : 0 ≤ cntN l t i ∧ cntN l t i ≤ 1099511627776 := by
  unfold cntN
  generalize l.zipIdx.take i = r
  have : ∀ a : Int, 0 ≤ a ∧ a ≤ 1099511627776 → 0 ≤ r.foldl (cntF t) a ∧ r.foldl (cntF t) a ≤ 1099511627776 := by
    induction r with
    | nil => intro a h; exact h
    | cons x r ih =>
      intro a h
      refine ih _ ?_
      unfold cntF
      split
      · exact clip_rng _
      · exact h
  exact this 0 (by omega)
/-- by a type's place -/
theorem cntS_all (l : List Int) (i : Nat) : cntN l (-1) i = (l.take i).foldl (fun n x => clipS (n + clipS x)) 0 := by
  unfold cntN
  have : ∀ (l : List (Int × Nat)) (a : Int), l.foldl (cntF (-1)) a = (l.map (·.1)).foldl (fun n x => clipS (n + clipS x)) a := by
    intro l
    induction l with
    | nil => intro a; rfl
    | cons x r ih => intro a; simp only [List.foldl_cons, List.map_cons, ih]; simp [cntF]
  rw [this]
  congr 1
  apply List.ext_getElem?
  intro j
  simp only [List.getElem?_map, List.getElem?_take, List.getElem?_zipIdx]
  split <;> simp
  cases l[j]? <;> rfl
theorem clip_clip (n : Int) : clipS (0 + clipS n) = clipS n := by
  have := clip_rng n
  unfold clipS at *; grind
theorem cntS_one (l : List Int) (t : Int) (ht : t ≠ -1) : cntS l t = if 0 ≤ t ∧ t < l.length then clipS (rdI l t) else 0 := by
  have key : ∀ i : Nat, i ≤ l.length → cntN l t i = if 0 ≤ t ∧ t < i then clipS (rdI l t) else 0 := by
    intro i
    induction i with
    | zero => intro _; rw [cntN_zero, if_neg (by omega)]
    | succ i ih =>
      intro hi
      rw [cntN_succ l t i (by omega), ih (by omega)]
      by_cases e : (i : Int) = t
      · subst e
        rw [if_pos (.inl rfl), if_neg (by omega), if_pos (by omega), clip_clip]
      · rw [if_neg (by simp [e, ht])]
        by_cases h : 0 ≤ t ∧ t < (i : Int)
        · rw [if_pos h, if_pos (by omega)]
        · rw [if_neg h, if_neg (by omega)]
  rw [← cntN_all, key _ (Nat.le_refl _)]
theorem cntS_rng (l : List Int) (t : Int) : 0 ≤ cntS l t ∧ cntS l t ≤ 1099511627776 := by rw [← cntN_all]; exact cntN_rng _ _ _
/-- a share, rounded up -/
def shareS (a b : Int) : Int := (a + max b 1 - 1) / max b 1
/-- a product, no more than there may be -/
def mulS (a b : Int) : Int := if 0 < a ∧ 1099511627776 / a < b then 1099511627776 else a * b
theorem share_rng {a b : Int} (h0 : 0 ≤ a) (h1 : a ≤ 1099511627776) (h2 : 0 ≤ b) : 0 ≤ shareS a b ∧ shareS a b ≤ a := by
  unfold shareS
  generalize hb : max b 1 = c
  have hc : 1 ≤ c := by omega
  refine ⟨Int.ediv_nonneg (by omega) (by omega), ?_⟩
  rcases Int.lt_or_le 0 a with h | h
  · have : a + c - 1 < (a + 1) * c := by
      have := Int.mul_le_mul_of_nonneg_left hc (show 0 ≤ a by omega)
      rw [Int.add_mul]; omega
    have := (Int.ediv_lt_iff_lt_mul (show 0 < c by omega)).2 this
    omega
  · have e : a = 0 := by omega
    subst e
    rw [Int.ediv_eq_zero_of_lt (by omega) (by omega)]
    omega
theorem mul_rng {a b : Int} (h0 : 0 ≤ a) (h1 : a ≤ 1099511627776) (h2 : 0 ≤ b) (h3 : b ≤ 1099511627776) : 0 ≤ mulS a b ∧ mulS a b ≤ 1099511627776 := by
  unfold mulS
  split
  · omega
  · rename_i h
    refine ⟨Int.mul_nonneg h0 h2, ?_⟩
    rcases Int.lt_or_le 0 a with h4 | h4
    · have h5 : b ≤ 1099511627776 / a := by
        rcases Int.lt_or_le (1099511627776 / a) b with h6 | h6
        · exact absurd ⟨h4, h6⟩ h
        · exact h6
      have := Int.mul_le_mul_of_nonneg_left h5 h0
      have := Int.mul_ediv_self_le (x := 1099511627776) (show a ≠ 0 by omega)
      omega
    · have e : a = 0 := by omega
      subst e; simp
theorem share_up {a c : Int} (hc : 1 ≤ c) (h : 0 < a % c) : a / c + 1 = (a + c - 1) / c := by
  have h1 := Int.mul_ediv_add_emod a c
  have h2 := Int.emod_lt_of_pos a (show 0 < c by omega)
  have e : a + c - 1 = (a % c - 1) + c * (a / c + 1) := by rw [Int.mul_add]; omega
  rw [e, Int.add_mul_ediv_left _ _ (by omega), Int.ediv_eq_zero_of_lt (a := a % c - 1) (by omega) (by omega)]
  omega
theorem share_ev {a c : Int} (hc : 1 ≤ c) (h : a % c ≤ 0) : a / c = (a + c - 1) / c := by
  have h1 := Int.mul_ediv_add_emod a c
  have h2 := Int.emod_nonneg a (show c ≠ 0 by omega)
  have e : a + c - 1 = (c - 1) + c * (a / c) := by omega
  rw [e, Int.add_mul_ediv_left _ _ (by omega), Int.ediv_eq_zero_of_lt (a := c - 1) (by omega) (by omega)]
  omega
theorem div_rng {a c : Int} (h0 : 0 ≤ a) (hc : 1 ≤ c) : 0 ≤ a / c ∧ a / c ≤ a := ⟨Int.ediv_nonneg h0 (by omega), Int.ediv_le_self _ h0⟩
theorem clip_ok (n : Int) : Snd P 34 [.int n] (.int (clipS n)) [] := by
  refine snd_of [] Try.func34 rfl (by kernel_rfl) Try.ntmps34 (by simp) ?_
  unfold Try.f34
  simp only [List.cons_append, List.nil_append, List.length_cons, List.length_nil, Nat.reduceAdd, Nat.reduceSub, List.replicate]
  refine Run.seq ?_
  refine Run.opsL false [⟨Op.assign (Operand.const (Value.int IntKind.i64 0)), some 2, none⟩] mixed (by decide) rfl fun K hK => ?_
  try simp
  repeat' first | (simp only [evL_cons, evL_guard]; simp) | (refine gsplit (fun hg => ?_) (fun hg => ?_) <;> (try simp at hg) <;> (try simp)) | (with_reducible assumption) | omega | refine And.intro ?_ ?_ | intro _
  all_goals (try simp only [evL_nil]; refine hK _ _ ?_; clear hK K)
  simp only [Then_normal]
  refine Run.seq ?_
  refine Run.opsL false [⟨Op.move (Operand.tmp 0), some 3, none⟩, ⟨Op.call { callee := Callee.builtin Builtin.max, args := #[Operand.tmp 3, Operand.const (Value.int IntKind.i64 0)], argTypes := #[2, 2] }, some 4, none⟩, ⟨Op.call { callee := Callee.builtin Builtin.min, args := #[Operand.tmp 4, Operand.const (Value.int IntKind.i64 1099511627776)], argTypes := #[2, 2] }, some 5, none⟩, ⟨Op.assign (Operand.tmp 5), some 2, none⟩] mixed (by decide) rfl fun K hK => ?_
  try simp
  repeat' first | (simp only [evL_cons, evL_guard]; simp) | (refine gsplit (fun hg => ?_) (fun hg => ?_) <;> (try simp at hg) <;> (try simp)) | (with_reducible assumption) | omega | refine And.intro ?_ ?_ | intro _
  all_goals (try simp only [evL_nil]; refine hK _ _ ?_; clear hK K)
  simp only [Then_normal]
  refine Run.ret ?_
  try simp only [Then_ret, Blok_ret]
  simp [clipS]
  grind

theorem rclip_ok (n : Int) : Snd P 35 [.int n] (.int (clipS n)) [] := by
  refine snd_of [] Try.func35 rfl (by kernel_rfl) Try.ntmps35 (by simp) ?_
  unfold Try.f35
  simp only [List.cons_append, List.nil_append, List.length_cons, List.length_nil, Nat.reduceAdd, Nat.reduceSub, List.replicate]
  refine Run.seq ?_
  refine Run.opsL false [⟨Op.assign (Operand.const (Value.int IntKind.i64 0)), some 2, none⟩] mixed (by decide) rfl fun K hK => ?_
  try simp
  repeat' first | (simp only [evL_cons, evL_guard]; simp) | (refine gsplit (fun hg => ?_) (fun hg => ?_) <;> (try simp at hg) <;> (try simp)) | (with_reducible assumption) | omega | refine And.intro ?_ ?_ | intro _
  all_goals (try simp only [evL_nil]; refine hK _ _ ?_; clear hK K)
  simp only [Then_normal]
  refine Run.seq ?_
  refine Run.seq ?_
  refine Run.opsL false [⟨Op.move (Operand.tmp 0), some 3, none⟩, ⟨Op.binOp BinOp.lss 2 (Operand.tmp 3) (Operand.const (Value.int IntKind.i64 0)) 2, some 4, none⟩] mixed (by decide) rfl fun K hK => ?_
  try simp
  repeat' first | (simp only [evL_cons, evL_guard]; simp) | (refine gsplit (fun hg => ?_) (fun hg => ?_) <;> (try simp at hg) <;> (try simp)) | (with_reducible assumption) | omega | refine And.intro ?_ ?_ | intro _
  all_goals (try simp only [evL_nil]; refine hK _ _ ?_; clear hK K)
  simp only [Then_normal]
  refine Run.cond rfl (fun h4 => ?_) (fun h4 => ?_)
  · try simp at h4
    refine Run.seq ?_
    refine Run.opsL false [⟨Op.assign (Operand.const (Value.int IntKind.i64 0)), some 2, none⟩] mixed (by decide) rfl fun K hK => ?_
    try simp
    repeat' first | (simp only [evL_cons, evL_guard]; simp [h4]) | (refine gsplit (fun hg => ?_) (fun hg => ?_) <;> (try simp at hg) <;> (try simp [h4])) | (with_reducible assumption) | omega | refine And.intro ?_ ?_ | intro _
    all_goals (try simp only [evL_nil]; refine hK _ _ ?_; clear hK K)
    simp only [Then_normal]
    refine Run.ret ?_
    try simp only [Then_ret, Blok_ret]
    simp [clipS]
    grind
  · try simp at h4
    refine Run.skip ?_
    simp only [Then_normal]
    refine Run.seq ?_
    refine Run.seq ?_
    refine Run.opsL false [⟨Op.move (Operand.tmp 0), some 5, none⟩, ⟨Op.binOp BinOp.gtr 2 (Operand.tmp 5) (Operand.const (Value.int IntKind.i64 1099511627776)) 2, some 6, none⟩] mixed (by decide) rfl fun K hK => ?_
    try simp
    repeat' first | (simp only [evL_cons, evL_guard]; simp [h4]) | (refine gsplit (fun hg => ?_) (fun hg => ?_) <;> (try simp at hg) <;> (try simp [h4])) | (with_reducible assumption) | omega | refine And.intro ?_ ?_ | intro _
    all_goals (try simp only [evL_nil]; refine hK _ _ ?_; clear hK K)
    simp only [Then_normal]
    refine Run.cond rfl (fun h6 => ?_) (fun h6 => ?_)
    · try simp at h6
      refine Run.seq ?_
      refine Run.opsL false [⟨Op.assign (Operand.const (Value.int IntKind.i64 1099511627776)), some 2, none⟩] mixed (by decide) rfl fun K hK => ?_
      try simp
      repeat' first | (simp only [evL_cons, evL_guard]; simp [h4, h6]) | (refine gsplit (fun hg => ?_) (fun hg => ?_) <;> (try simp at hg) <;> (try simp [h4, h6])) | (with_reducible assumption) | omega | refine And.intro ?_ ?_ | intro _
      all_goals (try simp only [evL_nil]; refine hK _ _ ?_; clear hK K)
      simp only [Then_normal]
      refine Run.ret ?_
      try simp only [Then_ret, Blok_ret]
      simp [clipS]
      grind
    · try simp at h6
      refine Run.skip ?_
      simp only [Then_normal]
      refine Run.seq ?_
      refine Run.opsL false [⟨Op.move (Operand.tmp 0), some 7, none⟩, ⟨Op.assign (Operand.tmp 7), some 2, none⟩] mixed (by decide) rfl fun K hK => ?_
      try simp
      repeat' first | (simp only [evL_cons, evL_guard]; simp [h4, h6]) | (refine gsplit (fun hg => ?_) (fun hg => ?_) <;> (try simp at hg) <;> (try simp [h4, h6])) | (with_reducible assumption) | omega | refine And.intro ?_ ?_ | intro _
      all_goals (try simp only [evL_nil]; refine hK _ _ ?_; clear hK K)
      simp only [Then_normal]
      refine Run.ret ?_
      try simp only [Then_ret, Blok_ret]
      simp [clipS]
      grind

theorem of_ok (nn : Bool) (l : List Int) (t : Int) : Snd P 90 [.d (.sl nn (l.map encI)), .int t] (.int (cntS l t)) [] := by
  refine Snd.ok 0 rfl (by kernel_rfl) fun hl => Snd.ok 1 rfl (by kernel_rfl) fun ht => ?_
  simp only [D.ok, List.length_map] at hl
  rw [ok_i64] at ht
  obtain ⟨hl, -⟩ := hl
  refine snd_of [] Try.func90 rfl (by kernel_rfl) Try.ntmps90 (by simp) ?_
  unfold Try.f90
  simp only [List.cons_append, List.nil_append, List.length_cons, List.length_nil, Nat.reduceAdd, Nat.reduceSub, List.replicate]
  refine Run.seq ?_
  refine Run.opsL false [⟨Op.assign (Operand.const (Value.int IntKind.i64 0)), some 4, none⟩] mixed (by decide) rfl fun K hK => ?_
  try simp
  repeat' first | (simp only [evL_cons, evL_guard]; simp) | (refine gsplit (fun hg => ?_) (fun hg => ?_) <;> (try simp at hg) <;> (try simp)) | (with_reducible assumption) | omega | refine And.intro ?_ ?_ | intro _
  all_goals (try simp only [evL_nil]; refine hK _ _ ?_; clear hK K)
  simp only [Then_normal]
  refine Run.seq ?_
  refine Run.opsL false [⟨Op.assign (Operand.const (Value.int IntKind.i64 0)), some 5, none⟩] mixed (by decide) rfl fun K hK => ?_
  try simp
  repeat' first | (simp only [evL_cons, evL_guard]; simp) | (refine gsplit (fun hg => ?_) (fun hg => ?_) <;> (try simp at hg) <;> (try simp)) | (with_reducible assumption) | omega | refine And.intro ?_ ?_ | intro _
  all_goals (try simp only [evL_nil]; refine hK _ _ ?_; clear hK K)
  simp only [Then_normal]
  refine Run.seq ?_
  refine Run.seq ?_
  refine Run.opsL false [⟨Op.move (Operand.tmp 0), some 8, none⟩, ⟨Op.call { callee := Callee.builtin Builtin.len, args := #[Operand.tmp 8], argTypes := #[51] }, some 9, none⟩, ⟨Op.move (Operand.const (Value.int IntKind.i64 0)), some 10, none⟩] mixed (by decide) rfl fun K hK => ?_
  try simp
  repeat' first | (simp only [evL_cons, evL_guard]; simp) | (refine gsplit (fun hg => ?_) (fun hg => ?_) <;> (try simp at hg) <;> (try simp)) | (with_reducible assumption) | omega | refine And.intro ?_ ?_ | intro _
  all_goals (try simp only [evL_nil]; refine hK _ _ ?_; clear hK K)
  simp only [Then_normal]
  refine Run.block ?_
  refine Run.loopO [5, 6, 7, 10, 11, 12, 13, 14, 15, 16, 17, 18, 19, 20, 21, 22, 23, 24, 25, 26, 27] (fun (i : Nat) => [(5, .int (cntN l t i)), (10, .int i)]) (fun (i : Nat) => []) (fun (i : Nat) => i ≤ l.length) (fun (i : Nat) => l.length - i) 0 (by simp) (by simp [cntN_zero]) fun i hi => ?_
  simp only [over, List.foldl, List.set]
  refine Run.seq ?_
  refine Run.opsL false [⟨Op.binOp BinOp.lss 3 (Operand.tmp 10) (Operand.tmp 9) 3, some 11, none⟩] mixed (by decide) rfl fun K hK => ?_
  try simp
  repeat' first | (simp only [evL_cons, evL_guard]; simp) | (refine gsplit (fun hg => ?_) (fun hg => ?_) <;> (try simp at hg) <;> (try simp)) | (with_reducible assumption) | omega | refine And.intro ?_ ?_ | intro _
  all_goals (try simp only [evL_nil]; refine hK _ _ ?_; clear hK K)
  simp only [Then_normal]
  refine Run.seq ?_
  refine Run.cond rfl (fun h11 => ?_) (fun h11 => ?_)
  · try simp at h11
    refine Run.skip ?_
    simp only [Then_normal]
    refine Run.seq ?_
    refine Run.block ?_
    refine Run.seq ?_
    refine Run.opsL false [⟨Op.move (Operand.tmp 10), some 12, none⟩, ⟨Op.indexAddr 51 (Operand.tmp 8) (Operand.tmp 10), some 13, none⟩, ⟨Op.load 2 (Operand.tmp 13), some 14, none⟩, ⟨Op.assign (Operand.tmp 12), some 6, none⟩, ⟨Op.assign (Operand.tmp 14), some 7, none⟩] mixed (by decide) rfl fun K hK => ?_
    try simp
    repeat' first | (simp only [evL_cons, evL_guard]; simp [h11]) | (refine gsplit (fun hg => ?_) (fun hg => ?_) <;> (try simp at hg) <;> (try simp [h11])) | (with_reducible assumption) | omega | refine And.intro ?_ ?_ | intro _
    all_goals (try simp only [evL_nil]; refine hK _ _ ?_; clear hK K)
    simp only [Then_normal]
    refine Run.cut0 [15, 16, 17, 18, 19, 20, 21] [(21, .bool (decide ((i : Int) = t ∨ t = -1)))] ?_ ?_
    · refine Run.opsL false [⟨Op.move (Operand.tmp 6), some 15, none⟩, ⟨Op.move (Operand.tmp 1), some 16, none⟩, ⟨Op.binOp BinOp.eql 3 (Operand.tmp 15) (Operand.tmp 16) 3, some 17, none⟩, ⟨Op.move (Operand.tmp 17), some 18, none⟩, ⟨Op.move (Operand.tmp 1), some 19, some (some 18, false)⟩, ⟨Op.binOp BinOp.eql 3 (Operand.tmp 19) (Operand.const (Value.int IntKind.i64 (-1))) 3, some 20, some (some 18, false)⟩, ⟨Op.pick (Operand.tmp 18) (Operand.const (Value.bool true)) (Operand.tmp 20), some 21, none⟩] mixed (by decide) rfl fun K hK => ?_
      try simp
      repeat' first | (simp only [evL_cons, evL_guard]; simp [h11]) | (refine gsplit (fun hg => ?_) (fun hg => ?_) <;> (try simp at hg) <;> (try simp [h11])) | (with_reducible assumption) | omega | refine And.intro ?_ ?_ | intro _
      all_goals (try simp only [evL_nil]; refine hK _ _ ?_; clear hK K)
      all_goals (simp_all)
    · simp only [over, List.foldl, List.set]
      refine Run.cond rfl (fun h21 => ?_) (fun h21 => ?_)
      · try simp at h21
        refine Run.opsL false [⟨Op.move (Operand.tmp 5), some 22, none⟩, ⟨Op.move (Operand.tmp 7), some 23, none⟩, ⟨Op.call { callee := Callee.value (Operand.func 34), args := #[Operand.tmp 23], argTypes := #[2] }, some 24, none⟩, ⟨Op.binOp BinOp.add 2 (Operand.tmp 22) (Operand.tmp 24) 2, some 25, none⟩, ⟨Op.call { callee := Callee.value (Operand.func 34), args := #[Operand.tmp 25], argTypes := #[2] }, some 26, none⟩, ⟨Op.assign (Operand.tmp 26), some 5, none⟩] mixed (by decide) rfl fun K hK => ?_
        try simp
        repeat' first | (refine ecallD (clip_ok _) ?_) | (simp only [evL_cons, evL_guard]; simp [h11, h21]) | (refine gsplit (fun hg => ?_) (fun hg => ?_) <;> (try simp at hg) <;> (try simp [h11, h21])) | (with_reducible assumption) | omega | refine And.intro ?_ ?_ | intro _
        all_goals (try simp only [evL_nil]; refine hK _ _ ?_; clear hK K)
        simp only [Blok_normal]
        simp only [Then_normal]
        refine Run.opsL false [⟨Op.binOp BinOp.add 3 (Operand.tmp 10) (Operand.const (Value.int IntKind.i64 1)) 3, some 27, none⟩, ⟨Op.move (Operand.tmp 27), some 10, none⟩] mixed (by decide) rfl fun K hK => ?_
        try simp
        repeat' first | (simp only [evL_cons, evL_guard]; simp [h11, h21]) | (refine gsplit (fun hg => ?_) (fun hg => ?_) <;> (try simp at hg) <;> (try simp [h11, h21])) | (with_reducible assumption) | omega | refine And.intro ?_ ?_ | intro _
        all_goals (try simp only [evL_nil]; refine hK _ _ ?_; clear hK K)
        have hr := cntN_rng l t i
        have hc := clip_rng (rdI l i)
        refine ⟨i + 1, by omega, by omega, ?_⟩
        simp (disch := omega) [cntN_succ l t i h11, h21, wrap_id]
      · try simp at h21
        refine Run.skip ?_
        simp only [Blok_normal]
        simp only [Then_normal]
        refine Run.opsL false [⟨Op.binOp BinOp.add 3 (Operand.tmp 10) (Operand.const (Value.int IntKind.i64 1)) 3, some 27, none⟩, ⟨Op.move (Operand.tmp 27), some 10, none⟩] mixed (by decide) rfl fun K hK => ?_
        try simp
        repeat' first | (simp only [evL_cons, evL_guard]; simp [h11, h21]) | (refine gsplit (fun hg => ?_) (fun hg => ?_) <;> (try simp at hg) <;> (try simp [h11, h21])) | (with_reducible assumption) | omega | refine And.intro ?_ ?_ | intro _
        all_goals (try simp only [evL_nil]; refine hK _ _ ?_; clear hK K)
        have hr := cntN_rng l t i
        have hc := clip_rng (rdI l i)
        refine ⟨i + 1, by omega, by omega, ?_⟩
        simp (disch := omega) [cntN_succ l t i h11, h21, wrap_id]
  · try simp at h11
    refine Run.exit ?_
    simp (decide := true) only [Then_exit, Blok_exit, if_true, if_false]
    simp only [Then_normal]
    refine Run.seq ?_
    refine Run.opsL false [⟨Op.move (Operand.tmp 5), some 28, none⟩, ⟨Op.assign (Operand.tmp 28), some 4, none⟩] mixed (by decide) rfl fun K hK => ?_
    try simp
    repeat' first | (simp only [evL_cons, evL_guard]; simp [h11]) | (refine gsplit (fun hg => ?_) (fun hg => ?_) <;> (try simp at hg) <;> (try simp [h11])) | (with_reducible assumption) | omega | refine And.intro ?_ ?_ | intro _
    all_goals (try simp only [evL_nil]; refine hK _ _ ?_; clear hK K)
    simp only [Then_normal]
    refine Run.ret ?_
    try simp only [Then_ret, Blok_ret]
    have : i = l.length := by omega
    subst this
    simp [cntN_all]

theorem share_ok (a b : Int) (h0 : 0 ≤ a) (h1 : a ≤ 1099511627776) (h2 : 0 ≤ b) (h3 : b ≤ 1099511627776) : Snd P 64 [.int a, .int b] (.int (shareS a b)) [] := by
  refine snd_of [] Try.func64 rfl (by kernel_rfl) Try.ntmps64 (by simp) ?_
  unfold Try.f64
  simp only [List.cons_append, List.nil_append, List.length_cons, List.length_nil, Nat.reduceAdd, Nat.reduceSub, List.replicate]
  refine Run.seq ?_
  refine Run.opsL false [⟨Op.assign (Operand.const (Value.int IntKind.i64 0)), some 4, none⟩] mixed (by decide) rfl fun K hK => ?_
  try simp
  repeat' first | (simp only [evL_cons, evL_guard]; simp) | (refine gsplit (fun hg => ?_) (fun hg => ?_) <;> (try simp at hg) <;> (try simp)) | (with_reducible assumption) | omega | refine And.intro ?_ ?_ | intro _
  all_goals (try simp only [evL_nil]; refine hK _ _ ?_; clear hK K)
  simp only [Then_normal]
  refine Run.cut0 [1, 6, 7] [(1, .int (max b 1))] ?_ ?_
  · refine Run.opsL false [⟨Op.move (Operand.tmp 1), some 6, none⟩, ⟨Op.call { callee := Callee.builtin Builtin.max, args := #[Operand.tmp 6, Operand.const (Value.int IntKind.i64 1)], argTypes := #[2, 2] }, some 7, none⟩, ⟨Op.assign (Operand.tmp 7), some 1, none⟩] mixed (by decide) rfl fun K hK => ?_
    try simp
    repeat' first | (simp only [evL_cons, evL_guard]; simp) | (refine gsplit (fun hg => ?_) (fun hg => ?_) <;> (try simp at hg) <;> (try simp)) | (with_reducible assumption) | omega | refine And.intro ?_ ?_ | intro _
    all_goals (try simp only [evL_nil]; refine hK _ _ ?_; clear hK K)
    simp
    grind
  · simp only [over, List.foldl, List.set]
    obtain ⟨c, hc, hm⟩ : ∃ c, 1 ≤ c ∧ c = max b 1 := ⟨_, by omega, rfl⟩
    have hs : shareS a b = (a + c - 1) / c := by rw [hm]; rfl
    rw [hs, ← hm]
    have hc0 : ¬ c = 0 := by omega
    have e1 : a.tdiv c = a / c := Int.tdiv_eq_ediv_of_nonneg h0
    have e2 : a.tmod c = a % c := Int.tmod_eq_emod_of_nonneg h0
    have hd := div_rng h0 hc
    refine Run.seq ?_
    refine Run.opsL false [⟨Op.move (Operand.tmp 0), some 8, none⟩, ⟨Op.move (Operand.tmp 1), some 9, none⟩, ⟨Op.binOp BinOp.quo 2 (Operand.tmp 8) (Operand.tmp 9) 2, some 10, none⟩, ⟨Op.assign (Operand.tmp 10), some 5, none⟩] mixed (by decide) rfl fun K hK => ?_
    try simp
    repeat' first | (simp only [evL_cons, evL_guard]; simp [hc0]) | (refine gsplit (fun hg => ?_) (fun hg => ?_) <;> (try simp at hg) <;> (try simp [hc0])) | (with_reducible assumption) | omega | refine And.intro ?_ ?_ | intro _
    all_goals (try simp only [evL_nil]; refine hK _ _ ?_; clear hK K)
    simp only [Then_normal]
    refine Run.seq ?_
    refine Run.seq ?_
    refine Run.opsL false [⟨Op.move (Operand.tmp 0), some 11, none⟩, ⟨Op.move (Operand.tmp 1), some 12, none⟩, ⟨Op.binOp BinOp.rem 2 (Operand.tmp 11) (Operand.tmp 12) 2, some 13, none⟩, ⟨Op.binOp BinOp.gtr 2 (Operand.tmp 13) (Operand.const (Value.int IntKind.i64 0)) 2, some 14, none⟩] mixed (by decide) rfl fun K hK => ?_
    try simp
    repeat' first | (simp only [evL_cons, evL_guard]; simp [hc0]) | (refine gsplit (fun hg => ?_) (fun hg => ?_) <;> (try simp at hg) <;> (try simp [hc0])) | (with_reducible assumption) | omega | refine And.intro ?_ ?_ | intro _
    all_goals (try simp only [evL_nil]; refine hK _ _ ?_; clear hK K)
    simp only [Then_normal]
    refine Run.cond rfl (fun h14 => ?_) (fun h14 => ?_)
    · simp [e2] at h14
      refine Run.opsL false [⟨Op.move (Operand.tmp 5), some 15, none⟩, ⟨Op.binOp BinOp.add 2 (Operand.tmp 15) (Operand.const (Value.int IntKind.i64 1)) 2, some 16, none⟩, ⟨Op.assign (Operand.tmp 16), some 5, none⟩] mixed (by decide) rfl fun K hK => ?_
      try simp
      repeat' first | (simp only [evL_cons, evL_guard]; simp [hc0]) | (refine gsplit (fun hg => ?_) (fun hg => ?_) <;> (try simp at hg) <;> (try simp [hc0])) | (with_reducible assumption) | omega | refine And.intro ?_ ?_ | intro _
      all_goals (try simp only [evL_nil]; refine hK _ _ ?_; clear hK K)
      simp only [Then_normal]
      refine Run.seq ?_
      refine Run.opsL false [⟨Op.move (Operand.tmp 5), some 17, none⟩, ⟨Op.assign (Operand.tmp 17), some 4, none⟩] mixed (by decide) rfl fun K hK => ?_
      try simp
      repeat' first | (simp only [evL_cons, evL_guard]; simp [hc0]) | (refine gsplit (fun hg => ?_) (fun hg => ?_) <;> (try simp at hg) <;> (try simp [hc0])) | (with_reducible assumption) | omega | refine And.intro ?_ ?_ | intro _
      all_goals (try simp only [evL_nil]; refine hK _ _ ?_; clear hK K)
      simp only [Then_normal]
      refine Run.ret ?_
      try simp only [Then_ret, Blok_ret]
      first
        | (have := share_up hc h14; simp [e1]; simp (disch := omega) only [wrap_id, this])
        | (have := share_ev hc h14; simp [e1]; simp (disch := omega) only [wrap_id, this])
    · simp [e2] at h14
      refine Run.skip ?_
      simp only [Then_normal]
      refine Run.seq ?_
      refine Run.opsL false [⟨Op.move (Operand.tmp 5), some 17, none⟩, ⟨Op.assign (Operand.tmp 17), some 4, none⟩] mixed (by decide) rfl fun K hK => ?_
      try simp
      repeat' first | (simp only [evL_cons, evL_guard]; simp [hc0]) | (refine gsplit (fun hg => ?_) (fun hg => ?_) <;> (try simp at hg) <;> (try simp [hc0])) | (with_reducible assumption) | omega | refine And.intro ?_ ?_ | intro _
      all_goals (try simp only [evL_nil]; refine hK _ _ ?_; clear hK K)
      simp only [Then_normal]
      refine Run.ret ?_
      try simp only [Then_ret, Blok_ret]
      first
        | (have := share_up hc h14; simp [e1]; simp (disch := omega) only [wrap_id, this])
        | (have := share_ev hc h14; simp [e1]; simp (disch := omega) only [wrap_id, this])

theorem rshare_ok (a b : Int) (h0 : 0 ≤ a) (h1 : a ≤ 1099511627776) (h2 : 0 ≤ b) (h3 : b ≤ 1099511627776) : Snd P 69 [.int a, .int b] (.int (shareS a b)) [] := by
  refine snd_of [] Try.func69 rfl (by kernel_rfl) Try.ntmps69 (by simp) ?_
  unfold Try.f69
  simp only [List.cons_append, List.nil_append, List.length_cons, List.length_nil, Nat.reduceAdd, Nat.reduceSub, List.replicate]
  refine Run.seq ?_
  refine Run.opsL false [⟨Op.assign (Operand.const (Value.int IntKind.i64 0)), some 4, none⟩] mixed (by decide) rfl fun K hK => ?_
  try simp
  repeat' first | (simp only [evL_cons, evL_guard]; simp) | (refine gsplit (fun hg => ?_) (fun hg => ?_) <;> (try simp at hg) <;> (try simp)) | (with_reducible assumption) | omega | refine And.intro ?_ ?_ | intro _
  all_goals (try simp only [evL_nil]; refine hK _ _ ?_; clear hK K)
  simp only [Then_normal]
  refine Run.seq ?_
  refine Run.seq ?_
  refine Run.opsL false [⟨Op.move (Operand.tmp 1), some 5, none⟩, ⟨Op.binOp BinOp.eql 2 (Operand.tmp 5) (Operand.const (Value.int IntKind.i64 0)) 2, some 6, none⟩] mixed (by decide) rfl fun K hK => ?_
  try simp
  repeat' first | (simp only [evL_cons, evL_guard]; simp) | (refine gsplit (fun hg => ?_) (fun hg => ?_) <;> (try simp at hg) <;> (try simp)) | (with_reducible assumption) | omega | refine And.intro ?_ ?_ | intro _
  all_goals (try simp only [evL_nil]; refine hK _ _ ?_; clear hK K)
  simp only [Then_normal]
  refine Run.cond rfl (fun h6 => ?_) (fun h6 => ?_)
  · try simp at h6
    refine Run.opsL false [⟨Op.assign (Operand.const (Value.int IntKind.i64 1)), some 1, none⟩] mixed (by decide) rfl fun K hK => ?_
    try simp
    repeat' first | (simp only [evL_cons, evL_guard]; simp [h6]) | (refine gsplit (fun hg => ?_) (fun hg => ?_) <;> (try simp at hg) <;> (try simp [h6])) | (with_reducible assumption) | omega | refine And.intro ?_ ?_ | intro _
    all_goals (try simp only [evL_nil]; refine hK _ _ ?_; clear hK K)
    simp only [Then_normal]
    refine Run.seq ?_
    refine Run.opsL false [⟨Op.move (Operand.tmp 0), some 7, none⟩, ⟨Op.move (Operand.tmp 1), some 8, none⟩, ⟨Op.binOp BinOp.add 2 (Operand.tmp 7) (Operand.tmp 8) 2, some 9, none⟩, ⟨Op.binOp BinOp.sub 2 (Operand.tmp 9) (Operand.const (Value.int IntKind.i64 1)) 2, some 10, none⟩, ⟨Op.move (Operand.tmp 1), some 11, none⟩, ⟨Op.binOp BinOp.quo 2 (Operand.tmp 10) (Operand.tmp 11) 2, some 12, none⟩, ⟨Op.assign (Operand.tmp 12), some 4, none⟩] mixed (by decide) rfl fun K hK => ?_
    try simp
    repeat' first | (simp only [evL_cons, evL_guard]; simp [h6]) | (refine gsplit (fun hg => ?_) (fun hg => ?_) <;> (try simp at hg) <;> (try simp [h6])) | (with_reducible assumption) | omega | refine And.intro ?_ ?_ | intro _
    all_goals (try simp only [evL_nil]; refine hK _ _ ?_; clear hK K)
    simp only [Then_normal]
    refine Run.ret ?_
    try simp only [Then_ret, Blok_ret]
    first
      | (have hs : shareS a b = a := by unfold shareS; rw [show max b 1 = 1 by omega]; simp
         simp [hs]; simp (disch := omega) only [wrap_id]; omega)
      | (have hs : shareS a b = (a + b - 1) / b := by unfold shareS; rw [show max b 1 = b by omega]
         have hd := share_rng h0 h1 h2
         rw [hs] at hd
         simp [hs]; simp (disch := omega) only [wrap_id, Int.tdiv_eq_ediv_of_nonneg])
  · try simp at h6
    refine Run.skip ?_
    simp only [Then_normal]
    refine Run.seq ?_
    refine Run.opsL false [⟨Op.move (Operand.tmp 0), some 7, none⟩, ⟨Op.move (Operand.tmp 1), some 8, none⟩, ⟨Op.binOp BinOp.add 2 (Operand.tmp 7) (Operand.tmp 8) 2, some 9, none⟩, ⟨Op.binOp BinOp.sub 2 (Operand.tmp 9) (Operand.const (Value.int IntKind.i64 1)) 2, some 10, none⟩, ⟨Op.move (Operand.tmp 1), some 11, none⟩, ⟨Op.binOp BinOp.quo 2 (Operand.tmp 10) (Operand.tmp 11) 2, some 12, none⟩, ⟨Op.assign (Operand.tmp 12), some 4, none⟩] mixed (by decide) rfl fun K hK => ?_
    try simp
    repeat' first | (simp only [evL_cons, evL_guard]; simp [h6]) | (refine gsplit (fun hg => ?_) (fun hg => ?_) <;> (try simp at hg) <;> (try simp [h6])) | (with_reducible assumption) | omega | refine And.intro ?_ ?_ | intro _
    all_goals (try simp only [evL_nil]; refine hK _ _ ?_; clear hK K)
    simp only [Then_normal]
    refine Run.ret ?_
    try simp only [Then_ret, Blok_ret]
    first
      | (have hs : shareS a b = a := by unfold shareS; rw [show max b 1 = 1 by omega]; simp
         simp [hs]; simp (disch := omega) only [wrap_id]; omega)
      | (have hs : shareS a b = (a + b - 1) / b := by unfold shareS; rw [show max b 1 = b by omega]
         have hd := share_rng h0 h1 h2
         rw [hs] at hd
         simp [hs]; simp (disch := omega) only [wrap_id, Int.tdiv_eq_ediv_of_nonneg])

theorem rmul_ok (a b : Int) (h0 : 0 ≤ a) (h1 : a ≤ 1099511627776) (h2 : 0 ≤ b) (h3 : b ≤ 1099511627776) : Snd P 70 [.int a, .int b] (.int (mulS a b)) [] := by
  have e1 : (1099511627776 : Int).tdiv a = 1099511627776 / a := Int.tdiv_eq_ediv_of_nonneg (by omega)
  have hd : 0 < a → 0 ≤ 1099511627776 / a ∧ 1099511627776 / a ≤ 1099511627776 := fun h => div_rng (by omega) (by omega)
  refine snd_of [] Try.func70 rfl (by kernel_rfl) Try.ntmps70 (by simp) ?_
  unfold Try.f70
  simp only [List.cons_append, List.nil_append, List.length_cons, List.length_nil, Nat.reduceAdd, Nat.reduceSub, List.replicate]
  refine Run.seq ?_
  refine Run.opsL false [⟨Op.assign (Operand.const (Value.int IntKind.i64 0)), some 4, none⟩] mixed (by decide) rfl fun K hK => ?_
  try simp
  repeat' first | (simp only [evL_cons, evL_guard]; simp) | (refine gsplit (fun hg => ?_) (fun hg => ?_) <;> (try simp at hg) <;> (try simp)) | (with_reducible assumption) | omega | refine And.intro ?_ ?_ | intro _
  all_goals (try simp only [evL_nil]; refine hK _ _ ?_; clear hK K)
  simp only [Then_normal]
  refine Run.seq ?_
  refine Run.cut0 [5, 6, 7, 8, 9, 10, 11, 12] [(12, .bool (decide (0 < a ∧ 1099511627776 / a < b)))] ?_ ?_
  · refine Run.opsL false [⟨Op.move (Operand.tmp 0), some 5, none⟩, ⟨Op.binOp BinOp.gtr 2 (Operand.tmp 5) (Operand.const (Value.int IntKind.i64 0)) 2, some 6, none⟩, ⟨Op.move (Operand.tmp 6), some 7, none⟩, ⟨Op.move (Operand.tmp 1), some 8, some (some 7, true)⟩, ⟨Op.move (Operand.tmp 0), some 9, some (some 7, true)⟩, ⟨Op.binOp BinOp.quo 2 (Operand.const (Value.int IntKind.i64 1099511627776)) (Operand.tmp 9) 2, some 10, some (some 7, true)⟩, ⟨Op.binOp BinOp.gtr 2 (Operand.tmp 8) (Operand.tmp 10) 2, some 11, some (some 7, true)⟩, ⟨Op.pick (Operand.tmp 7) (Operand.tmp 11) (Operand.const (Value.bool false)), some 12, none⟩] mixed (by decide) rfl fun K hK => ?_
    try simp
    repeat' first | (simp only [evL_cons, evL_guard]; simp [e1]) | (refine gsplit (fun hg => ?_) (fun hg => ?_) <;> (try simp at hg) <;> (try simp [e1])) | (with_reducible assumption) | omega | refine And.intro ?_ ?_ | intro _
    all_goals (try simp only [evL_nil]; refine hK _ _ ?_; clear hK K)
    all_goals (first | (simp_all; done) | (simp_all; rw [wrap_id (by omega) (by omega)]; done) | (simp_all; intro h; omega) | (simp_all; rw [if_neg (by omega)]; simp; omega))
  · simp only [over, List.foldl, List.set]
    refine Run.cond rfl (fun h12 => ?_) (fun h12 => ?_)
    · try simp at h12
      refine Run.seq ?_
      refine Run.opsL false [⟨Op.assign (Operand.const (Value.int IntKind.i64 1099511627776)), some 4, none⟩] mixed (by decide) rfl fun K hK => ?_
      try simp
      repeat' first | (simp only [evL_cons, evL_guard]; simp [h12]) | (refine gsplit (fun hg => ?_) (fun hg => ?_) <;> (try simp at hg) <;> (try simp [h12])) | (with_reducible assumption) | omega | refine And.intro ?_ ?_ | intro _
      all_goals (try simp only [evL_nil]; refine hK _ _ ?_; clear hK K)
      simp only [Then_normal]
      refine Run.ret ?_
      try simp only [Then_ret, Blok_ret]
      first
        | (have hm : mulS a b = 1099511627776 := by unfold mulS; rw [if_pos h12]
           simp [hm])
        | (have hm : mulS a b = a * b := by unfold mulS; rw [if_neg (by intro h; have := h12 h.1; omega)]
           have hr := mul_rng h0 h1 h2 h3
           rw [hm] at hr
           simp [hm]; simp (disch := omega) only [wrap_id])
    · try simp at h12
      refine Run.skip ?_
      simp only [Then_normal]
      refine Run.seq ?_
      refine Run.opsL false [⟨Op.move (Operand.tmp 0), some 13, none⟩, ⟨Op.move (Operand.tmp 1), some 14, none⟩, ⟨Op.binOp BinOp.mul 2 (Operand.tmp 13) (Operand.tmp 14) 2, some 15, none⟩, ⟨Op.assign (Operand.tmp 15), some 4, none⟩] mixed (by decide) rfl fun K hK => ?_
      try simp
      repeat' first | (simp only [evL_cons, evL_guard]; simp [h12]) | (refine gsplit (fun hg => ?_) (fun hg => ?_) <;> (try simp at hg) <;> (try simp [h12])) | (with_reducible assumption) | omega | refine And.intro ?_ ?_ | intro _
      all_goals (try simp only [evL_nil]; refine hK _ _ ?_; clear hK K)
      simp only [Then_normal]
      refine Run.ret ?_
      try simp only [Then_ret, Blok_ret]
      first
        | (have hm : mulS a b = 1099511627776 := by unfold mulS; rw [if_pos h12]
           simp [hm])
        | (have hm : mulS a b = a * b := by unfold mulS; rw [if_neg (by intro h; have := h12 h.1; omega)]
           have hr := mul_rng h0 h1 h2 h3
           rw [hm] at hr
           simp [hm]; simp (disch := omega) only [wrap_id])

theorem nodes_ok (c : CoreT) (s : StatsT) (slot : Int) (h0 : 0 ≤ slot) (h1 : slot < c.nodes.length) : Snd P 63 [.d (.ag (encC c ++ encS s)), .int slot] (.int (cntS s.nodes (rdI c.nodes slot).type)) [] := by
  refine snd_of [] Try.func63 rfl (by kernel_rfl) Try.ntmps63 (by simp) ?_
  unfold Try.f63
  simp only [List.cons_append, List.nil_append, List.length_cons, List.length_nil, Nat.reduceAdd, Nat.reduceSub, List.replicate]
  refine Run.seq ?_
  refine Run.opsL false [⟨Op.box 82 (Operand.tmp 0), some 2, none⟩, ⟨Op.assign (Operand.const (Value.int IntKind.i64 0)), some 4, none⟩] mixed (by decide) rfl fun K hK => ?_
  try simp
  repeat' first | (simp only [evL_cons, evL_guard]; simp [h0, h1]) | (refine gsplit (fun hg => ?_) (fun hg => ?_) <;> (try simp at hg) <;> (try simp [h0, h1])) | (with_reducible assumption) | omega | refine And.intro ?_ ?_ | intro _
  all_goals (try simp only [evL_nil]; refine hK _ _ ?_; clear hK K)
  simp only [Then_normal]
  refine Run.seq ?_
  refine Run.opsL false [⟨Op.fieldAddr 82 (Operand.tmp 2) 1, some 5, none⟩, ⟨Op.fieldAddr 53 (Operand.tmp 5) 0, some 6, none⟩, ⟨Op.load 51 (Operand.tmp 6), some 7, none⟩, ⟨Op.fieldAddr 82 (Operand.tmp 2) 0, some 8, none⟩, ⟨Op.fieldAddr 33 (Operand.tmp 8) 0, some 9, none⟩, ⟨Op.load 28 (Operand.tmp 9), some 10, none⟩, ⟨Op.move (Operand.tmp 1), some 11, none⟩, ⟨Op.indexAddr 28 (Operand.tmp 10) (Operand.tmp 11), some 12, none⟩, ⟨Op.fieldAddr 76 (Operand.tmp 12) 1, some 13, none⟩, ⟨Op.load 3 (Operand.tmp 13), some 14, none⟩, ⟨Op.call { callee := Callee.value (Operand.func 90), args := #[Operand.tmp 7, Operand.tmp 14], argTypes := #[51, 3] }, some 15, none⟩, ⟨Op.assign (Operand.tmp 15), some 4, none⟩] mixed (by decide) rfl fun K hK => ?_
  try simp
  repeat' first | (refine ecallD (of_ok _ _ _) ?_) | (simp only [evL_cons, evL_guard]; simp [h0, h1]) | (refine gsplit (fun hg => ?_) (fun hg => ?_) <;> (try simp at hg) <;> (try simp [h0, h1])) | (with_reducible assumption) | omega | refine And.intro ?_ ?_ | intro _
  all_goals (try simp only [evL_nil]; refine hK _ _ ?_; clear hK K)
  simp only [Then_normal]
  refine Run.ret ?_
  try simp only [Then_ret, Blok_ret]
  simp

theorem edges_ok (c : CoreT) (s : StatsT) (slot : Int) (h0 : 0 ≤ slot) (h1 : slot < c.edges.length) : Snd P 65 [.d (.ag (encC c ++ encS s)), .int slot] (.int (cntS s.edges (rdI c.edges slot).type)) [] := by
  refine snd_of [] Try.func65 rfl (by kernel_rfl) Try.ntmps65 (by simp) ?_
  unfold Try.f65
  simp only [List.cons_append, List.nil_append, List.length_cons, List.length_nil, Nat.reduceAdd, Nat.reduceSub, List.replicate]
  refine Run.seq ?_
  refine Run.opsL false [⟨Op.box 82 (Operand.tmp 0), some 2, none⟩, ⟨Op.assign (Operand.const (Value.int IntKind.i64 0)), some 4, none⟩] mixed (by decide) rfl fun K hK => ?_
  try simp
  repeat' first | (simp only [evL_cons, evL_guard]; simp [h0, h1]) | (refine gsplit (fun hg => ?_) (fun hg => ?_) <;> (try simp at hg) <;> (try simp [h0, h1])) | (with_reducible assumption) | omega | refine And.intro ?_ ?_ | intro _
  all_goals (try simp only [evL_nil]; refine hK _ _ ?_; clear hK K)
  simp only [Then_normal]
  refine Run.seq ?_
  refine Run.opsL false [⟨Op.fieldAddr 82 (Operand.tmp 2) 1, some 5, none⟩, ⟨Op.fieldAddr 53 (Operand.tmp 5) 1, some 6, none⟩, ⟨Op.load 51 (Operand.tmp 6), some 7, none⟩, ⟨Op.fieldAddr 82 (Operand.tmp 2) 0, some 8, none⟩, ⟨Op.fieldAddr 33 (Operand.tmp 8) 1, some 9, none⟩, ⟨Op.load 29 (Operand.tmp 9), some 10, none⟩, ⟨Op.move (Operand.tmp 1), some 11, none⟩, ⟨Op.indexAddr 29 (Operand.tmp 10) (Operand.tmp 11), some 12, none⟩, ⟨Op.fieldAddr 105 (Operand.tmp 12) 1, some 13, none⟩, ⟨Op.load 3 (Operand.tmp 13), some 14, none⟩, ⟨Op.call { callee := Callee.value (Operand.func 90), args := #[Operand.tmp 7, Operand.tmp 14], argTypes := #[51, 3] }, some 15, none⟩, ⟨Op.assign (Operand.tmp 15), some 4, none⟩] mixed (by decide) rfl fun K hK => ?_
  try simp
  repeat' first | (refine ecallD (of_ok _ _ _) ?_) | (simp only [evL_cons, evL_guard]; simp [h0, h1]) | (refine gsplit (fun hg => ?_) (fun hg => ?_) <;> (try simp at hg) <;> (try simp [h0, h1])) | (with_reducible assumption) | omega | refine And.intro ?_ ?_ | intro _
  all_goals (try simp only [evL_nil]; refine hK _ _ ?_; clear hK K)
  simp only [Then_normal]
  refine Run.ret ?_
  try simp only [Then_ret, Blok_ret]
  simp

theorem rends_ok (e : EdgeT) (back : Bool) : Snd P 68 [.d (.ag (encE e)), .bool back] (.tup [.int (if back then e.dst else e.src), .int (if back then e.src else e.dst)]) [] := by
  refine snd_of [] Try.func68 rfl (by kernel_rfl) Try.ntmps68 (by simp) ?_
  unfold Try.f68
  simp only [List.cons_append, List.nil_append, List.length_cons, List.length_nil, Nat.reduceAdd, Nat.reduceSub, List.replicate]
  refine Run.seq ?_
  refine Run.opsL false [⟨Op.box 105 (Operand.tmp 0), some 2, none⟩, ⟨Op.assign (Operand.const (Value.int IntKind.i64 0)), some 4, none⟩, ⟨Op.assign (Operand.const (Value.int IntKind.i64 0)), some 5, none⟩] mixed (by decide) rfl fun K hK => ?_
  try simp
  repeat' first | (simp only [evL_cons, evL_guard]; simp) | (refine gsplit (fun hg => ?_) (fun hg => ?_) <;> (try simp at hg) <;> (try simp)) | (with_reducible assumption) | omega | refine And.intro ?_ ?_ | intro _
  all_goals (try simp only [evL_nil]; refine hK _ _ ?_; clear hK K)
  simp only [Then_normal]
  refine Run.seq ?_
  refine Run.seq ?_
  refine Run.opsL false [⟨Op.move (Operand.tmp 1), some 6, none⟩] mixed (by decide) rfl fun K hK => ?_
  try simp
  repeat' first | (simp only [evL_cons, evL_guard]; simp) | (refine gsplit (fun hg => ?_) (fun hg => ?_) <;> (try simp at hg) <;> (try simp)) | (with_reducible assumption) | omega | refine And.intro ?_ ?_ | intro _
  all_goals (try simp only [evL_nil]; refine hK _ _ ?_; clear hK K)
  simp only [Then_normal]
  refine Run.cond rfl (fun h6 => ?_) (fun h6 => ?_)
  · try simp at h6
    refine Run.seq ?_
    refine Run.opsL false [⟨Op.fieldAddr 105 (Operand.tmp 2) 3, some 7, none⟩, ⟨Op.load 3 (Operand.tmp 7), some 8, none⟩, ⟨Op.fieldAddr 105 (Operand.tmp 2) 2, some 9, none⟩, ⟨Op.load 3 (Operand.tmp 9), some 10, none⟩, ⟨Op.assign (Operand.tmp 8), some 4, none⟩, ⟨Op.assign (Operand.tmp 10), some 5, none⟩] mixed (by decide) rfl fun K hK => ?_
    try simp
    repeat' first | (simp only [evL_cons, evL_guard]; simp [h6]) | (refine gsplit (fun hg => ?_) (fun hg => ?_) <;> (try simp at hg) <;> (try simp [h6])) | (with_reducible assumption) | omega | refine And.intro ?_ ?_ | intro _
    all_goals (try simp only [evL_nil]; refine hK _ _ ?_; clear hK K)
    simp only [Then_normal]
    refine Run.ret ?_
    try simp only [Then_ret, Blok_ret]
    simp [*]
  · try simp at h6
    refine Run.skip ?_
    simp only [Then_normal]
    refine Run.seq ?_
    refine Run.opsL false [⟨Op.fieldAddr 105 (Operand.tmp 2) 2, some 11, none⟩, ⟨Op.load 3 (Operand.tmp 11), some 12, none⟩, ⟨Op.fieldAddr 105 (Operand.tmp 2) 3, some 13, none⟩, ⟨Op.load 3 (Operand.tmp 13), some 14, none⟩, ⟨Op.assign (Operand.tmp 12), some 4, none⟩, ⟨Op.assign (Operand.tmp 14), some 5, none⟩] mixed (by decide) rfl fun K hK => ?_
    try simp
    repeat' first | (simp only [evL_cons, evL_guard]; simp [h6]) | (refine gsplit (fun hg => ?_) (fun hg => ?_) <;> (try simp at hg) <;> (try simp [h6])) | (with_reducible assumption) | omega | refine And.intro ?_ ?_ | intro _
    all_goals (try simp only [evL_nil]; refine hK _ _ ?_; clear hK K)
    simp only [Then_normal]
    refine Run.ret ?_
    try simp only [Then_ret, Blok_ret]
    simp [*]

theorem ends_ok (e : EdgeT) (back : Bool) : Snd P 92 [.d (.ag (encE e)), .bool back] (.tup [.int (if back then e.dst else e.src), .int (if back then e.src else e.dst)]) [] := by
  refine snd_of [] Try.func92 rfl (by kernel_rfl) Try.ntmps92 (by simp) ?_
  unfold Try.f92
  simp only [List.cons_append, List.nil_append, List.length_cons, List.length_nil, Nat.reduceAdd, Nat.reduceSub, List.replicate]
  refine Run.seq ?_
  refine Run.opsL false [⟨Op.box 105 (Operand.tmp 0), some 2, none⟩, ⟨Op.assign (Operand.const (Value.int IntKind.i64 0)), some 4, none⟩, ⟨Op.assign (Operand.const (Value.int IntKind.i64 0)), some 5, none⟩] mixed (by decide) rfl fun K hK => ?_
  try simp
  repeat' first | (simp only [evL_cons, evL_guard]; simp) | (refine gsplit (fun hg => ?_) (fun hg => ?_) <;> (try simp at hg) <;> (try simp)) | (with_reducible assumption) | omega | refine And.intro ?_ ?_ | intro _
  all_goals (try simp only [evL_nil]; refine hK _ _ ?_; clear hK K)
  simp only [Then_normal]
  refine Run.seq ?_
  refine Run.seq ?_
  refine Run.opsL false [⟨Op.move (Operand.tmp 1), some 6, none⟩] mixed (by decide) rfl fun K hK => ?_
  try simp
  repeat' first | (simp only [evL_cons, evL_guard]; simp) | (refine gsplit (fun hg => ?_) (fun hg => ?_) <;> (try simp at hg) <;> (try simp)) | (with_reducible assumption) | omega | refine And.intro ?_ ?_ | intro _
  all_goals (try simp only [evL_nil]; refine hK _ _ ?_; clear hK K)
  simp only [Then_normal]
  refine Run.cond rfl (fun h6 => ?_) (fun h6 => ?_)
  · try simp at h6
    refine Run.seq ?_
    refine Run.opsL false [⟨Op.fieldAddr 105 (Operand.tmp 2) 3, some 7, none⟩, ⟨Op.load 3 (Operand.tmp 7), some 8, none⟩, ⟨Op.fieldAddr 105 (Operand.tmp 2) 2, some 9, none⟩, ⟨Op.load 3 (Operand.tmp 9), some 10, none⟩, ⟨Op.assign (Operand.tmp 8), some 4, none⟩, ⟨Op.assign (Operand.tmp 10), some 5, none⟩] mixed (by decide) rfl fun K hK => ?_
    try simp
    repeat' first | (simp only [evL_cons, evL_guard]; simp [h6]) | (refine gsplit (fun hg => ?_) (fun hg => ?_) <;> (try simp at hg) <;> (try simp [h6])) | (with_reducible assumption) | omega | refine And.intro ?_ ?_ | intro _
    all_goals (try simp only [evL_nil]; refine hK _ _ ?_; clear hK K)
    simp only [Then_normal]
    refine Run.ret ?_
    try simp only [Then_ret, Blok_ret]
    simp [*]
  · try simp at h6
    refine Run.skip ?_
    simp only [Then_normal]
    refine Run.seq ?_
    refine Run.opsL false [⟨Op.fieldAddr 105 (Operand.tmp 2) 2, some 11, none⟩, ⟨Op.load 3 (Operand.tmp 11), some 12, none⟩, ⟨Op.fieldAddr 105 (Operand.tmp 2) 3, some 13, none⟩, ⟨Op.load 3 (Operand.tmp 13), some 14, none⟩, ⟨Op.assign (Operand.tmp 12), some 4, none⟩, ⟨Op.assign (Operand.tmp 14), some 5, none⟩] mixed (by decide) rfl fun K hK => ?_
    try simp
    repeat' first | (simp only [evL_cons, evL_guard]; simp [h6]) | (refine gsplit (fun hg => ?_) (fun hg => ?_) <;> (try simp at hg) <;> (try simp [h6])) | (with_reducible assumption) | omega | refine And.intro ?_ ?_ | intro _
    all_goals (try simp only [evL_nil]; refine hK _ _ ?_; clear hK K)
    simp only [Then_normal]
    refine Run.ret ?_
    try simp only [Then_ret, Blok_ret]
    simp [*]


end Go.Proofs.Ytihbejpkfifplaa.Z
end
section
set_option maxRecDepth 100000
namespace Go.Proofs.Ytihbejpkfifplaa.Z
open Go Go.Fw
theorem drop_rd {α : Type} [Inhabited α] {l : List α} {i : Nat} (h : i < l.length) : l.drop i = rdI l i :: l.drop (i + 1) := by
  rw [List.drop_eq_getElem_cons h]
  simp [rdI, List.getD_eq_getElem?_getD, h]
def prodS : Int → List Int → Int
  | n, [] => n
  | n, f :: r => if f = 0 then 0 else if 1099511627776 / f < n then (if 0 ∈ r then 0 else 1099511627776) else prodS (n * f) r
theorem prod_two {a b : Int} (h0 : 0 ≤ a) (h1 : a ≤ 1099511627776) (h2 : 0 ≤ b) (h3 : b ≤ 1099511627776) : prodS 1 [a, b] = mulS a b := by
  unfold mulS
  simp only [prodS, List.mem_singleton, List.not_mem_nil, if_false, Int.one_mul]
  by_cases ha : a = 0
  · subst ha; simp
  · have ha' : 1 ≤ 1099511627776 / a := by rw [Int.le_ediv_iff_mul_le (by omega)]; omega
    rw [if_neg ha, if_neg (by omega)]
    by_cases hb : b = 0
    · subst hb
      rw [if_pos rfl, if_neg (by omega)]; simp
    · rw [if_neg hb]
      have e : 1099511627776 / b < a ↔ 0 < a ∧ 1099511627776 / a < b := by
        rw [Int.ediv_lt_iff_lt_mul (by omega), Int.ediv_lt_iff_lt_mul (by omega), Int.mul_comm b a]
        constructor
        · intro h; exact ⟨by omega, h⟩
        · intro h; exact h.2
      by_cases hc : 1099511627776 / b < a
      · rw [if_pos hc, if_pos (e.1 hc)]
      · rw [if_neg hc, if_neg (fun h => hc (e.2 h))]
theorem prod_step {n f : Int} (h0 : 0 ≤ n) (hf : 0 < f) (h : n ≤ 1099511627776 / f) : 0 ≤ n * f ∧ n * f ≤ 1099511627776 := by
  refine ⟨Int.mul_nonneg h0 (by omega), ?_⟩
  rwa [Int.le_ediv_iff_mul_le hf] at h
theorem mem_drop_rd {l : List Int} {i k : Nat} (h : k < l.length) (hk : i ≤ k) : rdI l k ∈ l.drop i := by
  rw [List.mem_iff_getElem?]
  refine ⟨k - i, ?_⟩
  rw [List.getElem?_drop, show i + (k - i) = k by omega]
  simp [rdI, List.getD_eq_getElem?_getD, h]
theorem no_zero {l : List Int} (h : ∀ j, j < l.length → rdI l (j : Nat) ≠ 0) (i : Nat) : 0 ∉ l.drop i := by
  intro hm
  obtain ⟨j, hj⟩ := List.getElem?_of_mem hm
  rw [List.getElem?_drop] at hj
  have hlt := (List.getElem?_eq_some_iff.1 hj).1
  refine h (i + j) hlt ?_
  unfold rdI
  rw [Int.toNat_natCast, List.getD_eq_getElem?_getD, hj]; rfl
theorem count_ok (nn : Bool) (l : List Int) (t : Int) : Snd P 67 [.d (.sl nn (l.map encI)), .int t] (.int (cntS l t)) [] := by
  refine Snd.ok 0 rfl (by kernel_rfl) fun hl => Snd.ok 1 rfl (by kernel_rfl) fun ht => ?_
  simp only [D.ok, List.length_map] at hl
  rw [ok_i64] at ht
  obtain ⟨hl, -⟩ := hl
  refine snd_of [] Try.func67 rfl (by kernel_rfl) Try.ntmps67 (by simp) ?_
  unfold Try.f67
  simp only [List.cons_append, List.nil_append, List.length_cons, List.length_nil, Nat.reduceAdd, Nat.reduceSub, List.replicate]
  refine Run.seq ?_
  refine Run.opsL false [⟨Op.assign (Operand.const (Value.int IntKind.i64 0)), some 4, none⟩] mixed (by decide) rfl fun K hK => ?_
  try simp
  repeat' first | (simp only [evL_cons, evL_guard]; simp) | (refine gsplit (fun hg => ?_) (fun hg => ?_) <;> (try simp at hg) <;> (try simp)) | (with_reducible assumption) | omega | refine And.intro ?_ ?_ | intro _
  all_goals (try simp only [evL_nil]; refine hK _ _ ?_; clear hK K)
  simp only [Then_normal]
  refine Run.seq ?_
  refine Run.seq ?_
  refine Run.opsL false [⟨Op.move (Operand.tmp 1), some 7, none⟩, ⟨Op.binOp BinOp.eql 3 (Operand.tmp 7) (Operand.const (Value.int IntKind.i64 (-1))) 3, some 8, none⟩] mixed (by decide) rfl fun K hK => ?_
  try simp
  repeat' first | (simp only [evL_cons, evL_guard]; simp) | (refine gsplit (fun hg => ?_) (fun hg => ?_) <;> (try simp at hg) <;> (try simp)) | (with_reducible assumption) | omega | refine And.intro ?_ ?_ | intro _
  all_goals (try simp only [evL_nil]; refine hK _ _ ?_; clear hK K)
  simp only [Then_normal]
  refine Run.cond rfl (fun h8 => ?_) (fun h8 => ?_)
  · try simp at h8
    refine Run.seq ?_
    refine Run.opsL false [⟨Op.assign (Operand.const (Value.int IntKind.i64 0)), some 5, none⟩] mixed (by decide) rfl fun K hK => ?_
    try simp
    repeat' first | (simp only [evL_cons, evL_guard]; simp [h8]) | (refine gsplit (fun hg => ?_) (fun hg => ?_) <;> (try simp at hg) <;> (try simp [h8])) | (with_reducible assumption) | omega | refine And.intro ?_ ?_ | intro _
    all_goals (try simp only [evL_nil]; refine hK _ _ ?_; clear hK K)
    simp only [Then_normal]
    refine Run.seq ?_
    refine Run.seq ?_
    refine Run.opsL false [⟨Op.assign (Operand.const (Value.int IntKind.i64 0)), some 6, none⟩] mixed (by decide) rfl fun K hK => ?_
    try simp
    repeat' first | (simp only [evL_cons, evL_guard]; simp [h8]) | (refine gsplit (fun hg => ?_) (fun hg => ?_) <;> (try simp at hg) <;> (try simp [h8])) | (with_reducible assumption) | omega | refine And.intro ?_ ?_ | intro _
    all_goals (try simp only [evL_nil]; refine hK _ _ ?_; clear hK K)
    simp only [Then_normal]
    refine Run.block ?_
    refine Run.loopO [5, 6, 9, 10, 11, 12, 13, 14, 15, 16, 17, 18, 19, 20, 21, 22] (fun (i : Nat) => [(5, .int (cntN l (-1) i)), (6, .int i)]) (fun (i : Nat) => []) (fun (i : Nat) => i ≤ l.length) (fun (i : Nat) => l.length - i) 0 (by simp) (by simp [cntN_zero]) fun i hi => ?_
    simp only [over, List.foldl, List.set]
    refine Run.seq ?_
    refine Run.seq ?_
    refine Run.opsL false [⟨Op.move (Operand.tmp 6), some 9, none⟩, ⟨Op.move (Operand.tmp 0), some 10, none⟩, ⟨Op.call { callee := Callee.builtin Builtin.len, args := #[Operand.tmp 10], argTypes := #[51] }, some 11, none⟩, ⟨Op.binOp BinOp.lss 3 (Operand.tmp 9) (Operand.tmp 11) 3, some 12, none⟩] mixed (by decide) rfl fun K hK => ?_
    try simp
    repeat' first | (simp only [evL_cons, evL_guard]; simp [h8]) | (refine gsplit (fun hg => ?_) (fun hg => ?_) <;> (try simp at hg) <;> (try simp [h8])) | (with_reducible assumption) | omega | refine And.intro ?_ ?_ | intro _
    all_goals (try simp only [evL_nil]; refine hK _ _ ?_; clear hK K)
    simp only [Then_normal]
    refine Run.cond rfl (fun h12 => ?_) (fun h12 => ?_)
    · try simp at h12
      refine Run.skip ?_
      simp only [Then_normal]
      refine Run.seq ?_
      refine Run.block ?_
      refine Run.opsL false [⟨Op.move (Operand.tmp 5), some 15, none⟩, ⟨Op.move (Operand.tmp 0), some 16, none⟩, ⟨Op.move (Operand.tmp 6), some 17, none⟩, ⟨Op.indexAddr 51 (Operand.tmp 16) (Operand.tmp 17), some 18, none⟩, ⟨Op.load 2 (Operand.tmp 18), some 19, none⟩, ⟨Op.call { callee := Callee.value (Operand.func 35), args := #[Operand.tmp 19], argTypes := #[2] }, some 20, none⟩, ⟨Op.binOp BinOp.add 2 (Operand.tmp 15) (Operand.tmp 20) 2, some 21, none⟩, ⟨Op.call { callee := Callee.value (Operand.func 35), args := #[Operand.tmp 21], argTypes := #[2] }, some 22, none⟩, ⟨Op.assign (Operand.tmp 22), some 5, none⟩] mixed (by decide) rfl fun K hK => ?_
      try simp
      repeat' first | (refine ecallD (rclip_ok _) ?_) | (simp only [evL_cons, evL_guard]; simp [h8, h12]) | (refine gsplit (fun hg => ?_) (fun hg => ?_) <;> (try simp at hg) <;> (try simp [h8, h12])) | (with_reducible assumption) | omega | refine And.intro ?_ ?_ | intro _
      all_goals (try simp only [evL_nil]; refine hK _ _ ?_; clear hK K)
      simp only [Blok_normal]
      simp only [Then_normal]
      refine Run.opsL false [⟨Op.move (Operand.tmp 6), some 13, none⟩, ⟨Op.binOp BinOp.add 3 (Operand.tmp 13) (Operand.const (Value.int IntKind.i64 1)) 3, some 14, none⟩, ⟨Op.assign (Operand.tmp 14), some 6, none⟩] mixed (by decide) rfl fun K hK => ?_
      try simp
      repeat' first | (simp only [evL_cons, evL_guard]; simp [h8, h12]) | (refine gsplit (fun hg => ?_) (fun hg => ?_) <;> (try simp at hg) <;> (try simp [h8, h12])) | (with_reducible assumption) | omega | refine And.intro ?_ ?_ | intro _
      all_goals (try simp only [evL_nil]; refine hK _ _ ?_; clear hK K)
      have hr := cntN_rng l (-1) i
      have hc := clip_rng (rdI l i)
      refine ⟨i + 1, by omega, by omega, ?_⟩
      simp (disch := omega) [cntN_succ l (-1) i h12, wrap_id]
    · try simp at h12
      refine Run.exit ?_
      simp (decide := true) only [Then_exit, Blok_exit, if_true, if_false]
      simp only [Then_normal]
      refine Run.seq ?_
      refine Run.opsL false [⟨Op.move (Operand.tmp 5), some 23, none⟩, ⟨Op.assign (Operand.tmp 23), some 4, none⟩] mixed (by decide) rfl fun K hK => ?_
      try simp
      repeat' first | (simp only [evL_cons, evL_guard]; simp [h8, h12]) | (refine gsplit (fun hg => ?_) (fun hg => ?_) <;> (try simp at hg) <;> (try simp [h8, h12])) | (with_reducible assumption) | omega | refine And.intro ?_ ?_ | intro _
      all_goals (try simp only [evL_nil]; refine hK _ _ ?_; clear hK K)
      simp only [Then_normal]
      refine Run.ret ?_
      try simp only [Then_ret, Blok_ret]
      first
        | (have : i = l.length := by omega
           subst this
           simp [h8, cntN_all])
        | (rw [cntS_one _ _ h8, if_neg (by omega)]; simp)
        | (rw [cntS_one _ _ h8, if_pos (by omega)]; simp)
  · try simp at h8
    refine Run.skip ?_
    simp only [Then_normal]
    refine Run.seq ?_
    refine Run.cut0 [24, 25, 26, 27, 28, 29, 30, 31] [(31, .bool (decide (t < 0 ∨ (l.length : Int) ≤ t)))] ?_ ?_
    · refine Run.opsL false [⟨Op.move (Operand.tmp 1), some 24, none⟩, ⟨Op.binOp BinOp.lss 3 (Operand.tmp 24) (Operand.const (Value.int IntKind.i64 0)) 3, some 25, none⟩, ⟨Op.move (Operand.tmp 25), some 26, none⟩, ⟨Op.move (Operand.tmp 1), some 27, some (some 26, false)⟩, ⟨Op.move (Operand.tmp 0), some 28, some (some 26, false)⟩, ⟨Op.call { callee := Callee.builtin Builtin.len, args := #[Operand.tmp 28], argTypes := #[51] }, some 29, some (some 26, false)⟩, ⟨Op.binOp BinOp.geq 3 (Operand.tmp 27) (Operand.tmp 29) 3, some 30, some (some 26, false)⟩, ⟨Op.pick (Operand.tmp 26) (Operand.const (Value.bool true)) (Operand.tmp 30), some 31, none⟩] mixed (by decide) rfl fun K hK => ?_
      try simp
      repeat' first | (simp only [evL_cons, evL_guard]; simp [h8]) | (refine gsplit (fun hg => ?_) (fun hg => ?_) <;> (try simp at hg) <;> (try simp [h8])) | (with_reducible assumption) | omega | refine And.intro ?_ ?_ | intro _
      all_goals (try simp only [evL_nil]; refine hK _ _ ?_; clear hK K)
      all_goals (first | (simp_all; done) | (simp_all; intro h; omega))
    · simp only [over, List.foldl, List.set]
      refine Run.cond rfl (fun h31 => ?_) (fun h31 => ?_)
      · try simp at h31
        refine Run.seq ?_
        refine Run.opsL false [⟨Op.assign (Operand.const (Value.int IntKind.i64 0)), some 4, none⟩] mixed (by decide) rfl fun K hK => ?_
        try simp
        repeat' first | (simp only [evL_cons, evL_guard]; simp [h8]) | (refine gsplit (fun hg => ?_) (fun hg => ?_) <;> (try simp at hg) <;> (try simp [h8])) | (with_reducible assumption) | omega | refine And.intro ?_ ?_ | intro _
        all_goals (try simp only [evL_nil]; refine hK _ _ ?_; clear hK K)
        simp only [Then_normal]
        refine Run.ret ?_
        try simp only [Then_ret, Blok_ret]
        first
          | (have : i = l.length := by omega
             subst this
             simp [h8, cntN_all])
          | (rw [cntS_one _ _ h8, if_neg (by omega)]; simp)
          | (rw [cntS_one _ _ h8, if_pos (by omega)]; simp)
      · simp at h31
        obtain ⟨h31, h32⟩ := h31
        refine Run.skip ?_
        simp only [Then_normal]
        refine Run.seq ?_
        refine Run.opsL false [⟨Op.move (Operand.tmp 0), some 32, none⟩, ⟨Op.move (Operand.tmp 1), some 33, none⟩, ⟨Op.indexAddr 51 (Operand.tmp 32) (Operand.tmp 33), some 34, none⟩, ⟨Op.load 2 (Operand.tmp 34), some 35, none⟩, ⟨Op.call { callee := Callee.value (Operand.func 35), args := #[Operand.tmp 35], argTypes := #[2] }, some 36, none⟩, ⟨Op.assign (Operand.tmp 36), some 4, none⟩] mixed (by decide) rfl fun K hK => ?_
        try simp
        repeat' first | (refine ecallD (rclip_ok _) ?_) | (simp only [evL_cons, evL_guard]; simp [h8, h31, h32]) | (refine gsplit (fun hg => ?_) (fun hg => ?_) <;> (try simp at hg) <;> (try simp [h8, h31, h32])) | (with_reducible assumption) | omega | refine And.intro ?_ ?_ | intro _
        all_goals (try simp only [evL_nil]; refine hK _ _ ?_; clear hK K)
        simp only [Then_normal]
        refine Run.ret ?_
        try simp only [Then_ret, Blok_ret]
        first
          | (have : i = l.length := by omega
             subst this
             simp [h8, cntN_all])
          | (rw [cntS_one _ _ h8, if_neg (by omega)]; simp)
          | (rw [cntS_one _ _ h8, if_pos (by omega)]; simp)

theorem product_ok (l : List Int) (hl : ∀ x ∈ l, 0 ≤ x ∧ x ≤ 1099511627776) (hn : l.length ≤ 1000) : SndW P 66 [.rs 0 1 0 l.length] [(0, .data 1 (l.map encI))] (.int (prodS 1 l)) [(0, .data 1 (l.map encI))] := by
  refine sndW_of [0] Try.func66 rfl (by kernel_rfl) Try.ntmps66 (by simp) (by simp) ?_
  unfold Try.f66
  simp only [List.cons_append, List.nil_append, List.length_cons, List.length_nil, Nat.reduceAdd, Nat.reduceSub, List.replicate]
  refine Run.seq ?_
  refine Run.opsL false [⟨Op.assign (Operand.const (Value.int IntKind.i64 0)), some 2, none⟩] mixed (by decide) rfl fun K hK => ?_
  try simp
  repeat' first | (simp only [evL_cons, evL_guard]; simp) | (refine gsplit (fun hg => ?_) (fun hg => ?_) <;> (try simp at hg) <;> (try simp)) | (with_reducible assumption) | omega | refine And.intro ?_ ?_ | intro _
  all_goals (try simp only [evL_nil]; refine hK _ _ ?_; clear hK K)
  simp only [Then_normal]
  refine Run.scope 0 _ rfl ?_
  refine Run.seq ?_
  refine Run.opsL false [⟨Op.assign (Operand.const (Value.int IntKind.i64 1)), some 3, none⟩] mixed (by decide) rfl fun K hK => ?_
  try simp
  repeat' first | (simp only [evL_cons, evL_guard]; simp) | (refine gsplit (fun hg => ?_) (fun hg => ?_) <;> (try simp at hg) <;> (try simp)) | (with_reducible assumption) | omega | refine And.intro ?_ ?_ | intro _
  all_goals (try simp only [evL_nil]; refine hK _ _ ?_; clear hK K)
  simp only [Then_normal]
  refine Run.seq ?_
  refine Run.seq ?_
  refine Run.opsL false [⟨Op.move (Operand.tmp 0), some 8, none⟩, ⟨Op.call { callee := Callee.builtin Builtin.len, args := #[Operand.tmp 8], argTypes := #[51] }, some 9, none⟩, ⟨Op.move (Operand.const (Value.int IntKind.i64 0)), some 10, none⟩] mixed (by decide) rfl fun K hK => ?_
  try simp
  repeat' first | (simp only [evL_cons, evL_guard]; simp) | (refine gsplit (fun hg => ?_) (fun hg => ?_) <;> (try simp at hg) <;> (try simp)) | (with_reducible assumption) | omega | refine And.intro ?_ ?_ | intro _
  all_goals (try simp only [evL_nil]; refine hK _ _ ?_; clear hK K)
  simp only [Then_normal]
  refine Run.block ?_
  refine Run.loopO [2, 3, 5, 10, 11, 12, 13, 14, 15, 16, 17, 18, 19, 20, 21, 22, 23] (fun (x : Nat × Int) => [(3, .int x.2), (10, .int x.1)]) (fun (x : Nat × Int) => [(0, .data 1 (l.map encI))]) (fun (x : Nat × Int) => x.1 ≤ l.length ∧ (0 ≤ x.2 ∧ x.2 ≤ 1099511627776) ∧ prodS x.2 (l.drop x.1) = prodS 1 l ∧ ∀ j, j < x.1 → rdI l (j : Nat) ≠ 0) (fun (x : Nat × Int) => l.length - x.1) (0, 1) (by simp) (by simp) fun ⟨i, n⟩ ⟨hi, hr, hp, hz⟩ => ?_
  simp only [over, List.foldl, List.set]
  refine Run.seq ?_
  refine Run.opsL false [⟨Op.binOp BinOp.lss 3 (Operand.tmp 10) (Operand.tmp 9) 3, some 11, none⟩] mixed (by decide) rfl fun K hK => ?_
  try simp
  repeat' first | (simp only [evL_cons, evL_guard]; simp) | (refine gsplit (fun hg => ?_) (fun hg => ?_) <;> (try simp at hg) <;> (try simp)) | (with_reducible assumption) | omega | refine And.intro ?_ ?_ | intro _
  all_goals (try simp only [evL_nil]; refine hK _ _ ?_; clear hK K)
  simp only [Then_normal]
  refine Run.seq ?_
  refine Run.cond rfl (fun h11 => ?_) (fun h11 => ?_)
  · try simp at h11
    have hx := hl _ (rdI_mem (l := l) (i := i) (by omega) (by omega))
    refine Run.skip ?_
    simp only [Then_normal]
    refine Run.seq ?_
    refine Run.block ?_
    refine Run.seq ?_
    refine Run.opsL false [⟨Op.indexAddr 51 (Operand.tmp 8) (Operand.tmp 10), some 12, none⟩, ⟨Op.load 2 (Operand.tmp 12), some 13, none⟩, ⟨Op.assign (Operand.tmp 13), some 5, none⟩] mixed (by decide) rfl fun K hK => ?_
    try simp
    repeat' first | (simp only [evL_cons, evL_guard]; simp [h11]) | (refine gsplit (fun hg => ?_) (fun hg => ?_) <;> (try simp at hg) <;> (try simp [h11])) | (with_reducible assumption) | omega | refine And.intro ?_ ?_ | intro _
    all_goals (try simp only [evL_nil]; refine hK _ _ ?_; clear hK K)
    simp only [Then_normal]
    refine Run.seq ?_
    refine Run.seq ?_
    refine Run.opsL false [⟨Op.move (Operand.tmp 5), some 14, none⟩, ⟨Op.binOp BinOp.eql 2 (Operand.tmp 14) (Operand.const (Value.int IntKind.i64 0)) 2, some 15, none⟩] mixed (by decide) rfl fun K hK => ?_
    try simp
    repeat' first | (simp only [evL_cons, evL_guard]; simp [h11]) | (refine gsplit (fun hg => ?_) (fun hg => ?_) <;> (try simp at hg) <;> (try simp [h11])) | (with_reducible assumption) | omega | refine And.intro ?_ ?_ | intro _
    all_goals (try simp only [evL_nil]; refine hK _ _ ?_; clear hK K)
    simp only [Then_normal]
    refine Run.cond rfl (fun h15 => ?_) (fun h15 => ?_)
    · try simp at h15
      refine Run.seq ?_
      refine Run.opsL false [⟨Op.assign (Operand.const (Value.int IntKind.i64 0)), some 2, none⟩] mixed (by decide) rfl fun K hK => ?_
      try simp
      repeat' first | (simp only [evL_cons, evL_guard]; simp [h11, h15]) | (refine gsplit (fun hg => ?_) (fun hg => ?_) <;> (try simp at hg) <;> (try simp [h11, h15])) | (with_reducible assumption) | omega | refine And.intro ?_ ?_ | intro _
      all_goals (try simp only [evL_nil]; refine hK _ _ ?_; clear hK K)
      simp only [Then_normal]
      refine Run.ret ?_
      try simp only [Then_ret, Blok_ret]
      try simp only [Fwd_ret]
      first
        | (have e : prodS 1 l = 0 := by rw [← hp, drop_rd h11]; simp [prodS, h15]
           simp [e]; done)
        | (have hk1 : i + 1 ≤ k := by
             rcases Nat.lt_or_ge k (i + 1) with q | q
             · by_cases e : k = i
               · subst e; exact absurd h32 h15
               · exact absurd h32 (hz k (by simp; omega))
             · exact q
           have hm := mem_drop_rd h28 hk1
           rw [h32] at hm
           have e : prodS 1 l = 0 := by rw [← hp, drop_rd h11]; simp only [prodS]; rw [if_neg h15, if_pos h19, if_pos hm]
           simp [e]; done)
        | (have e : prodS 1 l = 1099511627776 := by rw [← hp, drop_rd h11]; simp only [prodS]; rw [if_neg h15, if_pos h19, if_neg (no_zero (fun j hj => hkz j (by omega)) _)]
           simp [e]; done)
        | (have e : prodS 1 l = n := by rw [← hp, List.drop_of_length_le (by simp; omega)]; rfl
           simp [e])
    · try simp at h15
      have hf : 0 < rdI l i := by omega
      have hd : 0 ≤ 1099511627776 / rdI l i ∧ 1099511627776 / rdI l i ≤ 1099511627776 := div_rng (by omega) (by omega)
      have e1 : (1099511627776 : Int).tdiv (rdI l i) = 1099511627776 / rdI l i := Int.tdiv_eq_ediv_of_nonneg (by omega)
      refine Run.skip ?_
      simp only [Then_normal]
      refine Run.seq ?_
      refine Run.seq ?_
      refine Run.opsL false [⟨Op.move (Operand.tmp 3), some 16, none⟩, ⟨Op.move (Operand.tmp 5), some 17, none⟩, ⟨Op.binOp BinOp.quo 2 (Operand.const (Value.int IntKind.i64 1099511627776)) (Operand.tmp 17) 2, some 18, none⟩, ⟨Op.binOp BinOp.gtr 2 (Operand.tmp 16) (Operand.tmp 18) 2, some 19, none⟩] mixed (by decide) rfl fun K hK => ?_
      try simp
      repeat' first | (simp only [evL_cons, evL_guard]; simp [h11, h15]) | (refine gsplit (fun hg => ?_) (fun hg => ?_) <;> (try simp at hg) <;> (try simp [h11, h15])) | (with_reducible assumption) | omega | refine And.intro ?_ ?_ | intro _
      all_goals (try simp only [evL_nil]; refine hK _ _ ?_; clear hK K)
      simp only [Then_normal]
      refine Run.cond rfl (fun h19 => ?_) (fun h19 => ?_)
      · try simp [e1] at h19
        rw [wrap_id (by omega) (by omega)] at h19
        refine Run.goto ?_
        simp (decide := true) only [Then_goto, Blok_goto, Fwd_goto]
        refine Run.seq ?_
        refine Run.skip ?_
        simp only [Then_normal]
        refine Run.seq ?_
        refine Run.seq ?_
        refine Run.opsL false [⟨Op.move (Operand.tmp 0), some 25, none⟩, ⟨Op.call { callee := Callee.builtin Builtin.len, args := #[Operand.tmp 25], argTypes := #[51] }, some 26, none⟩, ⟨Op.move (Operand.const (Value.int IntKind.i64 0)), some 27, none⟩] mixed (by decide) rfl fun K hK => ?_
        try simp
        repeat' first | (simp only [evL_cons, evL_guard]; simp [h11, h15]) | (refine gsplit (fun hg => ?_) (fun hg => ?_) <;> (try simp at hg) <;> (try simp [h11, h15])) | (with_reducible assumption) | omega | refine And.intro ?_ ?_ | intro _
        all_goals (try simp only [evL_nil]; refine hK _ _ ?_; clear hK K)
        simp only [Then_normal]
        refine Run.block ?_
        refine Run.loopO [2, 7, 27, 28, 29, 30, 31, 32, 33] (fun (k : Nat) => [(27, .int k)]) (fun (k : Nat) => [(0, .data 1 (l.map encI))]) (fun (k : Nat) => k ≤ l.length ∧ ∀ j, j < k → rdI l (j : Nat) ≠ 0) (fun (k : Nat) => l.length - k) 0 (by simp) (by simp) fun k ⟨hk, hkz⟩ => ?_
        simp only [over, List.foldl, List.set]
        refine Run.seq ?_
        refine Run.opsL false [⟨Op.binOp BinOp.lss 3 (Operand.tmp 27) (Operand.tmp 26) 3, some 28, none⟩] mixed (by decide) rfl fun K hK => ?_
        try simp
        repeat' first | (simp only [evL_cons, evL_guard]; simp [h11, h15]) | (refine gsplit (fun hg => ?_) (fun hg => ?_) <;> (try simp at hg) <;> (try simp [h11, h15])) | (with_reducible assumption) | omega | refine And.intro ?_ ?_ | intro _
        all_goals (try simp only [evL_nil]; refine hK _ _ ?_; clear hK K)
        simp only [Then_normal]
        refine Run.seq ?_
        refine Run.cond rfl (fun h28 => ?_) (fun h28 => ?_)
        · try simp at h28
          refine Run.skip ?_
          simp only [Then_normal]
          refine Run.seq ?_
          refine Run.block ?_
          refine Run.seq ?_
          refine Run.opsL false [⟨Op.indexAddr 51 (Operand.tmp 25) (Operand.tmp 27), some 29, none⟩, ⟨Op.load 2 (Operand.tmp 29), some 30, none⟩, ⟨Op.assign (Operand.tmp 30), some 7, none⟩] mixed (by decide) rfl fun K hK => ?_
          try simp
          repeat' first | (simp only [evL_cons, evL_guard]; simp [h11, h15, h28]) | (refine gsplit (fun hg => ?_) (fun hg => ?_) <;> (try simp at hg) <;> (try simp [h11, h15, h28])) | (with_reducible assumption) | omega | refine And.intro ?_ ?_ | intro _
          all_goals (try simp only [evL_nil]; refine hK _ _ ?_; clear hK K)
          simp only [Then_normal]
          refine Run.seq ?_
          refine Run.opsL false [⟨Op.move (Operand.tmp 7), some 31, none⟩, ⟨Op.binOp BinOp.eql 2 (Operand.tmp 31) (Operand.const (Value.int IntKind.i64 0)) 2, some 32, none⟩] mixed (by decide) rfl fun K hK => ?_
          try simp
          repeat' first | (simp only [evL_cons, evL_guard]; simp [h11, h15, h28]) | (refine gsplit (fun hg => ?_) (fun hg => ?_) <;> (try simp at hg) <;> (try simp [h11, h15, h28])) | (with_reducible assumption) | omega | refine And.intro ?_ ?_ | intro _
          all_goals (try simp only [evL_nil]; refine hK _ _ ?_; clear hK K)
          simp only [Then_normal]
          refine Run.cond rfl (fun h32 => ?_) (fun h32 => ?_)
          · try simp at h32
            refine Run.seq ?_
            refine Run.opsL false [⟨Op.assign (Operand.const (Value.int IntKind.i64 0)), some 2, none⟩] mixed (by decide) rfl fun K hK => ?_
            try simp
            repeat' first | (simp only [evL_cons, evL_guard]; simp [h11, h15, h28, h32]) | (refine gsplit (fun hg => ?_) (fun hg => ?_) <;> (try simp at hg) <;> (try simp [h11, h15, h28, h32])) | (with_reducible assumption) | omega | refine And.intro ?_ ?_ | intro _
            all_goals (try simp only [evL_nil]; refine hK _ _ ?_; clear hK K)
            simp only [Then_normal]
            refine Run.ret ?_
            try simp only [Then_ret, Blok_ret]
            try simp only [NoGoto_ret]
            first
              | (have e : prodS 1 l = 0 := by rw [← hp, drop_rd h11]; simp [prodS, h15]
                 simp [e]; done)
              | (have hk1 : i + 1 ≤ k := by
                   rcases Nat.lt_or_ge k (i + 1) with q | q
                   · by_cases e : k = i
                     · subst e; exact absurd h32 h15
                     · exact absurd h32 (hz k (by simp; omega))
                   · exact q
                 have hm := mem_drop_rd h28 hk1
                 rw [h32] at hm
                 have e : prodS 1 l = 0 := by rw [← hp, drop_rd h11]; simp only [prodS]; rw [if_neg h15, if_pos h19, if_pos hm]
                 simp [e]; done)
              | (have e : prodS 1 l = 1099511627776 := by rw [← hp, drop_rd h11]; simp only [prodS]; rw [if_neg h15, if_pos h19, if_neg (no_zero (fun j hj => hkz j (by omega)) _)]
                 simp [e]; done)
              | (have e : prodS 1 l = n := by rw [← hp, List.drop_of_length_le (by simp; omega)]; rfl
                 simp [e])
          · try simp at h32
            refine Run.skip ?_
            simp only [Blok_normal]
            simp only [Then_normal]
            refine Run.opsL false [⟨Op.binOp BinOp.add 3 (Operand.tmp 27) (Operand.const (Value.int IntKind.i64 1)) 3, some 33, none⟩, ⟨Op.move (Operand.tmp 33), some 27, none⟩] mixed (by decide) rfl fun K hK => ?_
            try simp
            repeat' first | (simp only [evL_cons, evL_guard]; simp [h11, h15, h28, h32]) | (refine gsplit (fun hg => ?_) (fun hg => ?_) <;> (try simp at hg) <;> (try simp [h11, h15, h28, h32])) | (with_reducible assumption) | omega | refine And.intro ?_ ?_ | intro _
            all_goals (try simp only [evL_nil]; refine hK _ _ ?_; clear hK K)
            refine ⟨k + 1, ⟨by omega, fun j hj => ?_⟩, by omega, ?_⟩
            · by_cases e : j = k
              · subst e; exact h32
              · exact hkz j (by omega)
            · simp (disch := omega) [wrap_id]
        · try simp at h28
          refine Run.exit ?_
          simp (decide := true) only [Then_exit, Blok_exit, if_true, if_false]
          simp only [Then_normal]
          refine Run.seq ?_
          refine Run.opsL false [⟨Op.assign (Operand.const (Value.int IntKind.i64 1099511627776)), some 2, none⟩] mixed (by decide) rfl fun K hK => ?_
          try simp
          repeat' first | (simp only [evL_cons, evL_guard]; simp [h11, h15, h28]) | (refine gsplit (fun hg => ?_) (fun hg => ?_) <;> (try simp at hg) <;> (try simp [h11, h15, h28])) | (with_reducible assumption) | omega | refine And.intro ?_ ?_ | intro _
          all_goals (try simp only [evL_nil]; refine hK _ _ ?_; clear hK K)
          simp only [Then_normal]
          refine Run.ret ?_
          try simp only [Then_ret, Blok_ret]
          try simp only [NoGoto_ret]
          first
            | (have e : prodS 1 l = 0 := by rw [← hp, drop_rd h11]; simp [prodS, h15]
               simp [e]; done)
            | (have hk1 : i + 1 ≤ k := by
                 rcases Nat.lt_or_ge k (i + 1) with q | q
                 · by_cases e : k = i
                   · subst e; exact absurd h32 h15
                   · exact absurd h32 (hz k (by simp; omega))
                 · exact q
               have hm := mem_drop_rd h28 hk1
               rw [h32] at hm
               have e : prodS 1 l = 0 := by rw [← hp, drop_rd h11]; simp only [prodS]; rw [if_neg h15, if_pos h19, if_pos hm]
               simp [e]; done)
            | (have e : prodS 1 l = 1099511627776 := by rw [← hp, drop_rd h11]; simp only [prodS]; rw [if_neg h15, if_pos h19, if_neg (no_zero (fun j hj => hkz j (by omega)) _)]
               simp [e]; done)
            | (have e : prodS 1 l = n := by rw [← hp, List.drop_of_length_le (by simp; omega)]; rfl
               simp [e])
      · try simp [e1] at h19
        rw [wrap_id (by omega) (by omega)] at h19
        refine Run.skip ?_
        simp only [Then_normal]
        refine Run.opsL false [⟨Op.move (Operand.tmp 3), some 20, none⟩, ⟨Op.move (Operand.tmp 5), some 21, none⟩, ⟨Op.binOp BinOp.mul 2 (Operand.tmp 20) (Operand.tmp 21) 2, some 22, none⟩, ⟨Op.assign (Operand.tmp 22), some 3, none⟩] mixed (by decide) rfl fun K hK => ?_
        try simp
        repeat' first | (simp only [evL_cons, evL_guard]; simp [h11, h15]) | (refine gsplit (fun hg => ?_) (fun hg => ?_) <;> (try simp at hg) <;> (try simp [h11, h15])) | (with_reducible assumption) | omega | refine And.intro ?_ ?_ | intro _
        all_goals (try simp only [evL_nil]; refine hK _ _ ?_; clear hK K)
        simp only [Blok_normal]
        simp only [Then_normal]
        refine Run.opsL false [⟨Op.binOp BinOp.add 3 (Operand.tmp 10) (Operand.const (Value.int IntKind.i64 1)) 3, some 23, none⟩, ⟨Op.move (Operand.tmp 23), some 10, none⟩] mixed (by decide) rfl fun K hK => ?_
        try simp
        repeat' first | (simp only [evL_cons, evL_guard]; simp [h11, h15]) | (refine gsplit (fun hg => ?_) (fun hg => ?_) <;> (try simp at hg) <;> (try simp [h11, h15])) | (with_reducible assumption) | omega | refine And.intro ?_ ?_ | intro _
        all_goals (try simp only [evL_nil]; refine hK _ _ ?_; clear hK K)
        have hm := prod_step (n := n) hr.1 hf h19
        refine ⟨(i + 1, n * rdI l i), ⟨by simp; omega, hm, ?_, fun j hj => ?_⟩, by simp; omega, ?_⟩
        · rw [← hp, drop_rd h11]; simp only [prodS]; rw [if_neg h15, if_neg (by omega)]
        · by_cases e : j = i
          · subst e; exact h15
          · exact hz j (by simp at hj; omega)
        · simp (disch := omega) [wrap_id]
  · try simp at h11
    refine Run.exit ?_
    simp (decide := true) only [Then_exit, Blok_exit, if_true, if_false]
    simp only [Then_normal]
    refine Run.seq ?_
    refine Run.seq ?_
    refine Run.opsL false [⟨Op.move (Operand.tmp 3), some 24, none⟩, ⟨Op.assign (Operand.tmp 24), some 2, none⟩] mixed (by decide) rfl fun K hK => ?_
    try simp
    repeat' first | (simp only [evL_cons, evL_guard]; simp [h11]) | (refine gsplit (fun hg => ?_) (fun hg => ?_) <;> (try simp at hg) <;> (try simp [h11])) | (with_reducible assumption) | omega | refine And.intro ?_ ?_ | intro _
    all_goals (try simp only [evL_nil]; refine hK _ _ ?_; clear hK K)
    simp only [Then_normal]
    refine Run.ret ?_
    try simp only [Then_ret, Blok_ret]
    try simp only [Fwd_ret]
    first
      | (have e : prodS 1 l = 0 := by rw [← hp, drop_rd h11]; simp [prodS, h15]
         simp [e]; done)
      | (have hk1 : i + 1 ≤ k := by
           rcases Nat.lt_or_ge k (i + 1) with q | q
           · by_cases e : k = i
             · subst e; exact absurd h32 h15
             · exact absurd h32 (hz k (by simp; omega))
           · exact q
         have hm := mem_drop_rd h28 hk1
         rw [h32] at hm
         have e : prodS 1 l = 0 := by rw [← hp, drop_rd h11]; simp only [prodS]; rw [if_neg h15, if_pos h19, if_pos hm]
         simp [e]; done)
      | (have e : prodS 1 l = 1099511627776 := by rw [← hp, drop_rd h11]; simp only [prodS]; rw [if_neg h15, if_pos h19, if_neg (no_zero (fun j hj => hkz j (by omega)) _)]
         simp [e]; done)
      | (have e : prodS 1 l = n := by rw [← hp, List.drop_of_length_le (by simp; omega)]; rfl
         simp [e])


end Go.Proofs.Ytihbejpkfifplaa.Z
end
section
set_option maxRecDepth 100000
namespace Go.Proofs.Ytihbejpkfifplaa.Z
open Go Go.Fw
def badE (n : Int) (e : EdgeT) : Bool := decide ((if e.dst < e.src then e.dst else e.src) < 0) || decide (n ≤ if e.src < e.dst then e.dst else e.src)
def findS {α : Type} (p : α → Bool) (l : List α) : Int := match l.findIdx? p with | some i => i | none => -1
theorem findS_none {α : Type} [Inhabited α] {p : α → Bool} {l : List α} (h : ∀ j, j < l.length → p (rdI l (j : Nat)) = false) : findS p l = -1 := by
  have : l.findIdx? p = none := by
    rw [List.findIdx?_eq_none_iff]
    intro x hx
    obtain ⟨j, hj⟩ := List.getElem?_of_mem hx
    have hlt := (List.getElem?_eq_some_iff.1 hj).1
    have := h j hlt
    unfold rdI at this
    rw [Int.toNat_natCast, List.getD_eq_getElem?_getD, hj] at this
    exact this
  simp [findS, this]
theorem findS_some {α : Type} [Inhabited α] {p : α → Bool} {l : List α} {i : Nat} (hi : i < l.length) (h : ∀ j, j < i → p (rdI l (j : Nat)) = false) (hp : p (rdI l (i : Nat)) = true) : findS p l = i := by
  have key : ∀ j, j < l.length → ∃ h : j < l.length, rdI l (j : Nat) = l[j] := fun j hj => ⟨hj, by simp [rdI, List.getD_eq_getElem?_getD, hj]⟩
  have : l.findIdx? p = some i := by
    rw [List.findIdx?_eq_some_iff_getElem]
    refine ⟨hi, ?_, fun j hj => ?_⟩
    · obtain ⟨_, e⟩ := key i hi; rw [e] at hp; exact hp
    · obtain ⟨_, e⟩ := key j (by omega); have := h j hj; rw [e] at this; simpa using this
  simp [findS, this]
theorem findS_any {α : Type} (p : α → Bool) (l : List α) : decide (0 ≤ findS p l) = l.any p := by
  unfold findS
  cases h : l.findIdx? p with
  | none =>
    rw [List.findIdx?_eq_none_iff] at h
    have : l.any p = false := by rw [List.any_eq_false]; intro x hx; simp [h x hx]
    rw [this]; rfl
  | some i =>
    rw [List.findIdx?_eq_some_iff_getElem] at h
    obtain ⟨h1, h2, _⟩ := h
    have : l.any p = true := List.any_eq_true.2 ⟨_, List.getElem_mem h1, h2⟩
    rw [this]; simp
def patS (nodes : List NodeT) (edges : List EdgeT) : Bool := decide (1 ≤ nodes.length) && decide (nodes.length ≤ 8) && decide (edges.length ≤ 8) && !edges.any (badE nodes.length)
theorem badE_ok (e : EdgeT) (n : Int) : SndW P 72 [.d (.ag (encE e)), .pt 0 0 0 0] [(0, .vals [.int n])] (.bool (badE n e)) [(0, .vals [.int n])] := by
  refine sndW_of [0] Try.func72 rfl (by kernel_rfl) Try.ntmps72 (by simp) (by simp) ?_
  unfold Try.f72
  simp only [List.cons_append, List.nil_append, List.length_cons, List.length_nil, Nat.reduceAdd, Nat.reduceSub, List.replicate]
  refine Run.seq ?_
  refine Run.opsL false [⟨Op.box 105 (Operand.tmp 0), some 2, none⟩, ⟨Op.assign (Operand.const (Value.bool false)), some 3, none⟩] mixed (by decide) rfl fun K hK => ?_
  try simp
  repeat' first | (simp only [evL_cons, evL_guard]; simp) | (refine gsplit (fun hg => ?_) (fun hg => ?_) <;> (try simp at hg) <;> (try simp)) | (with_reducible assumption) | omega | refine And.intro ?_ ?_ | intro _
  all_goals (try simp only [evL_nil]; refine hK _ _ ?_; clear hK K)
  simp only [Then_normal]
  refine Run.seq ?_
  refine Run.opsL false [⟨Op.fieldAddr 105 (Operand.tmp 2) 2, some 4, none⟩, ⟨Op.load 3 (Operand.tmp 4), some 5, none⟩, ⟨Op.fieldAddr 105 (Operand.tmp 2) 3, some 6, none⟩, ⟨Op.load 3 (Operand.tmp 6), some 7, none⟩, ⟨Op.call { callee := Callee.builtin Builtin.min, args := #[Operand.tmp 5, Operand.tmp 7], argTypes := #[3, 3] }, some 8, none⟩, ⟨Op.binOp BinOp.lss 3 (Operand.tmp 8) (Operand.const (Value.int IntKind.i64 0)) 3, some 9, none⟩, ⟨Op.move (Operand.tmp 9), some 10, none⟩, ⟨Op.fieldAddr 105 (Operand.tmp 2) 2, some 11, some (some 10, false)⟩, ⟨Op.load 3 (Operand.tmp 11), some 12, some (some 10, false)⟩, ⟨Op.fieldAddr 105 (Operand.tmp 2) 3, some 13, some (some 10, false)⟩, ⟨Op.load 3 (Operand.tmp 13), some 14, some (some 10, false)⟩, ⟨Op.call { callee := Callee.builtin Builtin.max, args := #[Operand.tmp 12, Operand.tmp 14], argTypes := #[3, 3] }, some 15, some (some 10, false)⟩, ⟨Op.load 3 (Operand.tmp 1), some 16, some (some 10, false)⟩, ⟨Op.binOp BinOp.geq 3 (Operand.tmp 15) (Operand.tmp 16) 3, some 17, some (some 10, false)⟩, ⟨Op.pick (Operand.tmp 10) (Operand.const (Value.bool true)) (Operand.tmp 17), some 18, none⟩, ⟨Op.assign (Operand.tmp 18), some 3, none⟩] mixed (by decide) rfl fun K hK => ?_
  try simp
  repeat' first | (simp only [evL_cons, evL_guard]; simp) | (refine gsplit (fun hg => ?_) (fun hg => ?_) <;> (try simp at hg) <;> (try simp)) | (with_reducible assumption) | omega | refine And.intro ?_ ?_ | intro _
  all_goals (try simp only [evL_nil]; refine hK _ _ ?_; clear hK K)
  all_goals
    simp only [Then_normal]
    refine Run.ret ?_
    try simp only [Then_ret, Blok_ret]
    first | (simp_all [badE]; done) | (simp_all [badE]; intro h; omega)

theorem findE_ok (nn : Bool) (l : List EdgeT) (fn : FuncId) (x : D) (p : EdgeT → Bool) (hp : ∀ e ∈ l, SndW P fn [.d (.ag (encE e)), .pt 0 0 0 0] [(0, .vals [.d x])] (.bool (p e)) [(0, .vals [.d x])]) :
    SndW P 91 [.d (.sl nn (l.map encE)), .fn fn [.pt 0 0 0 0]] [(0, .vals [.d x])] (.int (findS p l)) [(0, .vals [.d x])] := by
  refine SndW.ok 0 rfl (by kernel_rfl) fun hl => ?_
  simp only [D.ok, List.length_map] at hl
  obtain ⟨hl, -⟩ := hl
  refine sndW_of [0] Try.func91 rfl (by kernel_rfl) Try.ntmps91 (by simp) (by simp) ?_
  unfold Try.f91
  simp only [List.cons_append, List.nil_append, List.length_cons, List.length_nil, Nat.reduceAdd, Nat.reduceSub, List.replicate]
  refine Run.seq ?_
  refine Run.opsL false [⟨Op.assign (Operand.const (Value.int IntKind.i64 0)), some 4, none⟩] mixed (by decide) rfl fun K hK => ?_
  try simp
  repeat' first | (simp only [evL_cons, evL_guard]; simp) | (refine gsplit (fun hg => ?_) (fun hg => ?_) <;> (try simp at hg) <;> (try simp)) | (with_reducible assumption) | omega | refine And.intro ?_ ?_ | intro _
  all_goals (try simp only [evL_nil]; refine hK _ _ ?_; clear hK K)
  simp only [Then_normal]
  refine Run.seq ?_
  refine Run.seq ?_
  refine Run.opsL false [⟨Op.move (Operand.tmp 0), some 6, none⟩, ⟨Op.call { callee := Callee.builtin Builtin.len, args := #[Operand.tmp 6], argTypes := #[29] }, some 7, none⟩, ⟨Op.move (Operand.const (Value.int IntKind.i64 0)), some 8, none⟩] mixed (by decide) rfl fun K hK => ?_
  try simp
  repeat' first | (simp only [evL_cons, evL_guard]; simp) | (refine gsplit (fun hg => ?_) (fun hg => ?_) <;> (try simp at hg) <;> (try simp)) | (with_reducible assumption) | omega | refine And.intro ?_ ?_ | intro _
  all_goals (try simp only [evL_nil]; refine hK _ _ ?_; clear hK K)
  simp only [Then_normal]
  refine Run.block ?_
  refine Run.loopO [4, 5, 8, 9, 10, 11, 12, 13, 14, 15, 16, 17, 18] (fun (i : Nat) => [(8, .int i)]) (fun (i : Nat) => [(0, .vals [.d x])]) (fun (i : Nat) => i ≤ l.length ∧ ∀ j, j < i → p (rdI l (j : Nat)) = false) (fun (i : Nat) => l.length - i) 0 (by simp) (by simp) fun i ⟨hi, hz⟩ => ?_
  simp only [over, List.foldl, List.set]
  refine Run.seq ?_
  refine Run.opsL false [⟨Op.binOp BinOp.lss 3 (Operand.tmp 8) (Operand.tmp 7) 3, some 9, none⟩] mixed (by decide) rfl fun K hK => ?_
  try simp
  repeat' first | (simp only [evL_cons, evL_guard]; simp) | (refine gsplit (fun hg => ?_) (fun hg => ?_) <;> (try simp at hg) <;> (try simp)) | (with_reducible assumption) | omega | refine And.intro ?_ ?_ | intro _
  all_goals (try simp only [evL_nil]; refine hK _ _ ?_; clear hK K)
  simp only [Then_normal]
  refine Run.seq ?_
  refine Run.cond rfl (fun h9 => ?_) (fun h9 => ?_)
  · try simp at h9
    refine Run.skip ?_
    simp only [Then_normal]
    refine Run.seq ?_
    refine Run.block ?_
    refine Run.seq ?_
    refine Run.opsL false [⟨Op.move (Operand.tmp 8), some 10, none⟩, ⟨Op.assign (Operand.tmp 10), some 5, none⟩] mixed (by decide) rfl fun K hK => ?_
    try simp
    repeat' first | (simp only [evL_cons, evL_guard]; simp [h9]) | (refine gsplit (fun hg => ?_) (fun hg => ?_) <;> (try simp at hg) <;> (try simp [h9])) | (with_reducible assumption) | omega | refine And.intro ?_ ?_ | intro _
    all_goals (try simp only [evL_nil]; refine hK _ _ ?_; clear hK K)
    simp only [Then_normal]
    refine Run.seq ?_
    refine Run.opsL true [⟨Op.move (Operand.tmp 1), some 11, none⟩, ⟨Op.move (Operand.tmp 0), some 12, none⟩, ⟨Op.move (Operand.tmp 5), some 13, none⟩, ⟨Op.indexAddr 29 (Operand.tmp 12) (Operand.tmp 13), some 14, none⟩, ⟨Op.load 105 (Operand.tmp 14), some 15, none⟩, ⟨Op.call { callee := Callee.value (Operand.tmp 11), args := #[Operand.tmp 15], argTypes := #[105] }, some 16, none⟩] mixed (by decide) rfl fun K hK => ?_
    try simp
    repeat' first | (refine ecallW [0] (hp _ (rdI_mem (l := l) (i := i) (by omega) (by omega))) (by simp) (by simp) (by simp) ?_) | (simp only [evL_cons, evL_guard]; simp [h9]) | (refine gsplit (fun hg => ?_) (fun hg => ?_) <;> (try simp at hg) <;> (try simp [h9])) | (with_reducible assumption) | omega | refine And.intro ?_ ?_ | intro _
    all_goals (try simp only [evL_nil]; refine hK _ _ ?_; clear hK K)
    simp only [Then_normal]
    refine Run.cond rfl (fun h16 => ?_) (fun h16 => ?_)
    · try simp at h16
      refine Run.seq ?_
      refine Run.opsL false [⟨Op.move (Operand.tmp 5), some 17, none⟩, ⟨Op.assign (Operand.tmp 17), some 4, none⟩] mixed (by decide) rfl fun K hK => ?_
      try simp
      repeat' first | (simp only [evL_cons, evL_guard]; simp [h9, h16]) | (refine gsplit (fun hg => ?_) (fun hg => ?_) <;> (try simp at hg) <;> (try simp [h9, h16])) | (with_reducible assumption) | omega | refine And.intro ?_ ?_ | intro _
      all_goals (try simp only [evL_nil]; refine hK _ _ ?_; clear hK K)
      simp only [Then_normal]
      refine Run.ret ?_
      try simp only [Then_ret, Blok_ret]
      first
        | (have e := findS_some h9 hz h16; simp [e]; done)
        | (have e := findS_none (p := p) (l := l) (fun j hj => hz j (by omega)); simp [e])
    · try simp at h16
      refine Run.skip ?_
      simp only [Blok_normal]
      simp only [Then_normal]
      refine Run.opsL false [⟨Op.binOp BinOp.add 3 (Operand.tmp 8) (Operand.const (Value.int IntKind.i64 1)) 3, some 18, none⟩, ⟨Op.move (Operand.tmp 18), some 8, none⟩] mixed (by decide) rfl fun K hK => ?_
      try simp
      repeat' first | (simp only [evL_cons, evL_guard]; simp [h9, h16]) | (refine gsplit (fun hg => ?_) (fun hg => ?_) <;> (try simp at hg) <;> (try simp [h9, h16])) | (with_reducible assumption) | omega | refine And.intro ?_ ?_ | intro _
      all_goals (try simp only [evL_nil]; refine hK _ _ ?_; clear hK K)
      refine ⟨i + 1, ⟨by omega, fun j hj => ?_⟩, by omega, ?_⟩
      · by_cases e : j = i
        · subst e; exact h16
        · exact hz j (by omega)
      · simp (disch := omega) [wrap_id]
  · try simp at h9
    refine Run.exit ?_
    simp (decide := true) only [Then_exit, Blok_exit, if_true, if_false]
    simp only [Then_normal]
    refine Run.seq ?_
    refine Run.opsL false [⟨Op.assign (Operand.const (Value.int IntKind.i64 (-1))), some 4, none⟩] mixed (by decide) rfl fun K hK => ?_
    try simp
    repeat' first | (simp only [evL_cons, evL_guard]; simp [h9]) | (refine gsplit (fun hg => ?_) (fun hg => ?_) <;> (try simp at hg) <;> (try simp [h9])) | (with_reducible assumption) | omega | refine And.intro ?_ ?_ | intro _
    all_goals (try simp only [evL_nil]; refine hK _ _ ?_; clear hK K)
    simp only [Then_normal]
    refine Run.ret ?_
    try simp only [Then_ret, Blok_ret]
    first
      | (have e := findS_some h9 hz h16; simp [e]; done)
      | (have e := findS_none (p := p) (l := l) (fun j hj => hz j (by omega)); simp [e])

theorem anyE_ok (nn : Bool) (l : List EdgeT) (fn : FuncId) (x : D) (p : EdgeT → Bool) (hp : ∀ e ∈ l, SndW P fn [.d (.ag (encE e)), .pt 0 0 0 0] [(0, .vals [.d x])] (.bool (p e)) [(0, .vals [.d x])]) :
    SndW P 71 [.d (.sl nn (l.map encE)), .fn fn [.pt 0 0 0 0]] [(0, .vals [.d x])] (.bool (l.any p)) [(0, .vals [.d x])] := by
  refine sndW_of [0] Try.func71 rfl (by kernel_rfl) Try.ntmps71 (by simp) (by simp) ?_
  unfold Try.f71
  simp only [List.cons_append, List.nil_append, List.length_cons, List.length_nil, Nat.reduceAdd, Nat.reduceSub, List.replicate]
  refine Run.seq ?_
  refine Run.opsL false [⟨Op.assign (Operand.const (Value.bool false)), some 4, none⟩] mixed (by decide) rfl fun K hK => ?_
  try simp
  repeat' first | (simp only [evL_cons, evL_guard]; simp) | (refine gsplit (fun hg => ?_) (fun hg => ?_) <;> (try simp at hg) <;> (try simp)) | (with_reducible assumption) | omega | refine And.intro ?_ ?_ | intro _
  all_goals (try simp only [evL_nil]; refine hK _ _ ?_; clear hK K)
  simp only [Then_normal]
  refine Run.seq ?_
  refine Run.opsL true [⟨Op.move (Operand.tmp 0), some 5, none⟩, ⟨Op.move (Operand.tmp 1), some 6, none⟩, ⟨Op.call { callee := Callee.value (Operand.func 91), args := #[Operand.tmp 5, Operand.tmp 6], argTypes := #[29, 118] }, some 7, none⟩, ⟨Op.binOp BinOp.geq 3 (Operand.tmp 7) (Operand.const (Value.int IntKind.i64 0)) 3, some 8, none⟩, ⟨Op.assign (Operand.tmp 8), some 4, none⟩] mixed (by decide) rfl fun K hK => ?_
  try simp
  repeat' first | (refine ecallW [0] (findE_ok nn l fn x p hp) (by simp) (by simp) (by simp) ?_) | (simp only [evL_cons, evL_guard]; simp) | (refine gsplit (fun hg => ?_) (fun hg => ?_) <;> (try simp at hg) <;> (try simp)) | (with_reducible assumption) | omega | refine And.intro ?_ ?_ | intro _
  all_goals (try simp only [evL_nil]; refine hK _ _ ?_; clear hK K)
  simp only [Then_normal]
  refine Run.ret ?_
  try simp only [Then_ret, Blok_ret]
  simp [findS_any]

theorem pattern_ok (c : CoreT) : Snd P 36 [.d (.ag (encC c))] (.bool (patS c.nodes c.edges)) [] := by
  refine snd_of [] Try.func36 rfl (by kernel_rfl) Try.ntmps36 (by simp) ?_
  unfold Try.f36
  simp only [List.cons_append, List.nil_append, List.length_cons, List.length_nil, Nat.reduceAdd, Nat.reduceSub, List.replicate]
  refine Run.seq ?_
  refine Run.opsL false [⟨Op.box 33 (Operand.tmp 0), some 1, none⟩, ⟨Op.assign (Operand.const (Value.bool false)), some 2, none⟩] mixed (by decide) rfl fun K hK => ?_
  try simp
  repeat' first | (simp only [evL_cons, evL_guard]; simp) | (refine gsplit (fun hg => ?_) (fun hg => ?_) <;> (try simp at hg) <;> (try simp)) | (with_reducible assumption) | omega | refine And.intro ?_ ?_ | intro _
  all_goals (try simp only [evL_nil]; refine hK _ _ ?_; clear hK K)
  simp only [Then_normal]
  refine Run.seq ?_
  refine Run.opsL false [⟨Op.fieldAddr 33 (Operand.tmp 1) 0, some 4, none⟩, ⟨Op.load 28 (Operand.tmp 4), some 5, none⟩, ⟨Op.call { callee := Callee.builtin Builtin.len, args := #[Operand.tmp 5], argTypes := #[28] }, some 6, none⟩, ⟨Op.alloc 3, some 3, none⟩, ⟨Op.store 3 (Operand.tmp 3) (Operand.tmp 6), none, none⟩] mixed (by decide) rfl fun K hK => ?_
  try simp
  repeat' first | (simp only [evL_cons, evL_guard]; simp) | (refine gsplit (fun hg => ?_) (fun hg => ?_) <;> (try simp at hg) <;> (try simp)) | (with_reducible assumption) | omega | refine And.intro ?_ ?_ | intro _
  all_goals (try simp only [evL_nil]; refine hK _ _ ?_; clear hK K)
  simp only [Then_normal]
  refine Run.seq ?_
  refine Run.opsL true [⟨Op.load 3 (Operand.tmp 3), some 7, none⟩, ⟨Op.binOp BinOp.geq 3 (Operand.tmp 7) (Operand.const (Value.int IntKind.i64 1)) 3, some 8, none⟩, ⟨Op.move (Operand.tmp 8), some 9, none⟩, ⟨Op.load 3 (Operand.tmp 3), some 10, some (some 9, true)⟩, ⟨Op.binOp BinOp.leq 3 (Operand.tmp 10) (Operand.const (Value.int IntKind.i64 8)) 3, some 11, some (some 9, true)⟩, ⟨Op.pick (Operand.tmp 9) (Operand.tmp 11) (Operand.const (Value.bool false)), some 12, none⟩, ⟨Op.move (Operand.tmp 12), some 13, none⟩, ⟨Op.fieldAddr 33 (Operand.tmp 1) 1, some 14, some (some 13, true)⟩, ⟨Op.load 29 (Operand.tmp 14), some 15, some (some 13, true)⟩, ⟨Op.call { callee := Callee.builtin Builtin.len, args := #[Operand.tmp 15], argTypes := #[29] }, some 16, some (some 13, true)⟩, ⟨Op.binOp BinOp.leq 3 (Operand.tmp 16) (Operand.const (Value.int IntKind.i64 8)) 3, some 17, some (some 13, true)⟩, ⟨Op.pick (Operand.tmp 13) (Operand.tmp 17) (Operand.const (Value.bool false)), some 18, none⟩, ⟨Op.move (Operand.tmp 18), some 19, none⟩, ⟨Op.fieldAddr 33 (Operand.tmp 1) 1, some 20, some (some 19, true)⟩, ⟨Op.load 29 (Operand.tmp 20), some 21, some (some 19, true)⟩, ⟨Op.makeFunc (Fn.func 72) #[] #[Operand.tmp 3], some 22, some (some 19, true)⟩, ⟨Op.call { callee := Callee.value (Operand.func 71), args := #[Operand.tmp 21, Operand.tmp 22], argTypes := #[29, 118] }, some 23, some (some 19, true)⟩, ⟨Op.unOp UnOp.not 4 (Operand.tmp 23), some 24, some (some 19, true)⟩, ⟨Op.pick (Operand.tmp 19) (Operand.tmp 24) (Operand.const (Value.bool false)), some 25, none⟩, ⟨Op.assign (Operand.tmp 25), some 2, none⟩] mixed (by decide) rfl fun K hK => ?_
  try simp
  repeat' first | (refine ecallW [400] (anyE_ok false c.edges 72 (.int c.nodes.length) (badE c.nodes.length) (fun e _ => badE_ok e _)) (by simp) (by simp) (by simp) ?_) | (simp only [evL_cons, evL_guard]; simp) | (refine gsplit (fun hg => ?_) (fun hg => ?_) <;> (try simp at hg) <;> (try simp)) | (with_reducible assumption) | omega | refine And.intro ?_ ?_ | intro _
  all_goals (try simp only [evL_nil]; refine hK _ _ ?_; clear hK K)
  all_goals
    simp only [Then_normal]
    refine Run.ret ?_
    try simp only [Then_ret, Blok_ret]
    first
      | (simp_all [patS]; done)
      | (simp_all [patS]; omega)
      | (simp_all [patS]; intros; omega)


end Go.Proofs.Ytihbejpkfifplaa.Z
end
namespace Go.Proofs.Ytihbejpkfifplaa.Z
open Go Go.Fw
theorem opsF {Q : Exit → St → Prop} {id : Nat} {ops : Array Oper} {draw : Bool} (los : List LOp) {e : Env} {s : Store} (h : ∀ K : Env → Store → Prop, Fin Q K → EvL P false K los (enterE ops.toList e) (enterS ops.toList s)) (hk : okReg false draw ops.toList = true := by decide) (hl : ops.toList.map (lite ops.toList) = los := by rfl) : Run P (.region id ops draw) ⟨e, s⟩ Q := Run.opsM false los mixed hk hl h
theorem opsT {Q : Exit → St → Prop} {id : Nat} {ops : Array Oper} {draw : Bool} (los : List LOp) {e : Env} {s : Store} (h : ∀ K : Env → Store → Prop, Fin Q K → EvL P true K los (enterE ops.toList e) (enterS ops.toList s)) (hk : okReg true draw ops.toList = true := by decide) (hl : ops.toList.map (lite ops.toList) = los := by rfl) : Run P (.region id ops draw) ⟨e, s⟩ Q := Run.opsM true los mixed hk hl h
abbrev oo0 : List LOp := [⟨Op.box 86 (Operand.tmp 0), some 3, none⟩, ⟨Op.box 27 (Operand.tmp 1), some 4, none⟩, ⟨Op.assign (Operand.const (Value.bool false)), some 6, none⟩]
abbrev oo1 : List LOp := [⟨Op.assign (Operand.const (Value.bool false)), some 6, none⟩]
abbrev oo2 : List LOp := [⟨Op.assign (Operand.const (Value.bool true)), some 6, none⟩]
abbrev oo3 : List LOp := [⟨Op.box 70 (Operand.tmp 0), some 1, none⟩, ⟨Op.assign (Operand.const (Value.slice none 0 0)), some 2, none⟩]
abbrev oo4 : List LOp := [⟨Op.assign (Operand.const (Value.slice none 0 0)), some 3, none⟩]
end Go.Proofs.Ytihbejpkfifplaa.Z
section
set_option maxRecDepth 100000
namespace Go.Proofs.Ytihbejpkfifplaa.Z
open Go Go.Fw
/-- a pattern's edges lie between its nodes -/
def GoodE (c : CoreT) : Prop := ∀ e ∈ c.edges, 0 ≤ e.src ∧ 0 ≤ e.dst ∧ e.src < c.nodes.length ∧ e.dst < c.nodes.length
theorem goodE_of {c : CoreT} (h : patS c.nodes c.edges = true) : GoodE c := by
  intro e he
  simp only [patS, Bool.and_eq_true, Bool.not_eq_true', List.any_eq_false] at h
  have h1 := h.2 e he
  simp only [badE, Bool.or_eq_true, decide_eq_true_eq, not_or] at h1
  split at h1 <;> split at h1 <;> omega
def badEdge (c : CoreT) (p : PlanT) (b : List Bool) : Bool :=
  rdI b (c.nodes.length + rdI p.edges 0) || (!rdI b (if p.back then (rdI c.edges (rdI p.edges 0)).dst else (rdI c.edges (rdI p.edges 0)).src)) || (decide ((rdI c.edges (rdI p.edges 0)).mode = 0) != decide (p.op = 2))
def edgeB (c : CoreT) (p : PlanT) (b : List Bool) : Bool := !decide (p.edges.length ≠ 1 ∨ rdI p.edges 0 < 0 ∨ (c.edges.length : Int) ≤ rdI p.edges 0) && !badEdge c p b
def edgeL (c : CoreT) (p : PlanT) (b : List Bool) : List Bool :=
  if edgeB c p b then (b.set (c.nodes.length + rdI p.edges 0).toNat true).set (if p.back then (rdI c.edges (rdI p.edges 0)).src else (rdI c.edges (rdI p.edges 0)).dst).toNat true else b
@[simp] theorem rdI_toNat {α : Type} [Inhabited α] (l : List α) (i : Int) : rdI l ((i.toNat : Nat) : Int) = rdI l i := by unfold rdI; rw [Int.toNat_natCast]
@[simp] theorem rdI_max {α : Type} [Inhabited α] (l : List α) (i : Int) : rdI l (max i 0) = rdI l i := by unfold rdI; congr 1; omega
theorem encP_ok {p : PlanT} (h : (D.ag (encP p)).ok) : p.kids.length ≤ 9223372036854775807 ∧ p.edges.length ≤ 9223372036854775807 ∧ p.terms.length ≤ 9223372036854775807 := by
  rw [encP_cells] at h
  simp only [D.ok, D.okL, List.length_map] at h
  exact ⟨h.2.1.1, h.2.2.2.1.1, h.2.2.2.2.2.1.1⟩
@[simp] theorem set_encB (l : List Bool) (i : Nat) (v : Bool) : (l.map encB).set i [D.lit (.bool v)] = (l.set i v).map encB := by rw [List.map_set]; rfl
@[simp] theorem set_encI (l : List Int) (i : Nat) (v : Int) : (l.map encI).set i [D.lit (.int .i64 v)] = (l.set i v).map encI := by rw [List.map_set]; rfl
set_option maxHeartbeats 4000000 in
theorem edge_ok (c : CoreT) (p : PlanT) (b : List Bool) (hb : b.length = c.nodes.length + c.edges.length) (hE : GoodE c) : SndW P 73 [.d (.ag (encC c ++ [D.int c.nodes.length])), .d (.ag (encP p)), .rs 0 1 0 b.length] [(0, .data 1 (b.map encB))] (.bool (edgeB c p b)) [(0, .data 1 ((edgeL c p b).map encB))] := by
  obtain ⟨n, hn⟩ : ∃ k, c.nodes.length = k := ⟨_, rfl⟩
  obtain ⟨m, hm⟩ : ∃ m, p.edges.length = m := ⟨_, rfl⟩
  obtain ⟨k, hk⟩ : ∃ k, c.edges.length = k := ⟨_, rfl⟩
  obtain ⟨fr, hfr⟩ : ∃ x, (if p.back then (rdI c.edges (rdI p.edges 0)).dst else (rdI c.edges (rdI p.edges 0)).src) = x := ⟨_, rfl⟩
  obtain ⟨to, hto⟩ : ∃ x, (if p.back then (rdI c.edges (rdI p.edges 0)).src else (rdI c.edges (rdI p.edges 0)).dst) = x := ⟨_, rfl⟩
  rw [hn, hk] at hb
  refine sndW_of [0] Try.func73 rfl (by kernel_rfl) Try.ntmps73 (by simp) (by simp) ?_
  unfold Try.f73
  refine Run.okV 2 rfl fun hL => ?_
  simp only [List.cons_append, List.nil_append, List.length_cons, List.length_nil, Nat.reduceAdd, Nat.reduceSub, List.replicate]
  refine Run.seq ?_
  refine opsF oo0 fun K hK => ?_
  try simp
  repeat' first | ((refine evL_c ?_); simp [-List.map_set, hm, hk, hn, hb, hfr, hto]) | (with_reducible refine And.intro ?_ ?_) | intro _ | (with_reducible assumption) | omega
  all_goals (refine Fin.go hK ?_; clear hK K)
  simp only [Then_normal]
  refine Run.seq ?_
  refine Run.cut [10, 11, 12, 13, 14, 15, 16, 17, 18, 19, 20, 21, 22, 23, 24, 25, 26, 27, 28, 29, 30, 31] [(31, .bool (decide (m ≠ 1 ∨ rdI p.edges 0 < 0 ∨ (k : Int) ≤ rdI p.edges 0)))] [(0, .data 1 (b.map encB)), (400, .vals ((encC c ++ [D.int c.nodes.length]).map .d)), (500, .vals ((encP p).map .d))] ?_ ?_
  · refine opsF [⟨Op.fieldAddr 27 (Operand.tmp 4) 3, some 10, none⟩, ⟨Op.load 24 (Operand.tmp 10), some 11, none⟩, ⟨Op.call { callee := Callee.builtin Builtin.len, args := #[Operand.tmp 11], argTypes := #[24] }, some 12, none⟩, ⟨Op.binOp BinOp.neq 3 (Operand.tmp 12) (Operand.const (Value.int IntKind.i64 1)) 3, some 13, none⟩, ⟨Op.move (Operand.tmp 13), some 14, none⟩, ⟨Op.fieldAddr 27 (Operand.tmp 4) 3, some 15, some (some 14, false)⟩, ⟨Op.load 24 (Operand.tmp 15), some 16, some (some 14, false)⟩, ⟨Op.indexAddr 24 (Operand.tmp 16) (Operand.const (Value.int IntKind.i64 0)), some 17, some (some 14, false)⟩, ⟨Op.load 3 (Operand.tmp 17), some 18, some (some 14, false)⟩, ⟨Op.binOp BinOp.lss 3 (Operand.tmp 18) (Operand.const (Value.int IntKind.i64 0)) 3, some 19, some (some 14, false)⟩, ⟨Op.pick (Operand.tmp 14) (Operand.const (Value.bool true)) (Operand.tmp 19), some 20, none⟩, ⟨Op.move (Operand.tmp 20), some 21, none⟩, ⟨Op.fieldAddr 27 (Operand.tmp 4) 3, some 22, some (some 21, false)⟩, ⟨Op.load 24 (Operand.tmp 22), some 23, some (some 21, false)⟩, ⟨Op.indexAddr 24 (Operand.tmp 23) (Operand.const (Value.int IntKind.i64 0)), some 24, some (some 21, false)⟩, ⟨Op.load 3 (Operand.tmp 24), some 25, some (some 21, false)⟩, ⟨Op.fieldAddr 86 (Operand.tmp 3) 0, some 26, some (some 21, false)⟩, ⟨Op.fieldAddr 33 (Operand.tmp 26) 1, some 27, some (some 21, false)⟩, ⟨Op.load 29 (Operand.tmp 27), some 28, some (some 21, false)⟩, ⟨Op.call { callee := Callee.builtin Builtin.len, args := #[Operand.tmp 28], argTypes := #[29] }, some 29, some (some 21, false)⟩, ⟨Op.binOp BinOp.geq 3 (Operand.tmp 25) (Operand.tmp 29) 3, some 30, some (some 21, false)⟩, ⟨Op.pick (Operand.tmp 21) (Operand.const (Value.bool true)) (Operand.tmp 30), some 31, none⟩] fun K hK => ?_
    try simp
    repeat' first | ((first | refine evL_c ?_ | (refine evL_g rfl ?_; try simp only [gs_tt, gs_ff, gs_tf, gs_ft]) | refine evL_u rfl ?_ | (with_reducible refine gsplit (fun hg => ?_) (fun hg => ?_) <;> try simp at hg)) <;> try simp [-List.map_set, hm, hk, hn, hb, hfr, hto, *]) | (with_reducible refine And.intro ?_ ?_) | intro _ | (with_reducible assumption) | omega
    all_goals (refine Fin.go hK ?_; clear hK K)
    all_goals
      (try simp [hm, hk, hn, hb, hfr, hto]) <;> (first | omega | (simp; done) | (rw [Bool.eq_iff_iff]; simp only [Bool.or_eq_true, Bool.and_eq_true, Bool.not_eq_true', decide_eq_true_eq, decide_eq_false_iff_not]; omega) | (simp_all; done) | (simp_all; omega) | grind)
  · simp only [over, List.foldl, List.set]
    refine Run.cond rfl (fun h31 => ?_) (fun h31 => ?_)
    · replace h31 := of_decide_eq_true h31
      refine Run.seq ?_
      refine opsF oo1 fun K hK => ?_
      try simp
      repeat' first | ((refine evL_c ?_); simp [-List.map_set, hm, hk, hn, hb, hfr, hto]) | (with_reducible refine And.intro ?_ ?_) | intro _ | (with_reducible assumption) | omega
      all_goals (refine Fin.go hK ?_; clear hK K)
      simp only [Then_normal]
      refine Run.ret ?_
      try simp only [Then_ret, Blok_ret]
      first
        | (have e : edgeB c p b = false := by simp [edgeB, hm, hk, h31]
           simp [edgeL, e, hn]; done)
        | (have e : edgeB c p b = false := by simp [edgeB, h73]
           simp [edgeL, e, hn]; done)
        | (have e : edgeB c p b = true := by simp only [edgeB, h73, hm, hk, Bool.not_false, Bool.and_true, Bool.not_eq_true', decide_eq_false_iff_not]; omega
           simp [-List.map_set, edgeL, e, hn, hto]; done)
    · replace h31 := of_decide_eq_false h31
      have hm1 : m = 1 := by omega
      have h0 : 0 ≤ rdI p.edges 0 := by omega
      have h1 : rdI p.edges 0 < k := by omega
      have hG := hE (rdI c.edges (rdI p.edges 0)) (rdI_mem h0 (by omega))
      rw [hn] at hG
      have hf : 0 ≤ fr ∧ fr < n ∧ 0 ≤ to ∧ to < n := by subst hfr; subst hto; split <;> omega
      obtain ⟨hf1, hf2, hf3, hf4⟩ := hf
      have hf5 : fr < (n : Int) + k := by omega
      have hf6 : to < (n : Int) + k := by omega
      have hf7 : fr.toNat < n + k := by omega
      have hf8 : to.toNat < n + k := by omega
      have hf9 : ((n : Int) + rdI p.edges 0).toNat < n + k := by omega
      have hf0 : 0 ≤ (n : Int) + rdI p.edges 0 := by omega
      have hfa : (n : Int) + rdI p.edges 0 < n + k := by omega
      have hw := wrap_id (n := (n : Int) + rdI p.edges 0) (by omega) (by omega)
      refine Run.skip ?_
      simp only [Then_normal]
      refine Run.cut [7, 32, 33, 34, 35, 36, 37, 38, 39, 40] [(7, .pt 800 0 0 0)] [(0, .data 1 (b.map encB)), (400, .vals ((encC c ++ [D.int c.nodes.length]).map .d)), (500, .vals ((encP p).map .d)), (800, .vals ((encE (rdI c.edges (rdI p.edges 0))).map .d))] ?_ ?_
      · refine opsF [⟨Op.fieldAddr 86 (Operand.tmp 3) 0, some 32, none⟩, ⟨Op.fieldAddr 33 (Operand.tmp 32) 1, some 33, none⟩, ⟨Op.load 29 (Operand.tmp 33), some 34, none⟩, ⟨Op.fieldAddr 27 (Operand.tmp 4) 3, some 35, none⟩, ⟨Op.load 24 (Operand.tmp 35), some 36, none⟩, ⟨Op.indexAddr 24 (Operand.tmp 36) (Operand.const (Value.int IntKind.i64 0)), some 37, none⟩, ⟨Op.load 3 (Operand.tmp 37), some 38, none⟩, ⟨Op.indexAddr 29 (Operand.tmp 34) (Operand.tmp 38), some 39, none⟩, ⟨Op.load 105 (Operand.tmp 39), some 40, none⟩, ⟨Op.alloc 105, some 7, none⟩, ⟨Op.store 105 (Operand.tmp 7) (Operand.tmp 40), none, none⟩] fun K hK => ?_
        try simp
        repeat' first | ((refine evL_c ?_); simp [-List.map_set, hm, hk, hn, hb, hfr, hto, hm1, h0, h1, hf1, hf2, hf3, hf5, hf6, hf7, hf8, hf9, hf0, hfa, hw]) | (with_reducible refine And.intro ?_ ?_) | intro _ | (with_reducible assumption) | omega
        all_goals (refine Fin.go hK ?_; clear hK K)
        (try simp [hm, hk, hn, hb, hfr, hto]) <;> (first | omega | (simp; done) | (rw [Bool.eq_iff_iff]; simp only [Bool.or_eq_true, Bool.and_eq_true, Bool.not_eq_true', decide_eq_true_eq, decide_eq_false_iff_not]; omega) | (simp_all; done) | (simp_all; omega) | grind)
      · simp only [over, List.foldl, List.set]
        refine Run.seq ?_
        refine opsF [⟨Op.load 105 (Operand.tmp 7), some 42, none⟩, ⟨Op.fieldAddr 27 (Operand.tmp 4) 4, some 43, none⟩, ⟨Op.load 4 (Operand.tmp 43), some 44, none⟩, ⟨Op.call { callee := Callee.value (Operand.func 92), args := #[Operand.tmp 42, Operand.tmp 44], argTypes := #[105, 4] }, some 45, none⟩, ⟨Op.move (Operand.tmp 45), some 41, none⟩, ⟨Op.extract (Operand.tmp 41) 0, some 46, none⟩, ⟨Op.extract (Operand.tmp 41) 1, some 47, none⟩, ⟨Op.assign (Operand.tmp 46), some 8, none⟩, ⟨Op.assign (Operand.tmp 47), some 9, none⟩] fun K hK => ?_
        try simp
        repeat' first | (refine ecall (ends_ok (rdI c.edges (rdI p.edges 0)) p.back) rfl ?_) | ((refine evL_c ?_); simp [-List.map_set, hm, hk, hn, hb, hfr, hto, hm1, h0, h1, hf1, hf2, hf3, hf5, hf6, hf7, hf8, hf9, hf0, hfa, hw]) | (with_reducible refine And.intro ?_ ?_) | intro _ | (with_reducible assumption) | omega
        all_goals (refine Fin.go hK ?_; clear hK K)
        simp only [Then_normal]
        refine Run.seq ?_
        refine Run.cut [48, 49, 50, 51, 52, 53, 54, 55, 56, 57, 58, 59, 60, 61, 62, 63, 64, 65, 66, 67, 68, 69, 70, 71, 72, 73] [(73, .bool (badEdge c p b))] [(0, .data 1 (b.map encB)), (400, .vals ((encC c ++ [D.int c.nodes.length]).map .d)), (500, .vals ((encP p).map .d)), (800, .vals ((encE (rdI c.edges (rdI p.edges 0))).map .d))] ?_ ?_
        · refine opsF [⟨Op.move (Operand.tmp 2), some 48, none⟩, ⟨Op.fieldAddr 86 (Operand.tmp 3) 1, some 49, none⟩, ⟨Op.load 3 (Operand.tmp 49), some 50, none⟩, ⟨Op.fieldAddr 27 (Operand.tmp 4) 3, some 51, none⟩, ⟨Op.load 24 (Operand.tmp 51), some 52, none⟩, ⟨Op.indexAddr 24 (Operand.tmp 52) (Operand.const (Value.int IntKind.i64 0)), some 53, none⟩, ⟨Op.load 3 (Operand.tmp 53), some 54, none⟩, ⟨Op.binOp BinOp.add 3 (Operand.tmp 50) (Operand.tmp 54) 3, some 55, none⟩, ⟨Op.indexAddr 60 (Operand.tmp 48) (Operand.tmp 55), some 56, none⟩, ⟨Op.load 4 (Operand.tmp 56), some 57, none⟩, ⟨Op.move (Operand.tmp 57), some 58, none⟩, ⟨Op.move (Operand.tmp 2), some 59, some (some 58, false)⟩, ⟨Op.move (Operand.tmp 8), some 60, some (some 58, false)⟩, ⟨Op.indexAddr 60 (Operand.tmp 59) (Operand.tmp 60), some 61, some (some 58, false)⟩, ⟨Op.load 4 (Operand.tmp 61), some 62, some (some 58, false)⟩, ⟨Op.unOp UnOp.not 4 (Operand.tmp 62), some 63, some (some 58, false)⟩, ⟨Op.pick (Operand.tmp 58) (Operand.const (Value.bool true)) (Operand.tmp 63), some 64, none⟩, ⟨Op.move (Operand.tmp 64), some 65, none⟩, ⟨Op.fieldAddr 105 (Operand.tmp 7) 4, some 66, some (some 65, false)⟩, ⟨Op.load 103 (Operand.tmp 66), some 67, some (some 65, false)⟩, ⟨Op.binOp BinOp.eql 103 (Operand.tmp 67) (Operand.const (Value.int IntKind.i64 0)) 103, some 68, some (some 65, false)⟩, ⟨Op.fieldAddr 27 (Operand.tmp 4) 0, some 69, some (some 65, false)⟩, ⟨Op.load 22 (Operand.tmp 69), some 70, some (some 65, false)⟩, ⟨Op.binOp BinOp.eql 22 (Operand.tmp 70) (Operand.const (Value.int IntKind.i64 2)) 22, some 71, some (some 65, false)⟩, ⟨Op.binOp BinOp.neq 4 (Operand.tmp 68) (Operand.tmp 71) 4, some 72, some (some 65, false)⟩, ⟨Op.pick (Operand.tmp 65) (Operand.const (Value.bool true)) (Operand.tmp 72), some 73, none⟩] fun K hK => ?_
          try simp
          repeat' first | ((first | refine evL_c ?_ | (refine evL_g rfl ?_; try simp only [gs_tt, gs_ff, gs_tf, gs_ft]) | refine evL_u rfl ?_ | (with_reducible refine gsplit (fun hg => ?_) (fun hg => ?_) <;> try simp at hg)) <;> try simp [-List.map_set, hm, hk, hn, hb, hfr, hto, hm1, h0, h1, hf1, hf2, hf3, hf5, hf6, hf7, hf8, hf9, hf0, hfa, hw]) | (with_reducible refine And.intro ?_ ?_) | intro _ | (with_reducible assumption) | omega
          all_goals (refine Fin.go hK ?_; clear hK K)
          all_goals
            (try simp [hm, hk, hn, hb, hfr, hto, badEdge]) <;> (first | omega | (simp; done) | (rw [Bool.eq_iff_iff]; simp only [Bool.or_eq_true, Bool.and_eq_true, Bool.not_eq_true', decide_eq_true_eq, decide_eq_false_iff_not]; omega) | (simp_all; done) | (simp_all; omega) | grind)
        · simp only [over, List.foldl, List.set]
          refine Run.cond rfl (fun h73 => ?_) (fun h73 => ?_)
          · try simp at h73
            refine Run.seq ?_
            refine opsF oo1 fun K hK => ?_
            try simp
            repeat' first | ((refine evL_c ?_); simp [-List.map_set, hm, hk, hn, hb, hfr, hto, hm1, h0, h1, hf1, hf2, hf3, hf5, hf6, hf7, hf8, hf9, hf0, hfa, hw]) | (with_reducible refine And.intro ?_ ?_) | intro _ | (with_reducible assumption) | omega
            all_goals (refine Fin.go hK ?_; clear hK K)
            simp only [Then_normal]
            refine Run.ret ?_
            try simp only [Then_ret, Blok_ret]
            first
              | (have e : edgeB c p b = false := by simp [edgeB, hm, hk, h31]
                 simp [edgeL, e, hn]; done)
              | (have e : edgeB c p b = false := by simp [edgeB, h73]
                 simp [edgeL, e, hn]; done)
              | (have e : edgeB c p b = true := by simp only [edgeB, h73, hm, hk, Bool.not_false, Bool.and_true, Bool.not_eq_true', decide_eq_false_iff_not]; omega
                 simp [-List.map_set, edgeL, e, hn, hto]; done)
          · try simp at h73
            refine Run.skip ?_
            simp only [Then_normal]
            refine Run.seq ?_
            refine opsF [⟨Op.move (Operand.tmp 2), some 74, none⟩, ⟨Op.fieldAddr 86 (Operand.tmp 3) 1, some 75, none⟩, ⟨Op.load 3 (Operand.tmp 75), some 76, none⟩, ⟨Op.fieldAddr 27 (Operand.tmp 4) 3, some 77, none⟩, ⟨Op.load 24 (Operand.tmp 77), some 78, none⟩, ⟨Op.indexAddr 24 (Operand.tmp 78) (Operand.const (Value.int IntKind.i64 0)), some 79, none⟩, ⟨Op.load 3 (Operand.tmp 79), some 80, none⟩, ⟨Op.binOp BinOp.add 3 (Operand.tmp 76) (Operand.tmp 80) 3, some 81, none⟩, ⟨Op.move (Operand.tmp 2), some 82, none⟩, ⟨Op.move (Operand.tmp 9), some 83, none⟩, ⟨Op.indexAddr 60 (Operand.tmp 74) (Operand.tmp 81), some 84, none⟩, ⟨Op.store 4 (Operand.tmp 84) (Operand.const (Value.bool true)), none, none⟩, ⟨Op.indexAddr 60 (Operand.tmp 82) (Operand.tmp 83), some 85, none⟩, ⟨Op.store 4 (Operand.tmp 85) (Operand.const (Value.bool true)), none, none⟩] fun K hK => ?_
            try simp
            repeat' first | ((refine evL_c ?_); simp [-List.map_set, hm, hk, hn, hb, hfr, hto, hm1, h0, h1, hf1, hf2, hf3, hf5, hf6, hf7, hf8, hf9, hf0, hfa, hw]) | (with_reducible refine And.intro ?_ ?_) | intro _ | (with_reducible assumption) | omega
            all_goals (refine Fin.go hK ?_; clear hK K)
            simp only [Then_normal]
            refine Run.seq ?_
            refine opsF oo2 fun K hK => ?_
            try simp
            repeat' first | ((refine evL_c ?_); simp [-List.map_set, hm, hk, hn, hb, hfr, hto, hm1, h0, h1, hf1, hf2, hf3, hf5, hf6, hf7, hf8, hf9, hf0, hfa, hw]) | (with_reducible refine And.intro ?_ ?_) | intro _ | (with_reducible assumption) | omega
            all_goals (refine Fin.go hK ?_; clear hK K)
            simp only [Then_normal]
            refine Run.ret ?_
            try simp only [Then_ret, Blok_ret]
            first
              | (have e : edgeB c p b = false := by simp [edgeB, hm, hk, h31]
                 simp [edgeL, e, hn]; done)
              | (have e : edgeB c p b = false := by simp [edgeB, h73]
                 simp [edgeL, e, hn]; done)
              | (have e : edgeB c p b = true := by simp only [edgeB, h73, hm, hk, Bool.not_false, Bool.and_true, Bool.not_eq_true', decide_eq_false_iff_not]; omega
                 simp [-List.map_set, edgeL, e, hn, hto]; done)


end Go.Proofs.Ytihbejpkfifplaa.Z
end
section
namespace Go.Proofs.Ytihbejpkfifplaa.Z
open Go Go.Fw
theorem put_ints {w w' : World} {X : Nat → Prop} {m : Nat → Option Nat} {b : Nat} {cs : Array Value} {ty : TypeId} {fr : Nat × Nat} {l ts : List Int} (hm : m 0 = some b) (hcs : w.heap[b]? = some (.cells cs ty fr)) (hfree : Free fr cs.size) (hlen : l.length ≤ cs.size)
    (hX : ∀ x, X x → x < w.heap.size ∧ ¬ Own m [(0, .data 1 (l.map encI))] x) (hg : w.grownBy w' (some b)) (hw' : w'.heap[b]? = some (.cells (Go.Sort.putCells (Value.int .i64) 0 ts.toArray cs) ty fr)) (hts : ts.length = l.length) (hok : ∀ x ∈ ts, okLit (.int .i64 x) = true) :
    Ext (Own m [(0, .data 1 (l.map encI))]) w w' ∧ SRel w' X m [(0, .data 1 (ts.map encI))] ∧ ∀ r : Nat, r = b → Own m [(0, .data 1 (l.map encI))] r := by
  have hown : ∀ r : Nat, r = b → Own m [(0, .data 1 (l.map encI))] r := fun r e => ⟨0, _, rfl, by rw [e]; exact hm⟩
  have hsz : (Go.Sort.putCells (Value.int .i64) 0 ts.toArray cs).size = cs.size := by simp [Go.Sort.putCells]
  refine ⟨⟨hg.os, hg.tape, hg.output, hg.size, fun r hr hn => hg.block r hr (fun e => hn (hown r (Option.some.inj e))), fun r c t f hc => ?_⟩, ⟨fun id blk hi => ?_, fun i j r h1 h2 h3 h4 => ?_⟩, hown⟩
  · by_cases e : r = b
    · subst e
      rw [hcs] at hc
      obtain ⟨rfl, rfl, rfl⟩ := Obj.cells.inj (Option.some.inj hc)
      exact ⟨_, hw', hsz⟩
    · have hlt : r < w.heap.size := (Array.getElem?_eq_some_iff.1 hc).1
      exact ⟨c, by rw [hg.block r hlt (fun q => e (Option.some.inj q))]; exact hc, rfl⟩
  · have hi0 : id = 0 ∧ blk = .data 1 (ts.map encI) := by
      simp only [getB] at hi
      split at hi
      · rename_i e; exact ⟨e.symm, (Option.some.inj hi).symm⟩
      · cases hi
    obtain ⟨rfl, rfl⟩ := hi0
    refine .inl ⟨b, hm, _, ty, fr, hw', by rw [hsz]; exact hfree, by rw [hsz, List.length_map]; omega, fun r hr => ?_, fun i j r x hr hx => ?_⟩
    · obtain ⟨v, _, rfl⟩ := List.mem_map.1 hr; rfl
    · rw [List.getElem?_map] at hr
      obtain ⟨v, hv, rfl⟩ := Option.map_eq_some_iff.1 hr
      have hlt := (List.getElem?_eq_some_iff.1 hv).1
      have hj : j = 0 ∧ x = D.int v := by
        cases j with
        | zero => simp at hx; exact ⟨rfl, hx.symm⟩
        | succ j => simp at hx
      obtain ⟨rfl, rfl⟩ := hj
      refine ⟨.int .i64 v, ?_, rfl, .lit _ (hok v (List.mem_of_getElem? hv))⟩
      have hc : i < cs.size := by omega
      simp only [Nat.mul_one, Nat.add_zero, Go.Sort.putCells, Array.getElem?_mapIdx, Array.getElem?_eq_getElem hc, Option.map_some]
      rw [if_pos ⟨Nat.zero_le _, by simpa using hlt⟩]
      simp [hlt, (List.getElem?_eq_some_iff.1 hv).2]
  · have q : ∀ k, (getB [(0, Blk.data 1 (ts.map encI))] k).isSome = true → k = 0 := fun k hk => by
      simp only [getB] at hk
      split at hk
      · rename_i e; exact e.symm
      · cases hk
    rw [q i h3, q j h4]
/-- a row that a call is given, as the kit's contracts read it -/
theorem row_in {w : World} {X : Nat → Prop} {m : Nat → Option Nat} {l : List Int} {v : Value} (hS : SRel w X m [(0, .data 1 (l.map encI))]) (hv : VRel w (Live X m [(0, .data 1 (l.map encI))]) m (.rs 0 1 0 l.length) v) (hl : 0 < l.length) :
    ∃ b cap cs ty fr, v = .slice (some ⟨b, 0, none⟩) l.length cap ∧ m 0 = some b ∧ l.length ≤ cap ∧ cap ≤ cs.size ∧ w.heap[b]? = some (.cells cs ty fr) ∧ Free fr cs.size ∧ Go.Sort.Holds (Value.int .i64) w b 0 l.toArray ∧ ∀ x ∈ l, okLit (.int .i64 x) = true := by
  generalize hn : l.length = n at hv
  cases hv with
  | rsE => omega
  | rs id sz off len cap b cs ty fr hm hc hx hh hs =>
    rcases hS.blk 0 _ rfl with ⟨b', h1, cs', ty', fr', h2, h3, h4, h5, h6⟩ | ⟨h1, _⟩
    · rw [hm] at h1
      obtain rfl := Option.some.inj h1
      rw [hh] at h2
      obtain ⟨rfl, rfl, rfl⟩ := Obj.cells.inj (Option.some.inj h2)
      have hcell : ∀ j (hj : j < l.length), cs[j]? = some (.int .i64 l[j]) ∧ okLit (.int .i64 l[j]) = true := fun j hj => by
        obtain ⟨v, q1, q2, q3⟩ := h6 j 0 (encI l[j]) (D.int l[j]) (by simp [hj]) (by simp)
        cases q3 with
        | lit _ h => exact ⟨by simpa using q1, h⟩
      refine ⟨b, cap, cs, ty, fr, rfl, hm, by omega, by omega, hh, h3, fun j hj => ?_, fun x hx => ?_⟩
      · have hj' : j < l.length := by simpa using hj
        refine ⟨?_, ?_⟩
        · simp only [World.cell?, hh, Nat.zero_add]
          simp only [Option.isSome_none, Bool.false_eq_true, if_false]
          rw [(hcell j hj').1]
          simp [hj']
        · have hlt : j < cs.size := by
            have := (hcell j hj').1
            exact (Array.getElem?_eq_some_iff.1 this).1
          have := h3 j hlt
          simp only [World.frozen?, hh, Nat.zero_add]
          simpa using this
      · obtain ⟨j, hj⟩ := List.getElem?_of_mem hx
        have hlt := (List.getElem?_eq_some_iff.1 hj).1
        have := (hcell j hlt).2
        rw [(List.getElem?_eq_some_iff.1 hj).2] at this
        exact this
    · rw [hm] at h1; cases h1
theorem keep_nil {w : World} {X : Nat → Prop} {m : Nat → Option Nat} {s : Store} : Ext (Own m s) w w := ⟨rfl, rfl, rfl, Nat.le_refl _, fun _ _ _ => rfl, fun _ c _ _ h => ⟨c, h, rfl⟩⟩
theorem sort_ok (l : List Int) (hl : l.length < 4611686018427387904) : SndW P 98 [.rs 0 1 0 l.length] [(0, .data 1 (l.map encI))] (.tup []) [(0, .data 1 ((l.mergeSort fun x y => decide (x ≤ y)).map encI))] := by
  refine ⟨by kernel_rfl, fun w X m0 vs hX hS hargs => ?_⟩
  obtain ⟨v, tl, rfl, hv, ht⟩ := hargs.head
  have : tl = [] := by have := ht.len; simpa using this
  subst this
  by_cases hp : 0 < l.length
  · obtain ⟨b, cap, cs, ty, fr, rfl, hm, hc, hcs, hh, hf, hH, hk⟩ := row_in hS hv hp
    have hb : b < w.heap.size := (Array.getElem?_eq_some_iff.1 hh).1
    refine (Go.Proofs.Try.slices_Sort_int b 0 cap l w hH hb hl).mono ?_
    rintro e w' ⟨rfl, n, os, rfl⟩
    obtain ⟨h1, h2, h3⟩ := put_ints (ts := l.mergeSort fun x y => decide (x ≤ y)) hm hh hf (by omega) hX (grownBy_sortedI _) (heap_sortedI _ hh) (by simp) (fun x hx => hk x (by simpa using hx))
    refine ⟨_, m0, rfl, h1, .tup [] [] rfl (fun j x v h => by simp at h), h2, fun r hr => ?_, fun j _ _ => rfl⟩
    obtain ⟨i, blk, g1, g2⟩ := hr
    simp only [getB] at g1
    split at g1
    · rename_i e; subst e; rw [hm] at g2; exact .inl (h3 r (Option.some.inj g2).symm)
    · cases g1
  · obtain rfl : l = [] := by cases l with
      | nil => rfl
      | cons _ _ => simp at hp
    obtain ⟨A, cap, rfl⟩ : ∃ A cap, v = .slice A 0 cap := by
      generalize hn : ([] : List Int).length = n at hv
      cases hv with
      | rsE => exact ⟨_, _, rfl⟩
      | rs => simp at hn; subst hn; exact ⟨_, _, rfl⟩
    refine (Go.Proofs.Try.slices_Sort_int_none A cap w).mono ?_
    rintro e w' ⟨rfl, rfl⟩
    refine ⟨_, m0, rfl, keep_nil (X := X), .tup [] [] rfl (fun j x v h => by simp at h), by simpa using hS, fun r hr => .inl (by simpa using hr), fun j _ _ => rfl⟩
theorem compact_mem {l : List Int} {x : Int} (h : x ∈ Go.Lib.compact l) : x ∈ l := by
  unfold Go.Lib.compact Go.Lib.compactUpTo at h
  obtain ⟨j, hj, rfl⟩ := List.mem_map.1 h
  have hlt : j < l.length := by have := (List.mem_filter.1 hj).1; simpa using this
  simp [hlt]
theorem compact_ok (l : List Int) (hl : l.length ≤ 9223372036854775807) : SndW P 99 [.rs 0 1 0 l.length] [(0, .data 1 (l.map encI))] (.rs 0 1 0 (Go.Lib.compact l).length) [(0, .data 1 ((Go.Lib.compact l ++ List.replicate (l.length - (Go.Lib.compact l).length) 0).map encI))] := by
  refine ⟨by kernel_rfl, fun w X m0 vs hX hS hargs => ?_⟩
  obtain ⟨v, tl, rfl, hv, ht⟩ := hargs.head
  have : tl = [] := by have := ht.len; simpa using this
  subst this
  by_cases hp : 0 < l.length
  · obtain ⟨b, cap, cs, ty, fr, rfl, hm, hc, hcs, hh, hf, hH, hk⟩ := row_in hS hv hp
    have hb : b < w.heap.size := (Array.getElem?_eq_some_iff.1 hh).1
    have hcl := Go.Lib.compact_length_le l
    refine (Go.Proofs.Try.slices_Compact_int b 0 cap l w hH hl hc).mono ?_
    rintro e w' ⟨rfl, q, rfl⟩
    have g1 := grownBy_sortedI (w := w) (g := b) (n := q) (os := #[]) (Go.Lib.compact l ++ List.replicate (l.length - (Go.Lib.compact l).length) 0).toArray
    have g2 := heap_sortedI (n := q) (os := #[]) (Go.Lib.compact l ++ List.replicate (l.length - (Go.Lib.compact l).length) 0).toArray hh
    rw [Go.Sort.grow_empty] at g1 g2
    obtain ⟨h1, h2, h3⟩ := put_ints (ts := Go.Lib.compact l ++ List.replicate (l.length - (Go.Lib.compact l).length) 0) hm hh hf (by omega) hX g1 g2 (by simp; omega) (fun x hx => by
      rcases List.mem_append.1 hx with hx | hx
      · exact hk x (compact_mem hx)
      · rw [(List.mem_replicate.1 hx).2]; rfl)
    have hsz : (Go.Sort.putCells (Value.int .i64) 0 (Go.Lib.compact l ++ List.replicate (l.length - (Go.Lib.compact l).length) 0).toArray cs).size = cs.size := by simp [Go.Sort.putCells]
    refine ⟨_, m0, rfl, h1, VRel.rs 0 1 0 _ cap b _ ty fr hm (by omega) (by omega) g2 (by rw [hsz]; omega), h2, fun r hr => ?_, fun j _ _ => rfl⟩
    obtain ⟨i, blk, g1, g2⟩ := hr
    simp only [getB] at g1
    split at g1
    · rename_i e; subst e; rw [hm] at g2; exact .inl (h3 r (Option.some.inj g2).symm)
    · cases g1
  · obtain rfl : l = [] := by cases l with
      | nil => rfl
      | cons _ _ => simp at hp
    obtain ⟨A, cap, rfl⟩ : ∃ A cap, v = .slice A 0 cap := by
      generalize hn : ([] : List Int).length = n at hv
      cases hv with
      | rsE => exact ⟨_, _, rfl⟩
      | rs => simp at hn; subst hn; exact ⟨_, _, rfl⟩
    refine (Go.Proofs.Try.slices_Compact_int_empty A cap w).mono ?_
    rintro e w' ⟨rfl, rfl⟩
    exact ⟨_, m0, rfl, keep_nil (X := X), hv, hS, fun r hr => .inl hr, fun j _ _ => rfl⟩
end Go.Proofs.Ytihbejpkfifplaa.Z
end
section
set_option maxRecDepth 100000
namespace Go.Proofs.Ytihbejpkfifplaa.Z
open Go Go.Fw
mutual
def slotsT : TermT → List Int
  | .mk op kids sl _ _ => Go.Lib.compact (((if op = 2 ∨ op = 3 then [sl] else []) ++ slotsL kids).mergeSort fun x y => decide (x ≤ y))
def slotsL : List TermT → List Int
  | [] => []
  | t :: r => slotsT t ++ slotsL r
end
mutual
def cntT : TermT → Nat
  | .mk _ kids _ _ _ => 1 + cntL kids
def cntL : List TermT → Nat
  | [] => 0
  | t :: r => cntT t + cntL r
end
def own1 (op sl : Int) : List Int := if op = 2 ∨ op = 3 then [sl] else []
theorem own1_len (op sl : Int) : (own1 op sl).length ≤ 1 := by unfold own1; split <;> simp
theorem slotsT_eq (t : TermT) : slotsT t = Go.Lib.compact ((own1 t.op t.slot ++ slotsL t.kids).mergeSort fun x y => decide (x ≤ y)) := by cases t; rw [slotsT]; rfl
theorem cntT_eq (t : TermT) : cntT t = 1 + cntL t.kids := by cases t; rw [cntT]; rfl
theorem slotsL_app (a b : List TermT) : slotsL (a ++ b) = slotsL a ++ slotsL b := by
  induction a with
  | nil => rfl
  | cons x r ih => rw [List.cons_append, slotsL, slotsL, ih, List.append_assoc]
theorem cntL_app (a b : List TermT) : cntL (a ++ b) = cntL a + cntL b := by
  induction a with
  | nil => simp [cntL]
  | cons x r ih => rw [List.cons_append, cntL, cntL, ih]; omega
mutual
theorem slotsT_len : ∀ t : TermT, (slotsT t).length ≤ cntT t
  | .mk op kids sl nm v => by
    have h := slotsL_len kids
    have h1 := own1_len op sl
    have h2 := Go.Lib.compact_length_le ((own1 op sl ++ slotsL kids).mergeSort fun x y => decide (x ≤ y))
    rw [slotsT_eq, cntT_eq]
    simp only [List.length_mergeSort, List.length_append] at h2
    exact Nat.le_trans h2 (by show _ ≤ 1 + cntL kids; omega)
theorem slotsL_len : ∀ l : List TermT, (slotsL l).length ≤ cntL l
  | [] => by simp [slotsL]
  | t :: r => by
    have h1 := slotsT_len t
    have h2 := slotsL_len r
    rw [slotsL, cntL, List.length_append]
    omega
end
theorem take_rd {α : Type} [Inhabited α] {l : List α} {k : Nat} (h : k < l.length) : l.take (k + 1) = l.take k ++ [rdI l k] := by
  rw [List.take_succ_eq_append_getElem h]
  simp [rdI, List.getD_eq_getElem?_getD, h]
theorem cntL_take (l : List TermT) (k : Nat) : cntL (l.take k) ≤ cntL l := by
  have h := cntL_app (l.take k) (l.drop k)
  rw [List.take_append_drop] at h
  omega
theorem cnt_kid {t : TermT} {i : Nat} (h : i < t.kids.length) : cntT (rdI t.kids i) + cntL (t.kids.take i) + 1 ≤ cntT t := by
  have h1 := cntL_take t.kids (i + 1)
  rw [take_rd h, cntL_app, cntL, cntL] at h1
  have := cntT_eq t; omega
/-- the slots ahead of a kid -/
def acc (t : TermT) (i : Nat) : List Int := own1 t.op t.slot ++ slotsL (t.kids.take i)
theorem acc_zero (t : TermT) : acc t 0 = own1 t.op t.slot := by simp [acc, slotsL]
theorem acc_succ {t : TermT} {i : Nat} (h : i < t.kids.length) : acc t (i + 1) = acc t i ++ slotsT (rdI t.kids i) := by
  unfold acc
  rw [take_rd h, slotsL_app, ← List.append_assoc, slotsL, slotsL, List.append_nil]
theorem acc_len (t : TermT) (i : Nat) : (acc t i).length ≤ 1 + cntL (t.kids.take i) := by
  have h1 := own1_len t.op t.slot
  have h2 := slotsL_len (t.kids.take i)
  unfold acc
  rw [List.length_append]; omega
theorem acc_all {t : TermT} {i : Nat} (h : t.kids.length ≤ i) : slotsT t = Go.Lib.compact ((acc t i).mergeSort fun x y => decide (x ≤ y)) := by
  rw [acc, List.take_of_length_le h, slotsT_eq]
theorem kidT_lt {p q : TermT} (h : q ∈ p.kids) : SizeOf.sizeOf q < SizeOf.sizeOf p := by
  cases p with
  | mk o k s e b =>
    have := List.sizeOf_lt_of_mem (show q ∈ k from h)
    simp only [TermT.mk.sizeOf_spec]
    omega
theorem encT_ok {p : TermT} (h : (D.ag (encT p)).ok) : p.kids.length ≤ 9223372036854775807 := by
  rw [encT_cells] at h
  simp only [D.ok, D.okL, List.length_map] at h
  exact h.2.1.1
set_option maxHeartbeats 4000000 in
theorem slots1_ok (t : TermT) (ht : cntT t ≤ 1000000) (IH : ∀ i : Nat, i < t.kids.length → Snd P 94 [.d (.ag (encT (rdI t.kids i)))] (.d (.sl false ((slotsT (rdI t.kids i)).map encI))) []) : Snd P 94 [.d (.ag (encT t))] (.d (.sl false ((slotsT t).map encI))) [] := by
  refine Snd.ok 0 rfl (by kernel_rfl) fun hok => ?_
  have hkm := encT_ok hok
  clear hok
  obtain ⟨m, hm⟩ : ∃ m, t.kids.length = m := ⟨_, rfl⟩
  rw [hm] at hkm
  obtain ⟨ow, how⟩ : ∃ o, own1 t.op t.slot = o := ⟨_, rfl⟩
  have how1 : ow.length ≤ 1 := by rw [← how]; exact own1_len _ _
  refine snd_of [] Try.func94 rfl (by kernel_rfl) Try.ntmps94 (by simp) ?_
  unfold Try.f94
  simp only [List.cons_append, List.nil_append, List.length_cons, List.length_nil, Nat.reduceAdd, Nat.reduceSub, List.replicate]
  refine Run.seq ?_
  refine opsF oo3 fun K hK => ?_
  try simp
  repeat' first | ((refine evL_c ?_); simp [hm]) | (with_reducible refine And.intro ?_ ?_) | intro _ | (with_reducible assumption) | omega
  all_goals (refine Fin.go hK ?_; clear hK K)
  simp only [Then_normal]
  refine Run.seq ?_
  refine opsF oo4 fun K hK => ?_
  try simp
  repeat' first | ((refine evL_c ?_); simp [hm]) | (with_reducible refine And.intro ?_ ?_) | intro _ | (with_reducible assumption) | omega
  all_goals (refine Fin.go hK ?_; clear hK K)
  simp only [Then_normal]
  refine Run.cut [3, 6, 7, 8, 9, 10, 11, 12, 13, 14, 15, 16, 17, 18] [(3, .rs 1900 1 0 ow.length)] [(200, .vals ((encT t).map .d)), (1900, .data 1 (ow.map encI))] ?_ ?_
  · refine Run.cut [6, 7, 8, 9, 10, 11, 12, 13] [(13, .bool (decide (t.op = 2 ∨ t.op = 3)))] [(200, .vals ((encT t).map .d))] ?_ ?_
    · refine opsF [⟨Op.fieldAddr 70 (Operand.tmp 1) 0, some 6, none⟩, ⟨Op.load 65 (Operand.tmp 6), some 7, none⟩, ⟨Op.binOp BinOp.eql 65 (Operand.tmp 7) (Operand.const (Value.int IntKind.i64 2)) 65, some 8, none⟩, ⟨Op.move (Operand.tmp 8), some 9, none⟩, ⟨Op.fieldAddr 70 (Operand.tmp 1) 0, some 10, some (some 9, false)⟩, ⟨Op.load 65 (Operand.tmp 10), some 11, some (some 9, false)⟩, ⟨Op.binOp BinOp.eql 65 (Operand.tmp 11) (Operand.const (Value.int IntKind.i64 3)) 65, some 12, some (some 9, false)⟩, ⟨Op.pick (Operand.tmp 9) (Operand.const (Value.bool true)) (Operand.tmp 12), some 13, none⟩] fun K hK => ?_
      try simp
      repeat' first | ((first | refine evL_c ?_ | (refine evL_g rfl ?_; try simp only [gs_tt, gs_ff, gs_tf, gs_ft]) | refine evL_u rfl ?_ | (with_reducible refine gsplit (fun hg => ?_) (fun hg => ?_) <;> try simp at hg)) <;> try simp [hm]) | (with_reducible refine And.intro ?_ ?_) | intro _ | (with_reducible assumption) | omega
      all_goals (refine Fin.go hK ?_; clear hK K)
      all_goals
        (try simp [*]) <;> (first | omega | (simp; done) | grind)
    · simp only [over, List.foldl, List.set]
      refine Run.cond rfl (fun h13 => ?_) (fun h13 => ?_)
      · have ho : ow = [t.slot] := by rw [← how, own1, if_pos (of_decide_eq_true h13)]
        refine opsF [⟨Op.move (Operand.tmp 3), some 14, none⟩, ⟨Op.fieldAddr 70 (Operand.tmp 1) 2, some 15, none⟩, ⟨Op.load 3 (Operand.tmp 15), some 16, none⟩, ⟨Op.buildSlice 24 1 #[(0, Operand.tmp 16)], some 17, none⟩, ⟨Op.call { callee := Callee.builtin Builtin.append, args := #[Operand.tmp 14, Operand.tmp 17], argTypes := #[24, 24] }, some 18, none⟩, ⟨Op.assign (Operand.tmp 18), some 3, none⟩] fun K hK => ?_
        try simp
        repeat' first | ((refine evL_c ?_); simp [hm]) | (with_reducible refine And.intro ?_ ?_) | intro _ | (with_reducible assumption) | omega
        all_goals (refine Fin.go hK ?_; clear hK K)
        simp [ho]
      · have ho : ow = [] := by rw [← how, own1, if_neg (of_decide_eq_false h13)]
        refine Run.virt 3 1900 1 (by omega) (.inl rfl) ?_ rfl
        refine Run.skip ?_
        simp [ho]
  · simp only [over, List.foldl, List.set]
    refine Run.seq ?_
    refine Run.seq ?_
    refine opsF [⟨Op.fieldAddr 70 (Operand.tmp 1) 1, some 19, none⟩, ⟨Op.load 25 (Operand.tmp 19), some 20, none⟩, ⟨Op.call { callee := Callee.builtin Builtin.len, args := #[Operand.tmp 20], argTypes := #[25] }, some 21, none⟩, ⟨Op.move (Operand.const (Value.int IntKind.i64 0)), some 22, none⟩] fun K hK => ?_
    try simp
    repeat' first | ((refine evL_c ?_); simp [hm]) | (with_reducible refine And.intro ?_ ?_) | intro _ | (with_reducible assumption) | omega
    all_goals (refine Fin.go hK ?_; clear hK K)
    simp only [Then_normal]
    refine Run.block ?_
    refine Run.loopO [3, 5, 22, 23, 24, 25, 26, 27, 28, 29, 30] (fun (i : Nat) => [(22, .int i), (3, .rs 1900 1 0 (acc t i).length)]) (fun (i : Nat) => [(200, .vals ((encT t).map .d)), (1900, .data 1 ((acc t i).map encI))]) (fun (i : Nat) => i ≤ m) (fun (i : Nat) => m - i) 0 (by omega) (by simp [acc_zero, how]) fun i hi => ?_
    simp only [over, List.foldl, List.set]
    obtain ⟨ac, hac⟩ : ∃ o, acc t i = o := ⟨_, rfl⟩
    refine Run.seq ?_
    refine opsF [⟨Op.binOp BinOp.lss 3 (Operand.tmp 22) (Operand.tmp 21) 3, some 23, none⟩] fun K hK => ?_
    try simp
    repeat' first | ((refine evL_c ?_); simp [hm]) | (with_reducible refine And.intro ?_ ?_) | intro _ | (with_reducible assumption) | omega
    all_goals (refine Fin.go hK ?_; clear hK K)
    simp only [Then_normal]
    refine Run.seq ?_
    refine Run.cond rfl (fun h23 => ?_) (fun h23 => ?_)
    · try simp [hac] at h23
      have hi1 : i < m := by omega
      have hc := cnt_kid (t := t) (i := i) (by omega)
      have hl1 := slotsT_len (rdI t.kids i)
      have hl2 := acc_len t i
      rw [hac] at hl2
      obtain ⟨l1, hl1e⟩ : ∃ x, (slotsT (rdI t.kids i)).length = x := ⟨_, rfl⟩
      obtain ⟨l2, hl2e⟩ : ∃ x, ac.length = x := ⟨_, rfl⟩
      have hl3 : l2 ≤ 1000000 := by omega
      have hl4 : l1 ≤ 1000000 := by omega
      have htk : (ac.map encI).take l2 = ac.map encI := by rw [List.take_of_length_le]; simp [hl2e]
      refine Run.skip ?_
      simp only [Then_normal]
      refine Run.seq ?_
      refine Run.block ?_
      refine Run.seq ?_
      refine opsF [⟨Op.indexAddr 25 (Operand.tmp 20) (Operand.tmp 22), some 24, none⟩, ⟨Op.load 70 (Operand.tmp 24), some 25, none⟩, ⟨Op.alloc 70, some 5, none⟩, ⟨Op.store 70 (Operand.tmp 5) (Operand.tmp 25), none, none⟩] fun K hK => ?_
      try simp
      repeat' first | ((refine evL_c ?_); simp [hm, hac, hl1e, hl2e, hi1, htk]) | (with_reducible refine And.intro ?_ ?_) | intro _ | (with_reducible assumption) | omega
      all_goals (refine Fin.go hK ?_; clear hK K)
      simp only [Then_normal]
      refine opsF [⟨Op.move (Operand.tmp 3), some 26, none⟩, ⟨Op.load 70 (Operand.tmp 5), some 27, none⟩, ⟨Op.call { callee := Callee.value (Operand.func 94), args := #[Operand.tmp 27], argTypes := #[70] }, some 28, none⟩, ⟨Op.call { callee := Callee.builtin Builtin.append, args := #[Operand.tmp 26, Operand.tmp 28], argTypes := #[24, 24] }, some 29, none⟩, ⟨Op.assign (Operand.tmp 29), some 3, none⟩] fun K hK => ?_
      try simp
      repeat' first | (refine ecallD (by have h := IH i (by omega); rw [encT_cells] at h; exact h) ?_) | ((refine evL_c ?_); simp [hm, hac, hl1e, hl2e, hi1, htk]) | (with_reducible refine And.intro ?_ ?_) | intro _ | (with_reducible assumption) | omega
      all_goals (refine Fin.go hK ?_; clear hK K)
      simp only [Blok_normal]
      simp only [Then_normal]
      refine Run.ren 3000 1900 (by omega) (by omega) (by simp) (by simp) ?_
      refine opsF [⟨Op.binOp BinOp.add 3 (Operand.tmp 22) (Operand.const (Value.int IntKind.i64 1)) 3, some 30, none⟩, ⟨Op.move (Operand.tmp 30), some 22, none⟩] fun K hK => ?_
      try simp
      repeat' first | ((refine evL_c ?_); simp [hm, hac, hl1e, hl2e, hi1, htk]) | (with_reducible refine And.intro ?_ ?_) | intro _ | (with_reducible assumption) | omega
      all_goals (refine Fin.go hK ?_; clear hK K)
      have hs := acc_succ (t := t) (i := i) (by omega)
      rw [hac] at hs
      refine ⟨i + 1, by omega, by omega, ?_⟩
      simp (disch := omega) [hm, wrap_id, hs, hac, hl1e, hl2e, htk]
    · try simp [hac] at h23
      have hl2 := acc_len t i
      have hl5 := cntL_take t.kids i
      rw [cntT_eq] at ht
      rw [hac] at hl2
      have hl3 : ac.length ≤ 1000000 := by omega
      have hst := acc_all (t := t) (i := i) (by omega)
      rw [hac] at hst
      obtain ⟨so, hso⟩ : ∃ s, (ac.mergeSort fun x y => decide (x ≤ y)) = s := ⟨_, rfl⟩
      have hsl : so.length = ac.length := by rw [← hso]; simp
      rw [hso] at hst
      have hsc := Go.Lib.compact_length_le so
      have hS := sort_ok ac (by omega)
      rw [hso] at hS
      have hC := compact_ok so (by omega)
      rw [← hst] at hC hsc
      obtain ⟨l2, hl2e⟩ : ∃ x, ac.length = x := ⟨_, rfl⟩
      rw [hl2e] at hS hsl
      obtain ⟨sl, hsle⟩ : ∃ x, slotsT t = x := ⟨_, rfl⟩
      rw [hsle] at hC hsc
      obtain ⟨l3, hl3e⟩ : ∃ x, sl.length = x := ⟨_, rfl⟩
      rw [hl3e, hsl] at hC hsc
      refine Run.exit ?_
      simp (decide := true) only [Then_exit, Blok_exit, if_true, if_false]
      simp only [Then_normal]
      refine Run.seq ?_
      refine opsT [⟨Op.move (Operand.tmp 3), some 31, none⟩, ⟨Op.call { callee := Callee.value (Operand.func 98), args := #[Operand.tmp 31], argTypes := #[24] }, some 32, none⟩] fun K hK => ?_
      try simp
      repeat' first | (refine ecallW [1900] hS (by simp) (by simp) (by simp) ?_) | ((refine evL_c ?_); simp [hm, hac, hl2e, hsl, hl3e, hsc]) | (with_reducible refine And.intro ?_ ?_) | intro _ | (with_reducible assumption) | omega
      all_goals (refine Fin.go hK ?_; clear hK K)
      simp only [Then_normal]
      refine Run.seq ?_
      refine opsT [⟨Op.move (Operand.tmp 3), some 33, none⟩, ⟨Op.call { callee := Callee.value (Operand.func 99), args := #[Operand.tmp 33], argTypes := #[24] }, some 34, none⟩, ⟨Op.assign (Operand.tmp 34), some 2, none⟩] fun K hK => ?_
      try simp
      repeat' first | (refine ecallW [1900] hC (by simp) (by simp) (by simp) ?_) | ((refine evL_c ?_); simp [hm, hac, hl2e, hsl, hl3e, hsc]) | (with_reducible refine And.intro ?_ ?_) | intro _ | (with_reducible assumption) | omega
      all_goals (refine Fin.go hK ?_; clear hK K)
      simp only [Then_normal]
      refine Run.ret ?_
      try simp only [Then_ret, Blok_ret]
      have htk : ((sl.map encI) ++ List.replicate (l2 - l3) [D.int 0]).take l3 = sl.map encI := by rw [List.take_append_of_le_length (by simp [hl3e]), List.take_of_length_le (by simp [hl3e])]
      simp [hsle, hl3e, htk]


theorem slots_ok (t : TermT) (ht : cntT t ≤ 1000000) : Snd P 94 [.d (.ag (encT t))] (.d (.sl false ((slotsT t).map encI))) [] :=
  slots1_ok t ht fun i hi =>
    have := kidT_lt (rdI_mem (l := t.kids) (i := i) (by omega) (by omega))
    slots_ok (rdI t.kids i) (by have := cnt_kid hi; omega)
termination_by SizeOf.sizeOf t
end Go.Proofs.Ytihbejpkfifplaa.Z
end
