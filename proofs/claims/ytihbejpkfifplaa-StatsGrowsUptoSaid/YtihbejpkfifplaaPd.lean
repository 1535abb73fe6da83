/- A query's pattern: may it be? -/
import Derived.Test.YtihbejpkfifplaaPc
set_option linter.unusedVariables false
set_option linter.unusedSimpArgs false
set_option maxRecDepth 100000
namespace Go.Proofs.Ytihbejpkfifplaa.Z
open Go Go.Fw
def badE (n : Int) (e : EdgeT) : Bool := decide ((if e.dst < e.src then e.dst else e.src) < 0) || decide (n ≤ if e.src < e.dst then e.dst else e.src)
def findS {α : Type} (p : α → Bool) (l : List α) : Int := match l.findIdx? p with | some i => i | none => -1
theorem findS_none {α : Type} [Inhabited α] {p : α → Bool} {l : List α} (h : ∀ j, j < l.length → p (rdI l (j : Nat)) = false) : findS p l = -1 := by
  have : l.findIdx? p = none := by
    rw [List.findIdx?_eq_none_iff]
    intro x hx
    obtain ⟨j, hj⟩ := List.getElem?_of_mem hx
    have hlt := (List.getElem?_eq_some_iff.1 hj).1
    have := h j hlt
    unfold rdI at this
    rw [Int.toNat_natCast, List.getD_eq_getElem?_getD, hj] at this
    exact this
  simp [findS, this]
theorem findS_some {α : Type} [Inhabited α] {p : α → Bool} {l : List α} {i : Nat} (hi : i < l.length) (h : ∀ j, j < i → p (rdI l (j : Nat)) = false) (hp : p (rdI l (i : Nat)) = true) : findS p l = i := by
  have key : ∀ j, j < l.length → ∃ h : j < l.length, rdI l (j : Nat) = l[j] := fun j hj => ⟨hj, by simp [rdI, List.getD_eq_getElem?_getD, hj]⟩
  have : l.findIdx? p = some i := by
    rw [List.findIdx?_eq_some_iff_getElem]
    refine ⟨hi, ?_, fun j hj => ?_⟩
    · obtain ⟨_, e⟩ := key i hi; rw [e] at hp; exact hp
    · obtain ⟨_, e⟩ := key j (by omega); have := h j hj; rw [e] at this; simpa using this
  simp [findS, this]
theorem findS_any {α : Type} (p : α → Bool) (l : List α) : decide (0 ≤ findS p l) = l.any p := by
  unfold findS
  cases h : l.findIdx? p with
  | none =>
    rw [List.findIdx?_eq_none_iff] at h
    have : l.any p = false := by rw [List.any_eq_false]; intro x hx; simp [h x hx]
    rw [this]; rfl
  | some i =>
    rw [List.findIdx?_eq_some_iff_getElem] at h
    obtain ⟨h1, h2, _⟩ := h
    have : l.any p = true := List.any_eq_true.2 ⟨_, List.getElem_mem h1, h2⟩
    rw [this]; simp
def patS (nodes : List NodeT) (edges : List EdgeT) : Bool := decide (1 ≤ nodes.length) && decide (nodes.length ≤ 8) && decide (edges.length ≤ 8) && !edges.any (badE nodes.length)
theorem badE_ok (e : EdgeT) (n : Int) : SndW P 72 [.d (.ag (encE e)), .pt 0 0 0 0] [(0, .vals [.int n])] (.bool (badE n e)) [(0, .vals [.int n])] := by
  refine sndW_of [0] Try.func72 rfl (by kernel_rfl) Try.ntmps72 (by simp) (by simp) ?_
  unfold Try.f72
  simp only [List.cons_append, List.nil_append, List.length_cons, List.length_nil, Nat.reduceAdd, Nat.reduceSub, List.replicate]
  refine Run.seq ?_
  refine Run.opsL false [⟨Op.box 105 (Operand.tmp 0), some 2, none⟩, ⟨Op.assign (Operand.const (Value.bool false)), some 3, none⟩] mixed (by decide) rfl fun K hK => ?_
  try simp
  repeat' first | (simp only [evL_cons, evL_guard]; simp) | (refine gsplit (fun hg => ?_) (fun hg => ?_) <;> (try simp at hg) <;> (try simp)) | (with_reducible assumption) | omega | refine And.intro ?_ ?_ | intro _
  all_goals (try simp only [evL_nil]; refine hK _ _ ?_; clear hK K)
  simp only [Then_normal]
  refine Run.seq ?_
  refine Run.opsL false [⟨Op.fieldAddr 105 (Operand.tmp 2) 2, some 4, none⟩, ⟨Op.load 3 (Operand.tmp 4), some 5, none⟩, ⟨Op.fieldAddr 105 (Operand.tmp 2) 3, some 6, none⟩, ⟨Op.load 3 (Operand.tmp 6), some 7, none⟩, ⟨Op.call { callee := Callee.builtin Builtin.min, args := #[Operand.tmp 5, Operand.tmp 7], argTypes := #[3, 3] }, some 8, none⟩, ⟨Op.binOp BinOp.lss 3 (Operand.tmp 8) (Operand.const (Value.int IntKind.i64 0)) 3, some 9, none⟩, ⟨Op.move (Operand.tmp 9), some 10, none⟩, ⟨Op.fieldAddr 105 (Operand.tmp 2) 2, some 11, some (some 10, false)⟩, ⟨Op.load 3 (Operand.tmp 11), some 12, some (some 10, false)⟩, ⟨Op.fieldAddr 105 (Operand.tmp 2) 3, some 13, some (some 10, false)⟩, ⟨Op.load 3 (Operand.tmp 13), some 14, some (some 10, false)⟩, ⟨Op.call { callee := Callee.builtin Builtin.max, args := #[Operand.tmp 12, Operand.tmp 14], argTypes := #[3, 3] }, some 15, some (some 10, false)⟩, ⟨Op.load 3 (Operand.tmp 1), some 16, some (some 10, false)⟩, ⟨Op.binOp BinOp.geq 3 (Operand.tmp 15) (Operand.tmp 16) 3, some 17, some (some 10, false)⟩, ⟨Op.pick (Operand.tmp 10) (Operand.const (Value.bool true)) (Operand.tmp 17), some 18, none⟩, ⟨Op.assign (Operand.tmp 18), some 3, none⟩] mixed (by decide) rfl fun K hK => ?_
  try simp
  repeat' first | (simp only [evL_cons, evL_guard]; simp) | (refine gsplit (fun hg => ?_) (fun hg => ?_) <;> (try simp at hg) <;> (try simp)) | (with_reducible assumption) | omega | refine And.intro ?_ ?_ | intro _
  all_goals (try simp only [evL_nil]; refine hK _ _ ?_; clear hK K)
  all_goals
    simp only [Then_normal]
    refine Run.ret ?_
    try simp only [Then_ret, Blok_ret]
    first | (simp_all [badE]; done) | (simp_all [badE]; intro h; omega)

theorem findE_ok (nn : Bool) (l : List EdgeT) (fn : FuncId) (x : D) (p : EdgeT → Bool) (hp : ∀ e ∈ l, SndW P fn [.d (.ag (encE e)), .pt 0 0 0 0] [(0, .vals [.d x])] (.bool (p e)) [(0, .vals [.d x])]) :
    SndW P 91 [.d (.sl nn (l.map encE)), .fn fn [.pt 0 0 0 0]] [(0, .vals [.d x])] (.int (findS p l)) [(0, .vals [.d x])] := by
  refine SndW.ok 0 rfl (by kernel_rfl) fun hl => ?_
  simp only [D.ok, List.length_map] at hl
  obtain ⟨hl, -⟩ := hl
  refine sndW_of [0] Try.func91 rfl (by kernel_rfl) Try.ntmps91 (by simp) (by simp) ?_
  unfold Try.f91
  simp only [List.cons_append, List.nil_append, List.length_cons, List.length_nil, Nat.reduceAdd, Nat.reduceSub, List.replicate]
  refine Run.seq ?_
  refine Run.opsL false [⟨Op.assign (Operand.const (Value.int IntKind.i64 0)), some 4, none⟩] mixed (by decide) rfl fun K hK => ?_
  try simp
  repeat' first | (simp only [evL_cons, evL_guard]; simp) | (refine gsplit (fun hg => ?_) (fun hg => ?_) <;> (try simp at hg) <;> (try simp)) | (with_reducible assumption) | omega | refine And.intro ?_ ?_ | intro _
  all_goals (try simp only [evL_nil]; refine hK _ _ ?_; clear hK K)
  simp only [Then_normal]
  refine Run.seq ?_
  refine Run.seq ?_
  refine Run.opsL false [⟨Op.move (Operand.tmp 0), some 6, none⟩, ⟨Op.call { callee := Callee.builtin Builtin.len, args := #[Operand.tmp 6], argTypes := #[29] }, some 7, none⟩, ⟨Op.move (Operand.const (Value.int IntKind.i64 0)), some 8, none⟩] mixed (by decide) rfl fun K hK => ?_
  try simp
  repeat' first | (simp only [evL_cons, evL_guard]; simp) | (refine gsplit (fun hg => ?_) (fun hg => ?_) <;> (try simp at hg) <;> (try simp)) | (with_reducible assumption) | omega | refine And.intro ?_ ?_ | intro _
  all_goals (try simp only [evL_nil]; refine hK _ _ ?_; clear hK K)
  simp only [Then_normal]
  refine Run.block ?_
  refine Run.loopO [4, 5, 8, 9, 10, 11, 12, 13, 14, 15, 16, 17, 18] (fun (i : Nat) => [(8, .int i)]) (fun (i : Nat) => [(0, .vals [.d x])]) (fun (i : Nat) => i ≤ l.length ∧ ∀ j, j < i → p (rdI l (j : Nat)) = false) (fun (i : Nat) => l.length - i) 0 (by simp) (by simp) fun i ⟨hi, hz⟩ => ?_
  simp only [over, List.foldl, List.set]
  refine Run.seq ?_
  refine Run.opsL false [⟨Op.binOp BinOp.lss 3 (Operand.tmp 8) (Operand.tmp 7) 3, some 9, none⟩] mixed (by decide) rfl fun K hK => ?_
  try simp
  repeat' first | (simp only [evL_cons, evL_guard]; simp) | (refine gsplit (fun hg => ?_) (fun hg => ?_) <;> (try simp at hg) <;> (try simp)) | (with_reducible assumption) | omega | refine And.intro ?_ ?_ | intro _
  all_goals (try simp only [evL_nil]; refine hK _ _ ?_; clear hK K)
  simp only [Then_normal]
  refine Run.seq ?_
  refine Run.cond rfl (fun h9 => ?_) (fun h9 => ?_)
  · try simp at h9
    refine Run.skip ?_
    simp only [Then_normal]
    refine Run.seq ?_
    refine Run.block ?_
    refine Run.seq ?_
    refine Run.opsL false [⟨Op.move (Operand.tmp 8), some 10, none⟩, ⟨Op.assign (Operand.tmp 10), some 5, none⟩] mixed (by decide) rfl fun K hK => ?_
    try simp
    repeat' first | (simp only [evL_cons, evL_guard]; simp [h9]) | (refine gsplit (fun hg => ?_) (fun hg => ?_) <;> (try simp at hg) <;> (try simp [h9])) | (with_reducible assumption) | omega | refine And.intro ?_ ?_ | intro _
    all_goals (try simp only [evL_nil]; refine hK _ _ ?_; clear hK K)
    simp only [Then_normal]
    refine Run.seq ?_
    refine Run.opsL true [⟨Op.move (Operand.tmp 1), some 11, none⟩, ⟨Op.move (Operand.tmp 0), some 12, none⟩, ⟨Op.move (Operand.tmp 5), some 13, none⟩, ⟨Op.indexAddr 29 (Operand.tmp 12) (Operand.tmp 13), some 14, none⟩, ⟨Op.load 105 (Operand.tmp 14), some 15, none⟩, ⟨Op.call { callee := Callee.value (Operand.tmp 11), args := #[Operand.tmp 15], argTypes := #[105] }, some 16, none⟩] mixed (by decide) rfl fun K hK => ?_
    try simp
    repeat' first | (refine ecallW [0] (hp _ (rdI_mem (l := l) (i := i) (by omega) (by omega))) (by simp) (by simp) (by simp) ?_) | (simp only [evL_cons, evL_guard]; simp [h9]) | (refine gsplit (fun hg => ?_) (fun hg => ?_) <;> (try simp at hg) <;> (try simp [h9])) | (with_reducible assumption) | omega | refine And.intro ?_ ?_ | intro _
    all_goals (try simp only [evL_nil]; refine hK _ _ ?_; clear hK K)
    simp only [Then_normal]
    refine Run.cond rfl (fun h16 => ?_) (fun h16 => ?_)
    · try simp at h16
      refine Run.seq ?_
      refine Run.opsL false [⟨Op.move (Operand.tmp 5), some 17, none⟩, ⟨Op.assign (Operand.tmp 17), some 4, none⟩] mixed (by decide) rfl fun K hK => ?_
      try simp
      repeat' first | (simp only [evL_cons, evL_guard]; simp [h9, h16]) | (refine gsplit (fun hg => ?_) (fun hg => ?_) <;> (try simp at hg) <;> (try simp [h9, h16])) | (with_reducible assumption) | omega | refine And.intro ?_ ?_ | intro _
      all_goals (try simp only [evL_nil]; refine hK _ _ ?_; clear hK K)
      simp only [Then_normal]
      refine Run.ret ?_
      try simp only [Then_ret, Blok_ret]
      first
        | (have e := findS_some h9 hz h16; simp [e]; done)
        | (have e := findS_none (p := p) (l := l) (fun j hj => hz j (by omega)); simp [e])
    · try simp at h16
      refine Run.skip ?_
      simp only [Blok_normal]
      simp only [Then_normal]
      refine Run.opsL false [⟨Op.binOp BinOp.add 3 (Operand.tmp 8) (Operand.const (Value.int IntKind.i64 1)) 3, some 18, none⟩, ⟨Op.move (Operand.tmp 18), some 8, none⟩] mixed (by decide) rfl fun K hK => ?_
      try simp
      repeat' first | (simp only [evL_cons, evL_guard]; simp [h9, h16]) | (refine gsplit (fun hg => ?_) (fun hg => ?_) <;> (try simp at hg) <;> (try simp [h9, h16])) | (with_reducible assumption) | omega | refine And.intro ?_ ?_ | intro _
      all_goals (try simp only [evL_nil]; refine hK _ _ ?_; clear hK K)
      refine ⟨i + 1, ⟨by omega, fun j hj => ?_⟩, by omega, ?_⟩
      · by_cases e : j = i
        · subst e; exact h16
        · exact hz j (by omega)
      · simp (disch := omega) [wrap_id]
  · try simp at h9
    refine Run.exit ?_
    simp (decide := true) only [Then_exit, Blok_exit, if_true, if_false]
    simp only [Then_normal]
    refine Run.seq ?_
    refine Run.opsL false [⟨Op.assign (Operand.const (Value.int IntKind.i64 (-1))), some 4, none⟩] mixed (by decide) rfl fun K hK => ?_
    try simp
    repeat' first | (simp only [evL_cons, evL_guard]; simp [h9]) | (refine gsplit (fun hg => ?_) (fun hg => ?_) <;> (try simp at hg) <;> (try simp [h9])) | (with_reducible assumption) | omega | refine And.intro ?_ ?_ | intro _
    all_goals (try simp only [evL_nil]; refine hK _ _ ?_; clear hK K)
    simp only [Then_normal]
    refine Run.ret ?_
    try simp only [Then_ret, Blok_ret]
    first
      | (have e := findS_some h9 hz h16; simp [e]; done)
      | (have e := findS_none (p := p) (l := l) (fun j hj => hz j (by omega)); simp [e])

theorem anyE_ok (nn : Bool) (l : List EdgeT) (fn : FuncId) (x : D) (p : EdgeT → Bool) (hp : ∀ e ∈ l, SndW P fn [.d (.ag (encE e)), .pt 0 0 0 0] [(0, .vals [.d x])] (.bool (p e)) [(0, .vals [.d x])]) :
    SndW P 71 [.d (.sl nn (l.map encE)), .fn fn [.pt 0 0 0 0]] [(0, .vals [.d x])] (.bool (l.any p)) [(0, .vals [.d x])] := by
  refine sndW_of [0] Try.func71 rfl (by kernel_rfl) Try.ntmps71 (by simp) (by simp) ?_
  unfold Try.f71
  simp only [List.cons_append, List.nil_append, List.length_cons, List.length_nil, Nat.reduceAdd, Nat.reduceSub, List.replicate]
  refine Run.seq ?_
  refine Run.opsL false [⟨Op.assign (Operand.const (Value.bool false)), some 4, none⟩] mixed (by decide) rfl fun K hK => ?_
  try simp
  repeat' first | (simp only [evL_cons, evL_guard]; simp) | (refine gsplit (fun hg => ?_) (fun hg => ?_) <;> (try simp at hg) <;> (try simp)) | (with_reducible assumption) | omega | refine And.intro ?_ ?_ | intro _
  all_goals (try simp only [evL_nil]; refine hK _ _ ?_; clear hK K)
  simp only [Then_normal]
  refine Run.seq ?_
  refine Run.opsL true [⟨Op.move (Operand.tmp 0), some 5, none⟩, ⟨Op.move (Operand.tmp 1), some 6, none⟩, ⟨Op.call { callee := Callee.value (Operand.func 91), args := #[Operand.tmp 5, Operand.tmp 6], argTypes := #[29, 118] }, some 7, none⟩, ⟨Op.binOp BinOp.geq 3 (Operand.tmp 7) (Operand.const (Value.int IntKind.i64 0)) 3, some 8, none⟩, ⟨Op.assign (Operand.tmp 8), some 4, none⟩] mixed (by decide) rfl fun K hK => ?_
  try simp
  repeat' first | (refine ecallW [0] (findE_ok nn l fn x p hp) (by simp) (by simp) (by simp) ?_) | (simp only [evL_cons, evL_guard]; simp) | (refine gsplit (fun hg => ?_) (fun hg => ?_) <;> (try simp at hg) <;> (try simp)) | (with_reducible assumption) | omega | refine And.intro ?_ ?_ | intro _
  all_goals (try simp only [evL_nil]; refine hK _ _ ?_; clear hK K)
  simp only [Then_normal]
  refine Run.ret ?_
  try simp only [Then_ret, Blok_ret]
  simp [findS_any]

theorem pattern_ok (c : CoreT) : Snd P 36 [.d (.ag (encC c))] (.bool (patS c.nodes c.edges)) [] := by
  refine snd_of [] Try.func36 rfl (by kernel_rfl) Try.ntmps36 (by simp) ?_
  unfold Try.f36
  simp only [List.cons_append, List.nil_append, List.length_cons, List.length_nil, Nat.reduceAdd, Nat.reduceSub, List.replicate]
  refine Run.seq ?_
  refine Run.opsL false [⟨Op.box 33 (Operand.tmp 0), some 1, none⟩, ⟨Op.assign (Operand.const (Value.bool false)), some 2, none⟩] mixed (by decide) rfl fun K hK => ?_
  try simp
  repeat' first | (simp only [evL_cons, evL_guard]; simp) | (refine gsplit (fun hg => ?_) (fun hg => ?_) <;> (try simp at hg) <;> (try simp)) | (with_reducible assumption) | omega | refine And.intro ?_ ?_ | intro _
  all_goals (try simp only [evL_nil]; refine hK _ _ ?_; clear hK K)
  simp only [Then_normal]
  refine Run.seq ?_
  refine Run.opsL false [⟨Op.fieldAddr 33 (Operand.tmp 1) 0, some 4, none⟩, ⟨Op.load 28 (Operand.tmp 4), some 5, none⟩, ⟨Op.call { callee := Callee.builtin Builtin.len, args := #[Operand.tmp 5], argTypes := #[28] }, some 6, none⟩, ⟨Op.alloc 3, some 3, none⟩, ⟨Op.store 3 (Operand.tmp 3) (Operand.tmp 6), none, none⟩] mixed (by decide) rfl fun K hK => ?_
  try simp
  repeat' first | (simp only [evL_cons, evL_guard]; simp) | (refine gsplit (fun hg => ?_) (fun hg => ?_) <;> (try simp at hg) <;> (try simp)) | (with_reducible assumption) | omega | refine And.intro ?_ ?_ | intro _
  all_goals (try simp only [evL_nil]; refine hK _ _ ?_; clear hK K)
  simp only [Then_normal]
  refine Run.seq ?_
  refine Run.opsL true [⟨Op.load 3 (Operand.tmp 3), some 7, none⟩, ⟨Op.binOp BinOp.geq 3 (Operand.tmp 7) (Operand.const (Value.int IntKind.i64 1)) 3, some 8, none⟩, ⟨Op.move (Operand.tmp 8), some 9, none⟩, ⟨Op.load 3 (Operand.tmp 3), some 10, some (some 9, true)⟩, ⟨Op.binOp BinOp.leq 3 (Operand.tmp 10) (Operand.const (Value.int IntKind.i64 8)) 3, some 11, some (some 9, true)⟩, ⟨Op.pick (Operand.tmp 9) (Operand.tmp 11) (Operand.const (Value.bool false)), some 12, none⟩, ⟨Op.move (Operand.tmp 12), some 13, none⟩, ⟨Op.fieldAddr 33 (Operand.tmp 1) 1, some 14, some (some 13, true)⟩, ⟨Op.load 29 (Operand.tmp 14), some 15, some (some 13, true)⟩, ⟨Op.call { callee := Callee.builtin Builtin.len, args := #[Operand.tmp 15], argTypes := #[29] }, some 16, some (some 13, true)⟩, ⟨Op.binOp BinOp.leq 3 (Operand.tmp 16) (Operand.const (Value.int IntKind.i64 8)) 3, some 17, some (some 13, true)⟩, ⟨Op.pick (Operand.tmp 13) (Operand.tmp 17) (Operand.const (Value.bool false)), some 18, none⟩, ⟨Op.move (Operand.tmp 18), some 19, none⟩, ⟨Op.fieldAddr 33 (Operand.tmp 1) 1, some 20, some (some 19, true)⟩, ⟨Op.load 29 (Operand.tmp 20), some 21, some (some 19, true)⟩, ⟨Op.makeFunc (Fn.func 72) #[] #[Operand.tmp 3], some 22, some (some 19, true)⟩, ⟨Op.call { callee := Callee.value (Operand.func 71), args := #[Operand.tmp 21, Operand.tmp 22], argTypes := #[29, 118] }, some 23, some (some 19, true)⟩, ⟨Op.unOp UnOp.not 4 (Operand.tmp 23), some 24, some (some 19, true)⟩, ⟨Op.pick (Operand.tmp 19) (Operand.tmp 24) (Operand.const (Value.bool false)), some 25, none⟩, ⟨Op.assign (Operand.tmp 25), some 2, none⟩] mixed (by decide) rfl fun K hK => ?_
  try simp
  repeat' first | (refine ecallW [400] (anyE_ok false c.edges 72 (.int c.nodes.length) (badE c.nodes.length) (fun e _ => badE_ok e _)) (by simp) (by simp) (by simp) ?_) | (simp only [evL_cons, evL_guard]; simp) | (refine gsplit (fun hg => ?_) (fun hg => ?_) <;> (try simp at hg) <;> (try simp)) | (with_reducible assumption) | omega | refine And.intro ?_ ?_ | intro _
  all_goals (try simp only [evL_nil]; refine hK _ _ ?_; clear hK K)
  all_goals
    simp only [Then_normal]
    refine Run.ret ?_
    try simp only [Then_ret, Blok_ret]
    first
      | (simp_all [patS]; done)
      | (simp_all [patS]; omega)
      | (simp_all [patS]; intros; omega)


end Go.Proofs.Ytihbejpkfifplaa.Z
