/- A term's slots are bound. -/
import Derived.Test.YtihbejpkfifplaaPn
set_option linter.unusedVariables false
set_option linter.unusedSimpArgs false
set_option maxRecDepth 100000
namespace Go.Proofs.Ytihbejpkfifplaa.Z
open Go Go.Fw
def badS (b : List Bool) (s : Int) : Bool := decide (s < 0) || decide ((b.length : Int) ≤ s) || !rdI b s
def bindsS (b : List Bool) (t : TermT) : Bool := !(slotsT t).any (badS b)
@[simp] theorem forall_lt2 {p : Nat → Prop} : (∀ x, x < 2 → p x) ↔ p 0 ∧ p 1 := ⟨fun h => ⟨h 0 (by omega), h 1 (by omega)⟩, fun h x hx => by
  match x, hx with
  | 0, _ => exact h.1
  | 1, _ => exact h.2⟩
@[simp] theorem exists_lt2 {p : Nat → Prop} : (∃ x, x < 2 ∧ p x) ↔ p 0 ∨ p 1 := ⟨fun ⟨x, hx, h⟩ => by
  match x, hx with
  | 0, _ => exact .inl h
  | 1, _ => exact .inr h, fun h => by rcases h with h | h <;> exact ⟨_, by omega, h⟩⟩
@[simp] theorem idx_cons (a b : Nat) (l : List Nat) : (a :: l).idxOf? b = if a = b then some 0 else (l.idxOf? b).map (· + 1) := by
  rw [List.idxOf?_cons]; simp
theorem findT_ok (nn : Bool) (l : List TermT) (fn : FuncId) (b : List Bool) (p : TermT → Bool) (hp : ∀ e ∈ l, SndW P fn [.d (.ag (encT e)), .pt 0 0 0 0] [(0, .vals [.rs 1 1 0 b.length]), (1, .data 1 (b.map encB))] (.bool (p e)) [(0, .vals [.rs 1 1 0 b.length]), (1, .data 1 (b.map encB))]) :
    SndW P 42 [.d (.sl nn (l.map encT)), .fn fn [.pt 0 0 0 0]] [(0, .vals [.rs 1 1 0 b.length]), (1, .data 1 (b.map encB))] (.int (findS p l)) [(0, .vals [.rs 1 1 0 b.length]), (1, .data 1 (b.map encB))] := by
  refine SndW.ok 0 rfl (by kernel_rfl) fun hl => ?_
  simp only [D.ok, List.length_map] at hl
  obtain ⟨hl, -⟩ := hl
  refine sndW_of [0, 1] Try.func42 rfl (by kernel_rfl) Try.ntmps42 (by simp) (by simp) ?_
  unfold Try.f42
  simp only [List.cons_append, List.nil_append, List.length_cons, List.length_nil, Nat.reduceAdd, Nat.reduceSub, List.replicate]
  refine Run.seq ?_
  refine Run.opsM false [⟨Op.assign (Operand.const (Value.int IntKind.i64 0)), some 4, none⟩] mixed (by decide) rfl fun K hK => ?_
  try simp
  repeat' first | ((refine evL_c ?_); simp) | (with_reducible refine And.intro ?_ ?_) | intro _ | (with_reducible assumption) | omega
  all_goals (refine Fin.go hK ?_; clear hK K)
  simp only [Then_normal]
  refine Run.seq ?_
  refine Run.seq ?_
  refine Run.opsM false [⟨Op.move (Operand.tmp 0), some 6, none⟩, ⟨Op.call { callee := Callee.builtin Builtin.len, args := #[Operand.tmp 6], argTypes := #[25] }, some 7, none⟩, ⟨Op.move (Operand.const (Value.int IntKind.i64 0)), some 8, none⟩] mixed (by decide) rfl fun K hK => ?_
  try simp
  repeat' first | ((refine evL_c ?_); simp) | (with_reducible refine And.intro ?_ ?_) | intro _ | (with_reducible assumption) | omega
  all_goals (refine Fin.go hK ?_; clear hK K)
  simp only [Then_normal]
  refine Run.block ?_
  refine Run.loopO [4, 5, 8, 9, 10, 11, 12, 13, 14, 15, 16, 17, 18] (fun (i : Nat) => [(8, .int i)]) (fun (i : Nat) => [(0, .vals [.rs 1 1 0 b.length]), (1, .data 1 (b.map encB))]) (fun (i : Nat) => i ≤ l.length ∧ ∀ j, j < i → p (rdI l (j : Nat)) = false) (fun (i : Nat) => l.length - i) 0 (by simp) (by simp) fun i ⟨hi, hz⟩ => ?_
  simp only [over, List.foldl, List.set]
  refine Run.seq ?_
  refine Run.opsM false [⟨Op.binOp BinOp.lss 3 (Operand.tmp 8) (Operand.tmp 7) 3, some 9, none⟩] mixed (by decide) rfl fun K hK => ?_
  try simp
  repeat' first | ((refine evL_c ?_); simp) | (with_reducible refine And.intro ?_ ?_) | intro _ | (with_reducible assumption) | omega
  all_goals (refine Fin.go hK ?_; clear hK K)
  simp only [Then_normal]
  refine Run.seq ?_
  refine Run.cond rfl (fun h9 => ?_) (fun h9 => ?_)
  · try simp at h9
    refine Run.skip ?_
    simp only [Then_normal]
    refine Run.seq ?_
    refine Run.block ?_
    refine Run.seq ?_
    refine Run.opsM false [⟨Op.move (Operand.tmp 8), some 10, none⟩, ⟨Op.assign (Operand.tmp 10), some 5, none⟩] mixed (by decide) rfl fun K hK => ?_
    try simp
    repeat' first | ((refine evL_c ?_); simp [h9]) | (with_reducible refine And.intro ?_ ?_) | intro _ | (with_reducible assumption) | omega
    all_goals (refine Fin.go hK ?_; clear hK K)
    simp only [Then_normal]
    refine Run.seq ?_
    refine Run.opsM true [⟨Op.move (Operand.tmp 1), some 11, none⟩, ⟨Op.move (Operand.tmp 0), some 12, none⟩, ⟨Op.move (Operand.tmp 5), some 13, none⟩, ⟨Op.indexAddr 25 (Operand.tmp 12) (Operand.tmp 13), some 14, none⟩, ⟨Op.load 70 (Operand.tmp 14), some 15, none⟩, ⟨Op.call { callee := Callee.value (Operand.tmp 11), args := #[Operand.tmp 15], argTypes := #[70] }, some 16, none⟩] mixed (by decide) rfl fun K hK => ?_
    try simp
    repeat' first | (refine ecallW [0, 1] (hp _ (rdI_mem (l := l) (i := i) (by omega) (by omega))) (by simp) (by simp) (by simp) ?_) | ((refine evL_c ?_); simp [h9]) | (with_reducible refine And.intro ?_ ?_) | intro _ | (with_reducible assumption) | omega
    all_goals (refine Fin.go hK ?_; clear hK K)
    simp only [Then_normal]
    refine Run.cond rfl (fun h16 => ?_) (fun h16 => ?_)
    · try simp at h16
      refine Run.seq ?_
      refine Run.opsM false [⟨Op.move (Operand.tmp 5), some 17, none⟩, ⟨Op.assign (Operand.tmp 17), some 4, none⟩] mixed (by decide) rfl fun K hK => ?_
      try simp
      repeat' first | ((refine evL_c ?_); simp [h9, h16]) | (with_reducible refine And.intro ?_ ?_) | intro _ | (with_reducible assumption) | omega
      all_goals (refine Fin.go hK ?_; clear hK K)
      simp only [Then_normal]
      refine Run.ret ?_
      try simp only [Then_ret, Blok_ret]
      first
        | (have e := findS_some h9 hz h16; simp [e]; done)
        | (have e := findS_none (p := p) (l := l) (fun j hj => hz j (by omega)); simp [e])
    · try simp at h16
      refine Run.skip ?_
      simp only [Blok_normal]
      simp only [Then_normal]
      refine Run.opsM false [⟨Op.binOp BinOp.add 3 (Operand.tmp 8) (Operand.const (Value.int IntKind.i64 1)) 3, some 18, none⟩, ⟨Op.move (Operand.tmp 18), some 8, none⟩] mixed (by decide) rfl fun K hK => ?_
      try simp
      repeat' first | ((refine evL_c ?_); simp [h9, h16]) | (with_reducible refine And.intro ?_ ?_) | intro _ | (with_reducible assumption) | omega
      all_goals (refine Fin.go hK ?_; clear hK K)
      refine ⟨i + 1, ⟨by omega, fun j hj => ?_⟩, by omega, ?_⟩
      · by_cases e : j = i
        · subst e; exact h16
        · exact hz j (by omega)
      · simp (disch := omega) [wrap_id]
  · try simp at h9
    refine Run.exit ?_
    simp (decide := true) only [Then_exit, Blok_exit, if_true, if_false]
    simp only [Then_normal]
    refine Run.seq ?_
    refine Run.opsM false [⟨Op.assign (Operand.const (Value.int IntKind.i64 (-1))), some 4, none⟩] mixed (by decide) rfl fun K hK => ?_
    try simp
    repeat' first | ((refine evL_c ?_); simp [h9]) | (with_reducible refine And.intro ?_ ?_) | intro _ | (with_reducible assumption) | omega
    all_goals (refine Fin.go hK ?_; clear hK K)
    simp only [Then_normal]
    refine Run.ret ?_
    try simp only [Then_ret, Blok_ret]
    first
      | (have e := findS_some h9 hz h16; simp [e]; done)
      | (have e := findS_none (p := p) (l := l) (fun j hj => hz j (by omega)); simp [e])

theorem anyT_ok (nn : Bool) (l : List TermT) (fn : FuncId) (b : List Bool) (p : TermT → Bool) (hp : ∀ e ∈ l, SndW P fn [.d (.ag (encT e)), .pt 0 0 0 0] [(0, .vals [.rs 1 1 0 b.length]), (1, .data 1 (b.map encB))] (.bool (p e)) [(0, .vals [.rs 1 1 0 b.length]), (1, .data 1 (b.map encB))]) :
    SndW P 75 [.d (.sl nn (l.map encT)), .fn fn [.pt 0 0 0 0]] [(0, .vals [.rs 1 1 0 b.length]), (1, .data 1 (b.map encB))] (.bool (l.any p)) [(0, .vals [.rs 1 1 0 b.length]), (1, .data 1 (b.map encB))] := by
  refine sndW_of [0, 1] Try.func75 rfl (by kernel_rfl) Try.ntmps75 (by simp) (by simp) ?_
  unfold Try.f75
  simp only [List.cons_append, List.nil_append, List.length_cons, List.length_nil, Nat.reduceAdd, Nat.reduceSub, List.replicate]
  refine Run.seq ?_
  refine Run.opsM false [⟨Op.assign (Operand.const (Value.bool false)), some 4, none⟩] mixed (by decide) rfl fun K hK => ?_
  try simp
  repeat' first | ((refine evL_c ?_); simp) | (with_reducible refine And.intro ?_ ?_) | intro _ | (with_reducible assumption) | omega
  all_goals (refine Fin.go hK ?_; clear hK K)
  simp only [Then_normal]
  refine Run.seq ?_
  refine Run.opsM true [⟨Op.move (Operand.tmp 0), some 5, none⟩, ⟨Op.move (Operand.tmp 1), some 6, none⟩, ⟨Op.call { callee := Callee.value (Operand.func 42), args := #[Operand.tmp 5, Operand.tmp 6], argTypes := #[25, 96] }, some 7, none⟩, ⟨Op.binOp BinOp.geq 3 (Operand.tmp 7) (Operand.const (Value.int IntKind.i64 0)) 3, some 8, none⟩, ⟨Op.assign (Operand.tmp 8), some 4, none⟩] mixed (by decide) rfl fun K hK => ?_
  try simp
  repeat' first | (refine ecallW [0, 1] (findT_ok nn l fn b p hp) (by simp) (by simp) (by simp) ?_) | ((refine evL_c ?_); simp) | (with_reducible refine And.intro ?_ ?_) | intro _ | (with_reducible assumption) | omega
  all_goals (refine Fin.go hK ?_; clear hK K)
  simp only [Then_normal]
  refine Run.ret ?_
  try simp only [Then_ret, Blok_ret]
  simp [findS_any]

theorem findI_ok (nn : Bool) (l : List Int) (fn : FuncId) (b : List Bool) (p : Int → Bool) (hp : ∀ e ∈ l, SndW P fn [.int e, .pt 0 0 0 0] [(0, .vals [.rs 1 1 0 b.length]), (1, .data 1 (b.map encB))] (.bool (p e)) [(0, .vals [.rs 1 1 0 b.length]), (1, .data 1 (b.map encB))]) :
    SndW P 97 [.d (.sl nn (l.map encI)), .fn fn [.pt 0 0 0 0]] [(0, .vals [.rs 1 1 0 b.length]), (1, .data 1 (b.map encB))] (.int (findS p l)) [(0, .vals [.rs 1 1 0 b.length]), (1, .data 1 (b.map encB))] := by
  refine SndW.ok 0 rfl (by kernel_rfl) fun hl => ?_
  simp only [D.ok, List.length_map] at hl
  obtain ⟨hl, -⟩ := hl
  refine sndW_of [0, 1] Try.func97 rfl (by kernel_rfl) Try.ntmps97 (by simp) (by simp) ?_
  unfold Try.f97
  simp only [List.cons_append, List.nil_append, List.length_cons, List.length_nil, Nat.reduceAdd, Nat.reduceSub, List.replicate]
  refine Run.seq ?_
  refine Run.opsM false [⟨Op.assign (Operand.const (Value.int IntKind.i64 0)), some 4, none⟩] mixed (by decide) rfl fun K hK => ?_
  try simp
  repeat' first | ((refine evL_c ?_); simp) | (with_reducible refine And.intro ?_ ?_) | intro _ | (with_reducible assumption) | omega
  all_goals (refine Fin.go hK ?_; clear hK K)
  simp only [Then_normal]
  refine Run.seq ?_
  refine Run.seq ?_
  refine Run.opsM false [⟨Op.move (Operand.tmp 0), some 6, none⟩, ⟨Op.call { callee := Callee.builtin Builtin.len, args := #[Operand.tmp 6], argTypes := #[24] }, some 7, none⟩, ⟨Op.move (Operand.const (Value.int IntKind.i64 0)), some 8, none⟩] mixed (by decide) rfl fun K hK => ?_
  try simp
  repeat' first | ((refine evL_c ?_); simp) | (with_reducible refine And.intro ?_ ?_) | intro _ | (with_reducible assumption) | omega
  all_goals (refine Fin.go hK ?_; clear hK K)
  simp only [Then_normal]
  refine Run.block ?_
  refine Run.loopO [4, 5, 8, 9, 10, 11, 12, 13, 14, 15, 16, 17, 18] (fun (i : Nat) => [(8, .int i)]) (fun (i : Nat) => [(0, .vals [.rs 1 1 0 b.length]), (1, .data 1 (b.map encB))]) (fun (i : Nat) => i ≤ l.length ∧ ∀ j, j < i → p (rdI l (j : Nat)) = false) (fun (i : Nat) => l.length - i) 0 (by simp) (by simp) fun i ⟨hi, hz⟩ => ?_
  simp only [over, List.foldl, List.set]
  refine Run.seq ?_
  refine Run.opsM false [⟨Op.binOp BinOp.lss 3 (Operand.tmp 8) (Operand.tmp 7) 3, some 9, none⟩] mixed (by decide) rfl fun K hK => ?_
  try simp
  repeat' first | ((refine evL_c ?_); simp) | (with_reducible refine And.intro ?_ ?_) | intro _ | (with_reducible assumption) | omega
  all_goals (refine Fin.go hK ?_; clear hK K)
  simp only [Then_normal]
  refine Run.seq ?_
  refine Run.cond rfl (fun h9 => ?_) (fun h9 => ?_)
  · try simp at h9
    refine Run.skip ?_
    simp only [Then_normal]
    refine Run.seq ?_
    refine Run.block ?_
    refine Run.seq ?_
    refine Run.opsM false [⟨Op.move (Operand.tmp 8), some 10, none⟩, ⟨Op.assign (Operand.tmp 10), some 5, none⟩] mixed (by decide) rfl fun K hK => ?_
    try simp
    repeat' first | ((refine evL_c ?_); simp [h9]) | (with_reducible refine And.intro ?_ ?_) | intro _ | (with_reducible assumption) | omega
    all_goals (refine Fin.go hK ?_; clear hK K)
    simp only [Then_normal]
    refine Run.seq ?_
    refine Run.opsM true [⟨Op.move (Operand.tmp 1), some 11, none⟩, ⟨Op.move (Operand.tmp 0), some 12, none⟩, ⟨Op.move (Operand.tmp 5), some 13, none⟩, ⟨Op.indexAddr 24 (Operand.tmp 12) (Operand.tmp 13), some 14, none⟩, ⟨Op.load 3 (Operand.tmp 14), some 15, none⟩, ⟨Op.call { callee := Callee.value (Operand.tmp 11), args := #[Operand.tmp 15], argTypes := #[3] }, some 16, none⟩] mixed (by decide) rfl fun K hK => ?_
    try simp
    repeat' first | (refine ecallW [0, 1] (hp _ (rdI_mem (l := l) (i := i) (by omega) (by omega))) (by simp) (by simp) (by simp) ?_) | ((refine evL_c ?_); simp [h9]) | (with_reducible refine And.intro ?_ ?_) | intro _ | (with_reducible assumption) | omega
    all_goals (refine Fin.go hK ?_; clear hK K)
    simp only [Then_normal]
    refine Run.cond rfl (fun h16 => ?_) (fun h16 => ?_)
    · try simp at h16
      refine Run.seq ?_
      refine Run.opsM false [⟨Op.move (Operand.tmp 5), some 17, none⟩, ⟨Op.assign (Operand.tmp 17), some 4, none⟩] mixed (by decide) rfl fun K hK => ?_
      try simp
      repeat' first | ((refine evL_c ?_); simp [h9, h16]) | (with_reducible refine And.intro ?_ ?_) | intro _ | (with_reducible assumption) | omega
      all_goals (refine Fin.go hK ?_; clear hK K)
      simp only [Then_normal]
      refine Run.ret ?_
      try simp only [Then_ret, Blok_ret]
      first
        | (have e := findS_some h9 hz h16; simp [e]; done)
        | (have e := findS_none (p := p) (l := l) (fun j hj => hz j (by omega)); simp [e])
    · try simp at h16
      refine Run.skip ?_
      simp only [Blok_normal]
      simp only [Then_normal]
      refine Run.opsM false [⟨Op.binOp BinOp.add 3 (Operand.tmp 8) (Operand.const (Value.int IntKind.i64 1)) 3, some 18, none⟩, ⟨Op.move (Operand.tmp 18), some 8, none⟩] mixed (by decide) rfl fun K hK => ?_
      try simp
      repeat' first | ((refine evL_c ?_); simp [h9, h16]) | (with_reducible refine And.intro ?_ ?_) | intro _ | (with_reducible assumption) | omega
      all_goals (refine Fin.go hK ?_; clear hK K)
      refine ⟨i + 1, ⟨by omega, fun j hj => ?_⟩, by omega, ?_⟩
      · by_cases e : j = i
        · subst e; exact h16
        · exact hz j (by omega)
      · simp (disch := omega) [wrap_id]
  · try simp at h9
    refine Run.exit ?_
    simp (decide := true) only [Then_exit, Blok_exit, if_true, if_false]
    simp only [Then_normal]
    refine Run.seq ?_
    refine Run.opsM false [⟨Op.assign (Operand.const (Value.int IntKind.i64 (-1))), some 4, none⟩] mixed (by decide) rfl fun K hK => ?_
    try simp
    repeat' first | ((refine evL_c ?_); simp [h9]) | (with_reducible refine And.intro ?_ ?_) | intro _ | (with_reducible assumption) | omega
    all_goals (refine Fin.go hK ?_; clear hK K)
    simp only [Then_normal]
    refine Run.ret ?_
    try simp only [Then_ret, Blok_ret]
    first
      | (have e := findS_some h9 hz h16; simp [e]; done)
      | (have e := findS_none (p := p) (l := l) (fun j hj => hz j (by omega)); simp [e])

theorem anyI_ok (nn : Bool) (l : List Int) (fn : FuncId) (b : List Bool) (p : Int → Bool) (hp : ∀ e ∈ l, SndW P fn [.int e, .pt 0 0 0 0] [(0, .vals [.rs 1 1 0 b.length]), (1, .data 1 (b.map encB))] (.bool (p e)) [(0, .vals [.rs 1 1 0 b.length]), (1, .data 1 (b.map encB))]) :
    SndW P 93 [.d (.sl nn (l.map encI)), .fn fn [.pt 0 0 0 0]] [(0, .vals [.rs 1 1 0 b.length]), (1, .data 1 (b.map encB))] (.bool (l.any p)) [(0, .vals [.rs 1 1 0 b.length]), (1, .data 1 (b.map encB))] := by
  refine sndW_of [0, 1] Try.func93 rfl (by kernel_rfl) Try.ntmps93 (by simp) (by simp) ?_
  unfold Try.f93
  simp only [List.cons_append, List.nil_append, List.length_cons, List.length_nil, Nat.reduceAdd, Nat.reduceSub, List.replicate]
  refine Run.seq ?_
  refine Run.opsM false [⟨Op.assign (Operand.const (Value.bool false)), some 4, none⟩] mixed (by decide) rfl fun K hK => ?_
  try simp
  repeat' first | ((refine evL_c ?_); simp) | (with_reducible refine And.intro ?_ ?_) | intro _ | (with_reducible assumption) | omega
  all_goals (refine Fin.go hK ?_; clear hK K)
  simp only [Then_normal]
  refine Run.seq ?_
  refine Run.opsM true [⟨Op.move (Operand.tmp 0), some 5, none⟩, ⟨Op.move (Operand.tmp 1), some 6, none⟩, ⟨Op.call { callee := Callee.value (Operand.func 97), args := #[Operand.tmp 5, Operand.tmp 6], argTypes := #[24, 135] }, some 7, none⟩, ⟨Op.binOp BinOp.geq 3 (Operand.tmp 7) (Operand.const (Value.int IntKind.i64 0)) 3, some 8, none⟩, ⟨Op.assign (Operand.tmp 8), some 4, none⟩] mixed (by decide) rfl fun K hK => ?_
  try simp
  repeat' first | (refine ecallW [0, 1] (findI_ok nn l fn b p hp) (by simp) (by simp) (by simp) ?_) | ((refine evL_c ?_); simp) | (with_reducible refine And.intro ?_ ?_) | intro _ | (with_reducible assumption) | omega
  all_goals (refine Fin.go hK ?_; clear hK K)
  simp only [Then_normal]
  refine Run.ret ?_
  try simp only [Then_ret, Blok_ret]
  simp [findS_any]

theorem badS_ok (b : List Bool) (s : Int) : SndW P 95 [.int s, .pt 0 0 0 0] [(0, .vals [.rs 1 1 0 b.length]), (1, .data 1 (b.map encB))] (.bool (badS b s)) [(0, .vals [.rs 1 1 0 b.length]), (1, .data 1 (b.map encB))] := by
  obtain ⟨n, hn⟩ : ∃ n, b.length = n := ⟨_, rfl⟩
  refine sndW_of [0, 1] Try.func95 rfl (by kernel_rfl) Try.ntmps95 (by simp) (by simp) ?_
  unfold Try.f95
  simp only [List.cons_append, List.nil_append, List.length_cons, List.length_nil, Nat.reduceAdd, Nat.reduceSub, List.replicate]
  refine Run.seq ?_
  refine Run.opsM false [⟨Op.assign (Operand.const (Value.bool false)), some 3, none⟩] mixed (by decide) rfl fun K hK => ?_
  try simp
  repeat' first | ((refine evL_c ?_); simp [hn]) | (with_reducible refine And.intro ?_ ?_) | intro _ | (with_reducible assumption) | omega
  all_goals (refine Fin.go hK ?_; clear hK K)
  simp only [Then_normal]
  refine Run.seq ?_
  refine Run.opsM false [⟨Op.move (Operand.tmp 0), some 4, none⟩, ⟨Op.binOp BinOp.lss 3 (Operand.tmp 4) (Operand.const (Value.int IntKind.i64 0)) 3, some 5, none⟩, ⟨Op.move (Operand.tmp 5), some 6, none⟩, ⟨Op.move (Operand.tmp 0), some 7, some (some 6, false)⟩, ⟨Op.load 60 (Operand.tmp 1), some 8, some (some 6, false)⟩, ⟨Op.call { callee := Callee.builtin Builtin.len, args := #[Operand.tmp 8], argTypes := #[60] }, some 9, some (some 6, false)⟩, ⟨Op.binOp BinOp.geq 3 (Operand.tmp 7) (Operand.tmp 9) 3, some 10, some (some 6, false)⟩, ⟨Op.pick (Operand.tmp 6) (Operand.const (Value.bool true)) (Operand.tmp 10), some 11, none⟩, ⟨Op.move (Operand.tmp 11), some 12, none⟩, ⟨Op.load 60 (Operand.tmp 1), some 13, some (some 12, false)⟩, ⟨Op.move (Operand.tmp 0), some 14, some (some 12, false)⟩, ⟨Op.indexAddr 60 (Operand.tmp 13) (Operand.tmp 14), some 15, some (some 12, false)⟩, ⟨Op.load 4 (Operand.tmp 15), some 16, some (some 12, false)⟩, ⟨Op.unOp UnOp.not 4 (Operand.tmp 16), some 17, some (some 12, false)⟩, ⟨Op.pick (Operand.tmp 12) (Operand.const (Value.bool true)) (Operand.tmp 17), some 18, none⟩, ⟨Op.assign (Operand.tmp 18), some 3, none⟩] mixed (by decide) rfl fun K hK => ?_
  try simp
  repeat' first | ((refine evL_c ?_); simp [hn, *]) | ((refine evL_g rfl ?_); (try simp only [gs_tt, gs_ff, gs_tf, gs_ft]); (try simp [hn, *])) | (refine evL_u rfl ?_) | ((with_reducible refine gsplit (fun hg => ?_) (fun hg => ?_)) <;> (try simp at hg) <;> (try simp [hn, *])) | (with_reducible refine And.intro ?_ ?_) | intro _ | (with_reducible assumption) | omega
  all_goals (refine Fin.go hK ?_; clear hK K)
  all_goals
    simp only [Then_normal]
    refine Run.ret ?_
    try simp only [Then_ret, Blok_ret]
    (try simp [badS, hn]) <;> (first | omega | (simp; done) | (rw [Bool.eq_iff_iff]; simp only [Bool.or_eq_true, Bool.and_eq_true, Bool.not_eq_true', decide_eq_true_eq, decide_eq_false_iff_not]; omega) | (simp_all; done) | (simp_all; omega) | grind)

theorem binds_ok (b : List Bool) (t : TermT) (ht : cntT t ≤ 1000000) : SndW P 77 [.rs 0 1 0 b.length, .d (.ag (encT t))] [(0, .data 1 (b.map encB))] (.bool (bindsS b t)) [(0, .data 1 (b.map encB))] := by
  refine sndW_of [0] Try.func77 rfl (by kernel_rfl) Try.ntmps77 (by simp) (by simp) ?_
  unfold Try.f77
  simp only [List.cons_append, List.nil_append, List.length_cons, List.length_nil, Nat.reduceAdd, Nat.reduceSub, List.replicate]
  refine Run.seq ?_
  refine Run.opsM false [⟨Op.box 60 (Operand.tmp 0), some 2, none⟩, ⟨Op.box 70 (Operand.tmp 1), some 3, none⟩, ⟨Op.assign (Operand.const (Value.bool false)), some 4, none⟩] mixed (by decide) rfl fun K hK => ?_
  try simp
  repeat' first | ((refine evL_c ?_); simp) | (with_reducible refine And.intro ?_ ?_) | intro _ | (with_reducible assumption) | omega
  all_goals (refine Fin.go hK ?_; clear hK K)
  simp only [Then_normal]
  refine Run.seq ?_
  refine Run.opsM true [⟨Op.load 70 (Operand.tmp 3), some 5, none⟩, ⟨Op.call { callee := Callee.value (Operand.func 94), args := #[Operand.tmp 5], argTypes := #[70] }, some 6, none⟩, ⟨Op.makeFunc (Fn.func 95) #[] #[Operand.tmp 2], some 7, none⟩, ⟨Op.call { callee := Callee.value (Operand.func 93), args := #[Operand.tmp 6, Operand.tmp 7], argTypes := #[24, 135] }, some 8, none⟩, ⟨Op.unOp UnOp.not 4 (Operand.tmp 8), some 9, none⟩, ⟨Op.assign (Operand.tmp 9), some 4, none⟩] mixed (by decide) rfl fun K hK => ?_
  try simp
  repeat' first | (refine ecallP (by simp) (by have h := slots_ok t ht; rw [encT_cells] at h; exact h) ?_) | (refine ecallW [300, 0] (anyI_ok false (slotsT t) 95 b (badS b) (fun s _ => badS_ok b s)) (by simp) (by simp) (by simp) ?_) | ((refine evL_c ?_); simp) | (with_reducible refine And.intro ?_ ?_) | intro _ | (with_reducible assumption) | omega
  all_goals (refine Fin.go hK ?_; clear hK K)
  simp only [Then_normal]
  refine Run.ret ?_
  try simp only [Then_ret, Blok_ret]
  simp [bindsS]

theorem bindsN_ok (b : List Bool) (t : TermT) (ht : cntT t ≤ 1000000) : SndW P 76 [.d (.ag (encT t)), .pt 0 0 0 0] [(0, .vals [.rs 1 1 0 b.length]), (1, .data 1 (b.map encB))] (.bool (!bindsS b t)) [(0, .vals [.rs 1 1 0 b.length]), (1, .data 1 (b.map encB))] := by
  refine sndW_of [0, 1] Try.func76 rfl (by kernel_rfl) Try.ntmps76 (by simp) (by simp) ?_
  unfold Try.f76
  simp only [List.cons_append, List.nil_append, List.length_cons, List.length_nil, Nat.reduceAdd, Nat.reduceSub, List.replicate]
  refine Run.seq ?_
  refine Run.opsM false [⟨Op.box 70 (Operand.tmp 0), some 2, none⟩, ⟨Op.assign (Operand.const (Value.bool false)), some 3, none⟩] mixed (by decide) rfl fun K hK => ?_
  try simp
  repeat' first | ((refine evL_c ?_); simp) | (with_reducible refine And.intro ?_ ?_) | intro _ | (with_reducible assumption) | omega
  all_goals (refine Fin.go hK ?_; clear hK K)
  simp only [Then_normal]
  refine Run.seq ?_
  refine Run.opsM true [⟨Op.load 60 (Operand.tmp 1), some 4, none⟩, ⟨Op.load 70 (Operand.tmp 2), some 5, none⟩, ⟨Op.call { callee := Callee.value (Operand.func 77), args := #[Operand.tmp 4, Operand.tmp 5], argTypes := #[60, 70] }, some 6, none⟩, ⟨Op.unOp UnOp.not 4 (Operand.tmp 6), some 7, none⟩, ⟨Op.assign (Operand.tmp 7), some 3, none⟩] mixed (by decide) rfl fun K hK => ?_
  try simp
  repeat' first | (refine ecallW [1] (by have h := binds_ok b t ht; rw [encT_cells] at h; exact h) (by simp) (by simp) (by simp) ?_) | ((refine evL_c ?_); simp) | (with_reducible refine And.intro ?_ ?_) | intro _ | (with_reducible assumption) | omega
  all_goals (refine Fin.go hK ?_; clear hK K)
  simp only [Then_normal]
  refine Run.ret ?_
  try simp only [Then_ret, Blok_ret]
  simp


end Go.Proofs.Ytihbejpkfifplaa.Z
