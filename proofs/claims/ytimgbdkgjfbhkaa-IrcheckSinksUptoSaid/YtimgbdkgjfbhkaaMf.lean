/- Texts of this claim, put together: Ta, Tb, Te, Fz, Ua, Ub, Fza, Uc, Fzb, Ud. -/
import Derived.Test.YtimgbdkgjfbhkaaMe
set_option linter.unusedVariables false
set_option linter.unusedSimpArgs false
namespace Go.Proofs.Ytimgbdkgjfbhkaa.Z
open Go Go.Fw
abbrev oo41 : List LOp := [⟨Op.box 89 (Operand.tmp 0), some 1, none⟩, ⟨Op.assign (Operand.const (Value.bool false)), some 2, none⟩]
abbrev oo42 : List LOp := [⟨Op.binOp BinOp.add 3 (Operand.tmp 38) (Operand.const (Value.int IntKind.i64 1)) 3, some 54, none⟩, ⟨Op.move (Operand.tmp 54), some 38, none⟩]
abbrev oo43 : List LOp := [⟨Op.box 48 (Operand.tmp 1), some 5, none⟩, ⟨Op.box 75 (Operand.tmp 2), some 6, none⟩, ⟨Op.alloc 48, some 8, none⟩, ⟨Op.assign (Operand.const (Value.bool false)), some 9, none⟩]
abbrev oo44 : List LOp := [⟨Op.makeMap 160 none, some 12, none⟩, ⟨Op.insert 160 (Operand.tmp 12) (Operand.const (Value.int IntKind.i64 1)) (Operand.const (Value.int IntKind.i64 2)), none, none⟩, ⟨Op.insert 160 (Operand.tmp 12) (Operand.const (Value.int IntKind.i64 2)) (Operand.const (Value.int IntKind.i64 3)), none, none⟩, ⟨Op.insert 160 (Operand.tmp 12) (Operand.const (Value.int IntKind.i64 3)) (Operand.const (Value.int IntKind.i64 5)), none, none⟩, ⟨Op.insert 160 (Operand.tmp 12) (Operand.const (Value.int IntKind.i64 4)) (Operand.const (Value.int IntKind.i64 6)), none, none⟩, ⟨Op.insert 160 (Operand.tmp 12) (Operand.const (Value.int IntKind.i64 5)) (Operand.const (Value.int IntKind.i64 4)), none, none⟩, ⟨Op.move (Operand.tmp 12), some 13, none⟩, ⟨Op.assign (Operand.tmp 13), some 10, none⟩]
abbrev oo45 : List LOp := [⟨Op.move (Operand.tmp 10), some 14, none⟩, ⟨Op.fieldAddr 75 (Operand.tmp 6) 0, some 15, none⟩, ⟨Op.load 73 (Operand.tmp 15), some 16, none⟩, ⟨Op.lookup 160 (Operand.tmp 14) (Operand.tmp 16) false, some 17, none⟩, ⟨Op.load 48 (Operand.tmp 5), some 18, none⟩, ⟨Op.buildSlice 45 1 #[(0, Operand.tmp 18)], some 19, none⟩, ⟨Op.build 48 #[(0, Operand.tmp 17), (1, Operand.tmp 19)], some 20, none⟩, ⟨Op.alloc 48, some 11, none⟩, ⟨Op.store 48 (Operand.tmp 11) (Operand.tmp 20), none, none⟩]
abbrev oo46 : List LOp := [⟨Op.fieldAddr 75 (Operand.tmp 6) 0, some 21, none⟩, ⟨Op.load 73 (Operand.tmp 21), some 22, none⟩]
abbrev oo47 : List LOp := [⟨Op.binOp BinOp.eql 73 (Operand.tmp 22) (Operand.const (Value.int IntKind.i64 1)) 73, some 24, none⟩, ⟨Op.assign (Operand.tmp 24), some 23, none⟩]
abbrev oo48 : List LOp := [⟨Op.load 48 (Operand.tmp 11), some 100, none⟩, ⟨Op.store 48 (Operand.tmp 8) (Operand.tmp 100), none, none⟩, ⟨Op.assign (Operand.const (Value.bool true)), some 9, none⟩]
abbrev oo49 : List LOp := [⟨Op.binOp BinOp.eql 73 (Operand.tmp 22) (Operand.const (Value.int IntKind.i64 2)) 73, some 25, none⟩, ⟨Op.assign (Operand.tmp 25), some 23, none⟩]
abbrev oo50 : List LOp := [⟨Op.binOp BinOp.eql 73 (Operand.tmp 22) (Operand.const (Value.int IntKind.i64 3)) 73, some 33, none⟩, ⟨Op.assign (Operand.tmp 33), some 32, none⟩]
abbrev oo51 : List LOp := [⟨Op.binOp BinOp.eql 73 (Operand.tmp 22) (Operand.const (Value.int IntKind.i64 4)) 73, some 41, none⟩, ⟨Op.assign (Operand.tmp 41), some 40, none⟩]
abbrev oo52 : List LOp := [⟨Op.binOp BinOp.eql 73 (Operand.tmp 22) (Operand.const (Value.int IntKind.i64 5)) 73, some 46, none⟩, ⟨Op.assign (Operand.tmp 46), some 45, none⟩]
abbrev oo53 : List LOp := [⟨Op.fieldAddr 75 (Operand.tmp 6) 5, some 47, none⟩, ⟨Op.load 3 (Operand.tmp 47), some 48, none⟩, ⟨Op.binOp BinOp.lss 3 (Operand.tmp 48) (Operand.const (Value.int IntKind.i64 0)) 3, some 49, none⟩, ⟨Op.move (Operand.tmp 49), some 50, none⟩, ⟨Op.fieldAddr 75 (Operand.tmp 6) 5, some 51, some (some 50, false)⟩, ⟨Op.load 3 (Operand.tmp 51), some 52, some (some 50, false)⟩, ⟨Op.move (Operand.tmp 3), some 53, some (some 50, false)⟩, ⟨Op.binOp BinOp.geq 3 (Operand.tmp 52) (Operand.tmp 53) 3, some 54, some (some 50, false)⟩, ⟨Op.pick (Operand.tmp 50) (Operand.const (Value.bool true)) (Operand.tmp 54), some 55, none⟩, ⟨Op.move (Operand.tmp 55), some 56, none⟩, ⟨Op.move (Operand.tmp 0), some 57, some (some 56, false)⟩, ⟨Op.nilCheck (Operand.tmp 57), some 58, some (some 56, false)⟩, ⟨Op.fieldAddr 120 (Operand.tmp 58) 3, some 59, some (some 56, false)⟩, ⟨Op.load 118 (Operand.tmp 59), some 60, some (some 56, false)⟩, ⟨Op.fieldAddr 75 (Operand.tmp 6) 5, some 61, some (some 56, false)⟩, ⟨Op.load 3 (Operand.tmp 61), some 62, some (some 56, false)⟩, ⟨Op.lookup 118 (Operand.tmp 60) (Operand.tmp 62) false, some 63, some (some 56, false)⟩, ⟨Op.pick (Operand.tmp 56) (Operand.const (Value.bool true)) (Operand.tmp 63), some 64, none⟩]
end Go.Proofs.Ytimgbdkgjfbhkaa.Z
section
/- Terms that are safe: the program's, the document's. -/
set_option maxRecDepth 100000
namespace Go.Proofs.Ytimgbdkgjfbhkaa.Z
open Go Go.Fw
def riskO (op : Int) : Bool := decide (12 ≤ op ∧ op ≤ 16 ∨ op = 18)
mutual
def safeT : TermT → Bool
  | .mk op k _ _ _ => !riskO op && safeL k
def safeL : List TermT → Bool
  | [] => true
  | t :: r => safeT t && safeL r
end
theorem safeT_eq (t : TermT) : safeT t = (!riskO t.op && safeL t.kids) := by cases t; rw [safeT]; rfl
theorem safeL_any (l : List TermT) : safeL l = !(l.any fun e => !safeT e) := by
  induction l with
  | nil => rfl
  | cons t r ih => rw [safeL, ih, List.any_cons]; cases safeT t <;> simp
theorem mem_rdT {α : Type} [Inhabited α] {l : List α} {x : α} (h : x ∈ l) : ∃ j : Nat, j < l.length ∧ rdI l j = x := by
  obtain ⟨j, hj⟩ := List.getElem?_of_mem h
  obtain ⟨h1, h2⟩ := List.getElem?_eq_some_iff.1 hj
  exact ⟨j, h1, by simp [rdI, List.getD_eq_getElem?_getD, hj]⟩
theorem findP_ok (nn : Bool) (l : List TermT) (fn : FuncId) (p : TermT → Bool) (hp : ∀ e ∈ l, Snd P fn [.d (.ag (encT e))] (.bool (p e)) []) : Snd P 95 [.d (.sl nn (l.map encT)), .fn fn []] (.int (findS p l)) [] := by
  refine Snd.ok 0 rfl (by kernel_rfl) fun hl => ?_
  simp only [D.ok, List.length_map] at hl
  obtain ⟨hl, -⟩ := hl
  refine snd_of [] Try.func95 rfl (by kernel_rfl) Try.ntmps95 (by simp) ?_
  unfold Try.f95
  simp only [List.cons_append, List.nil_append, List.length_cons, List.length_nil, Nat.reduceAdd, Nat.reduceSub, List.replicate]
  refine Run.seq ?_
  refine opsF oo3 fun K hK => ?_
  try simp
  repeat' first | ((refine evL_c ?_); simp) | (with_reducible refine And.intro ?_ ?_) | intro _ | (with_reducible assumption) | omega
  all_goals (refine Fin.go hK ?_; clear hK K)
  simp only [Then_normal]
  refine Run.seq ?_
  refine Run.seq ?_
  refine opsF oo4 fun K hK => ?_
  try simp
  repeat' first | ((refine evL_c ?_); simp) | (with_reducible refine And.intro ?_ ?_) | intro _ | (with_reducible assumption) | omega
  all_goals (refine Fin.go hK ?_; clear hK K)
  simp only [Then_normal]
  refine Run.block ?_
  refine Run.loopO [4, 5, 8, 9, 10, 11, 12, 13, 14, 15, 16, 17, 18] (fun (i : Nat) => [(8, .int i)]) (fun (i : Nat) => []) (fun (i : Nat) => i ≤ l.length ∧ ∀ j, j < i → p (rdI l (j : Nat)) = false) (fun (i : Nat) => l.length - i) 0 (by simp) (by simp) fun i ⟨hi, hz⟩ => ?_
  simp only [over, List.foldl, List.set]
  refine Run.seq ?_
  refine opsF oo5 fun K hK => ?_
  try simp
  repeat' first | ((refine evL_c ?_); simp) | (with_reducible refine And.intro ?_ ?_) | intro _ | (with_reducible assumption) | omega
  all_goals (refine Fin.go hK ?_; clear hK K)
  simp only [Then_normal]
  refine Run.seq ?_
  refine Run.cond rfl (fun h9 => ?_) (fun h9 => ?_)
  · try simp at h9
    refine Run.skip ?_
    simp only [Then_normal]
    refine Run.seq ?_
    refine Run.block ?_
    refine Run.seq ?_
    refine opsF oo6 fun K hK => ?_
    try simp
    repeat' first | ((refine evL_c ?_); simp [h9]) | (with_reducible refine And.intro ?_ ?_) | intro _ | (with_reducible assumption) | omega
    all_goals (refine Fin.go hK ?_; clear hK K)
    simp only [Then_normal]
    refine Run.seq ?_
    refine opsF oo7 fun K hK => ?_
    try simp
    repeat' first | (refine ecallD (by have h := hp _ (rdI_mem (l := l) (i := i) (by omega) (by omega)); rw [encT_cells] at h; exact h) ?_) | ((refine evL_c ?_); simp [h9]) | (with_reducible refine And.intro ?_ ?_) | intro _ | (with_reducible assumption) | omega
    all_goals (refine Fin.go hK ?_; clear hK K)
    simp only [Then_normal]
    refine Run.cond rfl (fun h16 => ?_) (fun h16 => ?_)
    · try simp at h16
      refine Run.seq ?_
      refine opsF oo8 fun K hK => ?_
      try simp
      repeat' first | ((refine evL_c ?_); simp [h9, h16]) | (with_reducible refine And.intro ?_ ?_) | intro _ | (with_reducible assumption) | omega
      all_goals (refine Fin.go hK ?_; clear hK K)
      simp only [Then_normal]
      refine Run.ret ?_
      try simp only [Then_ret, Blok_ret]
      first
        | (have e := findS_some h9 hz h16; simp [e]; done)
        | (have e := findS_none (p := p) (l := l) (fun j hj => hz j (by omega)); simp [e])
    · try simp at h16
      refine Run.skip ?_
      simp only [Blok_normal]
      simp only [Then_normal]
      refine opsF oo9 fun K hK => ?_
      try simp
      repeat' first | ((refine evL_c ?_); simp [h9, h16]) | (with_reducible refine And.intro ?_ ?_) | intro _ | (with_reducible assumption) | omega
      all_goals (refine Fin.go hK ?_; clear hK K)
      refine ⟨i + 1, ⟨by omega, fun j hj => ?_⟩, by omega, ?_⟩
      · by_cases e : j = i
        · subst e; exact h16
        · exact hz j (by omega)
      · simp (disch := omega) [wrap_id]
  · try simp at h9
    refine Run.exit ?_
    simp (decide := true) only [Then_exit, Blok_exit, if_true, if_false]
    simp only [Then_normal]
    refine Run.seq ?_
    refine opsF oo10 fun K hK => ?_
    try simp
    repeat' first | ((refine evL_c ?_); simp [h9]) | (with_reducible refine And.intro ?_ ?_) | intro _ | (with_reducible assumption) | omega
    all_goals (refine Fin.go hK ?_; clear hK K)
    simp only [Then_normal]
    refine Run.ret ?_
    try simp only [Then_ret, Blok_ret]
    first
      | (have e := findS_some h9 hz h16; simp [e]; done)
      | (have e := findS_none (p := p) (l := l) (fun j hj => hz j (by omega)); simp [e])

theorem anyP_ok (nn : Bool) (l : List TermT) (fn : FuncId) (p : TermT → Bool) (hp : ∀ e ∈ l, Snd P fn [.d (.ag (encT e))] (.bool (p e)) []) : Snd P 72 [.d (.sl nn (l.map encT)), .fn fn []] (.bool (l.any p)) [] := by
  refine snd_of [] Try.func72 rfl (by kernel_rfl) Try.ntmps72 (by simp) ?_
  unfold Try.f72
  simp only [List.cons_append, List.nil_append, List.length_cons, List.length_nil, Nat.reduceAdd, Nat.reduceSub, List.replicate]
  refine Run.seq ?_
  refine opsF oo11 fun K hK => ?_
  try simp
  repeat' first | ((refine evL_c ?_); simp) | (with_reducible refine And.intro ?_ ?_) | intro _ | (with_reducible assumption) | omega
  all_goals (refine Fin.go hK ?_; clear hK K)
  simp only [Then_normal]
  refine Run.seq ?_
  refine opsF oo12 fun K hK => ?_
  try simp
  repeat' first | (refine ecallD (findP_ok nn l fn p hp) ?_) | ((refine evL_c ?_); simp) | (with_reducible refine And.intro ?_ ?_) | intro _ | (with_reducible assumption) | omega
  all_goals (refine Fin.go hK ?_; clear hK K)
  simp only [Then_normal]
  refine Run.ret ?_
  try simp only [Then_ret, Blok_ret]
  simp [findS_any]

theorem safeN_ok (t : TermT) (IH : Snd P 59 [.d (.ag (encT t))] (.bool (safeT t)) []) : Snd P 88 [.d (.ag (encT t))] (.bool (!safeT t)) [] := by
  rw [encT_cells] at IH
  refine snd_of [] Try.func88 rfl (by kernel_rfl) Try.ntmps88 (by simp) ?_
  unfold Try.f88
  simp only [List.cons_append, List.nil_append, List.length_cons, List.length_nil, Nat.reduceAdd, Nat.reduceSub, List.replicate]
  refine Run.seq ?_
  refine opsF oo41 fun K hK => ?_
  try simp
  repeat' first | ((refine evL_c ?_); simp) | (with_reducible refine And.intro ?_ ?_) | intro _ | (with_reducible assumption) | omega
  all_goals (refine Fin.go hK ?_; clear hK K)
  simp only [Then_normal]
  refine Run.seq ?_
  refine opsF [⟨Op.load 89 (Operand.tmp 1), some 3, none⟩, ⟨Op.call { callee := Callee.value (Operand.func 59), args := #[Operand.tmp 3], argTypes := #[89] }, some 4, none⟩, ⟨Op.unOp UnOp.not 4 (Operand.tmp 4), some 5, none⟩, ⟨Op.assign (Operand.tmp 5), some 2, none⟩] fun K hK => ?_
  try simp
  repeat' first | (refine ecallD (by exact IH) ?_) | ((refine evL_c ?_); simp) | (with_reducible refine And.intro ?_ ?_) | intro _ | (with_reducible assumption) | omega
  all_goals (refine Fin.go hK ?_; clear hK K)
  simp only [Then_normal]
  refine Run.ret ?_
  try simp only [Then_ret, Blok_ret]
  simp

set_option maxHeartbeats 4000000 in
theorem safe1_ok (t : TermT) (IH : ∀ i : Nat, i < t.kids.length → Snd P 59 [.d (.ag (encT (rdI t.kids i)))] (.bool (safeT (rdI t.kids i))) []) : Snd P 59 [.d (.ag (encT t))] (.bool (safeT t)) [] := by
  have hA := anyP_ok false t.kids 88 (fun e => !safeT e) (fun e he => by
    obtain ⟨j, hj, rfl⟩ := mem_rdT he
    exact safeN_ok _ (IH j hj))
  have he := safeT_eq t
  rw [safeL_any] at he
  obtain ⟨an, han⟩ : ∃ x, (t.kids.any fun e => !safeT e) = x := ⟨_, rfl⟩
  obtain ⟨r, hr⟩ : ∃ x, safeT t = x := ⟨_, rfl⟩
  obtain ⟨ri, hri⟩ : ∃ x, riskO t.op = x := ⟨_, rfl⟩
  rw [hr, hri, han] at he
  rw [han] at hA
  rw [hr]
  refine snd_of [] Try.func59 rfl (by kernel_rfl) Try.ntmps59 (by simp) ?_
  unfold Try.f59
  simp only [List.cons_append, List.nil_append, List.length_cons, List.length_nil, Nat.reduceAdd, Nat.reduceSub, List.replicate]
  refine Run.seq ?_
  refine opsF oo41 fun K hK => ?_
  try simp
  repeat' first | ((refine evL_c ?_); simp) | (with_reducible refine And.intro ?_ ?_) | intro _ | (with_reducible assumption) | omega
  all_goals (refine Fin.go hK ?_; clear hK K)
  simp only [Then_normal]
  refine Run.cut [3, 4, 5, 6, 7, 8, 9, 10, 11, 12, 13, 14, 15, 16] [(3, .bool ri)] [(200, .vals ((encT t).map .d))] ?_ ?_
  · refine opsF [⟨Op.fieldAddr 89 (Operand.tmp 1) 0, some 4, none⟩, ⟨Op.load 84 (Operand.tmp 4), some 5, none⟩, ⟨Op.binOp BinOp.geq 84 (Operand.tmp 5) (Operand.const (Value.int IntKind.i64 12)) 84, some 6, none⟩, ⟨Op.move (Operand.tmp 6), some 7, none⟩, ⟨Op.fieldAddr 89 (Operand.tmp 1) 0, some 8, some (some 7, true)⟩, ⟨Op.load 84 (Operand.tmp 8), some 9, some (some 7, true)⟩, ⟨Op.binOp BinOp.leq 84 (Operand.tmp 9) (Operand.const (Value.int IntKind.i64 16)) 84, some 10, some (some 7, true)⟩, ⟨Op.pick (Operand.tmp 7) (Operand.tmp 10) (Operand.const (Value.bool false)), some 11, none⟩, ⟨Op.move (Operand.tmp 11), some 12, none⟩, ⟨Op.fieldAddr 89 (Operand.tmp 1) 0, some 13, some (some 12, false)⟩, ⟨Op.load 84 (Operand.tmp 13), some 14, some (some 12, false)⟩, ⟨Op.binOp BinOp.eql 84 (Operand.tmp 14) (Operand.const (Value.int IntKind.i64 18)) 84, some 15, some (some 12, false)⟩, ⟨Op.pick (Operand.tmp 12) (Operand.const (Value.bool true)) (Operand.tmp 15), some 16, none⟩, ⟨Op.assign (Operand.tmp 16), some 3, none⟩] fun K hK => ?_
    try simp
    repeat' first | ((first | refine evL_c ?_ | (refine evL_g rfl ?_; try simp only [gs_tt, gs_ff, gs_tf, gs_ft]) | refine evL_u rfl ?_ | (with_reducible refine gsplit (fun hg => ?_) (fun hg => ?_) <;> try simp at hg)) <;> try simp) | (with_reducible refine And.intro ?_ ?_) | intro _ | (with_reducible assumption) | omega
    all_goals (refine Fin.go hK ?_; clear hK K)
    all_goals
      rw [← hri]
      (try simp [riskO]) <;> (first | omega | (simp; done) | (rw [Bool.eq_iff_iff]; simp only [Bool.or_eq_true, Bool.and_eq_true, Bool.not_eq_true', decide_eq_true_eq, decide_eq_false_iff_not]; omega) | (simp_all; done) | (simp_all; omega) | grind)
  · simp only [over, List.foldl, List.set]
    refine Run.seq ?_
    refine opsF [⟨Op.move (Operand.tmp 3), some 17, none⟩, ⟨Op.unOp UnOp.not 4 (Operand.tmp 17), some 18, none⟩, ⟨Op.move (Operand.tmp 18), some 19, none⟩, ⟨Op.fieldAddr 89 (Operand.tmp 1) 1, some 20, some (some 19, true)⟩, ⟨Op.load 28 (Operand.tmp 20), some 21, some (some 19, true)⟩, ⟨Op.call { callee := Callee.value (Operand.func 72), args := #[Operand.tmp 21, Operand.func 88], argTypes := #[28, 131] }, some 22, some (some 19, true)⟩, ⟨Op.unOp UnOp.not 4 (Operand.tmp 22), some 23, some (some 19, true)⟩, ⟨Op.pick (Operand.tmp 19) (Operand.tmp 23) (Operand.const (Value.bool false)), some 24, none⟩, ⟨Op.assign (Operand.tmp 24), some 2, none⟩] fun K hK => ?_
    try simp
    repeat' first | (refine ecallD (by exact hA) ?_) | ((first | refine evL_c ?_ | (refine evL_g rfl ?_; try simp only [gs_tt, gs_ff, gs_tf, gs_ft]) | refine evL_u rfl ?_ | (with_reducible refine gsplit (fun hg => ?_) (fun hg => ?_) <;> try simp at hg)) <;> try simp [*]) | (with_reducible refine And.intro ?_ ?_) | intro _ | (with_reducible assumption) | omega
    all_goals (refine Fin.go hK ?_; clear hK K)
    all_goals
      simp only [Then_normal]
      refine Run.ret ?_
      try simp only [Then_ret, Blok_ret]
      (try simp [he]) <;> (first | omega | (simp; done) | (rw [Bool.eq_iff_iff]; simp only [Bool.or_eq_true, Bool.and_eq_true, Bool.not_eq_true', decide_eq_true_eq, decide_eq_false_iff_not]; omega) | (simp_all; done) | (simp_all; omega) | grind)


theorem safe_ok (t : TermT) : Snd P 59 [.d (.ag (encT t))] (.bool (safeT t)) [] :=
  safe1_ok t fun i hi =>
    have := kidT_lt (rdI_mem (l := t.kids) (i := i) (by omega) (by omega))
    safe_ok (rdI t.kids i)
termination_by SizeOf.sizeOf t
end Go.Proofs.Ytimgbdkgjfbhkaa.Z
end
section
/- The first plan: plain functions; scans and steps, walked. -/
set_option maxRecDepth 100000
namespace Go.Proofs.Ytimgbdkgjfbhkaa.Z
open Go Go.Fw
def scanQ (n : Int) : PlanT := .mk 1 [] n [] false []
def joinQ (p : PlanT) (n : Int) : PlanT := .mk 4 [p, scanQ n] 0 [] false []
def stepQ (c : CoreT) (p : PlanT) (k : Int) (b : Bool) : PlanT := .mk (if (rdI c.edges k).mode = 0 then 2 else 3) [p] 0 [k] b []
def filtQ (p : PlanT) (l : List TermT) : PlanT := .mk 6 [p] 0 [] false l
abbrev TrS := PlanT × List Int
def trAdd (l : List Int) (n : Int) : List Int := if n ∈ l then l else l ++ [n]
def trJoin (s : TrS) (n : Int) : TrS := if n ∈ s.2 then s else (joinQ s.1 n, trAdd s.2 n)
def trBack (c : CoreT) (k : Int) (l : List Int) : Bool := !decide ((rdI c.edges k).src ∈ l) && decide ((rdI c.edges k).dst ∈ l)
def trEdge (c : CoreT) (k : Int) (s : TrS) : TrS :=
  (stepQ c (if trBack c k s.2 then s else trJoin s (rdI c.edges k).src).1 k (trBack c k s.2), trAdd (trAdd (if trBack c k s.2 then s else trJoin s (rdI c.edges k).src).2 (rdI c.edges k).src) (rdI c.edges k).dst)
def edgesN (c : CoreT) : Nat → TrS
  | 0 => (scanQ 0, [0])
  | i + 1 => trEdge c i (edgesN c i)
def nodesN (c : CoreT) : Nat → TrS
  | 0 => edgesN c c.edges.length
  | i + 1 => trJoin (nodesN c i) i
def filtO (p : PlanT) (l : List TermT) : PlanT := if l.length = 0 then p else filtQ p l
def filtB (p : PlanT) (l : List TermT) : PlanT := filtO (filtO p (l.filter safeT)) (l.filter fun t => !safeT t)
def zeroQ : PlanT := .mk 0 [] 0 [] false []
def transS (c : CoreT) : PlanT := if patS c.nodes c.edges then filtB (nodesN c c.nodes.length).1 c.wher else zeroQ
@[simp] theorem scanQ_op (n : Int) : (scanQ n).op = 1 := rfl
@[simp] theorem scanQ_kids (n : Int) : (scanQ n).kids = [] := rfl
@[simp] theorem scanQ_slot (n : Int) : (scanQ n).slot = n := rfl
@[simp] theorem scanQ_edges (n : Int) : (scanQ n).edges = [] := rfl
@[simp] theorem scanQ_back (n : Int) : (scanQ n).back = false := rfl
@[simp] theorem scanQ_terms (n : Int) : (scanQ n).terms = [] := rfl
@[simp] theorem joinQ_op (p : PlanT) (n : Int) : (joinQ p n).op = 4 := rfl
@[simp] theorem joinQ_kids (p : PlanT) (n : Int) : (joinQ p n).kids = [p, scanQ n] := rfl
@[simp] theorem joinQ_slot (p : PlanT) (n : Int) : (joinQ p n).slot = 0 := rfl
@[simp] theorem joinQ_edges (p : PlanT) (n : Int) : (joinQ p n).edges = [] := rfl
@[simp] theorem joinQ_back (p : PlanT) (n : Int) : (joinQ p n).back = false := rfl
@[simp] theorem joinQ_terms (p : PlanT) (n : Int) : (joinQ p n).terms = [] := rfl
@[simp] theorem stepQ_op (c : CoreT) (p : PlanT) (k : Int) (b : Bool) : (stepQ c p k b).op = (if (rdI c.edges k).mode = 0 then 2 else 3) := rfl
@[simp] theorem stepQ_kids (c : CoreT) (p : PlanT) (k : Int) (b : Bool) : (stepQ c p k b).kids = [p] := rfl
@[simp] theorem stepQ_slot (c : CoreT) (p : PlanT) (k : Int) (b : Bool) : (stepQ c p k b).slot = 0 := rfl
@[simp] theorem stepQ_edges (c : CoreT) (p : PlanT) (k : Int) (b : Bool) : (stepQ c p k b).edges = [k] := rfl
@[simp] theorem stepQ_back (c : CoreT) (p : PlanT) (k : Int) (b : Bool) : (stepQ c p k b).back = b := rfl
@[simp] theorem stepQ_terms (c : CoreT) (p : PlanT) (k : Int) (b : Bool) : (stepQ c p k b).terms = [] := rfl
@[simp] theorem filtQ_op (p : PlanT) (l : List TermT) : (filtQ p l).op = 6 := rfl
@[simp] theorem filtQ_kids (p : PlanT) (l : List TermT) : (filtQ p l).kids = [p] := rfl
@[simp] theorem filtQ_slot (p : PlanT) (l : List TermT) : (filtQ p l).slot = 0 := rfl
@[simp] theorem filtQ_edges (p : PlanT) (l : List TermT) : (filtQ p l).edges = [] := rfl
@[simp] theorem filtQ_back (p : PlanT) (l : List TermT) : (filtQ p l).back = false := rfl
@[simp] theorem filtQ_terms (p : PlanT) (l : List TermT) : (filtQ p l).terms = l := rfl
@[simp] theorem zeroQ_op  : (zeroQ).op = 0 := rfl
@[simp] theorem zeroQ_kids  : (zeroQ).kids = [] := rfl
@[simp] theorem zeroQ_slot  : (zeroQ).slot = 0 := rfl
@[simp] theorem zeroQ_edges  : (zeroQ).edges = [] := rfl
@[simp] theorem zeroQ_back  : (zeroQ).back = false := rfl
@[simp] theorem zeroQ_terms  : (zeroQ).terms = [] := rfl
/-- the known nodes as bools -/
def kb (n : Nat) (l : List Int) : List Bool := (List.range n).map fun (j : Nat) => decide ((j : Int) ∈ l)
theorem kb_len (n : Nat) (l : List Int) : (kb n l).length = n := by simp [kb]
theorem kb_rd {n : Nat} {l : List Int} {x : Int} (h0 : 0 ≤ x) (h1 : x < n) : rdI (kb n l) x = decide (x ∈ l) := by
  have h2 : x.toNat < n := by omega
  have h3 : ((x.toNat : Nat) : Int) = x := by omega
  simp [rdI, kb, List.getD_eq_getElem?_getD, h2, h3]
theorem mem_trAdd {l : List Int} {n x : Int} : x ∈ trAdd l n ↔ x ∈ l ∨ x = n := by
  unfold trAdd
  split
  · rename_i h
    constructor
    · exact .inl
    · rintro (h1 | rfl)
      · exact h1
      · exact h
  · simp
theorem kb_set {n : Nat} {l : List Int} {x : Int} (h0 : 0 ≤ x) : (kb n l).set x.toNat true = kb n (trAdd l x) := by
  apply List.ext_getElem (by simp [kb])
  intro j h1 h2
  have hj : j < n := by simpa [kb] using h2
  rw [List.getElem_set]
  simp only [kb, List.getElem_map, List.getElem_range]
  by_cases e : x.toNat = j
  · rw [if_pos e]
    have : (j : Int) ∈ trAdd l x := mem_trAdd.2 (.inr (by omega))
    simp [this]
  · rw [if_neg e]
    have : (j : Int) ∈ trAdd l x ↔ (j : Int) ∈ l := by
      rw [mem_trAdd]
      constructor
      · rintro (h | h)
        · exact h
        · omega
      · exact .inl
    simp [this]
theorem trAdd_same {l : List Int} {n : Int} (h : n ∈ l) : trAdd l n = l := by rw [trAdd, if_pos h]
theorem scanP_ok (n : Int) : Snd P 57 [.int n] (.d (.ag (encP (scanQ n)))) [] := by
  refine snd_of [] Try.func57 rfl (by kernel_rfl) Try.ntmps57 (by simp) ?_
  unfold Try.f57
  simp only [List.cons_append, List.nil_append, List.length_cons, List.length_nil, Nat.reduceAdd, Nat.reduceSub, List.replicate]
  refine Run.seq ?_
  refine opsF [⟨Op.alloc 48, some 2, none⟩] fun K hK => ?_
  try simp
  repeat' first | ((refine evL_c ?_); simp) | (with_reducible refine And.intro ?_ ?_) | intro _ | (with_reducible assumption) | omega
  all_goals (refine Fin.go hK ?_; clear hK K)
  simp only [Then_normal]
  refine Run.seq ?_
  refine opsF [⟨Op.move (Operand.tmp 0), some 3, none⟩, ⟨Op.build 48 #[(0, Operand.const (Value.int IntKind.i64 1)), (2, Operand.tmp 3)], some 4, none⟩, ⟨Op.store 48 (Operand.tmp 2) (Operand.tmp 4), none, none⟩] fun K hK => ?_
  try simp
  repeat' first | ((refine evL_c ?_); simp) | (with_reducible refine And.intro ?_ ?_) | intro _ | (with_reducible assumption) | omega
  all_goals (refine Fin.go hK ?_; clear hK K)
  simp only [Then_normal]
  refine Run.subB 300 1 (.d (.sl false [])) rfl rfl nil_sl ?_
  simp
  refine Run.subB 300 3 (.d (.sl false [])) rfl rfl nil_sl ?_
  simp
  refine Run.subB 300 5 (.d (.sl false [])) rfl rfl nil_sl ?_
  simp
  refine Run.ret ?_
  try simp only [Then_ret, Blok_ret]
  simp

end Go.Proofs.Ytimgbdkgjfbhkaa.Z
end
section
set_option maxRecDepth 100000
namespace Go.Proofs.Ytimgbdkgjfbhkaa.Z
open Go Go.Fw
/-- a map by which numbers are known -/
def mpK (l : List Int) : Blk := .mp (l.map (Value.int .i64)) (l.map fun _ => V.bool true)
theorem fgtL_K (p : Nat → Bool) (l : List Int) : V.fgtL p (l.map fun _ => V.bool true) = l.map fun _ => V.bool true := by
  induction l with
  | nil => rfl
  | cons n r ih => simp [V.fgtL, V.fgt, ih]
theorem renL_K (p : Nat → Nat) (l : List Int) : V.renL p (l.map fun _ => V.bool true) = l.map fun _ => V.bool true := by
  induction l with
  | nil => rfl
  | cons n r ih => simp [V.renL, V.ren, ih]
theorem menL_K (p : Nat → Bool) (l : List Int) : V.menL p (l.map fun _ => V.bool true) = false := by
  induction l with
  | nil => rfl
  | cons n r ih => simp [V.menL, V.men, ih]
theorem fraL_K (i : Nat) (s : Store) (l : List Int) : V.fraL i s (l.map fun _ => V.bool true) = l.map fun _ => V.bool true := by
  induction l with
  | nil => rfl
  | cons n r ih => simp [V.fraL, V.fra, ih]
theorem finL_K (k : List Nat) (s : Store) (l : List Int) : V.finL k s (l.map fun _ => V.bool true) = l.map fun _ => V.bool true := by
  induction l with
  | nil => rfl
  | cons n r ih => simp [V.finL, V.fin, ih]
@[simp] theorem K_fgt (p : Nat → Bool) (l : List Int) : (mpK l).fgt p = mpK l := by simp only [mpK, Blk.fgt, fgtL_K]
@[simp] theorem K_ren (p : Nat → Nat) (l : List Int) : (mpK l).ren p = mpK l := by simp only [mpK, Blk.ren, renL_K]
@[simp] theorem K_men (p : Nat → Bool) (l : List Int) : (mpK l).men p = false := by simp only [mpK, Blk.men, menL_K]
@[simp] theorem K_fra (i : Nat) (s : Store) (l : List Int) : (mpK l).fra i s = mpK l := by simp only [mpK, Blk.fra, fraL_K]
@[simp] theorem K_fin (k : List Nat) (s : Store) (l : List Int) : (mpK l).fin k s = mpK l := by simp only [mpK, Blk.fin, finL_K]
theorem findK_I (n : Int) (l : List Int) (j : Nat) : findK (.int .i64) (.int .i64 n) (l.map (Value.int .i64)) j = some (if n ∈ l then some (j + l.idxOf n) else none) := by
  induction l generalizing j with
  | nil => rfl
  | cons m r ih =>
    rw [List.map_cons, findK]
    have e : Instr.sameNow (.int .i64) (.int .i64 n) (.int .i64 m) = some (decide (n = m)) := by simp [Instr.sameNow]
    rw [e]
    by_cases h : n = m
    · subst h; simp
    · rw [decide_eq_false h]
      simp only [ih]
      by_cases h2 : n ∈ r
      · rw [if_pos h2, if_pos (by simp [h2])]
        have : (m :: r).idxOf n = r.idxOf n + 1 := by rw [List.idxOf_cons]; simp [Ne.symm h]
        rw [this]; congr 2; omega
      · rw [if_neg h2, if_neg (by simp [h, h2])]
def lookB (b : Blk) (n : Int) : Option (Prop × V) := match b with
  | .mp ks vs => match findK (.int .i64) (.int .i64 n) ks 0 with
    | some (some i) => match vs[i]? with | some v => some (True, v) | none => none
    | some none => some (True, .bool false)
    | none => none
  | _ => none
def updB (b : Blk) (n : Int) (x : V) : Option Blk := match b with
  | .mp ks vs => match findK (.int .i64) (.int .i64 n) ks 0 with
    | some (some i) => some (.mp (ks.set i (.int .i64 n)) (vs.set i x))
    | some none => some (.mp (ks ++ [.int .i64 n]) (vs ++ [x]))
    | none => none
  | _ => none
theorem look101 (id : Nat) (n : Int) (s : Store) : lookV P 118 (.mp id) (.d (.lit (.int .i64 n))) false s = (getB s id).bind fun b => lookB b n := by
  simp only [lookV, ty_map118, ty_key3, ty_zv4]
  cases getB s id with
  | none => rfl
  | some b => cases b <;> rfl
theorem upd101 (id : Nat) (n : Int) (x : V) (s : Store) : updV P 118 (.mp id) (.d (.lit (.int .i64 n))) x s = (getB s id).bind fun b => (updB b n x).map fun c => (True, putB s id c) := by
  simp only [updV, ty_map118, ty_key3]
  cases getB s id with
  | none => rfl
  | some b =>
    cases b with
    | mp ks vs =>
      simp only [Option.bind_some, updB]
      rcases hf : findK (.int .i64) (.int .i64 n) ks 0 with _ | (_ | i) <;> simp [hf]
    | _ => rfl
theorem idx_lt {l : List Int} {n : Int} (h : n ∈ l) : l.idxOf n < l.length := List.idxOf_lt_length_iff.2 h
@[simp] theorem look_K (l : List Int) (n : Int) : lookB (mpK l) n = some (True, .bool (decide (n ∈ l))) := by
  simp only [lookB, mpK, findK_I]
  by_cases h : n ∈ l
  · rw [if_pos h]
    have := idx_lt h
    simp [h, this]
  · rw [if_neg h]
    simp [h]
@[simp] theorem upd_K (l : List Int) (n : Int) : updB (mpK l) n (.bool true) = some (mpK (trAdd l n)) := by
  simp only [updB, mpK, findK_I]
  by_cases h : n ∈ l
  · rw [if_pos h, trAdd_same h]
    have hl := idx_lt h
    simp only [Nat.zero_add]
    congr 2
    · apply List.ext_getElem (by simp)
      intro j h1 h2
      rw [List.getElem_set]
      split
      · rename_i e; subst e; simp [List.getElem_idxOf]
      · rfl
    · apply List.ext_getElem (by simp)
      intro j h1 h2
      rw [List.getElem_set]
      split <;> simp
  · rw [if_neg h, trAdd, if_neg h]
    simp
@[simp] theorem fgt_vals (p : Nat → Bool) (c : List V) : (Blk.vals c).fgt p = .vals (V.fgtL p c) := rfl
@[simp] theorem fgt_data (p : Nat → Bool) (n : Nat) (r : List (List D)) : (Blk.data n r).fgt p = .data n r := rfl
@[simp] theorem fgt_mp (p : Nat → Bool) (ks : List Value) (vs : List V) : (Blk.mp ks vs).fgt p = .mp ks (V.fgtL p vs) := rfl
@[simp] theorem ren_vals (p : Nat → Nat) (c : List V) : (Blk.vals c).ren p = .vals (V.renL p c) := rfl
@[simp] theorem ren_data (p : Nat → Nat) (n : Nat) (r : List (List D)) : (Blk.data n r).ren p = .data n r := rfl
@[simp] theorem ren_mp (p : Nat → Nat) (ks : List Value) (vs : List V) : (Blk.mp ks vs).ren p = .mp ks (V.renL p vs) := rfl
@[simp] theorem men_vals (p : Nat → Bool) (c : List V) : (Blk.vals c).men p = V.menL p c := rfl
@[simp] theorem men_data (p : Nat → Bool) (n : Nat) (r : List (List D)) : (Blk.data n r).men p = false := rfl
@[simp] theorem men_mp (p : Nat → Bool) (ks : List Value) (vs : List V) : (Blk.mp ks vs).men p = V.menL p vs := rfl
@[simp] theorem fin_vals (k : List Nat) (s : Store) (c : List V) : (Blk.vals c).fin k s = .vals (V.finL k s c) := rfl
@[simp] theorem fin_data (k : List Nat) (s : Store) (n : Nat) (r : List (List D)) : (Blk.data n r).fin k s = .data n r := rfl
@[simp] theorem fin_mp (k : List Nat) (s : Store) (ks : List Value) (vs : List V) : (Blk.mp ks vs).fin k s = .mp ks (V.finL k s vs) := rfl
@[simp] theorem fra_vals (i : Nat) (s : Store) (c : List V) : (Blk.vals c).fra i s = .vals (V.fraL i s c) := rfl
@[simp] theorem fra_data (i : Nat) (s : Store) (n : Nat) (r : List (List D)) : (Blk.data n r).fra i s = .data n r := rfl
@[simp] theorem fra_mp (i : Nat) (s : Store) (ks : List Value) (vs : List V) : (Blk.mp ks vs).fra i s = .mp ks (V.fraL i s vs) := rfl
attribute [-simp] lookV updV Blk.fgt Blk.ren Blk.men Blk.fin
attribute [local simp] look101 upd101
set_option maxHeartbeats 4000000 in
theorem joinF_ok (q : PlanT) (l : List Int) (n : Int) : SndW P 58 [.int n, .pt 0 0 0 0, .pt 2 0 0 0, .pt 3 0 0 0] [(0, .vals [.mp 1]), (1, mpK l), (2, .vals ((encP q).map .d)), (3, .vals [.fn 57 []])] (.tup []) [(0, .vals [.mp 1]), (1, mpK (trJoin (q, l) n).2), (2, .vals ((encP (trJoin (q, l) n).1).map .d)), (3, .vals [.fn 57 []])] := by
  have hs := scanP_ok n
  rw [encP_cells] at hs
  obtain ⟨j, hj⟩ : ∃ x, trJoin (q, l) n = x := ⟨_, rfl⟩
  rw [hj]
  rw [trJoin] at hj
  obtain ⟨kn, hkn⟩ : ∃ x, decide (n ∈ l) = x := ⟨_, rfl⟩
  refine sndW_of [0, 1, 2, 3] Try.func58 rfl (by kernel_rfl) Try.ntmps58 (by simp) (by simp) ?_
  unfold Try.f58
  simp only [List.cons_append, List.nil_append, List.length_cons, List.length_nil, Nat.reduceAdd, Nat.reduceSub, List.replicate]
  refine Run.seq ?_
  refine opsF [⟨Op.load 118 (Operand.tmp 1), some 5, none⟩, ⟨Op.move (Operand.tmp 0), some 6, none⟩, ⟨Op.lookup 118 (Operand.tmp 5) (Operand.tmp 6) false, some 7, none⟩, ⟨Op.unOp UnOp.not 4 (Operand.tmp 7), some 8, none⟩] fun K hK => ?_
  try simp
  repeat' first | ((refine evL_c ?_); simp [hkn]) | (with_reducible refine And.intro ?_ ?_) | intro _ | (with_reducible assumption) | omega
  all_goals (refine Fin.go hK ?_; clear hK K)
  simp only [Then_normal]
  refine Run.cond rfl (fun h8 => ?_) (fun h8 => ?_)
  · try simp at h8
    subst h8
    rw [if_neg (of_decide_eq_false hkn)] at hj
    subst hj
    refine Run.seq ?_
    refine opsF [⟨Op.load 48 (Operand.tmp 2), some 9, none⟩, ⟨Op.load 128 (Operand.tmp 3), some 10, none⟩, ⟨Op.move (Operand.tmp 0), some 11, none⟩, ⟨Op.call { callee := Callee.value (Operand.tmp 10), args := #[Operand.tmp 11], argTypes := #[3] }, some 12, none⟩, ⟨Op.buildSlice 45 2 #[(0, Operand.tmp 9), (1, Operand.tmp 12)], some 13, none⟩, ⟨Op.build 48 #[(0, Operand.const (Value.int IntKind.i64 4)), (1, Operand.tmp 13)], some 14, none⟩, ⟨Op.store 48 (Operand.tmp 2) (Operand.tmp 14), none, none⟩] fun K hK => ?_
    try simp
    repeat' first | (refine ecallD (by exact hs) ?_) | ((refine evL_c ?_); simp [hkn]) | (with_reducible refine And.intro ?_ ?_) | intro _ | (with_reducible assumption) | omega
    all_goals (refine Fin.go hK ?_; clear hK K)
    simp only [Then_normal]
    refine Run.fra 1400 ?_
    simp [V.fra, V.fraL, fraS, frz]
    refine Run.subB 2 3 (.d (.sl false [])) rfl rfl nil_sl ?_
    simp
    refine Run.subB 2 5 (.d (.sl false [])) rfl rfl nil_sl ?_
    simp
    refine opsF [⟨Op.load 118 (Operand.tmp 1), some 15, none⟩, ⟨Op.move (Operand.tmp 0), some 16, none⟩, ⟨Op.mapUpdate 118 (Operand.tmp 15) (Operand.tmp 16) (Operand.const (Value.bool true)), none, none⟩] fun K hK => ?_
    try simp
    repeat' first | ((refine evL_c ?_); simp [hkn]) | (with_reducible refine And.intro ?_ ?_) | intro _ | (with_reducible assumption) | omega
    all_goals (refine Fin.go hK ?_; clear hK K)
    simp
  · try simp at h8
    subst h8
    rw [if_pos (of_decide_eq_true hkn)] at hj
    subst hj
    refine Run.skip ?_
    simp


end Go.Proofs.Ytimgbdkgjfbhkaa.Z
end
section
namespace Go.Fw
variable {P : Program}

/-- where a value points to: a block, or none -/
def V.at? : V → Option (Option Nat)
  | .pt i _ _ _ => some (some i)
  | .d _ => some none
  | _ => none
/-- two slots that point to two blocks -/
def twoB (e : Env) (a b : Nat) : Bool := match (e.getD a .top).at?, (e.getD b .top).at? with
  | some (some i), some (some j) => i != j
  | some none, some _ => true
  | _, _ => false
def Two (na : List (Nat × Nat)) (e : Env) : Prop := na.all (fun q => twoB e q.1 q.2) = true
def loadAt (o : Oper) : Option Nat := if o.guard.isNone then (match o.op with | .load _ (.tmp a) => some a | _ => none) else none
def storeAt (o : Oper) : Option Nat := if o.guard.isNone then (match o.op with | .store _ (.tmp a) _ => some a | _ => none) else none
/-- the slots of two that may change places -/
def pairAt (na : List (Nat × Nat)) (x y : Oper) : Option (Nat × Nat) := match loadAt x, storeAt y with
  | some a, some b => if na.contains (a, b) then some (a, b) else none
  | _, _ => match storeAt x, loadAt y with
    | some a, some b => if na.contains (b, a) then some (a, b) else none
    | _, _ => none
def commN (im : Op → Bool) (na : List (Nat × Nat)) (all : List Oper) (j i : Nat) (x y : Oper) : Bool := comm im all x y || (apart all x y && x.dst.isNone != y.dst.isNone && match pairAt na x y with
  | some (a, b) => x.dst != some a && y.dst != some b && (List.range all.length).all fun k => match all[k]? with
    | some z => (decide (k ≤ j) || k == i || z.dst != some a) && (decide (k ≤ i) || z.dst != some b)
    | none => true
  | none => false)
def indepN (im : Op → Bool) (na : List (Nat × Nat)) (all : List Oper) : Bool := ahead all && (List.range all.length).all fun i => (List.range i).all fun j => dep all all.length j i || (match all[j]?, all[i]? with | some x, some y => commN im na all j i x y | _, _ => true)

theorem commN_apart {im : Op → Bool} {na : List (Nat × Nat)} {all : List Oper} {j i : Nat} {x y : Oper} (h : commN im na all j i x y = true) : apart all x y = true := by
  simp only [commN, Bool.or_eq_true, Bool.and_eq_true] at h
  rcases h with h | h
  · simp only [comm, Bool.and_eq_true] at h; exact h.1
  · exact h.1.1

theorem at_fgt {p : Nat → Bool} {v : V} {r : Option Nat} (h : (v.fgt p).at? = some r) : v.at? = some r := by
  cases v <;> simp only [V.fgt] at h <;> first | exact h | (split at h <;> first | exact h | cases h)
theorem at_fgtL {p : Nat → Bool} {e : Env} {k : Nat} {r : Option Nat} (h : ((V.fgtL p e).getD k .top).at? = some r) : (e.getD k .top).at? = some r := by
  rw [List.getD_eq_getElem?_getD, fgtL_at] at h
  rw [List.getD_eq_getElem?_getD]
  cases hk : e[k]? with
  | none => rw [hk] at h; exact h
  | some v => rw [hk] at h; exact at_fgt h
/-- what a step leaves of a slot that is not its own -/
theorem stp_at {im : Op → Bool} {all : List Oper} {o : Oper} {E E' : St} (h : Stp P im all o E E') {k : Nat} (hk : o.dst ≠ some k) {r : Option Nat} (hr : (E'.e.getD k .top).at? = some r) : (E.e.getD k .top).at? = some r := by
  have hdo : Do P o E E' → (E.e.getD k .top).at? = some r := by
    intro h
    unfold Do at h
    split at h
    · obtain ⟨c, s', _, _, rfl⟩ := h; simp only at hr; rwa [put_getD hk] at hr
    · obtain ⟨cl, ho, hcal, k', c, sz, n, blk, h1, hc, rfl⟩ := h
      simp only at hr
      rw [put_getD hk] at hr
      exact at_fgtL hr
    · obtain ⟨v, s', _, rfl⟩ := h; simp only at hr; rwa [put_getD hk] at hr
  have hdi : DoI P im o E E' → (E.e.getD k .top).at? = some r := by
    intro h
    unfold DoI at h
    split at h
    · obtain ⟨g, args, ids, s0, r', s1, hds, hco, hm0, hok, _, rfl⟩ := h
      simp only at hr; rwa [put_getD hk] at hr
    · exact hdo h
  unfold Stp at h
  split at h
  · exact h.elim
  · exact hdi h
  · rename_i want b hg
    rcases bool_or b want with hb | hb
    · exact hdi (h.1 hb)
    · rw [h.2 hb] at hr; simp only at hr; rwa [put_getD hk] at hr
theorem steps_at {im : Op → Bool} {all : List Oper} {k : Nat} : ∀ {R : List Nat} {E E' : St}, Steps P im all R E E' → (∀ j ∈ R, ∀ x, all[j]? = some x → x.dst ≠ some k) → ∀ {r : Option Nat}, (E'.e.getD k .top).at? = some r → (E.e.getD k .top).at? = some r := by
  intro R
  induction R with
  | nil => intro E E' h _ r hr; cases h; exact hr
  | cons j R ih =>
    intro E E' h hd r hr
    obtain ⟨o, hj, E1, h1, h2⟩ := h
    exact stp_at h1 (hd j (by simp) o hj) (ih h2 (fun i hi => hd i (by simp [hi])) hr)
theorem two_at {e e' : Env} {a b : Nat} (h : twoB e' a b = true) (ha : ∀ r, (e'.getD a .top).at? = some r → (e.getD a .top).at? = some r) (hb : ∀ r, (e'.getD b .top).at? = some r → (e.getD b .top).at? = some r) : twoB e a b = true := by
  unfold twoB at h ⊢
  split at h
  · rename_i i j q1 q2; rw [ha _ q1, hb _ q2]; exact h
  · rename_i r q1 q2; rw [ha _ q1, hb _ q2]
  · cases h

theorem load_store {t t2 : TypeId} {a b : Nat} {y : Operand} {e : Env} {s s' : Store} {c : Prop} (h : twoB e a b = true) (hw : opW P (.store t2 (.tmp b) y) (look e) s = some (c, s')) : opR P (.load t (.tmp a)) (look e) s' = opR P (.load t (.tmp a)) (look e) s := by
  have key : ∃ i sz r cl blk, look e (.tmp b) = .pt i sz r cl ∧ s' = putB s i blk := by
    simp only [opW] at hw
    split at hw
    · rename_i id sz r cl vs q1 q2
      split at hw
      · split at hw
        · split at hw
          · cases hw; exact ⟨_, _, _, _, _, q1, rfl⟩
          · cases hw
        · split at hw
          · split at hw
            · cases hw; exact ⟨_, _, _, _, _, q1, rfl⟩
            · cases hw
          · cases hw
        · cases hw
      · cases hw
    · cases hw
  obtain ⟨i, sz, r, cl, blk, q1, rfl⟩ := key
  have q1' : e.getD b .top = .pt i sz r cl := q1
  unfold twoB at h
  rw [q1'] at h
  simp only [opR]
  show (match e.getD a .top with | _ => _) = _
  have ea : look e (.tmp a) = e.getD a .top := rfl
  rw [ea]
  generalize e.getD a .top = va at h ⊢
  cases va with
  | pt i2 sz2 r2 c2 =>
    simp only [V.at?, bne_iff_ne, ne_eq] at h
    simp only [getB_putB]
    rw [if_neg h]
  | d x => cases x <;> rfl
  | _ => rfl
theorem exchangeN {im : Op → Bool} {na : List (Nat × Nat)} {all : List Oper} {x y : Oper} (ha : apart all x y = true) {a b : Nat} (hp : pairAt na x y = some (a, b)) {E E1 E2 : St} (ht : (twoB E.e a b = true ∧ na.contains (a, b) = true) ∨ (twoB E.e b a = true ∧ na.contains (b, a) = true)) (hn : x.dst.isNone ≠ y.dst.isNone)
    (ht2 : (loadAt x = some a ∧ storeAt y = some b ∧ twoB E.e a b = true) ∨ (storeAt x = some a ∧ loadAt y = some b ∧ twoB E.e b a = true)) (h1 : Stp P im all x E E1) (h2 : Stp P im all y E1 E2) : ∃ E1', Stp P im all y E E1' ∧ Stp P im all x E1' E2 := by
  have hl : ∀ {o : Oper} {a : Nat}, loadAt o = some a → (∃ t, o.op = .load t (.tmp a)) ∧ o.guard = none := fun {o a} q => by
    unfold loadAt at q
    split at q
    · rename_i hg
      refine ⟨?_, by simpa using hg⟩
      split at q
      · cases q; exact ⟨_, by assumption⟩
      · cases q
    · cases q
  have hu : ∀ {o : Oper} {a : Nat}, storeAt o = some a → (∃ t y, o.op = .store t (.tmp a) y) ∧ o.guard = none := fun {o a} q => by
    unfold storeAt at q
    split at q
    · rename_i hg
      refine ⟨?_, by simpa using hg⟩
      split at q
      · cases q; exact ⟨_, _, by assumption⟩
      · cases q
    · cases q
  have dl : ∀ {o : Oper} {a : Nat} {E E' : St}, loadAt o = some a → (Stp P im all o E E' ↔ ∃ c v, opR P o.op (look E.e) E.s = some (c, v) ∧ c ∧ E' = ⟨put E.e o.dst v, E.s⟩) := fun {o a E E'} q => by
    obtain ⟨⟨t, e⟩, g⟩ := hl q
    have hc : cls o.op = .r := by rw [e]; rfl
    unfold Stp
    rw [show guardOf all E.e o.guard = some none by rw [g]; rfl]
    show DoI P im o E E' ↔ _
    rw [doI_do (fun _ => by rw [hc]; simp)]
    unfold Do Loc
    rw [hc]
    simp only
    constructor
    · rintro ⟨v, s', ⟨c, q1, q2, rfl⟩, rfl⟩; exact ⟨c, v, q1, q2, rfl⟩
    · rintro ⟨c, v, q1, q2, rfl⟩; exact ⟨v, _, ⟨c, q1, q2, rfl⟩, rfl⟩
  have du : ∀ {o : Oper} {a : Nat} {E E' : St}, storeAt o = some a → (Stp P im all o E E' ↔ ∃ c s', opW P o.op (look E.e) E.s = some (c, s') ∧ c ∧ E' = ⟨put E.e o.dst vundef, s'⟩) := fun {o a E E'} q => by
    obtain ⟨⟨t, k, e⟩, g⟩ := hu q
    have hc : cls o.op = .w := by rw [e]; rfl
    unfold Stp
    rw [show guardOf all E.e o.guard = some none by rw [g]; rfl]
    show DoI P im o E E' ↔ _
    rw [doI_do (fun _ => by rw [hc]; simp)]
    unfold Do
    rw [hc]
  simp only [apart, Bool.and_eq_true] at ha
  have hne : ∀ q, x.dst = some q → y.dst ≠ some q := fun q e => by
    have := ha.1; rw [e] at this; simp at this; exact this.2
  have hlx : ∀ q, looks all y q = true → x.dst ≠ some q := fun q hk e => by
    have := ha.1; rw [e] at this; simp [hk] at this
  have hly : ∀ q, looks all x q = true → y.dst ≠ some q := fun q hk e => by
    have := ha.2; rw [e] at this; simp [hk] at this
  have opx : ∀ (v : V), ∀ z ∈ x.op.operands, look (put E.e y.dst v) z = look E.e z := fun v z hz => by
    cases z with
    | tmp t => exact put_getD (hly t (by unfold looks; rw [Bool.or_eq_true]; exact .inl (List.any_eq_true.2 ⟨.tmp t, by simpa using hz, by simp⟩)))
    | _ => rfl
  have opy : ∀ (v : V), ∀ z ∈ y.op.operands, look (put E.e x.dst v) z = look E.e z := fun v z hz => by
    cases z with
    | tmp t => exact put_getD (hlx t (by unfold looks; rw [Bool.or_eq_true]; exact .inl (List.any_eq_true.2 ⟨.tmp t, by simpa using hz, by simp⟩)))
    | _ => rfl
  rcases ht2 with ⟨qx, qy, tw⟩ | ⟨qx, qy, tw⟩
  · obtain ⟨c1, v, g1, g2, rfl⟩ := (dl qx).1 h1
    obtain ⟨c2, s', g3, g4, rfl⟩ := (du qy).1 h2
    obtain ⟨⟨t, ex⟩, _⟩ := hl qx
    obtain ⟨⟨t2, v2, ey⟩, _⟩ := hu qy
    simp only at g3
    rw [opW_congr (opy v)] at g3
    refine ⟨⟨put E.e y.dst vundef, s'⟩, (du qy).2 ⟨c2, s', g3, g4, rfl⟩, (dl qx).2 ⟨c1, v, ?_, g2, ?_⟩⟩
    · rw [ey] at g3
      simp only
      rw [opR_congr (opx vundef)]
      rw [ex] at g1 ⊢
      rw [load_store tw g3]; exact g1
    · simp only; rw [put_comm hne]
  · obtain ⟨c1, s', g1, g2, rfl⟩ := (du qx).1 h1
    obtain ⟨c2, v, g3, g4, rfl⟩ := (dl qy).1 h2
    obtain ⟨⟨t, v2, ex⟩, _⟩ := hu qx
    obtain ⟨⟨t2, ey⟩, _⟩ := hl qy
    simp only at g3
    rw [opR_congr (opy vundef)] at g3
    have g1' := g1
    rw [ex] at g1'
    rw [ey, load_store tw g1', ← ey] at g3
    refine ⟨⟨put E.e y.dst v, E.s⟩, (dl qy).2 ⟨c2, v, g3, g4, rfl⟩, (du qx).2 ⟨c1, s', ?_, g2, ?_⟩⟩
    · simp only; rw [opW_congr (opx v)]; exact g1
    · simp only; rw [put_comm hne]
/-- one that may stand first is taken first -/
theorem to_frontN {im : Op → Bool} {na : List (Nat × Nat)} {all : List Oper} (ha : alone all = true) {i : Nat} {o : Oper} (hi : all[i]? = some o) : ∀ {R : List Nat} {E E' : St}, Two na E'.e → R.Pairwise (· < ·) → i ∈ R → FreshAll all R E → (∀ j ∈ R.takeWhile (· != i), ∀ x, all[j]? = some x → commN im na all j i x o = true) → Steps P im all R E E' →
    ∃ E1, Stp P im all o E E1 ∧ Steps P im all (R.erase i) E1 E' := by
  intro R
  induction R with
  | nil => intro E E' _ _ h; cases h
  | cons j r ih =>
    intro E E' htwo hpw hm hf hc hs
    have hnd : (j :: r).Nodup := hpw.imp fun h => Nat.ne_of_lt h
    obtain ⟨x, hx, E1, h1, h2⟩ := hs
    by_cases e : j = i
    · subst e
      rw [hx] at hi; cases hi
      exact ⟨E1, h1, by simpa using h2⟩
    · have hmr : i ∈ r := (List.mem_cons.1 hm).resolve_left (Ne.symm e)
      have hnd' := List.nodup_cons.1 hnd
      have hpw' := List.pairwise_cons.1 hpw
      have hfr : FreshAll all r E1 := freshAll_step ha hx hnd'.1 (fun k hk => hf k (by simp [hk])) h1
      have htw : (j :: r).takeWhile (· != i) = j :: r.takeWhile (· != i) := by simp [e]
      rw [htw] at hc
      obtain ⟨E2, g1, g2⟩ := ih htwo hpw'.2 hmr hfr (fun k hk => hc k (by simp [hk])) h2
      have hcj := hc j (by simp) x hx
      have hex : ∃ E3, Stp P im all o E E3 ∧ Stp P im all x E3 E2 := by
        have hap := commN_apart hcj
        simp only [commN, Bool.or_eq_true, Bool.and_eq_true] at hcj
        rcases hcj with hcj | ⟨⟨_, hnn⟩, hcj⟩
        · exact exchange hcj (hf j (by simp) x hx) (hf i hm o hi) (fun m1 m2 k hk => alone_mine ha (Ne.symm e) hi hx m2 k hk) h1 g1
        · cases hp : pairAt na x o with
          | none => rw [hp] at hcj; cases hcj
          | some q =>
            obtain ⟨a, b⟩ := q
            rw [hp] at hcj
            simp only [Bool.and_eq_true, bne_iff_ne, ne_eq, List.all_eq_true, List.mem_range] at hcj
            obtain ⟨⟨hxa, hob⟩, hks⟩ := hcj
            have hlen : ∀ {k : Nat} {z : Oper}, all[k]? = some z → k < all.length := fun h => (List.getElem?_eq_some_iff.1 h).1
            -- what is left writes neither
            have la : ∀ k ∈ r.erase i, ∀ z, all[k]? = some z → z.dst ≠ some a := fun k hk z hz => by
              have hkr : k ∈ r := List.mem_of_mem_erase hk
              have hki : k ≠ i := fun e => List.Nodup.not_mem_erase hnd'.2 (e ▸ hk)
              have := hks k (hlen hz)
              rw [hz] at this
              simp only [Bool.and_eq_true, Bool.or_eq_true, decide_eq_true_eq, beq_iff_eq, bne_iff_ne, ne_eq] at this
              rcases this.1 with (h | h) | h
              · have := hpw'.1 k hkr; omega
              · exact absurd h hki
              · exact h
            have hlb : looks all o b = true := by
              unfold pairAt at hp
              have st : ∀ {b : Nat}, storeAt o = some b → looks all o b = true := fun {b} q => by
                unfold storeAt at q
                split at q
                · split at q
                  · rename_i h; cases q; unfold looks; rw [Bool.or_eq_true]; exact .inl (List.any_eq_true.2 ⟨.tmp b, by rw [h]; simp [Op.operands], by simp⟩)
                  · cases q
                · cases q
              have lo : ∀ {b : Nat}, loadAt o = some b → looks all o b = true := fun {b} q => by
                unfold loadAt at q
                split at q
                · split at q
                  · rename_i h; cases q; unfold looks; rw [Bool.or_eq_true]; exact .inl (List.any_eq_true.2 ⟨.tmp b, by rw [h]; simp [Op.operands], by simp⟩)
                  · cases q
                · cases q
              split at hp
              · rename_i q1 q2
                split at hp
                · cases hp; exact st q2
                · cases hp
              · split at hp
                · rename_i q1 q2
                  split at hp
                  · cases hp; exact lo q2
                  · cases hp
                · cases hp
            have lb : ∀ k ∈ r.erase i, ∀ z, all[k]? = some z → z.dst ≠ some b := fun k hk z hz => by
              have hkr : k ∈ r := List.mem_of_mem_erase hk
              have hki : k ≠ i := fun e => List.Nodup.not_mem_erase hnd'.2 (e ▸ hk)
              by_cases hlt : k < i
              · have hkt : k ∈ r.takeWhile (· != i) := by
                  have : ∀ (R : List Nat), R.Pairwise (· < ·) → i ∈ R → k ∈ R → k < i → k ∈ R.takeWhile (· != i) := by
                    intro R
                    induction R with
                    | nil => intro _ h; cases h
                    | cons c R ih =>
                      intro hp hm hk2 hl
                      have hp' := List.pairwise_cons.1 hp
                      by_cases e : c = i
                      · subst e
                        rcases List.mem_cons.1 hk2 with e | hk2
                        · omega
                        · have := hp'.1 k hk2; omega
                      · have hmr : i ∈ R := (List.mem_cons.1 hm).resolve_left (Ne.symm e)
                        rw [List.takeWhile_cons, if_pos (by simpa using e)]
                        rcases List.mem_cons.1 hk2 with rfl | hk2
                        · simp
                        · exact List.mem_cons_of_mem _ (ih hp'.2 hmr hk2 hl)
                  exact this r hpw'.2 hmr hkr hlt
                have hap2 := commN_apart (hc k (by simp [hkt]) z hz)
                intro ed
                simp only [apart, Bool.and_eq_true] at hap2
                have := hap2.1
                rw [ed] at this
                simp [hlb] at this
              · have := hks k (hlen hz)
                rw [hz] at this
                simp only [Bool.and_eq_true, Bool.or_eq_true, decide_eq_true_eq, beq_iff_eq, bne_iff_ne, ne_eq] at this
                rcases this.2 with h | h
                · omega
                · exact h
            -- so both point where they point at the end
            have hoa : o.dst ≠ some a := fun ed => by
              simp only [apart, Bool.and_eq_true] at hap
              have h2 := hap.2
              rw [ed] at h2
              simp only [Bool.not_eq_true'] at h2
              have : looks all x a = true := by
                unfold pairAt at hp
                split at hp
                · rename_i q1 q2
                  split at hp
                  · cases hp
                    unfold loadAt at q1
                    split at q1
                    · split at q1
                      · rename_i h; cases q1; unfold looks; rw [Bool.or_eq_true]; exact .inl (List.any_eq_true.2 ⟨.tmp a, by rw [h]; simp [Op.operands], by simp⟩)
                      · cases q1
                    · cases q1
                  · cases hp
                · split at hp
                  · rename_i q1 q2
                    split at hp
                    · cases hp
                      unfold storeAt at q1
                      split at q1
                      · split at q1
                        · rename_i h; cases q1; unfold looks; rw [Bool.or_eq_true]; exact .inl (List.any_eq_true.2 ⟨.tmp a, by rw [h]; simp [Op.operands], by simp⟩)
                        · cases q1
                      · cases q1
                    · cases hp
                  · cases hp
              rw [this] at h2; cases h2
            have hxb : x.dst ≠ some b := fun ed => by
              simp only [apart, Bool.and_eq_true] at hap
              have h1 := hap.1
              rw [ed] at h1
              simp [hlb] at h1
            have ba : ∀ q, (E'.e.getD a .top).at? = some q → (E.e.getD a .top).at? = some q := fun q hq => stp_at h1 hxa (stp_at g1 hoa (steps_at g2 la hq))
            have bb : ∀ q, (E'.e.getD b .top).at? = some q → (E.e.getD b .top).at? = some q := fun q hq => stp_at h1 hxb (stp_at g1 hob (steps_at g2 lb hq))
            have two : ∀ u v, na.contains (u, v) = true → twoB E'.e u v = true := fun u v h => by
              have := List.all_eq_true.1 htwo (u, v) (by simpa using h)
              exact this
            have hnn' : x.dst.isNone ≠ o.dst.isNone := by simpa using hnn
            have hp0 := hp
            unfold pairAt at hp
            split at hp
            · rename_i a' b' q1 q2
              split at hp
              · rename_i hin
                cases hp
                have t := two_at (two _ _ hin) ba bb
                exact exchangeN hap hp0 (.inl ⟨t, hin⟩) hnn' (.inl ⟨q1, q2, t⟩) h1 g1
              · cases hp
            · split at hp
              · rename_i q1 q2
                split at hp
                · rename_i hin
                  cases hp
                  have t := two_at (two _ _ hin) bb ba
                  exact exchangeN hap hp0 (.inr ⟨t, hin⟩) hnn' (.inr ⟨q1, q2, t⟩) h1 g1
                · cases hp
              · cases hp
      obtain ⟨E3, g3, g4⟩ := hex
      refine ⟨E3, g3, ?_⟩
      rw [List.erase_cons_tail (by simpa using e)]
      exact ⟨x, hx, E2, g4, g2⟩
section
variable {w0 : World} {L0 : Par} {X : Nat → Prop}
theorem any_opsN {im : Op → Bool} {na : List (Nat × Nat)} {all : List Oper} (ha : alone all = true) (hi : indepN im na all = true) : ∀ (fuel : Nat) {listed : Array Bool} {m : Nat → Option Nat} {a : Act} {w : World} {E E' : St}, Two na E'.e → listed.size = all.length → (undone all.length listed).length ≤ fuel →
    (∀ i o, all[i]? = some o → listed.getD i true = true → i < all.length → ∀ e ∈ o.after.toList, Region.binds .any e = true → listed.getD e.on false = true) →
    FreshAll all (undone all.length listed) E → Rel w0 L0 X m E.e E.s a w → Steps P im all (undone all.length listed) E E' → ∀ {Q : Exit → Act → World → Prop}, (∀ m' a' w', Rel w0 L0 X m' E'.e E'.s a' w' → Q .normal a' w') → wpAny P .any all.toArray Q fuel listed a w := by
  simp only [indepN, Bool.and_eq_true] at hi
  obtain ⟨hah, hco⟩ := hi
  intro fuel
  have rdy : ∀ {listed : Array Bool}, listed.size = all.length → ∀ i, i ∈ Region.ready .any all.toArray listed ↔ i ∈ undone all.length listed ∧ ∃ o, all[i]? = some o ∧ ∀ e ∈ o.after.toList, Region.binds .any e = true → listed.getD e.on false = true := by
    intro listed hl i
    simp only [Region.ready, undone, List.mem_filter, List.size_toArray, List.getElem?_toArray, Bool.and_eq_true]
    constructor
    · rintro ⟨h1, h2, h3⟩
      refine ⟨⟨h1, h2⟩, ?_⟩
      cases ho : all[i]? with
      | none => rw [ho] at h3; cases h3
      | some o =>
        rw [ho] at h3
        refine ⟨o, rfl, fun e he hb => ?_⟩
        simp only [Option.map_some, Option.getD_some, Array.all_eq_true_iff_forall_mem] at h3
        have := h3 e (by simpa using he)
        simpa [hb] using this
    · rintro ⟨⟨h1, h2⟩, o, ho, h3⟩
      refine ⟨h1, h2, ?_⟩
      rw [ho]
      simp only [Option.map_some, Option.getD_some, Array.all_eq_true_iff_forall_mem]
      intro e he
      by_cases hb : Region.binds .any e = true
      · simp [h3 e (by simpa using he) hb]
      · simp [hb]
  -- as long as one is left, one may be taken
  have least : ∀ {listed : Array Bool}, listed.size = all.length → Region.ready .any all.toArray listed = [] → undone all.length listed = [] := by
    intro listed hl hr
    cases hu : undone all.length listed with
    | nil => rfl
    | cons i r =>
      exfalso
      have hmem : ∀ k, k ∈ undone all.length listed ↔ k < all.length ∧ listed.getD k true = false := fun k => by simp [undone]
      have hmin : ∀ k, k < i → listed.getD k false = true := by
        intro k hk
        have hii : i < all.length := ((hmem i).1 (by rw [hu]; simp)).1
        have hsort : (undone all.length listed).Pairwise (· < ·) := List.pairwise_lt_range.filter _
        rw [hu] at hsort
        have hks : k < listed.size := by omega
        cases hq : listed.getD k true with
        | true => simp [Array.getD, hks] at hq ⊢; exact hq
        | false =>
          have : k ∈ undone all.length listed := (hmem k).2 ⟨by omega, hq⟩
          rw [hu] at this
          rcases List.mem_cons.1 this with e | hm
          · omega
          · have := (List.pairwise_cons.1 hsort).1 k hm
            omega
      have hii : i < all.length := ((hmem i).1 (by rw [hu]; simp)).1
      have : i ∈ Region.ready .any all.toArray listed := (rdy hl i).2 ⟨by rw [hu]; simp, all[i], List.getElem?_eq_getElem hii, fun e he hb => by
        have h1 := List.all_eq_true.1 hah i (List.mem_range.2 hii)
        rw [List.getElem?_eq_getElem hii] at h1
        have h2 := List.all_eq_true.1 h1 e he
        simp only [hb, Bool.not_true, Bool.false_or, decide_eq_true_eq] at h2
        exact hmin _ h2⟩
      rw [hr] at this; cases this
  induction fuel with
  | zero =>
    intro listed m a w E E' htwo hl hn hcl hf h hs Q hQ
    have hu : undone all.length listed = [] := List.eq_nil_of_length_eq_zero (by omega)
    rw [hu] at hs
    cases hs
    refine ⟨?_, hQ m a w h⟩
    cases hr : Region.ready .any all.toArray listed with
    | nil => rfl
    | cons i r =>
      have := ((rdy hl i).1 (by rw [hr]; simp)).1
      rw [hu] at this; cases this
  | succ n ih =>
    intro listed m a w E E' htwo hl hn hcl hf h hs Q hQ
    refine ⟨fun hr => ?_, fun i hri => ?_⟩
    · have hu := least hl hr
      rw [hu] at hs
      cases hs
      exact hQ m a w h
    · obtain ⟨hu, o, ho, hd⟩ := (rdy hl i).1 hri
      have hii : i < all.length := (List.getElem?_eq_some_iff.1 ho).1
      have hnd : (undone all.length listed).Nodup := List.nodup_range.filter _
      have hsort : (undone all.length listed).Pairwise (· < ·) := List.pairwise_lt_range.filter _
      obtain ⟨E1, g1, g2⟩ := to_frontN ha ho htwo hsort hu hf (fun j hj x hx => by
        have hju : j ∈ undone all.length listed := (List.takeWhile_prefix _).subset hj
        have hne : j ≠ i := by have := List.all_eq_true.1 List.all_takeWhile j hj; simpa using this
        have hji : j < i := by
          have : ∀ (R : List Nat), R.Pairwise (· < ·) → i ∈ R → j ∈ R.takeWhile (· != i) → j < i := by
            intro R
            induction R with
            | nil => intro _ h; cases h
            | cons k r ih =>
              intro hp hm hj
              have hp' := List.pairwise_cons.1 hp
              by_cases e : k = i
              · simp [e] at hj
              · have hmr : i ∈ r := (List.mem_cons.1 hm).resolve_left (Ne.symm e)
                simp only [List.takeWhile_cons, bne_iff_ne, ne_eq, e, not_false_eq_true, if_true, List.mem_cons] at hj
                rcases hj with rfl | hj
                · exact hp'.1 i hmr
                · exact ih hp'.2 hmr hj
          exact this _ hsort hu hj
        have h1 := List.all_eq_true.1 (List.all_eq_true.1 hco i (List.mem_range.2 hii)) j (List.mem_range.2 hji)
        simp only [hx, ho, Bool.or_eq_true] at h1
        rcases h1 with h1 | h1
        · have := dep_listed hcl hl _ j i o ho hd h1
          have hjl : j < listed.size := by omega
          have h2 : listed.getD j true = false := by have := hju; simp only [undone, List.mem_filter, Bool.not_eq_true'] at this; exact this.2
          simp [Array.getD, hjl] at this h2
          rw [this] at h2; cases h2
        · exact h1) hs
      refine stp_op ho h (hf i hu o ho) g1 fun m' a' w' h' => ?_
      have hue := undone_set (listed := listed) hl hii
      refine ih htwo (by simpa using hl) ?_ ?_ ?_ h' (by rw [hue]; exact g2) hQ
      · rw [hue, List.length_erase_of_mem hu]; omega
      · intro k x hx hk hkl e he hb
        by_cases e1 : i = k
        · subst e1
          rw [ho] at hx; cases hx
          have := hd e he hb
          have hne : e.on < all.length := by
            have hlt : e.on < listed.size := by
              rcases Nat.lt_or_ge e.on listed.size with h | h
              · exact h
              · simp [Array.getD, Nat.not_lt.2 h] at this
            omega
          simp [Array.getD_eq_getD_getElem?, Array.getElem?_setIfInBounds] at this ⊢
          split
          · split <;> simp_all
          · exact this
        · have hk' : listed.getD k true = true := by
            simpa [Array.getD_eq_getD_getElem?, Array.getElem?_setIfInBounds, e1] using hk
          have := hcl k x hx hk' hkl e he hb
          simp [Array.getD_eq_getD_getElem?, Array.getElem?_setIfInBounds] at this ⊢
          split
          · split <;> simp_all
          · exact this
      · rw [hue]
        have hf' : FreshAll all ((undone all.length listed).erase i) E := fun k hk => hf k (List.mem_of_mem_erase hk)
        exact freshAll_step ha ho (List.Nodup.not_mem_erase hnd) hf' g1
end
variable {E : St} {Q : Exit → St → Prop}
def okRegN (im : Op → Bool) (na : List (Nat × Nat)) (draw : Bool) (all : List Oper) : Bool := alone all && (!draw || indepN im na all)
theorem Run.regionN {im : Op → Bool} (na : List (Nat × Nat)) {id : Nat} {ops : Array Oper} {draw : Bool} (hm : P.follows .mixedOrders = true) (hk : okRegN im na draw ops.toList = true) {e : Env} {s : Store} {E' : St}
    (hs : Steps P im ops.toList (List.range ops.toList.length) ⟨enterE ops.toList e, enterS ops.toList s⟩ E') (htwo : Two na E'.e) (hq : Q .normal E') : Run P (.region id ops draw) ⟨e, s⟩ Q := fun w0 L0 X m a w hr => by
  simp only [okRegN, Bool.and_eq_true, Bool.or_eq_true, Bool.not_eq_true'] at hk
  obtain ⟨ha, hd⟩ := hk
  have henter : Rel w0 L0 X m (enterE ops.toList e) (enterS ops.toList s) a w ∧ FreshAll ops.toList (List.range ops.toList.length) ⟨enterE ops.toList e, enterS ops.toList s⟩ := by
    unfold enterE enterS
    by_cases h : (ks ops.toList).isEmpty = true
    · simp only [h, if_true]
      refine ⟨hr, fun i _ o ho hm => ?_⟩
      have := ks_nil h o (List.mem_of_getElem? ho)
      rw [this] at hm; cases hm
    · simp only [h, if_false]
      exact ⟨hr.fgt _, fresh_enter⟩
  obtain ⟨h1, h2⟩ := henter
  have fin : ∀ m' a' w', Rel w0 L0 X m' E'.e E'.s a' w' → ∃ E'' m'', Q .normal E'' ∧ Rel w0 L0 X m'' E''.e E''.s a' w' := fun m' a' w' h => ⟨E', m', hq, h⟩
  cases draw with
  | false =>
    refine wp_region ?_
    have := seq_ops (P := P) (w0 := w0) (L0 := L0) (X := X) ha List.nodup_range h2 h1 hs (Q := fun x a' w' => ∃ E' m', Q x E' ∧ Rel w0 L0 X m' E'.e E'.s a' w') fin
    simpa using this
  | true =>
    have hi : indepN im na ops.toList = true := by rcases hd with h | h; exact absurd h (by simp); exact h
    refine wp_region_any hm ?_
    have hu : undone ops.toList.length (Array.replicate ops.size false) = List.range ops.toList.length := by
      unfold undone
      rw [List.filter_eq_self]
      intro k hk
      have := List.mem_range.1 hk
      simp at this
      simp [Array.getD, this]
    have h3 : Rel w0 L0 X m (enterE ops.toList e) (enterS ops.toList s) a { w with drawn := w.drawn + 1 } := by
      have hk : CellsKept (Live X m (enterS ops.toList s)) w { w with drawn := w.drawn + 1 } := fun _ _ _ q => q
      have hz : SizesKept w { w with drawn := w.drawn + 1 } := fun _ cs _ _ q => ⟨cs, q, rfl⟩
      refine ⟨⟨h1.env.len, fun j x v q1 q2 => VRel.mono' hk hz (fun b hb => .inl hb) (h1.env.at_ j x v q1 q2)⟩, ⟨fun i blk hi => ?_, h1.sto.inj⟩, h1.dfr, ⟨h1.ext.os, h1.ext.tape, h1.ext.output, h1.ext.size, h1.ext.block, h1.ext.sizes⟩, h1.liv, h1.old, h1.par⟩
      rcases h1.sto.blk i blk hi with ⟨b, r1, r2⟩ | r
      · exact .inl ⟨b, r1, BRel.mono (p := fun _ => false) hk hz (fun b hb => .inl hb) (fun _ _ => rfl) rfl (by cases blk <;> first | exact menL_false _ | trivial) r2⟩
      · exact .inr r
    have := any_opsN (P := P) (na := na) (w0 := w0) (L0 := L0) (X := X) ha hi ops.size (listed := Array.replicate ops.size false) htwo (by simp) (by rw [hu]; simp) (fun i o ho hl hlt e he hb => by
      simp at hlt
      simp [Array.getD, hlt] at hl) (by rw [hu]; exact h2) h3 (by rw [hu]; exact hs) (Q := fun x a' w' => ∃ E' m', Q x E' ∧ Rel w0 L0 X m' E'.e E'.s a' w') fin
    simpa using this
/-- A REGION, operation by operation; na: the slots of loads and stores that go to two blocks. -/
theorem Run.opsN (l : List FuncId) (na : List (Nat × Nat)) {id : Nat} {ops : Array Oper} {draw : Bool} (los : List LOp) (hm : P.follows .mixedOrders = true) (hk : okRegN (imp l) na draw ops.toList = true) (hl : ops.toList.map (lite ops.toList) = los) {e : Env} {s : Store}
    (h : ∀ K : Env → Store → Prop, (∀ e s, Two na e → Q .normal ⟨e, s⟩ → K e s) → EvL P (imp l) K los (enterE ops.toList e) (enterS ops.toList s)) : Run P (.region id ops draw) ⟨e, s⟩ Q := by
  have h0 : EvO P (imp l) ops.toList (fun e s => Two na e ∧ Q .normal ⟨e, s⟩) ops.toList (enterE ops.toList e) (enterS ops.toList s) := by
    subst hl; exact evL_evO (h _ fun _ _ h1 h2 => ⟨h1, h2⟩)
  obtain ⟨E', h1, h2⟩ := evO_steps (P := P) (im := imp l) (n := 0) (List.drop_zero ..) h0
  rw [← List.range_eq_range'] at h1
  exact Run.regionN na hm hk h1 h2.1 h2.2
end Go.Fw
end
section
set_option maxRecDepth 100000
namespace Go.Proofs.Ytimgbdkgjfbhkaa.Z
open Go Go.Fw
attribute [-simp] lookV updV Blk.fgt Blk.ren Blk.men Blk.fin lost
set_option maxHeartbeats 8000000 in
theorem keys_ok (c : CoreT) (p : PlanT) (tb pp : V) (htb : ∃ x, tb = .d x) (hpp : ∃ x, pp = .d x) (np : Nat) (ps : List PlanT) (l : List Int) (b0 b1 : List Bool) (hk2 : p.kids.length = 2) (hw : c.nodes.length + c.edges.length ≤ 16) (hB0 : Snd P 24 [.d (.ag (encP (rdI p.kids 0))), .d (.ag (encC c))] (.tup [.d (.sl false (b0.map encB)), .int 0]) []) (hb0 : b0.length = c.nodes.length + c.edges.length) (hB1 : Snd P 24 [.d (.ag (encP (rdI p.kids 1))), .d (.ag (encC c))] (.tup [.d (.sl false (b1.map encB)), .int 0]) []) (hb1 : b1.length = c.nodes.length + c.edges.length) : SndW P 99 [.pt 0 0 0 0, .d (.ag (encP p))] [(0, .vals ((encC c).map .d ++ [tb, pp, .rs 1 6 0 np, .mp 2])), (1, .data 6 (ps.map encP)), (2, mpK l)] (.d (.sl false ((keyN b0 b1 (c.nodes.length + c.edges.length)).map encI))) [(0, .vals ((encC c).map .d ++ [tb, pp, .rs 1 6 0 np, .mp 2])), (1, .data 6 (ps.map encP)), (2, mpK l)] := by
  obtain ⟨xt, rfl⟩ := htb
  obtain ⟨xp, rfl⟩ := hpp
  obtain ⟨n, hn⟩ : ∃ z, c.nodes.length + c.edges.length = z := ⟨_, rfl⟩
  have hkl : p.kids.length = 2 := hk2
  have hb0n : b0.length = n := by rw [hb0, hn]
  have hb1n : b1.length = n := by rw [hb1, hn]
  rw [hn] at hw
  rw [hn]
  have hJ0 := hB0
  have hJ1 := hB1
  rw [encP_cells] at hJ0 hJ1
  refine sndW_of [0, 1, 2] Try.func99 rfl (by kernel_rfl) Try.ntmps99 (by simp) (by simp) ?_
  unfold Try.f99
  simp only [List.cons_append, List.nil_append, List.length_cons, List.length_nil, Nat.reduceAdd, Nat.reduceSub, List.replicate]
  refine Run.seq ?_
  refine opsF [⟨Op.box 48 (Operand.tmp 1), some 3, none⟩, ⟨Op.assign (Operand.const (Value.slice none 0 0)), some 4, none⟩] fun K hK => ?_
  try simp
  repeat' first | ((refine evL_c ?_); simp [hkl, hb0n, hb1n]) | (with_reducible refine And.intro ?_ ?_) | intro _ | (with_reducible assumption) | omega
  all_goals (refine Fin.go hK ?_; clear hK K)
  simp only [Then_normal]
  refine Run.seq ?_
  refine opsF [⟨Op.fieldAddr 48 (Operand.tmp 3) 1, some 13, none⟩, ⟨Op.load 45 (Operand.tmp 13), some 14, none⟩, ⟨Op.indexAddr 45 (Operand.tmp 14) (Operand.const (Value.int IntKind.i64 0)), some 15, none⟩, ⟨Op.load 48 (Operand.tmp 15), some 16, none⟩, ⟨Op.move (Operand.tmp 0), some 17, none⟩, ⟨Op.nilCheck (Operand.tmp 17), some 18, none⟩, ⟨Op.fieldAddr 120 (Operand.tmp 18) 0, some 19, none⟩, ⟨Op.load 32 (Operand.tmp 19), some 20, none⟩, ⟨Op.call { callee := Callee.value (Operand.func 24), args := #[Operand.tmp 16, Operand.tmp 20], argTypes := #[48, 32] }, some 21, none⟩, ⟨Op.move (Operand.tmp 21), some 12, none⟩, ⟨Op.extract (Operand.tmp 12) 0, some 22, none⟩, ⟨Op.extract (Operand.tmp 12) 1, some 23, none⟩, ⟨Op.assign (Operand.tmp 22), some 5, none⟩, ⟨Op.assign (Operand.tmp 23), some 6, none⟩] fun K hK => ?_
  try simp
  repeat' first | (refine ecall (by exact hJ0) rfl ?_) | ((refine evL_c ?_); simp [hkl, hb0n, hb1n]) | (with_reducible refine And.intro ?_ ?_) | intro _ | (with_reducible assumption) | omega
  all_goals (refine Fin.go hK ?_; clear hK K)
  simp only [Then_normal]
  refine Run.seq ?_
  refine opsF [⟨Op.fieldAddr 48 (Operand.tmp 3) 1, some 25, none⟩, ⟨Op.load 45 (Operand.tmp 25), some 26, none⟩, ⟨Op.indexAddr 45 (Operand.tmp 26) (Operand.const (Value.int IntKind.i64 1)), some 27, none⟩, ⟨Op.load 48 (Operand.tmp 27), some 28, none⟩, ⟨Op.move (Operand.tmp 0), some 29, none⟩, ⟨Op.nilCheck (Operand.tmp 29), some 30, none⟩, ⟨Op.fieldAddr 120 (Operand.tmp 30) 0, some 31, none⟩, ⟨Op.load 32 (Operand.tmp 31), some 32, none⟩, ⟨Op.call { callee := Callee.value (Operand.func 24), args := #[Operand.tmp 28, Operand.tmp 32], argTypes := #[48, 32] }, some 33, none⟩, ⟨Op.move (Operand.tmp 33), some 24, none⟩, ⟨Op.extract (Operand.tmp 24) 0, some 34, none⟩, ⟨Op.extract (Operand.tmp 24) 1, some 35, none⟩, ⟨Op.assign (Operand.tmp 34), some 7, none⟩, ⟨Op.assign (Operand.tmp 35), some 8, none⟩] fun K hK => ?_
  try simp
  repeat' first | (refine ecall (by exact hJ1) rfl ?_) | ((refine evL_c ?_); simp [hkl, hb0n, hb1n]) | (with_reducible refine And.intro ?_ ?_) | intro _ | (with_reducible assumption) | omega
  all_goals (refine Fin.go hK ?_; clear hK K)
  simp only [Then_normal]
  refine Run.seq ?_
  refine opsF [⟨Op.assign (Operand.const (Value.slice none 0 0)), some 9, none⟩] fun K hK => ?_
  try simp
  repeat' first | ((refine evL_c ?_); simp [hkl, hb0n, hb1n]) | (with_reducible refine And.intro ?_ ?_) | intro _ | (with_reducible assumption) | omega
  all_goals (refine Fin.go hK ?_; clear hK K)
  simp only [Then_normal]
  refine Run.vir 5400 1 (by omega) ?_
  simp
  refine Run.subV 9 (.rs 5400 1 0 0) rfl (nil_rs 5400 1) ?_
  simp
  refine Run.seq ?_
  refine Run.seq ?_
  refine opsF [⟨Op.move (Operand.tmp 5), some 36, none⟩, ⟨Op.call { callee := Callee.builtin Builtin.len, args := #[Operand.tmp 36], argTypes := #[34] }, some 37, none⟩, ⟨Op.move (Operand.const (Value.int IntKind.i64 0)), some 38, none⟩] fun K hK => ?_
  try simp
  repeat' first | ((refine evL_c ?_); simp [hkl, hb0n, hb1n]) | (with_reducible refine And.intro ?_ ?_) | intro _ | (with_reducible assumption) | omega
  all_goals (refine Fin.go hK ?_; clear hK K)
  simp only [Then_normal]
  refine Run.block ?_
  refine Run.loopO [9, 10, 11, 38, 39, 40, 41, 42, 43, 44, 45, 46, 47, 48, 49, 50, 51, 52, 53, 54] (fun (i : Nat) => [(38, .int i), (9, .rs 5400 1 0 (keyN b0 b1 i).length)]) (fun (i : Nat) => [(0, .vals ((encC c).map .d ++ [.d xt, .d xp, .rs 1 6 0 np, .mp 2])), (1, .data 6 (ps.map encP)), (2, mpK l), (400, .vals ((encP p).map .d)), (5400, .data 1 ((keyN b0 b1 i).map encI))]) (fun (i : Nat) => i ≤ n) (fun (i : Nat) => n - i) 0 (by omega) (by simp [keyN, hkl, hb0n, hb1n]) fun i hi => ?_
  simp only [over, List.foldl, List.set]
  have hkn := keyN_len b0 b1 i
  have hju : keyN b0 b1 (i + 1) = if rdI b0 i && rdI b1 i then keyN b0 b1 i ++ [(i : Int)] else keyN b0 b1 i := rfl
  obtain ⟨ks, hks⟩ : ∃ z, keyN b0 b1 i = z := ⟨_, rfl⟩
  rw [hks] at hkn hju
  obtain ⟨kn, hkl2⟩ : ∃ z, ks.length = z := ⟨_, rfl⟩
  rw [hkl2] at hkn
  have htk : (ks.map encI).take kn = ks.map encI := List.take_of_length_le (by simp [hkl2])
  refine Run.seq ?_
  refine opsF [⟨Op.binOp BinOp.lss 3 (Operand.tmp 38) (Operand.tmp 37) 3, some 39, none⟩] fun K hK => ?_
  try simp
  repeat' first | ((refine evL_c ?_); simp [hkl, hb0n, hb1n]) | (with_reducible refine And.intro ?_ ?_) | intro _ | (with_reducible assumption) | omega
  all_goals (refine Fin.go hK ?_; clear hK K)
  simp only [Then_normal]
  refine Run.seq ?_
  refine Run.cond rfl (fun h39 => ?_) (fun h39 => ?_)
  · try simp at h39
    have hi1 : i < n := by omega
    have hi2 : (i : Int) < n := by omega
    refine Run.skip ?_
    simp only [Then_normal]
    refine Run.seq ?_
    refine Run.block ?_
    refine Run.seq ?_
    refine opsF [⟨Op.move (Operand.tmp 38), some 40, none⟩, ⟨Op.indexAddr 34 (Operand.tmp 36) (Operand.tmp 38), some 41, none⟩, ⟨Op.load 4 (Operand.tmp 41), some 42, none⟩, ⟨Op.assign (Operand.tmp 40), some 10, none⟩, ⟨Op.assign (Operand.tmp 42), some 11, none⟩] fun K hK => ?_
    try simp
    repeat' first | ((refine evL_c ?_); simp [hkl, hb0n, hb1n, hi1, hi2, hks, hkl2, htk]) | (with_reducible refine And.intro ?_ ?_) | intro _ | (with_reducible assumption) | omega
    all_goals (refine Fin.go hK ?_; clear hK K)
    simp only [Then_normal]
    refine Run.cut [43, 44, 45, 46, 47, 48, 49] [(49, .bool (rdI b0 i && rdI b1 i))] [(0, .vals ((encC c).map .d ++ [.d xt, .d xp, .rs 1 6 0 np, .mp 2])), (1, .data 6 (ps.map encP)), (2, mpK l), (400, .vals ((encP p).map .d)), (5400, .data 1 (ks.map encI))] ?_ ?_
    · refine opsF [⟨Op.move (Operand.tmp 11), some 43, none⟩, ⟨Op.move (Operand.tmp 43), some 44, none⟩, ⟨Op.move (Operand.tmp 7), some 45, some (some 44, true)⟩, ⟨Op.move (Operand.tmp 10), some 46, some (some 44, true)⟩, ⟨Op.indexAddr 34 (Operand.tmp 45) (Operand.tmp 46), some 47, some (some 44, true)⟩, ⟨Op.load 4 (Operand.tmp 47), some 48, some (some 44, true)⟩, ⟨Op.pick (Operand.tmp 44) (Operand.tmp 48) (Operand.const (Value.bool false)), some 49, none⟩] fun K hK => ?_
      try simp
      repeat' first | ((first | refine evL_c ?_ | (refine evL_g rfl ?_; try simp only [gs_tt, gs_ff, gs_tf, gs_ft]) | refine evL_u rfl ?_ | (with_reducible refine gsplit (fun hg => ?_) (fun hg => ?_) <;> try simp at hg)) <;> try simp [hkl, hb0n, hb1n, hi1, hi2, hks, hkl2, htk, *]) | (with_reducible refine And.intro ?_ ?_) | intro _ | (with_reducible assumption) | omega
      all_goals (refine Fin.go hK ?_; clear hK K)
      all_goals
        (try simp [*]) <;> (first | omega | (simp; done) | grind)
    · simp only [over, List.foldl, List.set]
      refine Run.cond rfl (fun h49 => ?_) (fun h49 => ?_)
      · try simp at h49
        refine opsF [⟨Op.move (Operand.tmp 9), some 50, none⟩, ⟨Op.move (Operand.tmp 10), some 51, none⟩, ⟨Op.buildSlice 46 1 #[(0, Operand.tmp 51)], some 52, none⟩, ⟨Op.call { callee := Callee.builtin Builtin.append, args := #[Operand.tmp 50, Operand.tmp 52], argTypes := #[46, 46] }, some 53, none⟩, ⟨Op.assign (Operand.tmp 53), some 9, none⟩] fun K hK => ?_
        try simp
        repeat' first | ((refine evL_c ?_); simp [hkl, hb0n, hb1n, hi1, hi2, hks, hkl2, htk]) | (with_reducible refine And.intro ?_ ?_) | intro _ | (with_reducible assumption) | omega
        all_goals (refine Fin.go hK ?_; clear hK K)
        simp only [Blok_normal]
        simp only [Then_normal]
        refine opsF oo42 fun K hK => ?_
        try simp
        repeat' first | ((refine evL_c ?_); simp [hkl, hb0n, hb1n, hi1, hi2, hks, hkl2, htk]) | (with_reducible refine And.intro ?_ ?_) | intro _ | (with_reducible assumption) | omega
        all_goals (refine Fin.go hK ?_; clear hK K)
        refine ⟨i + 1, by omega, by omega, ?_⟩
        (try simp at h49)
        (try simp (disch := omega) [wrap_id, hju, h49, hks, hkl2, htk, hkl, hb0n, hb1n]) <;> (first | done | grind)
      · try simp at h49
        refine Run.skip ?_
        simp only [Blok_normal]
        simp only [Then_normal]
        refine opsF oo42 fun K hK => ?_
        try simp
        repeat' first | ((refine evL_c ?_); simp [hkl, hb0n, hb1n, hi1, hi2, hks, hkl2, htk]) | (with_reducible refine And.intro ?_ ?_) | intro _ | (with_reducible assumption) | omega
        all_goals (refine Fin.go hK ?_; clear hK K)
        refine ⟨i + 1, by omega, by omega, ?_⟩
        (try simp at h49)
        (try simp (disch := omega) [wrap_id, hju, h49, hks, hkl2, htk, hkl, hb0n, hb1n]) <;> (first | done | grind)
  · try simp at h39
    have hi3 : i = n := by omega
    subst hi3
    refine Run.exit ?_
    simp (decide := true) only [Then_exit, Blok_exit, if_true, if_false]
    simp only [Then_normal]
    refine Run.seq ?_
    refine opsF [⟨Op.move (Operand.tmp 9), some 55, none⟩, ⟨Op.assign (Operand.tmp 55), some 4, none⟩] fun K hK => ?_
    try simp
    repeat' first | ((refine evL_c ?_); simp [hkl, hb0n, hb1n, hks, hkl2]) | (with_reducible refine And.intro ?_ ?_) | intro _ | (with_reducible assumption) | omega
    all_goals (refine Fin.go hK ?_; clear hK K)
    simp only [Then_normal]
    refine Run.ret ?_
    try simp only [Then_ret, Blok_ret]
    simp [hkl, hb0n, hb1n, hks, hkl2, htk]


end Go.Proofs.Ytimgbdkgjfbhkaa.Z
end
section
set_option maxRecDepth 100000
namespace Go.Proofs.Ytimgbdkgjfbhkaa.Z
open Go Go.Fw
attribute [-simp] lookV updV Blk.fgt Blk.ren Blk.men Blk.fin lost
attribute [local simp] look101 upd101
structure StepR where
  op : Int
  slot : Int
  edges : List Int
  back : Bool
  terms : List TermT
  table : Int
instance : Inhabited StepR := ⟨⟨0, 0, [], false, [], 0⟩⟩
def encR (s : StepR) : List D := [.int s.op, .int s.slot, .sl false (s.edges.map encI), .bool s.back, .sl false (s.terms.map encT), .int s.table]
attribute [simp] encR
def stepPl (op : Int) (p : PlanT) (slot : Int) (e : List Int) (b : Bool) (t : List TermT) : PlanT := .mk op [p] slot e b t
@[simp] theorem stepPl_op (op : Int) (p : PlanT) (sl : Int) (e : List Int) (b : Bool) (t : List TermT) : (stepPl op p sl e b t).op = op := rfl
@[simp] theorem stepPl_kids (op : Int) (p : PlanT) (sl : Int) (e : List Int) (b : Bool) (t : List TermT) : (stepPl op p sl e b t).kids = [p] := rfl
@[simp] theorem stepPl_slot (op : Int) (p : PlanT) (sl : Int) (e : List Int) (b : Bool) (t : List TermT) : (stepPl op p sl e b t).slot = sl := rfl
@[simp] theorem stepPl_edges (op : Int) (p : PlanT) (sl : Int) (e : List Int) (b : Bool) (t : List TermT) : (stepPl op p sl e b t).edges = e := rfl
@[simp] theorem stepPl_back (op : Int) (p : PlanT) (sl : Int) (e : List Int) (b : Bool) (t : List TermT) : (stepPl op p sl e b t).back = b := rfl
@[simp] theorem stepPl_terms (op : Int) (p : PlanT) (sl : Int) (e : List Int) (b : Bool) (t : List TermT) : (stepPl op p sl e b t).terms = t := rfl
set_option maxHeartbeats 8000000 in
theorem over1_ok (c : CoreT) (p : PlanT) (s : StepR) (i : Int) (tb pp : D) (np : Nat) (ps : List PlanT) (l : List Int) (hop : s.op = 1) : SndW P 81 [.pt 0 0 0 0, .d (.ag (encP p)), .d (.ag (encR s)), .int i] [(0, .vals ((encC c).map .d ++ [.d tb, .d pp, .rs 1 6 0 np, .mp 2])), (1, .data 6 (ps.map encP)), (2, mpK l)] (.tup [.d (.ag (encP (stepPl 2 p 0 s.edges s.back []))), .bool true]) [(0, .vals ((encC c).map .d ++ [.d tb, .d pp, .rs 1 6 0 np, .mp 2])), (1, .data 6 (ps.map encP)), (2, mpK l)] := by
  refine sndW_of [0, 1, 2] Try.func81 rfl (by kernel_rfl) Try.ntmps81 (by simp) (by simp) ?_
  unfold Try.f81
  simp only [List.cons_append, List.nil_append, List.length_cons, List.length_nil, Nat.reduceAdd, Nat.reduceSub, List.replicate]
  refine Run.seq ?_
  refine opsF oo43 fun K hK => ?_
  try simp
  repeat' first | ((refine evL_c ?_); simp [hop]) | (with_reducible refine And.intro ?_ ?_) | intro _ | (with_reducible assumption) | omega
  all_goals (refine Fin.go hK ?_; clear hK K)
  simp only [Then_normal]
  refine Run.seq ?_
  refine opsF oo44 fun K hK => ?_
  try simp
  repeat' first | ((refine evL_c ?_); simp [hop, updV, findK]) | (with_reducible refine And.intro ?_ ?_) | intro _ | (with_reducible assumption) | omega
  all_goals (refine Fin.go hK ?_; clear hK K)
  simp only [Then_normal]
  refine Run.seq ?_
  refine opsF oo45 fun K hK => ?_
  try simp
  repeat' first | ((refine evL_c ?_); simp [hop, lookV, lookR, findK]) | (with_reducible refine And.intro ?_ ?_) | intro _ | (with_reducible assumption) | omega
  all_goals (refine Fin.go hK ?_; clear hK K)
  simp only [Then_normal]
  refine Run.seq ?_
  refine Run.seq ?_
  refine opsF oo46 fun K hK => ?_
  try simp
  repeat' first | ((refine evL_c ?_); simp [hop]) | (with_reducible refine And.intro ?_ ?_) | intro _ | (with_reducible assumption) | omega
  all_goals (refine Fin.go hK ?_; clear hK K)
  simp only [Then_normal]
  refine Run.block ?_
  refine Run.seq ?_
  refine Run.seq ?_
  refine opsF oo47 fun K hK => ?_
  try simp
  repeat' first | ((refine evL_c ?_); simp [hop]) | (with_reducible refine And.intro ?_ ?_) | intro _ | (with_reducible assumption) | omega
  all_goals (refine Fin.go hK ?_; clear hK K)
  simp only [Then_normal]
  refine Run.cond rfl (fun h23 => ?_) (fun h23 => ?_)
  · skip
    refine Run.skip ?_
    simp only [Then_normal]
    refine Run.cond rfl (fun h23 => ?_) (fun h23 => ?_)
    · skip
      refine Run.opsN [] [(26, 31), (28, 30)] [⟨Op.fieldAddr 75 (Operand.tmp 6) 2, some 26, none⟩, ⟨Op.load 46 (Operand.tmp 26), some 27, none⟩, ⟨Op.fieldAddr 75 (Operand.tmp 6) 3, some 28, none⟩, ⟨Op.load 4 (Operand.tmp 28), some 29, none⟩, ⟨Op.fieldAddr 48 (Operand.tmp 11) 3, some 30, none⟩, ⟨Op.store 46 (Operand.tmp 30) (Operand.tmp 27), none, none⟩, ⟨Op.fieldAddr 48 (Operand.tmp 11) 4, some 31, none⟩, ⟨Op.store 4 (Operand.tmp 31) (Operand.tmp 29), none, none⟩] mixed (by decide) rfl fun K hK => ?_
      try simp
      repeat' first | ((refine evL_c ?_); simp [hop]) | (with_reducible refine And.intro ?_ ?_) | intro _ | (with_reducible assumption) | omega
      all_goals (refine hK _ _ (by rfl) ?_; clear hK K)
      simp only [Blok_normal]
      simp only [Then_normal]
      refine Run.seq ?_
      refine opsF oo48 fun K hK => ?_
      try simp
      repeat' first | ((refine evL_c ?_); simp [hop]) | (with_reducible refine And.intro ?_ ?_) | intro _ | (with_reducible assumption) | omega
      all_goals (refine Fin.go hK ?_; clear hK K)
      simp only [Then_normal]
      refine Run.fra 2000 ?_
      simp [V.fra, V.fraL, fraS, frz]
      refine Run.subB 900 5 (.d (.sl false [])) rfl rfl nil_sl ?_
      simp
      refine Run.ret ?_
      try simp only [Then_ret, Blok_ret]
      simp
    · simp at h23
  · simp at h23

set_option maxHeartbeats 8000000 in
theorem over2_ok (c : CoreT) (p : PlanT) (s : StepR) (i : Int) (tb pp : D) (np : Nat) (ps : List PlanT) (l : List Int) (hop : s.op = 2) : SndW P 81 [.pt 0 0 0 0, .d (.ag (encP p)), .d (.ag (encR s)), .int i] [(0, .vals ((encC c).map .d ++ [.d tb, .d pp, .rs 1 6 0 np, .mp 2])), (1, .data 6 (ps.map encP)), (2, mpK l)] (.tup [.d (.ag (encP (stepPl 3 p 0 s.edges s.back []))), .bool true]) [(0, .vals ((encC c).map .d ++ [.d tb, .d pp, .rs 1 6 0 np, .mp 2])), (1, .data 6 (ps.map encP)), (2, mpK l)] := by
  refine sndW_of [0, 1, 2] Try.func81 rfl (by kernel_rfl) Try.ntmps81 (by simp) (by simp) ?_
  unfold Try.f81
  simp only [List.cons_append, List.nil_append, List.length_cons, List.length_nil, Nat.reduceAdd, Nat.reduceSub, List.replicate]
  refine Run.seq ?_
  refine opsF oo43 fun K hK => ?_
  try simp
  repeat' first | ((refine evL_c ?_); simp [hop]) | (with_reducible refine And.intro ?_ ?_) | intro _ | (with_reducible assumption) | omega
  all_goals (refine Fin.go hK ?_; clear hK K)
  simp only [Then_normal]
  refine Run.seq ?_
  refine opsF oo44 fun K hK => ?_
  try simp
  repeat' first | ((refine evL_c ?_); simp [hop, updV, findK]) | (with_reducible refine And.intro ?_ ?_) | intro _ | (with_reducible assumption) | omega
  all_goals (refine Fin.go hK ?_; clear hK K)
  simp only [Then_normal]
  refine Run.seq ?_
  refine opsF oo45 fun K hK => ?_
  try simp
  repeat' first | ((refine evL_c ?_); simp [hop, lookV, lookR, findK]) | (with_reducible refine And.intro ?_ ?_) | intro _ | (with_reducible assumption) | omega
  all_goals (refine Fin.go hK ?_; clear hK K)
  simp only [Then_normal]
  refine Run.seq ?_
  refine Run.seq ?_
  refine opsF oo46 fun K hK => ?_
  try simp
  repeat' first | ((refine evL_c ?_); simp [hop]) | (with_reducible refine And.intro ?_ ?_) | intro _ | (with_reducible assumption) | omega
  all_goals (refine Fin.go hK ?_; clear hK K)
  simp only [Then_normal]
  refine Run.block ?_
  refine Run.seq ?_
  refine Run.seq ?_
  refine opsF oo47 fun K hK => ?_
  try simp
  repeat' first | ((refine evL_c ?_); simp [hop]) | (with_reducible refine And.intro ?_ ?_) | intro _ | (with_reducible assumption) | omega
  all_goals (refine Fin.go hK ?_; clear hK K)
  simp only [Then_normal]
  refine Run.cond rfl (fun h23 => ?_) (fun h23 => ?_)
  · simp at h23
  · skip
    refine opsF oo49 fun K hK => ?_
    try simp
    repeat' first | ((refine evL_c ?_); simp [hop]) | (with_reducible refine And.intro ?_ ?_) | intro _ | (with_reducible assumption) | omega
    all_goals (refine Fin.go hK ?_; clear hK K)
    simp only [Then_normal]
    refine Run.cond rfl (fun h23 => ?_) (fun h23 => ?_)
    · skip
      refine Run.opsN [] [(26, 31), (28, 30)] [⟨Op.fieldAddr 75 (Operand.tmp 6) 2, some 26, none⟩, ⟨Op.load 46 (Operand.tmp 26), some 27, none⟩, ⟨Op.fieldAddr 75 (Operand.tmp 6) 3, some 28, none⟩, ⟨Op.load 4 (Operand.tmp 28), some 29, none⟩, ⟨Op.fieldAddr 48 (Operand.tmp 11) 3, some 30, none⟩, ⟨Op.store 46 (Operand.tmp 30) (Operand.tmp 27), none, none⟩, ⟨Op.fieldAddr 48 (Operand.tmp 11) 4, some 31, none⟩, ⟨Op.store 4 (Operand.tmp 31) (Operand.tmp 29), none, none⟩] mixed (by decide) rfl fun K hK => ?_
      try simp
      repeat' first | ((refine evL_c ?_); simp [hop]) | (with_reducible refine And.intro ?_ ?_) | intro _ | (with_reducible assumption) | omega
      all_goals (refine hK _ _ (by rfl) ?_; clear hK K)
      simp only [Blok_normal]
      simp only [Then_normal]
      refine Run.seq ?_
      refine opsF oo48 fun K hK => ?_
      try simp
      repeat' first | ((refine evL_c ?_); simp [hop]) | (with_reducible refine And.intro ?_ ?_) | intro _ | (with_reducible assumption) | omega
      all_goals (refine Fin.go hK ?_; clear hK K)
      simp only [Then_normal]
      refine Run.fra 2000 ?_
      simp [V.fra, V.fraL, fraS, frz]
      refine Run.subB 900 5 (.d (.sl false [])) rfl rfl nil_sl ?_
      simp
      refine Run.ret ?_
      try simp only [Then_ret, Blok_ret]
      simp
    · simp at h23

set_option maxHeartbeats 8000000 in
theorem over3_ok (c : CoreT) (p : PlanT) (s : StepR) (i : Int) (tb pp : D) (np : Nat) (ps : List PlanT) (l : List Int) (hop : s.op = 3) : SndW P 81 [.pt 0 0 0 0, .d (.ag (encP p)), .d (.ag (encR s)), .int i] [(0, .vals ((encC c).map .d ++ [.d tb, .d pp, .rs 1 6 0 np, .mp 2])), (1, .data 6 (ps.map encP)), (2, mpK l)] (.tup [.d (.ag (encP (stepPl 5 p s.slot s.edges false []))), .bool true]) [(0, .vals ((encC c).map .d ++ [.d tb, .d pp, .rs 1 6 0 np, .mp 2])), (1, .data 6 (ps.map encP)), (2, mpK l)] := by
  refine sndW_of [0, 1, 2] Try.func81 rfl (by kernel_rfl) Try.ntmps81 (by simp) (by simp) ?_
  unfold Try.f81
  simp only [List.cons_append, List.nil_append, List.length_cons, List.length_nil, Nat.reduceAdd, Nat.reduceSub, List.replicate]
  refine Run.seq ?_
  refine opsF oo43 fun K hK => ?_
  try simp
  repeat' first | ((refine evL_c ?_); simp [hop]) | (with_reducible refine And.intro ?_ ?_) | intro _ | (with_reducible assumption) | omega
  all_goals (refine Fin.go hK ?_; clear hK K)
  simp only [Then_normal]
  refine Run.seq ?_
  refine opsF oo44 fun K hK => ?_
  try simp
  repeat' first | ((refine evL_c ?_); simp [hop, updV, findK]) | (with_reducible refine And.intro ?_ ?_) | intro _ | (with_reducible assumption) | omega
  all_goals (refine Fin.go hK ?_; clear hK K)
  simp only [Then_normal]
  refine Run.seq ?_
  refine opsF oo45 fun K hK => ?_
  try simp
  repeat' first | ((refine evL_c ?_); simp [hop, lookV, lookR, findK]) | (with_reducible refine And.intro ?_ ?_) | intro _ | (with_reducible assumption) | omega
  all_goals (refine Fin.go hK ?_; clear hK K)
  simp only [Then_normal]
  refine Run.seq ?_
  refine Run.seq ?_
  refine opsF oo46 fun K hK => ?_
  try simp
  repeat' first | ((refine evL_c ?_); simp [hop]) | (with_reducible refine And.intro ?_ ?_) | intro _ | (with_reducible assumption) | omega
  all_goals (refine Fin.go hK ?_; clear hK K)
  simp only [Then_normal]
  refine Run.block ?_
  refine Run.seq ?_
  refine Run.seq ?_
  refine opsF oo47 fun K hK => ?_
  try simp
  repeat' first | ((refine evL_c ?_); simp [hop]) | (with_reducible refine And.intro ?_ ?_) | intro _ | (with_reducible assumption) | omega
  all_goals (refine Fin.go hK ?_; clear hK K)
  simp only [Then_normal]
  refine Run.cond rfl (fun h23 => ?_) (fun h23 => ?_)
  · simp at h23
  · skip
    refine opsF oo49 fun K hK => ?_
    try simp
    repeat' first | ((refine evL_c ?_); simp [hop]) | (with_reducible refine And.intro ?_ ?_) | intro _ | (with_reducible assumption) | omega
    all_goals (refine Fin.go hK ?_; clear hK K)
    simp only [Then_normal]
    refine Run.cond rfl (fun h23 => ?_) (fun h23 => ?_)
    · simp at h23
    · skip
      refine Run.seq ?_
      refine opsF oo50 fun K hK => ?_
      try simp
      repeat' first | ((refine evL_c ?_); simp [hop]) | (with_reducible refine And.intro ?_ ?_) | intro _ | (with_reducible assumption) | omega
      all_goals (refine Fin.go hK ?_; clear hK K)
      simp only [Then_normal]
      refine Run.cond rfl (fun h32 => ?_) (fun h32 => ?_)
      · skip
        refine Run.opsN [] [(34, 39), (36, 38)] [⟨Op.fieldAddr 75 (Operand.tmp 6) 1, some 34, none⟩, ⟨Op.load 3 (Operand.tmp 34), some 35, none⟩, ⟨Op.fieldAddr 75 (Operand.tmp 6) 2, some 36, none⟩, ⟨Op.load 46 (Operand.tmp 36), some 37, none⟩, ⟨Op.fieldAddr 48 (Operand.tmp 11) 2, some 38, none⟩, ⟨Op.store 3 (Operand.tmp 38) (Operand.tmp 35), none, none⟩, ⟨Op.fieldAddr 48 (Operand.tmp 11) 3, some 39, none⟩, ⟨Op.store 46 (Operand.tmp 39) (Operand.tmp 37), none, none⟩] mixed (by decide) rfl fun K hK => ?_
        try simp
        repeat' first | ((refine evL_c ?_); simp [hop]) | (with_reducible refine And.intro ?_ ?_) | intro _ | (with_reducible assumption) | omega
        all_goals (refine hK _ _ (by rfl) ?_; clear hK K)
        simp only [Blok_normal]
        simp only [Then_normal]
        refine Run.seq ?_
        refine opsF oo48 fun K hK => ?_
        try simp
        repeat' first | ((refine evL_c ?_); simp [hop]) | (with_reducible refine And.intro ?_ ?_) | intro _ | (with_reducible assumption) | omega
        all_goals (refine Fin.go hK ?_; clear hK K)
        simp only [Then_normal]
        refine Run.fra 2000 ?_
        simp [V.fra, V.fraL, fraS, frz]
        refine Run.subB 900 5 (.d (.sl false [])) rfl rfl nil_sl ?_
        simp
        refine Run.ret ?_
        try simp only [Then_ret, Blok_ret]
        simp
      · simp at h32

set_option maxHeartbeats 8000000 in
theorem over4_ok (c : CoreT) (p : PlanT) (s : StepR) (i : Int) (tb pp : D) (np : Nat) (ps : List PlanT) (l : List Int) (hop : s.op = 4) : SndW P 81 [.pt 0 0 0 0, .d (.ag (encP p)), .d (.ag (encR s)), .int i] [(0, .vals ((encC c).map .d ++ [.d tb, .d pp, .rs 1 6 0 np, .mp 2])), (1, .data 6 (ps.map encP)), (2, mpK l)] (.tup [.d (.ag (encP (stepPl 6 p 0 [] false s.terms))), .bool true]) [(0, .vals ((encC c).map .d ++ [.d tb, .d pp, .rs 1 6 0 np, .mp 2])), (1, .data 6 (ps.map encP)), (2, mpK l)] := by
  refine sndW_of [0, 1, 2] Try.func81 rfl (by kernel_rfl) Try.ntmps81 (by simp) (by simp) ?_
  unfold Try.f81
  simp only [List.cons_append, List.nil_append, List.length_cons, List.length_nil, Nat.reduceAdd, Nat.reduceSub, List.replicate]
  refine Run.seq ?_
  refine opsF oo43 fun K hK => ?_
  try simp
  repeat' first | ((refine evL_c ?_); simp [hop]) | (with_reducible refine And.intro ?_ ?_) | intro _ | (with_reducible assumption) | omega
  all_goals (refine Fin.go hK ?_; clear hK K)
  simp only [Then_normal]
  refine Run.seq ?_
  refine opsF oo44 fun K hK => ?_
  try simp
  repeat' first | ((refine evL_c ?_); simp [hop, updV, findK]) | (with_reducible refine And.intro ?_ ?_) | intro _ | (with_reducible assumption) | omega
  all_goals (refine Fin.go hK ?_; clear hK K)
  simp only [Then_normal]
  refine Run.seq ?_
  refine opsF oo45 fun K hK => ?_
  try simp
  repeat' first | ((refine evL_c ?_); simp [hop, lookV, lookR, findK]) | (with_reducible refine And.intro ?_ ?_) | intro _ | (with_reducible assumption) | omega
  all_goals (refine Fin.go hK ?_; clear hK K)
  simp only [Then_normal]
  refine Run.seq ?_
  refine Run.seq ?_
  refine opsF oo46 fun K hK => ?_
  try simp
  repeat' first | ((refine evL_c ?_); simp [hop]) | (with_reducible refine And.intro ?_ ?_) | intro _ | (with_reducible assumption) | omega
  all_goals (refine Fin.go hK ?_; clear hK K)
  simp only [Then_normal]
  refine Run.block ?_
  refine Run.seq ?_
  refine Run.seq ?_
  refine opsF oo47 fun K hK => ?_
  try simp
  repeat' first | ((refine evL_c ?_); simp [hop]) | (with_reducible refine And.intro ?_ ?_) | intro _ | (with_reducible assumption) | omega
  all_goals (refine Fin.go hK ?_; clear hK K)
  simp only [Then_normal]
  refine Run.cond rfl (fun h23 => ?_) (fun h23 => ?_)
  · simp at h23
  · skip
    refine opsF oo49 fun K hK => ?_
    try simp
    repeat' first | ((refine evL_c ?_); simp [hop]) | (with_reducible refine And.intro ?_ ?_) | intro _ | (with_reducible assumption) | omega
    all_goals (refine Fin.go hK ?_; clear hK K)
    simp only [Then_normal]
    refine Run.cond rfl (fun h23 => ?_) (fun h23 => ?_)
    · simp at h23
    · skip
      refine Run.seq ?_
      refine opsF oo50 fun K hK => ?_
      try simp
      repeat' first | ((refine evL_c ?_); simp [hop]) | (with_reducible refine And.intro ?_ ?_) | intro _ | (with_reducible assumption) | omega
      all_goals (refine Fin.go hK ?_; clear hK K)
      simp only [Then_normal]
      refine Run.cond rfl (fun h32 => ?_) (fun h32 => ?_)
      · simp at h32
      · skip
        refine Run.seq ?_
        refine opsF oo51 fun K hK => ?_
        try simp
        repeat' first | ((refine evL_c ?_); simp [hop]) | (with_reducible refine And.intro ?_ ?_) | intro _ | (with_reducible assumption) | omega
        all_goals (refine Fin.go hK ?_; clear hK K)
        simp only [Then_normal]
        refine Run.cond rfl (fun h40 => ?_) (fun h40 => ?_)
        · skip
          refine opsF [⟨Op.fieldAddr 75 (Operand.tmp 6) 4, some 42, none⟩, ⟨Op.load 28 (Operand.tmp 42), some 43, none⟩, ⟨Op.fieldAddr 48 (Operand.tmp 11) 5, some 44, none⟩, ⟨Op.store 28 (Operand.tmp 44) (Operand.tmp 43), none, none⟩] fun K hK => ?_
          try simp
          repeat' first | ((refine evL_c ?_); simp [hop]) | (with_reducible refine And.intro ?_ ?_) | intro _ | (with_reducible assumption) | omega
          all_goals (refine Fin.go hK ?_; clear hK K)
          simp only [Blok_normal]
          simp only [Then_normal]
          refine Run.seq ?_
          refine opsF oo48 fun K hK => ?_
          try simp
          repeat' first | ((refine evL_c ?_); simp [hop]) | (with_reducible refine And.intro ?_ ?_) | intro _ | (with_reducible assumption) | omega
          all_goals (refine Fin.go hK ?_; clear hK K)
          simp only [Then_normal]
          refine Run.fra 2000 ?_
          simp [V.fra, V.fraL, fraS, frz]
          refine Run.subB 900 3 (.d (.sl false [])) rfl rfl nil_sl ?_
          simp
          refine Run.ret ?_
          try simp only [Then_ret, Blok_ret]
          simp
        · simp at h40

set_option maxHeartbeats 8000000 in
theorem over0_ok (c : CoreT) (p : PlanT) (s : StepR) (i : Int) (tb pp : D) (np : Nat) (ps : List PlanT) (l : List Int) (ho1 : ¬ s.op = 1) (ho2 : ¬ s.op = 2) (ho3 : ¬ s.op = 3) (ho4 : ¬ s.op = 4) (ho5 : ¬ s.op = 5) : SndW P 81 [.pt 0 0 0 0, .d (.ag (encP p)), .d (.ag (encR s)), .int i] [(0, .vals ((encC c).map .d ++ [.d tb, .d pp, .rs 1 6 0 np, .mp 2])), (1, .data 6 (ps.map encP)), (2, mpK l)] (.tup [.d (.ag (encP (stepPl 0 p 0 [] false []))), .bool true]) [(0, .vals ((encC c).map .d ++ [.d tb, .d pp, .rs 1 6 0 np, .mp 2])), (1, .data 6 (ps.map encP)), (2, mpK l)] := by
  refine sndW_of [0, 1, 2] Try.func81 rfl (by kernel_rfl) Try.ntmps81 (by simp) (by simp) ?_
  unfold Try.f81
  simp only [List.cons_append, List.nil_append, List.length_cons, List.length_nil, Nat.reduceAdd, Nat.reduceSub, List.replicate]
  refine Run.seq ?_
  refine opsF oo43 fun K hK => ?_
  try simp
  repeat' first | ((refine evL_c ?_); simp [ho1, ho2, ho3, ho4, ho5]) | (with_reducible refine And.intro ?_ ?_) | intro _ | (with_reducible assumption) | omega
  all_goals (refine Fin.go hK ?_; clear hK K)
  simp only [Then_normal]
  refine Run.seq ?_
  refine opsF oo44 fun K hK => ?_
  try simp
  repeat' first | ((refine evL_c ?_); simp [ho1, ho2, ho3, ho4, ho5, updV, findK]) | (with_reducible refine And.intro ?_ ?_) | intro _ | (with_reducible assumption) | omega
  all_goals (refine Fin.go hK ?_; clear hK K)
  simp only [Then_normal]
  refine Run.seq ?_
  refine opsF oo45 fun K hK => ?_
  try simp
  repeat' first | ((refine evL_c ?_); simp [ho1, ho2, ho3, ho4, ho5, lookV, lookR, findK]) | (with_reducible refine And.intro ?_ ?_) | intro _ | (with_reducible assumption) | omega
  all_goals (refine Fin.go hK ?_; clear hK K)
  simp only [Then_normal]
  refine Run.seq ?_
  refine Run.seq ?_
  refine opsF oo46 fun K hK => ?_
  try simp
  repeat' first | ((refine evL_c ?_); simp [ho1, ho2, ho3, ho4, ho5]) | (with_reducible refine And.intro ?_ ?_) | intro _ | (with_reducible assumption) | omega
  all_goals (refine Fin.go hK ?_; clear hK K)
  simp only [Then_normal]
  refine Run.block ?_
  refine Run.seq ?_
  refine Run.seq ?_
  refine opsF oo47 fun K hK => ?_
  try simp
  repeat' first | ((refine evL_c ?_); simp [ho1, ho2, ho3, ho4, ho5]) | (with_reducible refine And.intro ?_ ?_) | intro _ | (with_reducible assumption) | omega
  all_goals (refine Fin.go hK ?_; clear hK K)
  simp only [Then_normal]
  refine Run.cond rfl (fun h23 => ?_) (fun h23 => ?_)
  · simp at h23
  · skip
    refine opsF oo49 fun K hK => ?_
    try simp
    repeat' first | ((refine evL_c ?_); simp [ho1, ho2, ho3, ho4, ho5]) | (with_reducible refine And.intro ?_ ?_) | intro _ | (with_reducible assumption) | omega
    all_goals (refine Fin.go hK ?_; clear hK K)
    simp only [Then_normal]
    refine Run.cond rfl (fun h23 => ?_) (fun h23 => ?_)
    · simp at h23
    · skip
      refine Run.seq ?_
      refine opsF oo50 fun K hK => ?_
      try simp
      repeat' first | ((refine evL_c ?_); simp [ho1, ho2, ho3, ho4, ho5]) | (with_reducible refine And.intro ?_ ?_) | intro _ | (with_reducible assumption) | omega
      all_goals (refine Fin.go hK ?_; clear hK K)
      simp only [Then_normal]
      refine Run.cond rfl (fun h32 => ?_) (fun h32 => ?_)
      · simp at h32
      · skip
        refine Run.seq ?_
        refine opsF oo51 fun K hK => ?_
        try simp
        repeat' first | ((refine evL_c ?_); simp [ho1, ho2, ho3, ho4, ho5]) | (with_reducible refine And.intro ?_ ?_) | intro _ | (with_reducible assumption) | omega
        all_goals (refine Fin.go hK ?_; clear hK K)
        simp only [Then_normal]
        refine Run.cond rfl (fun h40 => ?_) (fun h40 => ?_)
        · simp at h40
        · skip
          refine Run.seq ?_
          refine opsF oo52 fun K hK => ?_
          try simp
          repeat' first | ((refine evL_c ?_); simp [ho1, ho2, ho3, ho4, ho5]) | (with_reducible refine And.intro ?_ ?_) | intro _ | (with_reducible assumption) | omega
          all_goals (refine Fin.go hK ?_; clear hK K)
          simp only [Then_normal]
          refine Run.cond rfl (fun h45 => ?_) (fun h45 => ?_)
          · simp at h45
          · skip
            refine Run.skip ?_
            simp only [Blok_normal]
            simp only [Then_normal]
            refine Run.seq ?_
            refine opsF oo48 fun K hK => ?_
            try simp
            repeat' first | ((refine evL_c ?_); simp [ho1, ho2, ho3, ho4, ho5]) | (with_reducible refine And.intro ?_ ?_) | intro _ | (with_reducible assumption) | omega
            all_goals (refine Fin.go hK ?_; clear hK K)
            simp only [Then_normal]
            refine Run.fra 2000 ?_
            simp [V.fra, V.fraL, fraS, frz]
            refine Run.subB 900 3 (.d (.sl false [])) rfl rfl nil_sl ?_
            simp
            refine Run.subB 900 5 (.d (.sl false [])) rfl rfl nil_sl ?_
            simp
            refine Run.ret ?_
            try simp only [Then_ret, Blok_ret]
            simp


end Go.Proofs.Ytimgbdkgjfbhkaa.Z
end
section
namespace Go.Fw
variable {P : Program}

/-- a call that is given blocks and leaves them as they are; it answers data -/
def RoC (P : Program) (o : Oper) (E E' : St) : Prop := ∃ g args0 ids s0 x, o.dst.isSome = true ∧ callOf o.op (look E.e) = some (g, V.renL (rho ids (newId o.dst)) args0) ∧ (∀ y ∈ s0, getB E.s (ids.getD y.1 0) = some (y.2.ren (rho ids (newId o.dst)))) ∧
  okW ids s0 args0 (.d x) s0 = true ∧ SndW P g args0 s0 (.d x) s0 ∧ E' = ⟨put E.e o.dst (.d x), E.s⟩
def isRo (ro : Op → Bool) (o : Oper) : Bool := ro o.op && cls o.op == .c && o.guard.isNone
def StpN (P : Program) (im ro : Op → Bool) (all : List Oper) (o : Oper) (E E' : St) : Prop := if isRo ro o then RoC P o E E' else Stp P im all o E E'
def StepsN (P : Program) (im ro : Op → Bool) (all : List Oper) : List Nat → St → St → Prop
  | [], E, E' => E' = E
  | i :: r, E, E' => ∃ o, all[i]? = some o ∧ ∃ E1, StpN P im ro all o E E1 ∧ StepsN P im ro all r E1 E'
def reads (o : Oper) : Bool := cls o.op == .p || cls o.op == .r
def commR (im ro : Op → Bool) (all : List Oper) (x y : Oper) : Bool := (!isRo ro x && !isRo ro y && comm im all x y) || (apart all x y && ((isRo ro x && !isRo ro y && reads y) || (reads x && !isRo ro x && isRo ro y)))
def indepR (im ro : Op → Bool) (all : List Oper) : Bool := ahead all && (List.range all.length).all fun i => (List.range i).all fun j => dep all all.length j i || (match all[j]?, all[i]? with | some x, some y => commR im ro all x y | _, _ => true)
theorem puts_nil (s : Store) : puts s [] = s := rfl
theorem reads_stp {im : Op → Bool} {all : List Oper} {o : Oper} (h : reads o = true) {E E' : St} : Stp P im all o E E' ↔ ∃ v, LocG P all o E.e E.s v [] ∧ E' = ⟨put E.e o.dst v, E.s⟩ := by
  simp only [reads, Bool.or_eq_true, beq_iff_eq] at h
  have hx : cls o.op ≠ .x := by rcases h with h | h <;> rw [h] <;> simp
  have hc : cls o.op ≠ .c := by rcases h with h | h <;> rw [h] <;> simp
  have hw : cls o.op ≠ .w := by rcases h with h | h <;> rw [h] <;> simp
  have hm : makes o = false := by unfold makes; rcases h with h | h <;> rw [h]
  rw [locG_of hx (fun _ => hc)]
  constructor
  · rintro ⟨v, ext, hl, rfl⟩
    have : ext = [] := by
      have := locG_ext hw hl
      cases ext with
      | nil => rfl
      | cons z zs => have := (this z (by simp)).1; rw [hm] at this; cases this
    subst this
    exact ⟨v, hl, rfl⟩
  · rintro ⟨v, hl, rfl⟩; exact ⟨v, [], hl, rfl⟩
theorem exchangeR {im ro : Op → Bool} {all : List Oper} {x y : Oper} (hc : commR im ro all x y = true) {E E1 E2 : St} (hfx : makes x = true → Fresh (mine x) E.e E.s) (hfy : makes y = true → Fresh (mine y) E.e E.s)
    (hd : makes x = true → makes y = true → ∀ i, mine x i = true → mine y i = false) (h1 : StpN P im ro all x E E1) (h2 : StpN P im ro all y E1 E2) : ∃ E1', StpN P im ro all y E E1' ∧ StpN P im ro all x E1' E2 := by
  simp only [commR, Bool.or_eq_true, Bool.and_eq_true, Bool.not_eq_true'] at hc
  unfold StpN at h1 h2 ⊢
  rcases hc with ⟨⟨q1, q2⟩, hc⟩ | ⟨ha, hc⟩
  · rw [q1] at h1
    rw [q2] at h2
    simp only [q1, q2, Bool.false_eq_true, if_false] at h1 h2 ⊢
    exact exchange hc hfx hfy hd h1 h2
  simp only [apart, Bool.and_eq_true] at ha
  have hne : ∀ q, x.dst = some q → y.dst ≠ some q := fun q e => by
    have := ha.1; rw [e] at this; simp at this; exact this.2
  have hlx : ∀ q, looks all y q = true → x.dst ≠ some q := fun q hk e => by
    have := ha.1; rw [e] at this; simp [hk] at this
  have hly : ∀ q, looks all x q = true → y.dst ≠ some q := fun q hk e => by
    have := ha.2; rw [e] at this; simp [hk] at this
  have opx : ∀ (v : V), ∀ z ∈ x.op.operands, look (put E.e y.dst v) z = look E.e z := fun v z hz => by
    cases z with
    | tmp t => exact put_getD (hly t (by unfold looks; rw [Bool.or_eq_true]; exact .inl (List.any_eq_true.2 ⟨.tmp t, by simpa using hz, by simp⟩)))
    | _ => rfl
  have opy : ∀ (v : V), ∀ z ∈ y.op.operands, look (put E.e x.dst v) z = look E.e z := fun v z hz => by
    cases z with
    | tmp t => exact put_getD (hlx t (by unfold looks; rw [Bool.or_eq_true]; exact .inl (List.any_eq_true.2 ⟨.tmp t, by simpa using hz, by simp⟩)))
    | _ => rfl
  rcases hc with ⟨⟨q1, q2⟩, q3⟩ | ⟨⟨q3, q1⟩, q2⟩
  · simp only [q1, q2, Bool.false_eq_true, if_true, if_false] at h1 h2 ⊢
    obtain ⟨g, args0, ids, s0, u, a1, a2, a3, a4, a5, rfl⟩ := h1
    obtain ⟨v, g1, rfl⟩ := (reads_stp q3).1 h2
    refine ⟨⟨put E.e y.dst v, E.s⟩, (reads_stp q3).2 ⟨v, (locG_congr fun k hk => put_getD (hlx k hk)).1 g1, rfl⟩, g, args0, ids, s0, u, a1, ?_, a3, a4, a5, ?_⟩
    · simp only; rw [callOf_congr (opx v)]; exact a2
    · simp only; rw [put_comm hne]
  · simp only [q1, q2, Bool.false_eq_true, if_true, if_false] at h1 h2 ⊢
    obtain ⟨v, g1, rfl⟩ := (reads_stp q3).1 h1
    obtain ⟨g, args0, ids, s0, u, a1, a2, a3, a4, a5, rfl⟩ := h2
    refine ⟨⟨put E.e y.dst (.d u), E.s⟩, ⟨g, args0, ids, s0, u, a1, ?_, a3, a4, a5, rfl⟩, (reads_stp q3).2 ⟨v, (locG_congr fun k hk => put_getD (hly k hk)).2 g1, ?_⟩⟩
    · simp only at a2; rw [callOf_congr (opy v)] at a2; exact a2
    · simp only; rw [put_comm hne]
theorem stpN_fresh {im ro : Op → Bool} {all : List Oper} {o : Oper} {p : Nat → Bool} {E E' : St} (hf : Fresh p E.e E.s) (hp : ∀ i, mine o i = true → p i = false) (h : StpN P im ro all o E E') : Fresh p E'.e E'.s := by
  unfold StpN at h
  split at h
  · obtain ⟨g, args0, ids, s0, u, a1, a2, a3, a4, a5, rfl⟩ := h
    exact ⟨put_menL hf.env rfl, hf.sto⟩
  · exact stp_fresh hf hp h
theorem freshAll_stepN {im ro : Op → Bool} {all : List Oper} (ha : alone all = true) {R : List Nat} {E E' : St} {i : Nat} {o : Oper} (hi : all[i]? = some o) (hni : i ∉ R) (hf : FreshAll all R E) (h : StpN P im ro all o E E') : FreshAll all R E' := by
  intro j hj x hx hm
  exact stpN_fresh (hf j hj x hx hm) (fun k hk => alone_mine ha (fun e : j = i => hni (e ▸ hj)) hx hi hm k hk) h
/-- one that may stand first is taken first -/
theorem to_frontR {im ro : Op → Bool} {all : List Oper} (ha : alone all = true) {i : Nat} {o : Oper} (hi : all[i]? = some o) : ∀ {R : List Nat} {E E' : St}, R.Nodup → i ∈ R → FreshAll all R E → (∀ j ∈ R.takeWhile (· != i), ∀ x, all[j]? = some x → commR im ro all x o = true) → StepsN P im ro all R E E' →
    ∃ E1, StpN P im ro all o E E1 ∧ StepsN P im ro all (R.erase i) E1 E' := by
  intro R
  induction R with
  | nil => intro E E' _ h; cases h
  | cons j r ih =>
    intro E E' hnd hm hf hc hs
    obtain ⟨x, hx, E1, h1, h2⟩ := hs
    by_cases e : j = i
    · subst e
      rw [hx] at hi; cases hi
      exact ⟨E1, h1, by simpa using h2⟩
    · have hmr : i ∈ r := (List.mem_cons.1 hm).resolve_left (Ne.symm e)
      have hnd' := List.nodup_cons.1 hnd
      have hfr : FreshAll all r E1 := freshAll_stepN ha hx hnd'.1 (fun k hk => hf k (by simp [hk])) h1
      have htw : (j :: r).takeWhile (· != i) = j :: r.takeWhile (· != i) := by simp [e]
      rw [htw] at hc
      obtain ⟨E2, g1, g2⟩ := ih hnd'.2 hmr hfr (fun k hk => hc k (by simp [hk])) h2
      obtain ⟨E3, g3, g4⟩ := exchangeR (hc j (by simp) x hx) (hf j (by simp) x hx) (hf i hm o hi) (fun m1 m2 k hk => alone_mine ha (Ne.symm e) hi hx m2 k hk) h1 g1
      refine ⟨E3, g3, ?_⟩
      rw [List.erase_cons_tail (by simpa using e)]
      exact ⟨x, hx, E2, g4, g2⟩

section
variable {w0 : World} {L0 : Par} {X : Nat → Prop}
theorem Rel.same {m : Nat → Option Nat} {e : Env} {s s' : Store} {a : Act} {w : World} (h : Rel w0 L0 X m e s a w) (hs : ∀ i, getB s' i = getB s i) : Rel w0 L0 X m e s' a w := by
  have hown : ∀ b, Own m s' b → Own m s b := by
    rintro b ⟨i, blk, g1, g2⟩
    exact ⟨i, blk, by rw [← hs]; exact g1, g2⟩
  have hL : ∀ b, Live X m s' b → Live X m s b ∨ w.heap.size ≤ b := fun b hb => .inl (hb.imp_right (hown b))
  have hk : CellsKept (Live X m s) w w := fun _ _ _ q => q
  have hz : SizesKept w w := fun _ cs _ _ q => ⟨cs, q, rfl⟩
  refine ⟨⟨h.env.len, fun j x v q1 q2 => VRel.mono' hk hz hL (h.env.at_ j x v q1 q2)⟩, ⟨fun i blk hi => ?_, fun i j b q1 q2 q3 q4 => h.sto.inj i j b q1 q2 (by rw [← hs]; exact q3) (by rw [← hs]; exact q4)⟩, h.dfr, h.ext, fun b hb => h.liv b (hown b hb), h.old, fun i hi hq => h.par i hi (by rw [← hs]; exact hq)⟩
  rw [hs] at hi
  rcases h.sto.blk i blk hi with ⟨b, r1, r2⟩ | r
  · exact .inl ⟨b, r1, BRel.mono (p := fun _ => false) hk hz hL (fun _ _ => rfl) rfl (by cases blk <;> first | exact menL_false _ | trivial) r2⟩
  · exact .inr r
theorem stpN_op {im ro : Op → Bool} (hroi : ∀ op, ro op = true → im op = true) {all : List Oper} {i : Nat} {o : Oper} (hi : all[i]? = some o) {m : Nat → Option Nat} {a : Act} {w : World} {E E1 : St} (h : Rel w0 L0 X m E.e E.s a w) (hf : makes o = true → Fresh (mine o) E.e E.s) (hs : StpN P im ro all o E E1) {K : Act → World → Prop} {Q : Exit → Act → World → Prop}
    (hK : ∀ m' a' w', Rel w0 L0 X m' E1.e E1.s a' w' → K a' w') : wpOp P all.toArray Q i K a w := by
  unfold StpN at hs
  split at hs
  · rename_i hro
    simp only [isRo, Bool.and_eq_true, beq_iff_eq, Option.isNone_iff_eq_none] at hro
    obtain ⟨⟨hr, hcl⟩, hg⟩ := hro
    obtain ⟨g, args0, ids, s0, u, a1, a2, a3, a4, a5, rfl⟩ := hs
    have ok := okW_iff a4
    have hst : Stp P im all o E ⟨put E.e o.dst (.d u), puts (dropS (lost ids s0) E.s) (renS (rho ids (newId o.dst)) s0)⟩ := by
      unfold Stp
      rw [show guardOf all E.e o.guard = some none by rw [hg]; rfl]
      show DoI P im o E _
      unfold DoI
      rw [hcl, hroi _ hr]
      exact ⟨g, args0, ids, s0, .d u, s0, a1, a2, a3, a4, a5, rfl⟩
    refine stp_op hi h hf hst fun m' a' w' hr' => hK m' a' w' (hr'.same fun i => ?_)
    simp only
    rw [getB_puts', getB_dropS]
    split
    · rename_i b hb
      obtain ⟨j, b0, h1, h2, rfl⟩ := getB_renS hb
      have hj : j < ids.length := by
        have := List.all_eq_true.1 ok.keys _ (getB_mem h1)
        simpa using this
      have := a3 _ (getB_mem h1)
      rw [rho_lt hj] at h2
      rw [← h2]; exact this
    · split
      · rename_i hb hl
        simp only [lost, List.any_eq_true, Bool.and_eq_true, beq_iff_eq, List.mem_range] at hl
        obtain ⟨j, hj, _, hn⟩ := hl
        have := ok.all j hj
        rw [Option.isNone_iff_eq_none] at hn
        rw [hn] at this; cases this
      · rfl
  · exact stp_op hi h hf hs hK
/-- in the text's order -/
theorem seq_opsR {im ro : Op → Bool} (hroi : ∀ op, ro op = true → im op = true) {all : List Oper} (ha : alone all = true) : ∀ {R : List Nat} {m : Nat → Option Nat} {a : Act} {w : World} {E E' : St}, R.Nodup → FreshAll all R E → Rel w0 L0 X m E.e E.s a w → StepsN P im ro all R E E' → ∀ {Q : Exit → Act → World → Prop}, (∀ m' a' w', Rel w0 L0 X m' E'.e E'.s a' w' → Q .normal a' w') → wpOps P all.toArray Q R a w := by
  intro R
  induction R with
  | nil => intro m a w E E' _ _ h hs Q hQ; cases hs; exact hQ m a w h
  | cons i r ih =>
    intro m a w E E' hnd hf h hs Q hQ
    obtain ⟨o, hi, E1, h1, h2⟩ := hs
    have hnd' := List.nodup_cons.1 hnd
    rw [wpOps_cons]
    exact stpN_op hroi hi h (hf i (by simp) o hi) h1 fun m' a' w' h' => ih hnd'.2 (freshAll_stepN ha hi hnd'.1 (fun k hk => hf k (by simp [hk])) h1) h' h2 hQ

theorem any_opsR {im ro : Op → Bool} (hroi : ∀ op, ro op = true → im op = true) {all : List Oper} (ha : alone all = true) (hi : indepR im ro all = true) : ∀ (fuel : Nat) {listed : Array Bool} {m : Nat → Option Nat} {a : Act} {w : World} {E E' : St}, listed.size = all.length → (undone all.length listed).length ≤ fuel →
    (∀ i o, all[i]? = some o → listed.getD i true = true → i < all.length → ∀ e ∈ o.after.toList, Region.binds .any e = true → listed.getD e.on false = true) →
    FreshAll all (undone all.length listed) E → Rel w0 L0 X m E.e E.s a w → StepsN P im ro all (undone all.length listed) E E' → ∀ {Q : Exit → Act → World → Prop}, (∀ m' a' w', Rel w0 L0 X m' E'.e E'.s a' w' → Q .normal a' w') → wpAny P .any all.toArray Q fuel listed a w := by
  simp only [indepR, Bool.and_eq_true] at hi
  obtain ⟨hah, hco⟩ := hi
  intro fuel
  have rdy : ∀ {listed : Array Bool}, listed.size = all.length → ∀ i, i ∈ Region.ready .any all.toArray listed ↔ i ∈ undone all.length listed ∧ ∃ o, all[i]? = some o ∧ ∀ e ∈ o.after.toList, Region.binds .any e = true → listed.getD e.on false = true := by
    intro listed hl i
    simp only [Region.ready, undone, List.mem_filter, List.size_toArray, List.getElem?_toArray, Bool.and_eq_true]
    constructor
    · rintro ⟨h1, h2, h3⟩
      refine ⟨⟨h1, h2⟩, ?_⟩
      cases ho : all[i]? with
      | none => rw [ho] at h3; cases h3
      | some o =>
        rw [ho] at h3
        refine ⟨o, rfl, fun e he hb => ?_⟩
        simp only [Option.map_some, Option.getD_some, Array.all_eq_true_iff_forall_mem] at h3
        have := h3 e (by simpa using he)
        simpa [hb] using this
    · rintro ⟨⟨h1, h2⟩, o, ho, h3⟩
      refine ⟨h1, h2, ?_⟩
      rw [ho]
      simp only [Option.map_some, Option.getD_some, Array.all_eq_true_iff_forall_mem]
      intro e he
      by_cases hb : Region.binds .any e = true
      · simp [h3 e (by simpa using he) hb]
      · simp [hb]
  -- as long as one is left, one may be taken
  have least : ∀ {listed : Array Bool}, listed.size = all.length → Region.ready .any all.toArray listed = [] → undone all.length listed = [] := by
    intro listed hl hr
    cases hu : undone all.length listed with
    | nil => rfl
    | cons i r =>
      exfalso
      have hmem : ∀ k, k ∈ undone all.length listed ↔ k < all.length ∧ listed.getD k true = false := fun k => by simp [undone]
      have hmin : ∀ k, k < i → listed.getD k false = true := by
        intro k hk
        have hii : i < all.length := ((hmem i).1 (by rw [hu]; simp)).1
        have hsort : (undone all.length listed).Pairwise (· < ·) := List.pairwise_lt_range.filter _
        rw [hu] at hsort
        have hks : k < listed.size := by omega
        cases hq : listed.getD k true with
        | true => simp [Array.getD, hks] at hq ⊢; exact hq
        | false =>
          have : k ∈ undone all.length listed := (hmem k).2 ⟨by omega, hq⟩
          rw [hu] at this
          rcases List.mem_cons.1 this with e | hm
          · omega
          · have := (List.pairwise_cons.1 hsort).1 k hm
            omega
      have hii : i < all.length := ((hmem i).1 (by rw [hu]; simp)).1
      have : i ∈ Region.ready .any all.toArray listed := (rdy hl i).2 ⟨by rw [hu]; simp, all[i], List.getElem?_eq_getElem hii, fun e he hb => by
        have h1 := List.all_eq_true.1 hah i (List.mem_range.2 hii)
        rw [List.getElem?_eq_getElem hii] at h1
        have h2 := List.all_eq_true.1 h1 e he
        simp only [hb, Bool.not_true, Bool.false_or, decide_eq_true_eq] at h2
        exact hmin _ h2⟩
      rw [hr] at this; cases this
  induction fuel with
  | zero =>
    intro listed m a w E E' hl hn hcl hf h hs Q hQ
    have hu : undone all.length listed = [] := List.eq_nil_of_length_eq_zero (by omega)
    rw [hu] at hs
    cases hs
    refine ⟨?_, hQ m a w h⟩
    cases hr : Region.ready .any all.toArray listed with
    | nil => rfl
    | cons i r =>
      have := ((rdy hl i).1 (by rw [hr]; simp)).1
      rw [hu] at this; cases this
  | succ n ih =>
    intro listed m a w E E' hl hn hcl hf h hs Q hQ
    refine ⟨fun hr => ?_, fun i hri => ?_⟩
    · have hu := least hl hr
      rw [hu] at hs
      cases hs
      exact hQ m a w h
    · obtain ⟨hu, o, ho, hd⟩ := (rdy hl i).1 hri
      have hii : i < all.length := (List.getElem?_eq_some_iff.1 ho).1
      have hnd : (undone all.length listed).Nodup := List.nodup_range.filter _
      have hsort : (undone all.length listed).Pairwise (· < ·) := List.pairwise_lt_range.filter _
      obtain ⟨E1, g1, g2⟩ := to_frontR ha ho hnd hu hf (fun j hj x hx => by
        have hju : j ∈ undone all.length listed := (List.takeWhile_prefix _).subset hj
        have hne : j ≠ i := by have := List.all_eq_true.1 List.all_takeWhile j hj; simpa using this
        have hji : j < i := by
          have : ∀ (R : List Nat), R.Pairwise (· < ·) → i ∈ R → j ∈ R.takeWhile (· != i) → j < i := by
            intro R
            induction R with
            | nil => intro _ h; cases h
            | cons k r ih =>
              intro hp hm hj
              have hp' := List.pairwise_cons.1 hp
              by_cases e : k = i
              · simp [e] at hj
              · have hmr : i ∈ r := (List.mem_cons.1 hm).resolve_left (Ne.symm e)
                simp only [List.takeWhile_cons, bne_iff_ne, ne_eq, e, not_false_eq_true, if_true, List.mem_cons] at hj
                rcases hj with rfl | hj
                · exact hp'.1 i hmr
                · exact ih hp'.2 hmr hj
          exact this _ hsort hu hj
        have h1 := List.all_eq_true.1 (List.all_eq_true.1 hco i (List.mem_range.2 hii)) j (List.mem_range.2 hji)
        simp only [hx, ho, Bool.or_eq_true] at h1
        rcases h1 with h1 | h1
        · have := dep_listed hcl hl _ j i o ho hd h1
          have hjl : j < listed.size := by omega
          have h2 : listed.getD j true = false := by have := hju; simp only [undone, List.mem_filter, Bool.not_eq_true'] at this; exact this.2
          simp [Array.getD, hjl] at this h2
          rw [this] at h2; cases h2
        · exact h1) hs
      refine stpN_op hroi ho h (hf i hu o ho) g1 fun m' a' w' h' => ?_
      have hue := undone_set (listed := listed) hl hii
      refine ih (by simpa using hl) ?_ ?_ ?_ h' (by rw [hue]; exact g2) hQ
      · rw [hue, List.length_erase_of_mem hu]; omega
      · intro k x hx hk hkl e he hb
        by_cases e1 : i = k
        · subst e1
          rw [ho] at hx; cases hx
          have := hd e he hb
          have hne : e.on < all.length := by
            have hlt : e.on < listed.size := by
              rcases Nat.lt_or_ge e.on listed.size with h | h
              · exact h
              · simp [Array.getD, Nat.not_lt.2 h] at this
            omega
          simp [Array.getD_eq_getD_getElem?, Array.getElem?_setIfInBounds] at this ⊢
          split
          · split <;> simp_all
          · exact this
        · have hk' : listed.getD k true = true := by
            simpa [Array.getD_eq_getD_getElem?, Array.getElem?_setIfInBounds, e1] using hk
          have := hcl k x hx hk' hkl e he hb
          simp [Array.getD_eq_getD_getElem?, Array.getElem?_setIfInBounds] at this ⊢
          split
          · split <;> simp_all
          · exact this
      · rw [hue]
        have hf' : FreshAll all ((undone all.length listed).erase i) E := fun k hk => hf k (List.mem_of_mem_erase hk)
        exact freshAll_stepN ha ho (List.Nodup.not_mem_erase hnd) hf' g1
end
variable {E : St} {Q : Exit → St → Prop}
def okRegR (im ro : Op → Bool) (draw : Bool) (all : List Oper) : Bool := alone all && (!draw || indepR im ro all)
theorem Run.regionR {im ro : Op → Bool} (hroi : ∀ op, ro op = true → im op = true) {id : Nat} {ops : Array Oper} {draw : Bool} (hm : P.follows .mixedOrders = true) (hk : okRegR im ro draw ops.toList = true) {e : Env} {s : Store} {E' : St}
    (hs : StepsN P im ro ops.toList (List.range ops.toList.length) ⟨enterE ops.toList e, enterS ops.toList s⟩ E') (hq : Q .normal E') : Run P (.region id ops draw) ⟨e, s⟩ Q := fun w0 L0 X m a w hr => by
  simp only [okRegR, Bool.and_eq_true, Bool.or_eq_true, Bool.not_eq_true'] at hk
  obtain ⟨ha, hd⟩ := hk
  have henter : Rel w0 L0 X m (enterE ops.toList e) (enterS ops.toList s) a w ∧ FreshAll ops.toList (List.range ops.toList.length) ⟨enterE ops.toList e, enterS ops.toList s⟩ := by
    unfold enterE enterS
    by_cases h : (ks ops.toList).isEmpty = true
    · simp only [h, if_true]
      refine ⟨hr, fun i _ o ho hm => ?_⟩
      have := ks_nil h o (List.mem_of_getElem? ho)
      rw [this] at hm; cases hm
    · simp only [h, if_false]
      exact ⟨hr.fgt _, fresh_enter⟩
  obtain ⟨h1, h2⟩ := henter
  have fin : ∀ m' a' w', Rel w0 L0 X m' E'.e E'.s a' w' → ∃ E'' m'', Q .normal E'' ∧ Rel w0 L0 X m'' E''.e E''.s a' w' := fun m' a' w' h => ⟨E', m', hq, h⟩
  cases draw with
  | false =>
    refine wp_region ?_
    have := seq_opsR (P := P) hroi (w0 := w0) (L0 := L0) (X := X) ha List.nodup_range h2 h1 hs (Q := fun x a' w' => ∃ E' m', Q x E' ∧ Rel w0 L0 X m' E'.e E'.s a' w') fin
    simpa using this
  | true =>
    have hi : indepR im ro ops.toList = true := by rcases hd with h | h; exact absurd h (by simp); exact h
    refine wp_region_any hm ?_
    have hu : undone ops.toList.length (Array.replicate ops.size false) = List.range ops.toList.length := by
      unfold undone
      rw [List.filter_eq_self]
      intro k hk
      have := List.mem_range.1 hk
      simp at this
      simp [Array.getD, this]
    have h3 : Rel w0 L0 X m (enterE ops.toList e) (enterS ops.toList s) a { w with drawn := w.drawn + 1 } := by
      have hk : CellsKept (Live X m (enterS ops.toList s)) w { w with drawn := w.drawn + 1 } := fun _ _ _ q => q
      have hz : SizesKept w { w with drawn := w.drawn + 1 } := fun _ cs _ _ q => ⟨cs, q, rfl⟩
      refine ⟨⟨h1.env.len, fun j x v q1 q2 => VRel.mono' hk hz (fun b hb => .inl hb) (h1.env.at_ j x v q1 q2)⟩, ⟨fun i blk hi => ?_, h1.sto.inj⟩, h1.dfr, ⟨h1.ext.os, h1.ext.tape, h1.ext.output, h1.ext.size, h1.ext.block, h1.ext.sizes⟩, h1.liv, h1.old, h1.par⟩
      rcases h1.sto.blk i blk hi with ⟨b, r1, r2⟩ | r
      · exact .inl ⟨b, r1, BRel.mono (p := fun _ => false) hk hz (fun b hb => .inl hb) (fun _ _ => rfl) rfl (by cases blk <;> first | exact menL_false _ | trivial) r2⟩
      · exact .inr r
    have := any_opsR (P := P) hroi (w0 := w0) (L0 := L0) (X := X) ha hi ops.size (listed := Array.replicate ops.size false) (by simp) (by rw [hu]; simp) (fun i o ho hl hlt e he hb => by
      simp at hlt
      simp [Array.getD, hlt] at hl) (by rw [hu]; exact h2) h3 (by rw [hu]; exact hs) (Q := fun x a' w' => ∃ E' m', Q x E' ∧ Rel w0 L0 X m' E'.e E'.s a' w') fin
    simpa using this
/-- such a call stands here -/
def ERo (P : Program) (g : FuncId) (args : List V) (dst : Option Nat) (k : Env → Store → Prop) (e : Env) (s : Store) : Prop := ∃ ids args0 s0 x, dst.isSome = true ∧ args = V.renL (rho ids (newId dst)) args0 ∧ (∀ y ∈ s0, getB s (ids.getD y.1 0) = some (y.2.ren (rho ids (newId dst)))) ∧
  okW ids s0 args0 (.d x) s0 = true ∧ SndW P g args0 s0 (.d x) s0 ∧ k (put e dst (.d x)) s
def EvN (P : Program) (im ro : Op → Bool) (K : Env → Store → Prop) : List LOp → Env → Store → Prop
  | [], e, s => K e s
  | o :: os, e, s => if ro o.op && cls o.op == .c then (match callOf o.op (look e) with | some (g, args) => ERo P g args o.dst (EvN P im ro K os) e s | none => False) else exec P im (mkO o.op o.dst) (EvN P im ro K os) e s
theorem evN_steps {im ro : Op → Bool} {all : List Oper} {K : Env → Store → Prop} : ∀ {os : List Oper} {n : Nat} {e : Env} {s : Store}, (os.all fun o => o.guard.isNone) = true → all.drop n = os → EvN P im ro K (os.map fun o => ⟨o.op, o.dst, none⟩) e s → ∃ E', StepsN P im ro all (List.range' n os.length) ⟨e, s⟩ E' ∧ K E'.e E'.s := by
  intro os
  induction os with
  | nil => intro n e s _ _ h; exact ⟨⟨e, s⟩, rfl, h⟩
  | cons o r ih =>
    intro n e s hg hd h
    simp only [List.all_cons, Bool.and_eq_true, Option.isNone_iff_eq_none] at hg
    have hn : all[n]? = some o := by
      have : (all.drop n)[0]? = some o := by rw [hd]; rfl
      simpa using this
    have hd' : all.drop (n + 1) = r := by
      rw [← List.drop_drop, hd]; rfl
    have fin : ∀ {E1 : St}, StpN P im ro all o ⟨e, s⟩ E1 → EvN P im ro K (r.map fun o => ⟨o.op, o.dst, none⟩) E1.e E1.s → ∃ E', StepsN P im ro all (List.range' n (o :: r).length) ⟨e, s⟩ E' ∧ K E'.e E'.s := by
      intro E1 h1 h2
      obtain ⟨E', g1, g2⟩ := ih (by simpa using hg.2) hd' h2
      exact ⟨E', ⟨o, hn, E1, h1, g1⟩, g2⟩
    simp only [List.map_cons, EvN] at h
    have hiso : isRo ro o = (ro o.op && cls o.op == .c) := by simp [isRo, hg.1]
    split at h
    · rename_i hro
      split at h
      · rename_i g args hco
        obtain ⟨ids, args0, s0, x, h1, rfl, h3, h4, h5, h6⟩ := h
        refine fin (E1 := ⟨put e o.dst (.d x), s⟩) ?_ h6
        unfold StpN
        rw [if_pos (by rw [hiso]; exact hro)]
        exact ⟨g, args0, ids, s0, x, h1, hco, h3, h4, h5, rfl⟩
      · exact h.elim
    · rename_i hro
      obtain ⟨E1, g1, g2⟩ := exec_do h
      refine fin (E1 := E1) ?_ g2
      unfold StpN
      rw [if_neg (by rw [hiso]; exact hro)]
      unfold Stp
      rw [show guardOf all e o.guard = some none by rw [hg.1]; rfl]
      exact g1
/-- calls of these functions -/
def rop (l : List FuncId) (op : Op) : Bool := match op with
  | .call c => match c.callee with
    | .value (.func f) => l.contains f
    | _ => false
  | _ => false
/-- A REGION whose calls of l2 leave all blocks as they are; l: those that are given none. -/
theorem Run.opsR (l l2 : List FuncId) {id : Nat} {ops : Array Oper} {draw : Bool} (los : List LOp) (hm : P.follows .mixedOrders = true) (hd : (l.all fun f => !l2.contains f) = true) (hg : (ops.toList.all fun o => o.guard.isNone) = true) (hk : okRegR (imp l) (rop l2) draw ops.toList = true) (hl : (ops.toList.map fun o => (⟨o.op, o.dst, none⟩ : LOp)) = los) {e : Env} {s : Store}
    (h : ∀ K : Env → Store → Prop, Fin Q K → EvN P (imp l) (rop l2) K los (enterE ops.toList e) (enterS ops.toList s)) : Run P (.region id ops draw) ⟨e, s⟩ Q := by
  subst hl
  obtain ⟨E', h1, h2⟩ := evN_steps (P := P) (im := imp l) (ro := rop l2) (n := 0) hg (List.drop_zero ..) (h (fun e s => Q .normal ⟨e, s⟩) fun _ _ h => h)
  rw [← List.range_eq_range'] at h1
  refine Run.regionR (fun op hop => ?_) hm hk h1 h2
  unfold rop at hop
  unfold imp
  split at hop
  · split at hop
    · rename_i c f hc
      simp only [hc]
      cases hq : l.contains f with
      | false => rfl
      | true =>
        have := List.all_eq_true.1 hd f (by simpa using hq)
        rw [hop] at this; cases this
    · cases hop
  · cases hop
theorem evN_c {im ro : Op → Bool} {K : Env → Store → Prop} {op : Op} {dst : Option Nat} {os : List LOp} {e : Env} {s : Store} (hr : (ro op && cls op == .c) = false) (h : exec P im (mkO op dst) (EvN P im ro K os) e s) : EvN P im ro K (⟨op, dst, none⟩ :: os) e s := by
  simp only [EvN]; rw [if_neg (by rw [hr]; simp)]; exact h
theorem evN_r {im ro : Op → Bool} {K : Env → Store → Prop} {op : Op} {dst : Option Nat} {os : List LOp} {e : Env} {s : Store} (hr : (ro op && cls op == .c) = true) {g : FuncId} {args : List V} (hc : callOf op (look e) = some (g, args)) (h : ERo P g args dst (EvN P im ro K os) e s) : EvN P im ro K (⟨op, dst, none⟩ :: os) e s := by
  simp only [EvN]; rw [if_pos hr, hc]; exact h
theorem FinN.go {im ro : Op → Bool} {K : Env → Store → Prop} {e : Env} {s : Store} (h : Fin Q K) (hq : Q .normal ⟨e, s⟩) : EvN P im ro K [] e s := h e s hq
theorem ero (ids : List Nat) {g : FuncId} {args args0 : List V} {d : Nat} {k : Env → Store → Prop} {e : Env} {s s0 : Store} {x : D} (h : SndW P g args0 s0 (.d x) s0) (ha : V.renL (rho ids (100 * (d + 1))) args0 = args) (hs : ∀ y ∈ s0, getB s (ids.getD y.1 0) = some (y.2.ren (rho ids (100 * (d + 1)))))
    (hok : okW ids s0 args0 (.d x) s0 = true) (hk : k (put e (some d) (.d x)) s) : ERo P g args (some d) k e s := ⟨ids, args0, s0, x, rfl, ha.symm, hs, hok, h, hk⟩
end Go.Fw
end
section
set_option maxRecDepth 100000
namespace Go.Proofs.Ytimgbdkgjfbhkaa.Z
open Go Go.Fw
attribute [-simp] lookV updV Blk.fgt Blk.ren Blk.men Blk.fin lost
attribute [local simp] look101 upd101
def eqJ : List Int → List Int → Bool
  | [], [] => true
  | x :: a, y :: b => decide (x = y) && eqJ a b
  | _, _ => false
theorem eqJ_len {a b : List Int} (h : a.length ≠ b.length) : eqJ a b = false := by
  induction a generalizing b with
  | nil => cases b <;> simp_all [eqJ]
  | cons x a ih =>
    cases b with
    | nil => rfl
    | cons y b => rw [eqJ, ih (by simpa using h), Bool.and_false]
theorem eqJ_step {a b : List Int} {i : Nat} (ha : i < a.length) (hb : i < b.length) : eqJ (a.drop i) (b.drop i) = (decide (rdI a i = rdI b i) && eqJ (a.drop (i + 1)) (b.drop (i + 1))) := by
  rw [drop_rd ha, drop_rd hb, eqJ]
theorem eqJ_iff (a b : List Int) : eqJ a b = true ↔ a = b := by
  induction a generalizing b with
  | nil => cases b <;> simp [eqJ]
  | cons x a ih => cases b <;> simp [eqJ, ih]
def encTa (t : List (List Int)) : D := .sl false (t.map fun l => [.sl false (l.map encI)])
attribute [simp] encTa
def joinT (p q : PlanT) : PlanT := .mk 4 [p, q] 0 [] false []
@[simp] theorem joinT_op (p q : PlanT) : (joinT p q).op = 4 := rfl
@[simp] theorem joinT_kids (p q : PlanT) : (joinT p q).kids = [p, q] := rfl
@[simp] theorem joinT_slot (p q : PlanT) : (joinT p q).slot = 0 := rfl
@[simp] theorem joinT_edges (p q : PlanT) : (joinT p q).edges = [] := rfl
@[simp] theorem joinT_back (p q : PlanT) : (joinT p q).back = false := rfl
@[simp] theorem joinT_terms (p q : PlanT) : (joinT p q).terms = [] := rfl
theorem okR (c : CoreT) (tb pp : D) (np : Nat) (rows : List (List D)) (l : List Int) (cells : List D) {x : D} : okW [0, 1, 2] [(0, .vals ((encC c).map .d ++ [.d tb, .d pp, .rs 1 6 0 np, .mp 2])), (1, .data 6 rows), (2, mpK l)] [.pt 0 0 0 0, .d (.ag cells)] (.d x) [(0, .vals ((encC c).map .d ++ [.d tb, .d pp, .rs 1 6 0 np, .mp 2])), (1, .data 6 rows), (2, mpK l)] = true := by
  have e : List.range 3 = [0, 1, 2] := rfl
  simp [okW, badId, e, V.menL, V.men, getB]
theorem eqJ_ok (na nb : Bool) (a b : List Int) : Snd P 98 [.d (.sl na (a.map encI)), .d (.sl nb (b.map encI))] (.bool (eqJ a b)) [] := by
  refine Snd.ok 0 rfl (by kernel_rfl) fun hok => ?_
  have hma : a.length ≤ 9223372036854775807 := by simp only [D.ok, List.length_map] at hok; exact hok.1
  clear hok
  obtain ⟨m, hm⟩ : ∃ m, a.length = m := ⟨_, rfl⟩
  obtain ⟨k, hk⟩ : ∃ m, b.length = m := ⟨_, rfl⟩
  rw [hm] at hma
  refine snd_of [] Try.func98 rfl (by kernel_rfl) Try.ntmps98 (by simp) ?_
  unfold Try.f98
  simp only [List.cons_append, List.nil_append, List.length_cons, List.length_nil, Nat.reduceAdd, Nat.reduceSub, List.replicate]
  refine Run.seq ?_
  refine opsF oo11 fun K hK => ?_
  try simp
  repeat' first | ((refine evL_c ?_); simp [hm, hk]) | (with_reducible refine And.intro ?_ ?_) | intro _ | (with_reducible assumption) | omega
  all_goals (refine Fin.go hK ?_; clear hK K)
  simp only [Then_normal]
  refine Run.seq ?_
  refine Run.seq ?_
  refine opsF [⟨Op.move (Operand.tmp 0), some 6, none⟩, ⟨Op.call { callee := Callee.builtin Builtin.len, args := #[Operand.tmp 6], argTypes := #[46] }, some 7, none⟩, ⟨Op.move (Operand.tmp 1), some 8, none⟩, ⟨Op.call { callee := Callee.builtin Builtin.len, args := #[Operand.tmp 8], argTypes := #[46] }, some 9, none⟩, ⟨Op.binOp BinOp.neq 3 (Operand.tmp 7) (Operand.tmp 9) 3, some 10, none⟩] fun K hK => ?_
  try simp
  repeat' first | ((refine evL_c ?_); simp [hm, hk]) | (with_reducible refine And.intro ?_ ?_) | intro _ | (with_reducible assumption) | omega
  all_goals (refine Fin.go hK ?_; clear hK K)
  simp only [Then_normal]
  refine Run.cond rfl (fun h10 => ?_) (fun h10 => ?_)
  · try simp at h10
    refine Run.seq ?_
    refine opsF oo11 fun K hK => ?_
    try simp
    repeat' first | ((refine evL_c ?_); simp [hm, hk]) | (with_reducible refine And.intro ?_ ?_) | intro _ | (with_reducible assumption) | omega
    all_goals (refine Fin.go hK ?_; clear hK K)
    simp only [Then_normal]
    refine Run.ret ?_
    try simp only [Then_ret, Blok_ret]
    first
      | (rw [eqJ_len (by omega)]; simp; done)
      | (rw [hz, eqJ_step (by omega) (by omega), decide_eq_false h24]; simp; done)
      | (rw [hz, show a.drop i = [] from List.drop_of_length_le (by omega), show b.drop i = [] from List.drop_of_length_le (by omega), eqJ]; simp; done)
  · try simp at h10
    have hkm : k = m := by omega
    subst hkm
    refine Run.skip ?_
    simp only [Then_normal]
    refine Run.seq ?_
    refine Run.seq ?_
    refine opsF [⟨Op.move (Operand.tmp 0), some 11, none⟩, ⟨Op.call { callee := Callee.builtin Builtin.len, args := #[Operand.tmp 11], argTypes := #[46] }, some 12, none⟩, ⟨Op.move (Operand.const (Value.int IntKind.i64 0)), some 13, none⟩] fun K hK => ?_
    try simp
    repeat' first | ((refine evL_c ?_); simp [hm, hk]) | (with_reducible refine And.intro ?_ ?_) | intro _ | (with_reducible assumption) | omega
    all_goals (refine Fin.go hK ?_; clear hK K)
    simp only [Then_normal]
    refine Run.block ?_
    refine Run.loopO [4, 5, 13, 14, 15, 16, 17, 18, 19, 20, 21, 22, 23, 24, 25] (fun (i : Nat) => [(13, .int i)]) (fun (i : Nat) => []) (fun (i : Nat) => i ≤ k ∧ eqJ a b = eqJ (a.drop i) (b.drop i)) (fun (i : Nat) => k - i) 0 ⟨by omega, rfl⟩ (by simp) fun i ⟨hi, hz⟩ => ?_
    simp only [over, List.foldl, List.set]
    refine Run.seq ?_
    refine opsF [⟨Op.binOp BinOp.lss 3 (Operand.tmp 13) (Operand.tmp 12) 3, some 14, none⟩] fun K hK => ?_
    try simp
    repeat' first | ((refine evL_c ?_); simp [hm, hk]) | (with_reducible refine And.intro ?_ ?_) | intro _ | (with_reducible assumption) | omega
    all_goals (refine Fin.go hK ?_; clear hK K)
    simp only [Then_normal]
    refine Run.seq ?_
    refine Run.cond rfl (fun h14 => ?_) (fun h14 => ?_)
    · try simp at h14
      have hi1 : i < k := by omega
      refine Run.skip ?_
      simp only [Then_normal]
      refine Run.seq ?_
      refine Run.block ?_
      refine Run.seq ?_
      refine opsF [⟨Op.move (Operand.tmp 13), some 15, none⟩, ⟨Op.assign (Operand.tmp 15), some 5, none⟩] fun K hK => ?_
      try simp
      repeat' first | ((refine evL_c ?_); simp [hm, hk, hi1]) | (with_reducible refine And.intro ?_ ?_) | intro _ | (with_reducible assumption) | omega
      all_goals (refine Fin.go hK ?_; clear hK K)
      simp only [Then_normal]
      refine Run.seq ?_
      refine opsF [⟨Op.move (Operand.tmp 0), some 16, none⟩, ⟨Op.move (Operand.tmp 5), some 17, none⟩, ⟨Op.indexAddr 46 (Operand.tmp 16) (Operand.tmp 17), some 18, none⟩, ⟨Op.load 3 (Operand.tmp 18), some 19, none⟩, ⟨Op.move (Operand.tmp 1), some 20, none⟩, ⟨Op.move (Operand.tmp 5), some 21, none⟩, ⟨Op.indexAddr 46 (Operand.tmp 20) (Operand.tmp 21), some 22, none⟩, ⟨Op.load 3 (Operand.tmp 22), some 23, none⟩, ⟨Op.binOp BinOp.neq 3 (Operand.tmp 19) (Operand.tmp 23) 3, some 24, none⟩] fun K hK => ?_
      try simp
      repeat' first | ((refine evL_c ?_); simp [hm, hk, hi1]) | (with_reducible refine And.intro ?_ ?_) | intro _ | (with_reducible assumption) | omega
      all_goals (refine Fin.go hK ?_; clear hK K)
      simp only [Then_normal]
      refine Run.cond rfl (fun h24 => ?_) (fun h24 => ?_)
      · try simp at h24
        refine Run.seq ?_
        refine opsF oo11 fun K hK => ?_
        try simp
        repeat' first | ((refine evL_c ?_); simp [hm, hk, hi1]) | (with_reducible refine And.intro ?_ ?_) | intro _ | (with_reducible assumption) | omega
        all_goals (refine Fin.go hK ?_; clear hK K)
        simp only [Then_normal]
        refine Run.ret ?_
        try simp only [Then_ret, Blok_ret]
        first
          | (rw [eqJ_len (by omega)]; simp; done)
          | (rw [hz, eqJ_step (by omega) (by omega), decide_eq_false h24]; simp; done)
          | (rw [hz, show a.drop i = [] from List.drop_of_length_le (by omega), show b.drop i = [] from List.drop_of_length_le (by omega), eqJ]; simp; done)
      · try simp at h24
        refine Run.skip ?_
        simp only [Blok_normal]
        simp only [Then_normal]
        refine opsF [⟨Op.binOp BinOp.add 3 (Operand.tmp 13) (Operand.const (Value.int IntKind.i64 1)) 3, some 25, none⟩, ⟨Op.move (Operand.tmp 25), some 13, none⟩] fun K hK => ?_
        try simp
        repeat' first | ((refine evL_c ?_); simp [hm, hk, hi1]) | (with_reducible refine And.intro ?_ ?_) | intro _ | (with_reducible assumption) | omega
        all_goals (refine Fin.go hK ?_; clear hK K)
        refine ⟨i + 1, ⟨by omega, by rw [hz, eqJ_step (by omega) (by omega), decide_eq_true h24]; rfl⟩, by omega, ?_⟩
        simp (disch := omega) [wrap_id]
    · try simp at h14
      refine Run.exit ?_
      simp (decide := true) only [Then_exit, Blok_exit, if_true, if_false]
      simp only [Then_normal]
      refine Run.seq ?_
      refine opsF [⟨Op.assign (Operand.const (Value.bool true)), some 4, none⟩] fun K hK => ?_
      try simp
      repeat' first | ((refine evL_c ?_); simp [hm, hk]) | (with_reducible refine And.intro ?_ ?_) | intro _ | (with_reducible assumption) | omega
      all_goals (refine Fin.go hK ?_; clear hK K)
      simp only [Then_normal]
      refine Run.ret ?_
      try simp only [Then_ret, Blok_ret]
      first
        | (rw [eqJ_len (by omega)]; simp; done)
        | (rw [hz, eqJ_step (by omega) (by omega), decide_eq_false h24]; simp; done)
        | (rw [hz, show a.drop i = [] from List.drop_of_length_le (by omega), show b.drop i = [] from List.drop_of_length_le (by omega), eqJ]; simp; done)

set_option maxHeartbeats 8000000 in
theorem over5_bad (c : CoreT) (p : PlanT) (s : StepR) (i : Int) (pp : D) (tabs : List (List Int)) (ps : List PlanT) (l : List Int) (hop : s.op = 5) (hbad : (s.table < 0 ∨ i ≤ s.table) ∨ s.table ∈ l) : SndW P 81 [.pt 0 0 0 0, .d (.ag (encP p)), .d (.ag (encR s)), .int i] [(0, .vals ((encC c).map .d ++ [.d (encTa tabs), .d pp, .rs 1 6 0 ps.length, .mp 2])), (1, .data 6 (ps.map encP)), (2, mpK l)] (.tup [.d (.ag (encP p)), .bool false]) [(0, .vals ((encC c).map .d ++ [.d (encTa tabs), .d pp, .rs 1 6 0 ps.length, .mp 2])), (1, .data 6 (ps.map encP)), (2, mpK l)] := by
  obtain ⟨np, hnp⟩ : ∃ z, ps.length = z := ⟨_, rfl⟩
  rw [hnp]
  refine sndW_of [0, 1, 2] Try.func81 rfl (by kernel_rfl) Try.ntmps81 (by simp) (by simp) ?_
  unfold Try.f81
  simp only [List.cons_append, List.nil_append, List.length_cons, List.length_nil, Nat.reduceAdd, Nat.reduceSub, List.replicate]
  refine Run.seq ?_
  refine opsF oo43 fun K hK => ?_
  try simp
  repeat' first | ((refine evL_c ?_); simp [hop, look_K]) | (with_reducible refine And.intro ?_ ?_) | intro _ | (with_reducible assumption) | omega
  all_goals (refine Fin.go hK ?_; clear hK K)
  simp only [Then_normal]
  refine Run.seq ?_
  refine opsF oo44 fun K hK => ?_
  try simp
  repeat' first | ((refine evL_c ?_); simp [hop, look_K, updV, findK]) | (with_reducible refine And.intro ?_ ?_) | intro _ | (with_reducible assumption) | omega
  all_goals (refine Fin.go hK ?_; clear hK K)
  simp only [Then_normal]
  refine Run.seq ?_
  refine opsF oo45 fun K hK => ?_
  try simp
  repeat' first | ((refine evL_c ?_); simp [hop, look_K, lookV, lookR, findK]) | (with_reducible refine And.intro ?_ ?_) | intro _ | (with_reducible assumption) | omega
  all_goals (refine Fin.go hK ?_; clear hK K)
  simp only [Then_normal]
  refine Run.seq ?_
  refine Run.seq ?_
  refine opsF oo46 fun K hK => ?_
  try simp
  repeat' first | ((refine evL_c ?_); simp [hop, look_K]) | (with_reducible refine And.intro ?_ ?_) | intro _ | (with_reducible assumption) | omega
  all_goals (refine Fin.go hK ?_; clear hK K)
  simp only [Then_normal]
  refine Run.block ?_
  refine Run.seq ?_
  refine Run.seq ?_
  refine opsF oo47 fun K hK => ?_
  try simp
  repeat' first | ((refine evL_c ?_); simp [hop, look_K]) | (with_reducible refine And.intro ?_ ?_) | intro _ | (with_reducible assumption) | omega
  all_goals (refine Fin.go hK ?_; clear hK K)
  simp only [Then_normal]
  refine Run.cond rfl (fun h23 => ?_) (fun h23 => ?_)
  · simp at h23
  · skip
    refine opsF oo49 fun K hK => ?_
    try simp
    repeat' first | ((refine evL_c ?_); simp [hop, look_K]) | (with_reducible refine And.intro ?_ ?_) | intro _ | (with_reducible assumption) | omega
    all_goals (refine Fin.go hK ?_; clear hK K)
    simp only [Then_normal]
    refine Run.cond rfl (fun h23 => ?_) (fun h23 => ?_)
    · simp at h23
    · skip
      refine Run.seq ?_
      refine opsF oo50 fun K hK => ?_
      try simp
      repeat' first | ((refine evL_c ?_); simp [hop, look_K]) | (with_reducible refine And.intro ?_ ?_) | intro _ | (with_reducible assumption) | omega
      all_goals (refine Fin.go hK ?_; clear hK K)
      simp only [Then_normal]
      refine Run.cond rfl (fun h32 => ?_) (fun h32 => ?_)
      · simp at h32
      · skip
        refine Run.seq ?_
        refine opsF oo51 fun K hK => ?_
        try simp
        repeat' first | ((refine evL_c ?_); simp [hop, look_K]) | (with_reducible refine And.intro ?_ ?_) | intro _ | (with_reducible assumption) | omega
        all_goals (refine Fin.go hK ?_; clear hK K)
        simp only [Then_normal]
        refine Run.cond rfl (fun h40 => ?_) (fun h40 => ?_)
        · simp at h40
        · skip
          refine Run.seq ?_
          refine opsF oo52 fun K hK => ?_
          try simp
          repeat' first | ((refine evL_c ?_); simp [hop, look_K]) | (with_reducible refine And.intro ?_ ?_) | intro _ | (with_reducible assumption) | omega
          all_goals (refine Fin.go hK ?_; clear hK K)
          simp only [Then_normal]
          refine Run.cond rfl (fun h45 => ?_) (fun h45 => ?_)
          · skip
            refine Run.seq ?_
            refine Run.seq ?_
            refine opsF oo53 fun K hK => ?_
            try simp
            repeat' first | ((first | refine evL_c ?_ | (refine evL_g rfl ?_; try simp only [gs_tt, gs_ff, gs_tf, gs_ft]) | refine evL_u rfl ?_ | (with_reducible refine gsplit (fun hg => ?_) (fun hg => ?_) <;> try simp at hg)) <;> try simp [hop, look_K]) | (with_reducible refine And.intro ?_ ?_) | intro _ | (with_reducible assumption) | omega
            all_goals (refine Fin.go hK ?_; clear hK K)
            all_goals
              simp only [Then_normal]
              refine Run.cond rfl (fun h64 => ?_) (fun h64 => ?_)
              · skip
                refine Run.seq ?_
                refine opsF [⟨Op.load 48 (Operand.tmp 5), some 65, none⟩, ⟨Op.store 48 (Operand.tmp 8) (Operand.tmp 65), none, none⟩, ⟨Op.assign (Operand.const (Value.bool false)), some 9, none⟩] fun K hK => ?_
                try simp
                repeat' first | ((refine evL_c ?_); simp [hop, look_K]) | (with_reducible refine And.intro ?_ ?_) | intro _ | (with_reducible assumption) | omega
                all_goals (refine Fin.go hK ?_; clear hK K)
                simp only [Then_normal]
                refine Run.ret ?_
                try simp only [Then_ret, Blok_ret]
                simp
              · exfalso
                (simp at h64) <;> grind
          · simp at h45

set_option maxHeartbeats 8000000 in
theorem over5_ok (c : CoreT) (p : PlanT) (s : StepR) (i : Int) (pp : D) (tabs : List (List Int)) (ps : List PlanT) (l : List Int) (hop : s.op = 5) (h0 : 0 ≤ s.table) (h1 : s.table < i) (hip : i ≤ ps.length) (hil : i ≤ tabs.length) (hps : ps.length ≤ 1100000) (hna : s.table ∉ l) (hw : c.nodes.length + c.edges.length ≤ 16) (b0 b1 : List Bool) (hB0 : Snd P 24 [.d (.ag (encP p)), .d (.ag (encC c))] (.tup [.d (.sl false (b0.map encB)), .int 0]) []) (hb0 : b0.length = c.nodes.length + c.edges.length) (hB1 : Snd P 24 [.d (.ag (encP (rdI ps s.table))), .d (.ag (encC c))] (.tup [.d (.sl false (b1.map encB)), .int 0]) []) (hb1 : b1.length = c.nodes.length + c.edges.length) : SndW P 81 [.pt 0 0 0 0, .d (.ag (encP p)), .d (.ag (encR s)), .int i] [(0, .vals ((encC c).map .d ++ [.d (encTa tabs), .d pp, .rs 1 6 0 ps.length, .mp 2])), (1, .data 6 (ps.map encP)), (2, mpK l)] (.tup [.d (.ag (encP (if eqJ (keyN b0 b1 (c.nodes.length + c.edges.length)) (rdI tabs s.table) then joinT p (rdI ps s.table) else p))), .bool (eqJ (keyN b0 b1 (c.nodes.length + c.edges.length)) (rdI tabs s.table))]) [(0, .vals ((encC c).map .d ++ [.d (encTa tabs), .d pp, .rs 1 6 0 ps.length, .mp 2])), (1, .data 6 (ps.map encP)), (2, mpK (l ++ [s.table]))] := by
  obtain ⟨np, hnp⟩ : ∃ z, ps.length = z := ⟨_, rfl⟩
  rw [hnp] at hip
  rw [hnp]
  have hj2 : s.table.toNat < np := by omega
  have hj4 : rowN (ps.map encP) s.table.toNat = encP (rdI ps s.table) := by simp [rowN, rdI, List.getD_eq_getElem?_getD, hnp, hj2]
  have hj5 : Fw.rowAt (tabs.map fun l => [D.sl false (l.map encI)]) s.table = [.sl false ((rdI tabs s.table).map encI)] := by simp [Fw.rowAt, rowN, rdI, List.getD_eq_getElem?_getD, show s.table.toNat < tabs.length by omega]
  obtain ⟨nt, hnt⟩ : ∃ z, tabs.length = z := ⟨_, rfl⟩
  rw [hnt] at hil
  have hj6 : s.table.toNat < nt := by omega
  obtain ⟨q, hq⟩ : ∃ z, rdI ps s.table = z := ⟨_, rfl⟩
  obtain ⟨kk, hkk⟩ : ∃ z, keyN b0 b1 (c.nodes.length + c.edges.length) = z := ⟨_, rfl⟩
  obtain ⟨tt, htt⟩ : ∃ z, rdI tabs s.table = z := ⟨_, rfl⟩
  rw [hq] at hB1
  have hKy := keys_ok c (joinT p q) (.d (encTa tabs)) (.d pp) ⟨_, rfl⟩ ⟨_, rfl⟩ np ps (l ++ [s.table]) b0 b1 rfl hw hB0 hb0 hB1 hb1
  have hE := eqJ_ok false false kk tt
  rw [hkk] at hKy
  rw [hq, hkk, htt]
  rw [hq] at hj4
  rw [htt] at hj5
  rw [encP_cells] at hKy
  simp only [joinT_op, joinT_kids, joinT_slot, joinT_edges, joinT_back, joinT_terms, List.map_cons, List.map_nil, encP_cells] at hKy
  obtain ⟨r, hr⟩ : ∃ z, eqJ kk tt = z := ⟨_, rfl⟩
  rw [hr] at hE
  rw [hr]
  have hl1 : s.table ≤ 9223372036854775807 := by omega
  refine sndW_of [0, 1, 2] Try.func81 rfl (by kernel_rfl) Try.ntmps81 (by simp) (by simp) ?_
  unfold Try.f81
  simp only [List.cons_append, List.nil_append, List.length_cons, List.length_nil, Nat.reduceAdd, Nat.reduceSub, List.replicate]
  refine Run.seq ?_
  refine opsF oo43 fun K hK => ?_
  try simp
  repeat' first | ((refine evL_c ?_); simp [hop, look_K, upd_K, trAdd, hna, hnp, hnt, hj4, hj5, hj2, hj6]) | (with_reducible refine And.intro ?_ ?_) | intro _ | (with_reducible assumption) | omega
  all_goals (refine Fin.go hK ?_; clear hK K)
  simp only [Then_normal]
  refine Run.seq ?_
  refine opsF oo44 fun K hK => ?_
  try simp
  repeat' first | ((refine evL_c ?_); simp [hop, look_K, upd_K, trAdd, hna, hnp, hnt, hj4, hj5, hj2, hj6, updV, findK]) | (with_reducible refine And.intro ?_ ?_) | intro _ | (with_reducible assumption) | omega
  all_goals (refine Fin.go hK ?_; clear hK K)
  simp only [Then_normal]
  refine Run.seq ?_
  refine opsF oo45 fun K hK => ?_
  try simp
  repeat' first | ((refine evL_c ?_); simp [hop, look_K, upd_K, trAdd, hna, hnp, hnt, hj4, hj5, hj2, hj6, lookV, lookR, findK]) | (with_reducible refine And.intro ?_ ?_) | intro _ | (with_reducible assumption) | omega
  all_goals (refine Fin.go hK ?_; clear hK K)
  simp only [Then_normal]
  refine Run.seq ?_
  refine Run.seq ?_
  refine opsF oo46 fun K hK => ?_
  try simp
  repeat' first | ((refine evL_c ?_); simp [hop, look_K, upd_K, trAdd, hna, hnp, hnt, hj4, hj5, hj2, hj6]) | (with_reducible refine And.intro ?_ ?_) | intro _ | (with_reducible assumption) | omega
  all_goals (refine Fin.go hK ?_; clear hK K)
  simp only [Then_normal]
  refine Run.block ?_
  refine Run.seq ?_
  refine Run.seq ?_
  refine opsF oo47 fun K hK => ?_
  try simp
  repeat' first | ((refine evL_c ?_); simp [hop, look_K, upd_K, trAdd, hna, hnp, hnt, hj4, hj5, hj2, hj6]) | (with_reducible refine And.intro ?_ ?_) | intro _ | (with_reducible assumption) | omega
  all_goals (refine Fin.go hK ?_; clear hK K)
  simp only [Then_normal]
  refine Run.cond rfl (fun h23 => ?_) (fun h23 => ?_)
  · simp at h23
  · skip
    refine opsF oo49 fun K hK => ?_
    try simp
    repeat' first | ((refine evL_c ?_); simp [hop, look_K, upd_K, trAdd, hna, hnp, hnt, hj4, hj5, hj2, hj6]) | (with_reducible refine And.intro ?_ ?_) | intro _ | (with_reducible assumption) | omega
    all_goals (refine Fin.go hK ?_; clear hK K)
    simp only [Then_normal]
    refine Run.cond rfl (fun h23 => ?_) (fun h23 => ?_)
    · simp at h23
    · skip
      refine Run.seq ?_
      refine opsF oo50 fun K hK => ?_
      try simp
      repeat' first | ((refine evL_c ?_); simp [hop, look_K, upd_K, trAdd, hna, hnp, hnt, hj4, hj5, hj2, hj6]) | (with_reducible refine And.intro ?_ ?_) | intro _ | (with_reducible assumption) | omega
      all_goals (refine Fin.go hK ?_; clear hK K)
      simp only [Then_normal]
      refine Run.cond rfl (fun h32 => ?_) (fun h32 => ?_)
      · simp at h32
      · skip
        refine Run.seq ?_
        refine opsF oo51 fun K hK => ?_
        try simp
        repeat' first | ((refine evL_c ?_); simp [hop, look_K, upd_K, trAdd, hna, hnp, hnt, hj4, hj5, hj2, hj6]) | (with_reducible refine And.intro ?_ ?_) | intro _ | (with_reducible assumption) | omega
        all_goals (refine Fin.go hK ?_; clear hK K)
        simp only [Then_normal]
        refine Run.cond rfl (fun h40 => ?_) (fun h40 => ?_)
        · simp at h40
        · skip
          refine Run.seq ?_
          refine opsF oo52 fun K hK => ?_
          try simp
          repeat' first | ((refine evL_c ?_); simp [hop, look_K, upd_K, trAdd, hna, hnp, hnt, hj4, hj5, hj2, hj6]) | (with_reducible refine And.intro ?_ ?_) | intro _ | (with_reducible assumption) | omega
          all_goals (refine Fin.go hK ?_; clear hK K)
          simp only [Then_normal]
          refine Run.cond rfl (fun h45 => ?_) (fun h45 => ?_)
          · skip
            refine Run.seq ?_
            refine Run.seq ?_
            refine opsF oo53 fun K hK => ?_
            try simp
            repeat' first | ((first | refine evL_c ?_ | (refine evL_g rfl ?_; try simp only [gs_tt, gs_ff, gs_tf, gs_ft]) | refine evL_u rfl ?_ | (with_reducible refine gsplit (fun hg => ?_) (fun hg => ?_) <;> try simp at hg)) <;> try simp [hop, look_K, upd_K, trAdd, hna, hnp, hnt, hj4, hj5, hj2, hj6]) | (with_reducible refine And.intro ?_ ?_) | intro _ | (with_reducible assumption) | omega
            all_goals (refine Fin.go hK ?_; clear hK K)
            all_goals
              simp only [Then_normal]
              refine Run.cond rfl (fun h64 => ?_) (fun h64 => ?_)
              · exfalso
                (simp at h64) <;> grind
              · skip
                refine Run.skip ?_
                simp only [Then_normal]
                refine Run.seq ?_
                refine opsF [⟨Op.move (Operand.tmp 0), some 66, none⟩, ⟨Op.nilCheck (Operand.tmp 66), some 67, none⟩, ⟨Op.fieldAddr 120 (Operand.tmp 67) 3, some 68, none⟩, ⟨Op.load 118 (Operand.tmp 68), some 69, none⟩, ⟨Op.fieldAddr 75 (Operand.tmp 6) 5, some 70, none⟩, ⟨Op.load 3 (Operand.tmp 70), some 71, none⟩, ⟨Op.mapUpdate 118 (Operand.tmp 69) (Operand.tmp 71) (Operand.const (Value.bool true)), none, none⟩] fun K hK => ?_
                try simp
                repeat' first | ((refine evL_c ?_); simp [hop, look_K, upd_K, trAdd, hna, hnp, hnt, hj4, hj5, hj2, hj6]) | (with_reducible refine And.intro ?_ ?_) | intro _ | (with_reducible assumption) | omega
                all_goals (refine Fin.go hK ?_; clear hK K)
                simp only [Then_normal]
                refine Run.seq ?_
                refine opsF [⟨Op.fieldAddr 48 (Operand.tmp 11) 1, some 72, none⟩, ⟨Op.load 45 (Operand.tmp 72), some 73, none⟩, ⟨Op.move (Operand.tmp 0), some 74, none⟩, ⟨Op.nilCheck (Operand.tmp 74), some 75, none⟩, ⟨Op.fieldAddr 120 (Operand.tmp 75) 2, some 76, none⟩, ⟨Op.load 45 (Operand.tmp 76), some 77, none⟩, ⟨Op.fieldAddr 75 (Operand.tmp 6) 5, some 78, none⟩, ⟨Op.load 3 (Operand.tmp 78), some 79, none⟩, ⟨Op.indexAddr 45 (Operand.tmp 77) (Operand.tmp 79), some 80, none⟩, ⟨Op.load 48 (Operand.tmp 80), some 81, none⟩, ⟨Op.buildSlice 45 1 #[(0, Operand.tmp 81)], some 82, none⟩, ⟨Op.call { callee := Callee.builtin Builtin.append, args := #[Operand.tmp 73, Operand.tmp 82], argTypes := #[45, 45] }, some 83, none⟩, ⟨Op.fieldAddr 48 (Operand.tmp 11) 1, some 84, none⟩, ⟨Op.store 45 (Operand.tmp 84) (Operand.tmp 83), none, none⟩] fun K hK => ?_
                try simp
                repeat' first | ((refine evL_c ?_); simp [hop, look_K, upd_K, trAdd, hna, hnp, hnt, hj4, hj5, hj2, hj6]) | (with_reducible refine And.intro ?_ ?_) | intro _ | (with_reducible assumption) | omega
                all_goals (refine Fin.go hK ?_; clear hK K)
                simp only [Then_normal]
                refine Run.fra 8400 ?_
                simp [V.fra, V.fraL, fraS, frz]
                refine Run.subB 1200 3 (.d (.sl false [])) rfl rfl nil_sl ?_
                simp
                refine Run.subB 1200 5 (.d (.sl false [])) rfl rfl nil_sl ?_
                simp
                refine Run.seq ?_
                refine Run.opsR [98] [99] [⟨Op.move (Operand.tmp 0), some 85, none⟩, ⟨Op.load 48 (Operand.tmp 11), some 86, none⟩, ⟨Op.call { callee := Callee.value (Operand.func 99), args := #[Operand.tmp 85, Operand.tmp 86], argTypes := #[117, 48] }, some 87, none⟩, ⟨Op.move (Operand.tmp 0), some 88, none⟩, ⟨Op.nilCheck (Operand.tmp 88), some 89, none⟩, ⟨Op.fieldAddr 120 (Operand.tmp 89) 1, some 90, none⟩, ⟨Op.fieldAddr 25 (Operand.tmp 90) 0, some 91, none⟩, ⟨Op.load 22 (Operand.tmp 91), some 92, none⟩, ⟨Op.fieldAddr 75 (Operand.tmp 6) 5, some 93, none⟩, ⟨Op.load 3 (Operand.tmp 93), some 94, none⟩, ⟨Op.indexAddr 22 (Operand.tmp 92) (Operand.tmp 94), some 95, none⟩, ⟨Op.load 46 (Operand.tmp 95), some 96, none⟩, ⟨Op.call { callee := Callee.value (Operand.func 98), args := #[Operand.tmp 87, Operand.tmp 96], argTypes := #[46, 46] }, some 97, none⟩, ⟨Op.unOp UnOp.not 4 (Operand.tmp 97), some 98, none⟩] mixed (by decide) (by decide) (by decide) rfl fun K hK => ?_
                try simp
                repeat' first | (refine ero [0, 1, 2] (by exact hKy) (by simp) (by simp) (okR _ _ _ _ _ _ _) ?_) | (refine ecallD (by exact hE) ?_) | ((refine evN_r rfl rfl ?_); simp [hop, look_K, upd_K, trAdd, hna, hnp, hnt, hj4, hj5, hj2, hj6]) | ((refine evN_c rfl ?_); simp [hop, look_K, upd_K, trAdd, hna, hnp, hnt, hj4, hj5, hj2, hj6]) | ((refine evL_c ?_); simp [hop, look_K, upd_K, trAdd, hna, hnp, hnt, hj4, hj5, hj2, hj6]) | (with_reducible refine And.intro ?_ ?_) | intro _ | (with_reducible assumption) | omega
                all_goals (refine FinN.go hK ?_; clear hK K)
                simp only [Then_normal]
                refine Run.cond rfl (fun h98 => ?_) (fun h98 => ?_)
                · try simp at h98
                  refine Run.seq ?_
                  refine opsF [⟨Op.load 48 (Operand.tmp 5), some 99, none⟩, ⟨Op.store 48 (Operand.tmp 8) (Operand.tmp 99), none, none⟩, ⟨Op.assign (Operand.const (Value.bool false)), some 9, none⟩] fun K hK => ?_
                  try simp
                  repeat' first | ((refine evL_c ?_); simp [hop, look_K, upd_K, trAdd, hna, hnp, hnt, hj4, hj5, hj2, hj6, h98]) | (with_reducible refine And.intro ?_ ?_) | intro _ | (with_reducible assumption) | omega
                  all_goals (refine Fin.go hK ?_; clear hK K)
                  simp only [Then_normal]
                  refine Run.ret ?_
                  try simp only [Then_ret, Blok_ret]
                  first
                    | (simp [h98, trAdd, hna]; done)
                · try simp at h98
                  refine Run.skip ?_
                  simp only [Blok_normal]
                  simp only [Then_normal]
                  refine Run.seq ?_
                  refine opsF oo48 fun K hK => ?_
                  try simp
                  repeat' first | ((refine evL_c ?_); simp [hop, look_K, upd_K, trAdd, hna, hnp, hnt, hj4, hj5, hj2, hj6, h98]) | (with_reducible refine And.intro ?_ ?_) | intro _ | (with_reducible assumption) | omega
                  all_goals (refine Fin.go hK ?_; clear hK K)
                  simp only [Then_normal]
                  refine Run.ret ?_
                  try simp only [Then_ret, Blok_ret]
                  first
                    | (simp [h98, trAdd, hna]; done)
          · simp at h45


end Go.Proofs.Ytimgbdkgjfbhkaa.Z
end
section
namespace Go.Fw
variable {P : Program}
variable {E : St} {Q : Exit → St → Prop}

theorem evI_steps {im : Op → Bool} {all : List Oper} {K : Env → Store → Prop} : ∀ {R : List Nat} {los : List LOp} {e : Env} {s : Store}, R.map (fun i => (all[i]?).map fun o => (⟨o.op, o.dst, none⟩ : LOp)) = los.map some → (all.all fun o => o.guard.isNone) = true → EvL P im K los e s → ∃ E', Steps P im all R ⟨e, s⟩ E' ∧ K E'.e E'.s := by
  intro R
  induction R with
  | nil =>
    intro los e s hl _ h
    cases los with
    | nil => exact ⟨⟨e, s⟩, rfl, h⟩
    | cons x r => cases hl
  | cons i R ih =>
    intro los e s hl hg h
    cases los with
    | nil => cases hl
    | cons x r =>
      simp only [List.map_cons, List.cons.injEq] at hl
      obtain ⟨h1, h2⟩ := hl
      obtain ⟨o, ho, rfl⟩ := Option.map_eq_some_iff.1 h1
      obtain ⟨E1, g1, g2⟩ := exec_do (o := mkO o.op o.dst) h
      obtain ⟨E', g3, g4⟩ := ih h2 hg g2
      have hgo : o.guard = none := by
        have := List.all_eq_true.1 hg o (List.mem_of_getElem? ho)
        simpa using this
      refine ⟨E', ⟨o, ho, E1, ?_, g3⟩, g4⟩
      unfold Stp
      rw [show guardOf all e o.guard = some none by rw [hgo]; rfl]
      exact g1
theorem evL_two {im : Op → Bool} {A B : Env → Store → Prop} {e : Env} {s : Store} (h1 : A e s) (h2 : B e s) : EvL P im (fun e s => A e s ∧ B e s) [] e s := ⟨h1, h2⟩
theorem Run.coin {id : Nat} {ops : Array Oper} (l0 l1 l2 : List LOp) (hm : P.follows .mixedOrders = true) (ha : alone ops.toList = true) (hg : (ops.toList.all fun o => o.guard.isNone) = true) (hn : ops.size = 4)
    (r0 : Region.ready .any ops #[false, false, false, false] = [0]) (r1 : Region.ready .any ops #[true, false, false, false] = [1, 2]) (r2 : Region.ready .any ops #[true, true, false, false] = [2]) (r3 : Region.ready .any ops #[true, false, true, false] = [1]) (r4 : Region.ready .any ops #[true, true, true, false] = [3]) (r5 : Region.ready .any ops #[true, true, true, true] = [])
    (hl0 : [0].map (fun i => (ops.toList[i]?).map fun o => (⟨o.op, o.dst, none⟩ : LOp)) = l0.map some) (hl1 : [1, 2, 3].map (fun i => (ops.toList[i]?).map fun o => (⟨o.op, o.dst, none⟩ : LOp)) = l1.map some) (hl2 : [2, 1, 3].map (fun i => (ops.toList[i]?).map fun o => (⟨o.op, o.dst, none⟩ : LOp)) = l2.map some) {e : Env} {s : Store}
    (h : ∀ K : Env → Store → Prop, Fin Q K → EvL P (fun _ => false) (fun e s => EvL P (fun _ => false) K l1 e s ∧ EvL P (fun _ => false) K l2 e s) l0 (enterE ops.toList e) (enterS ops.toList s)) : Run P (.region id ops true) ⟨e, s⟩ Q := fun w0 L0 X m a w hr => by
  obtain ⟨F1, ⟨o0, i0, F1', t1, hF⟩, hh1, hh2⟩ := evI_steps (P := P) (im := fun _ => false) hl0 hg (h (fun e s => Q .normal ⟨e, s⟩) fun _ _ h => h)
  cases hF
  obtain ⟨F4, ⟨o1, i1, F2, t2, o2, i2, F3, t3, o3, i3, F4', t4, hF4⟩, q1⟩ := evI_steps (P := P) (im := fun _ => false) hl1 hg hh1
  cases hF4
  obtain ⟨G4, ⟨p2, j2, G2, u2, p1, j1, G3, u3, p3, j3, G4', u4, hG4⟩, q2⟩ := evI_steps (P := P) (im := fun _ => false) hl2 hg hh2
  cases hG4
  have henter : Rel w0 L0 X m (enterE ops.toList e) (enterS ops.toList s) a w ∧ FreshAll ops.toList (List.range ops.toList.length) ⟨enterE ops.toList e, enterS ops.toList s⟩ := by
    unfold enterE enterS
    by_cases h : (ks ops.toList).isEmpty = true
    · simp only [h, if_true]
      refine ⟨hr, fun i _ o ho hm => ?_⟩
      have := ks_nil h o (List.mem_of_getElem? ho)
      rw [this] at hm; cases hm
    · simp only [h, if_false]
      exact ⟨hr.fgt _, fresh_enter⟩
  obtain ⟨g1, g2⟩ := henter
  have hlen : ops.toList.length = 4 := by simpa using hn
  rw [hlen] at g2
  refine wp_region_any hm ?_
  have g3 : Rel w0 L0 X m (enterE ops.toList e) (enterS ops.toList s) a { w with drawn := w.drawn + 1 } := by
    have hk : CellsKept (Live X m (enterS ops.toList s)) w { w with drawn := w.drawn + 1 } := fun _ _ _ q => q
    have hz : SizesKept w { w with drawn := w.drawn + 1 } := fun _ cs _ _ q => ⟨cs, q, rfl⟩
    refine ⟨⟨g1.env.len, fun j x v q1 q2 => VRel.mono' hk hz (fun b hb => .inl hb) (g1.env.at_ j x v q1 q2)⟩, ⟨fun i blk hi => ?_, g1.sto.inj⟩, g1.dfr, ⟨g1.ext.os, g1.ext.tape, g1.ext.output, g1.ext.size, g1.ext.block, g1.ext.sizes⟩, g1.liv, g1.old, g1.par⟩
    rcases g1.sto.blk i blk hi with ⟨b, r1, r2⟩ | r
    · exact .inl ⟨b, r1, BRel.mono (p := fun _ => false) hk hz (fun b hb => .inl hb) (fun _ _ => rfl) rfl (by cases blk <;> first | exact menL_false _ | trivial) r2⟩
    · exact .inr r
  have rop : ops = ops.toList.toArray := by simp
  have nn : ∀ {listed : Array Bool} {i : Nat} {r : List Nat} {f : Nat} {a : Act} {w : World} {Q' : Exit → Act → World → Prop}, Region.ready .any ops listed = i :: r → (∀ k ∈ i :: r, wpOp P ops Q' k (wpAny P .any ops Q' f (listed.setIfInBounds k true)) a w) → wpAny P .any ops Q' (f + 1) listed a w := fun {listed i r f a w Q'} hr h => by
    refine ⟨fun e => ?_, fun k hk => ?_⟩
    · rw [hr] at e; cases e
    · rw [hr] at hk; exact h k hk
  have op : ∀ {i : Nat} {o : Oper} {E E1 : St} {R : List Nat}, ops.toList[i]? = some o → i ∈ R → FreshAll ops.toList R E → Stp P (fun _ => false) ops.toList o E E1 → ∀ {m : Nat → Option Nat} {a : Act} {w : World}, Rel w0 L0 X m E.e E.s a w → ∀ {K : Act → World → Prop} {Q' : Exit → Act → World → Prop}, (∀ m' a' w', Rel w0 L0 X m' E1.e E1.s a' w' → FreshAll ops.toList (R.erase i) E1 → K a' w') → R.Nodup → wpOp P ops Q' i K a w := fun {i o E E1 R} h1 h2 h3 h4 {m a w} h5 {K Q'} h6 hnd => by
    have hf : FreshAll ops.toList (R.erase i) E1 := freshAll_step ha h1 (List.Nodup.not_mem_erase hnd) (fun k hk => h3 k (List.mem_of_mem_erase hk)) h4
    have := stp_op (P := P) (Q := Q') h1 h5 (h3 i h2 o h1) h4 (K := K) fun m' a' w' hr' => h6 m' a' w' hr' hf
    rwa [← rop] at this
  have g2' : FreshAll ops.toList [0, 1, 2, 3] ⟨enterE ops.toList e, enterS ops.toList s⟩ := g2
  rw [hn]
  refine nn r0 fun k hk => ?_
  simp only [List.mem_singleton] at hk; subst hk
  refine op i0 (by simp) g2' t1 g3 (fun m1 a1 w1 k1 f1 => ?_) (by decide)
  refine nn r1 fun k hk => ?_
  simp only [List.mem_cons, List.not_mem_nil, or_false] at hk
  rcases hk with rfl | rfl
  · refine op i1 (by decide) f1 t2 k1 (fun m2 a2 w2 k2 f2 => ?_) (by decide)
    refine nn r2 fun k hk => ?_
    simp only [List.mem_singleton] at hk; subst hk
    refine op i2 (by decide) f2 t3 k2 (fun m3 a3 w3 k3 f3 => ?_) (by decide)
    refine nn r4 fun k hk => ?_
    simp only [List.mem_singleton] at hk; subst hk
    refine op i3 (by decide) f3 t4 k3 (fun m4 a4 w4 k4 f4 => ?_) (by decide)
    exact ⟨r5, F4, m4, q1, k4⟩
  · refine op j2 (by decide) f1 u2 k1 (fun m2 a2 w2 k2 f2 => ?_) (by decide)
    refine nn r3 fun k hk => ?_
    simp only [List.mem_singleton] at hk; subst hk
    refine op j1 (by decide) f2 u3 k2 (fun m3 a3 w3 k3 f3 => ?_) (by decide)
    refine nn r4 fun k hk => ?_
    simp only [List.mem_singleton] at hk; subst hk
    refine op j3 (by decide) f3 u4 k3 (fun m4 a4 w4 k4 f4 => ?_) (by decide)
    exact ⟨r5, G4, m4, q2, k4⟩
end Go.Fw
end
section
set_option maxRecDepth 100000
namespace Go.Proofs.Ytimgbdkgjfbhkaa.Z
open Go Go.Fw
attribute [-simp] lookV updV Blk.fgt Blk.ren Blk.men Blk.fin lost
structure PipeR where
  scan : Int
  steps : List StepR
  sink : Int
instance : Inhabited PipeR := ⟨⟨0, [], 0⟩⟩
def encPi (x : PipeR) : List D := [.int x.scan, .sl false (x.steps.map encR), .int x.sink]
structure ProgR where
  tabs : List (List Int)
  pipes : List PipeR
def encPr (r : ProgR) : List D := [encTa r.tabs, .sl false (r.pipes.map encPi)]
attribute [simp] encPi encPr
def overP (p : PlanT) (s : StepR) : PlanT :=
  if s.op = 1 then stepPl 2 p 0 s.edges s.back []
  else if s.op = 2 then stepPl 3 p 0 s.edges s.back []
  else if s.op = 3 then stepPl 5 p s.slot s.edges false []
  else if s.op = 4 then stepPl 6 p 0 [] false s.terms
  else stepPl 0 p 0 [] false []
/-- the slots that both bind -/
def keysT (c : CoreT) (p q : PlanT) : List Int := keyN ((bndT c p).getD []) ((bndT c q).getD []) (c.nodes.length + c.edges.length)
def stepS (c : CoreT) (tabs : List (List Int)) (ps : List PlanT) (i : Int) (l : List Int) (p : PlanT) (s : StepR) : Option PlanT × List Int :=
  if s.op = 5 then
    if (s.table < 0 ∨ i ≤ s.table) ∨ s.table ∈ l then (none, l)
    else (if eqJ (keysT c p (rdI ps s.table)) (rdI tabs s.table) then some (joinT p (rdI ps s.table)) else none, l ++ [s.table])
  else (some (overP p s), l)
def stepsS (c : CoreT) (tabs : List (List Int)) (ps : List PlanT) (i : Int) : List Int → PlanT → List StepR → Option PlanT × List Int
  | l, p, [] => (some p, l)
  | l, p, s :: r => match stepS c tabs ps i l p s with
    | (none, l') => (none, l')
    | (some q, l') => if (bndT c q).isSome then stepsS c tabs ps i l' q r else (none, l')
def scanT (n : Int) : PlanT := .mk 1 [] n [] false []
@[simp] theorem scanT_op (n : Int) : (scanT n).op = 1 := rfl
@[simp] theorem scanT_kids (n : Int) : (scanT n).kids = [] := rfl
@[simp] theorem scanT_slot (n : Int) : (scanT n).slot = n := rfl
@[simp] theorem scanT_edges (n : Int) : (scanT n).edges = [] := rfl
@[simp] theorem scanT_back (n : Int) : (scanT n).back = false := rfl
@[simp] theorem scanT_terms (n : Int) : (scanT n).terms = [] := rfl
def sinkS (tabs : List (List Int)) (i : Nat) : Int := if i = tabs.length then -1 else i
/-- a pipe as a plan -/
def pipeS (c : CoreT) (tabs : List (List Int)) (ps : List PlanT) (l : List Int) (x : PipeR) : Option PlanT × List Int :=
  if x.sink ≠ sinkS tabs ps.length ∨ ¬ (bndT c (scanT x.scan)).isSome = true then (none, l) else stepsS c tabs ps ps.length l (scanT x.scan) x.steps
/-- all pipes: the plans of those that are right, the tables that were asked, is it all? -/
def pipesS (c : CoreT) (tabs : List (List Int)) : List PlanT → List Int → List PipeR → List PlanT × List Int × Bool
  | ps, l, [] => (ps, l, true)
  | ps, l, x :: r => match pipeS c tabs ps l x with
    | (none, l') => (ps, l', false)
    | (some q, l') => pipesS c tabs (ps ++ [q]) l' r

/-! how many parts -/
def wS (s : StepR) : Nat := 1 + s.terms.length + s.edges.length + cntL s.terms
def wL : List StepR → Nat
  | [] => 0
  | s :: r => wS s + wL r
def wP : List PipeR → Nat
  | [] => 0
  | x :: r => 1 + wL x.steps + wP r
/-- the parts of the plans that were not asked -/
def tot : Nat → List PlanT → List Int → Nat
  | _, [], _ => 0
  | j, p :: r, l => (if (j : Int) ∈ l then 0 else partsP p) + tot (j + 1) r l
theorem tot_app (l : List Int) (q : PlanT) : ∀ (ps : List PlanT) (j : Nat), tot j (ps ++ [q]) l ≤ tot j ps l + partsP q := by
  intro ps
  induction ps with
  | nil => intro j; simp only [List.nil_append, tot]; split <;> omega
  | cons p r ih => intro j; simp only [List.cons_append, tot]; have := ih (j + 1); omega
theorem tot_none {l : List Int} {t : Int} : ∀ (ps : List PlanT) (j : Nat), t < j → tot j ps (l ++ [t]) = tot j ps l := by
  intro ps
  induction ps with
  | nil => intro j _; rfl
  | cons p r ih =>
    intro j h
    simp only [tot]
    rw [ih (j + 1) (by omega)]
    have : ((j : Int) ∈ l ++ [t]) ↔ (j : Int) ∈ l := by simp; omega
    simp only [this]
theorem tot_ask {l : List Int} {t : Int} (ht : t ∉ l) : ∀ (ps : List PlanT) (j : Nat), (j : Int) ≤ t → t < j + ps.length → tot j ps (l ++ [t]) + partsP (rdI ps (t - j)) = tot j ps l := by
  intro ps
  induction ps with
  | nil => intro j h1 h2; simp at h2; omega
  | cons p r ih =>
    intro j h1 h2
    simp only [tot]
    by_cases e : (j : Int) = t
    · subst e
      rw [tot_none r (j + 1) (by omega)]
      simp only [List.mem_append, List.mem_singleton, or_true, if_true, if_neg ht]
      simp [rdI]; omega
    · have h3 := ih (j + 1) (by omega) (by simp at h2; omega)
      have h4 : rdI (p :: r) (t - j) = rdI r (t - (j + 1 : Nat)) := by
        have : (t - j).toNat = (t - (j + 1 : Nat)).toNat + 1 := by omega
        simp [rdI, this]
      have h5 : ((j : Int) ∈ l ++ [t]) ↔ (j : Int) ∈ l := by simp; omega
      rw [h4]
      simp only [h5]
      omega
theorem overP_parts (p : PlanT) (s : StepR) : partsP (overP p s) ≤ partsP p + wS s := by
  unfold overP wS
  split
  · simp only [stepPl, partsP, partsL, cntL, List.length_nil]; omega
  split
  · simp only [stepPl, partsP, partsL, cntL, List.length_nil]; omega
  split
  · simp only [stepPl, partsP, partsL, cntL, List.length_nil]; omega
  split
  · simp only [stepPl, partsP, partsL, cntL, List.length_nil]; omega
  · simp only [stepPl, partsP, partsL, cntL, List.length_nil]; omega
theorem joinT_parts (p q : PlanT) : partsP (joinT p q) = 1 + partsP p + partsP q := by
  simp [joinT, partsP, partsL, cntL]; omega
theorem stepS_parts {c : CoreT} {tabs : List (List Int)} {ps : List PlanT} {l l' : List Int} {p q : PlanT} {s : StepR} {i : Int} (hi : i ≤ ps.length) (h : stepS c tabs ps i l p s = (some q, l')) : partsP q + tot 0 ps l' ≤ partsP p + tot 0 ps l + wS s := by
  unfold stepS at h
  split at h
  · split at h
    · cases h
    · rename_i hb
      split at h
      · cases h
        have h1 : s.table ∉ l := fun e => hb (.inr e)
        have := tot_ask (l := l) h1 ps 0 (by simp; omega) (by omega)
        rw [joinT_parts]
        simp at this
        unfold wS
        omega
      · cases h
  · cases h
    have := overP_parts p s
    omega
theorem keep_plan (p : PlanT) : partsP p ≥ 1 := by rw [partsP_eq]; omega
theorem tot_mem {l : List Int} {t : Int} (ht : t ∉ l) {ps : List PlanT} (h0 : 0 ≤ t) (h1 : t < ps.length) : partsP (rdI ps t) ≤ tot 0 ps l := by
  have := tot_ask (l := l) ht ps 0 (by simpa using h0) (by omega)
  simp at this
  omega

/-! a step of any kind -/
def sT (c : CoreT) (tabs : List (List Int)) (pp : D) (ps : List PlanT) (l : List Int) : Store := [(0, .vals ((encC c).map .d ++ [.d (encTa tabs), .d pp, .rs 1 6 0 ps.length, .mp 2])), (1, .data 6 (ps.map encP)), (2, mpK l)]
def overQ (p : PlanT) (x : Option PlanT × List Int) : PlanT := x.1.getD p
theorem over_ok (c : CoreT) (hP : patS c.nodes c.edges = true) (tabs : List (List Int)) (pp : D) (ps : List PlanT) (l : List Int) (p : PlanT) (s : StepR) (i : Int) (hip : i ≤ ps.length) (hil : i ≤ tabs.length) (hps : ps.length ≤ 1100000)
    (hp : (bndT c p).isSome = true) (hw : partsP p + tot 0 ps l ≤ 1100000) (hq : ∀ q ∈ ps, (bndT c q).isSome = true) : SndW P 81 [.pt 0 0 0 0, .d (.ag (encP p)), .d (.ag (encR s)), .int i] (sT c tabs pp ps l) (.tup [.d (.ag (encP (overQ p (stepS c tabs ps i l p s)))), .bool (stepS c tabs ps i l p s).1.isSome]) (sT c tabs pp ps (stepS c tabs ps i l p s).2) := by
  unfold stepS sT
  have hr := pat_rng hP
  split
  · rename_i h5
    split
    · rename_i hb; exact over5_bad c p s i pp tabs ps l h5 hb
    · rename_i hb
      have h0 : 0 ≤ s.table := by omega
      have h1 : s.table < i := by omega
      have hna : s.table ∉ l := fun e => hb (.inr e)
      obtain ⟨b0, e0⟩ := Option.isSome_iff_exists.1 hp
      obtain ⟨b1, e1⟩ := Option.isSome_iff_exists.1 (hq (rdI ps s.table) (rdI_mem h0 (by omega)))
      have hm := tot_mem hna h0 (show s.table < ps.length by omega)
      have := over5_ok c p s i pp tabs ps l h5 h0 h1 hip hil hps hna (by omega) b0 b1 (bound_some hP (by omega) e0) (bndT_len c _ _ e0) (bound_some hP (by omega) e1) (bndT_len c _ _ e1)
      unfold keysT
      rw [e0, e1]
      simp only [Option.getD_some, overQ]
      rcases Bool.eq_false_or_eq_true (eqJ (keyN b0 b1 (c.nodes.length + c.edges.length)) (rdI tabs s.table)) with hr | hr
      · simp only [hr, if_true, Option.getD_some, Option.isSome_some] at this ⊢; exact this
      · simp only [hr, if_false, Bool.false_eq_true, Option.getD_none, Option.isSome_none] at this ⊢; exact this
  · rename_i h5
    simp only [overQ, Option.getD_some, Option.isSome_some]
    unfold overP
    split
    · rename_i h; exact over1_ok c p s i (encTa tabs) pp ps.length ps l h
    split
    · rename_i h; exact over2_ok c p s i (encTa tabs) pp ps.length ps l h
    split
    · rename_i h; exact over3_ok c p s i (encTa tabs) pp ps.length ps l h
    split
    · rename_i h; exact over4_ok c p s i (encTa tabs) pp ps.length ps l h
    · rename_i h1 h2 h3 h4; exact over0_ok c p s i (encTa tabs) pp ps.length ps l h1 h2 h3 h4 h5
theorem look1_ok (c : CoreT) (p : PlanT) (tb pp : D) (np : Nat) (rows : List (List D)) (l : List Int) (hP : patS c.nodes c.edges = true) (hw : partsP p ≤ 1100000) : SndW P 80 [.d (.ag (encP p)), .pt 3 0 0 0] [(0, .vals ((encC c).map .d ++ [.d tb, .d pp, .rs 1 6 0 np, .mp 2])), (1, .data 6 rows), (2, mpK l), (3, .vals [.pt 0 0 0 0])] (.bool (bndT c p).isSome) [(0, .vals ((encC c).map .d ++ [.d tb, .d pp, .rs 1 6 0 np, .mp 2])), (1, .data 6 rows), (2, mpK l), (3, .vals [.pt 0 0 0 0])] := by
  obtain ⟨d, e, hB, he⟩ : ∃ (d : D) (e : Int), Snd P 24 [.d (.ag (encP p)), .d (.ag (encC c))] (.tup [.d d, .int e]) [] ∧ (bndT c p).isSome = decide (e = 0) := by
    have hB := Bound_ok c p hw
    simp only [boundD, hP, if_true] at hB
    cases hr : bndT c p with
    | none => rw [hr] at hB; exact ⟨_, _, hB, rfl⟩
    | some b => rw [hr] at hB; exact ⟨_, _, hB, rfl⟩
  rw [encP_cells] at hB
  rw [he]
  refine sndW_of [0, 1, 2, 3] Try.func80 rfl (by kernel_rfl) Try.ntmps80 (by simp) (by simp) ?_
  unfold Try.f80
  simp only [List.cons_append, List.nil_append, List.length_cons, List.length_nil, Nat.reduceAdd, Nat.reduceSub, List.replicate]
  refine Run.seq ?_
  refine opsF [⟨Op.box 48 (Operand.tmp 0), some 2, none⟩, ⟨Op.assign (Operand.const (Value.bool false)), some 3, none⟩] fun K hK => ?_
  try simp
  repeat' first | ((refine evL_c ?_); simp) | (with_reducible refine And.intro ?_ ?_) | intro _ | (with_reducible assumption) | omega
  all_goals (refine Fin.go hK ?_; clear hK K)
  simp only [Then_normal]
  refine Run.seq ?_
  refine opsF [⟨Op.load 48 (Operand.tmp 2), some 7, none⟩, ⟨Op.load 117 (Operand.tmp 1), some 8, none⟩, ⟨Op.nilCheck (Operand.tmp 8), some 9, none⟩, ⟨Op.fieldAddr 120 (Operand.tmp 9) 0, some 10, none⟩, ⟨Op.load 32 (Operand.tmp 10), some 11, none⟩, ⟨Op.call { callee := Callee.value (Operand.func 24), args := #[Operand.tmp 7, Operand.tmp 11], argTypes := #[48, 32] }, some 12, none⟩, ⟨Op.move (Operand.tmp 12), some 6, none⟩, ⟨Op.extract (Operand.tmp 6) 0, some 13, none⟩, ⟨Op.extract (Operand.tmp 6) 1, some 14, none⟩, ⟨Op.assign (Operand.tmp 13), some 4, none⟩, ⟨Op.assign (Operand.tmp 14), some 5, none⟩] fun K hK => ?_
  try simp
  repeat' first | (refine ecall (by exact hB) rfl ?_) | ((refine evL_c ?_); simp) | (with_reducible refine And.intro ?_ ?_) | intro _ | (with_reducible assumption) | omega
  all_goals (refine Fin.go hK ?_; clear hK K)
  simp only [Then_normal]
  refine Run.seq ?_
  refine opsF [⟨Op.move (Operand.tmp 5), some 15, none⟩, ⟨Op.binOp BinOp.eql 35 (Operand.tmp 15) (Operand.const (Value.int IntKind.i64 0)) 35, some 16, none⟩, ⟨Op.assign (Operand.tmp 16), some 3, none⟩] fun K hK => ?_
  try simp
  repeat' first | ((refine evL_c ?_); simp) | (with_reducible refine And.intro ?_ ?_) | intro _ | (with_reducible assumption) | omega
  all_goals (refine Fin.go hK ?_; clear hK K)
  simp only [Then_normal]
  refine Run.ret ?_
  try simp only [Then_ret, Blok_ret]
  simp


end Go.Proofs.Ytimgbdkgjfbhkaa.Z
end
