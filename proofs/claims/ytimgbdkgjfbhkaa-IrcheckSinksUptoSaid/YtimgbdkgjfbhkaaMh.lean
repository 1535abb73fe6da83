/- Texts of this claim, put together: Ug, Uh, Fzd, Fze, Ui, Uj, Uk, Ul. -/
import Derived.Test.YtimgbdkgjfbhkaaMg
import Derived.Test.YtimgbdkgjfbhkaaRows
import Derived.WalkKit
import Derived.ProofKit
import Derived.OpenShut
import Derived.ShutString
import Derived.ChangeOld
import Derived.Below
import Derived.Lib.SmallJoins
import Derived.Deep.Fields
import Derived.Deep.Slices
set_option linter.unusedVariables false
set_option linter.unusedSimpArgs false
namespace Go.Proofs.Ytimgbdkgjfbhkaa.Z
open Go Go.Fw
abbrev oo77 : List LOp := [⟨Op.box 25 (Operand.tmp 0), some 2, none⟩, ⟨Op.box 32 (Operand.tmp 1), some 3, none⟩, ⟨Op.assign (Operand.const (Value.slice none 0 0)), some 4, none⟩, ⟨Op.assign (Operand.const (Value.int IntKind.i64 0)), some 5, none⟩, ⟨Op.assign (Operand.const (Value.int IntKind.i64 0)), some 6, none⟩]
abbrev oo78 : List LOp := [⟨Op.load 25 (Operand.tmp 2), some 13, none⟩, ⟨Op.load 32 (Operand.tmp 3), some 14, none⟩, ⟨Op.call { callee := Callee.value (Operand.func 27), args := #[Operand.tmp 13, Operand.tmp 14], argTypes := #[25, 32] }, some 15, none⟩, ⟨Op.move (Operand.tmp 15), some 12, none⟩, ⟨Op.extract (Operand.tmp 12) 0, some 16, none⟩, ⟨Op.extract (Operand.tmp 12) 1, some 17, none⟩, ⟨Op.extract (Operand.tmp 12) 2, some 18, none⟩, ⟨Op.alloc 48, some 7, none⟩, ⟨Op.store 48 (Operand.tmp 7) (Operand.tmp 16), none, none⟩, ⟨Op.assign (Operand.tmp 17), some 8, none⟩, ⟨Op.assign (Operand.tmp 18), some 9, none⟩]
abbrev oo79 : List LOp := [⟨Op.move (Operand.tmp 9), some 19, none⟩, ⟨Op.binOp BinOp.neq 35 (Operand.tmp 19) (Operand.const (Value.int IntKind.i64 0)) 35, some 20, none⟩]
abbrev oo80 : List LOp := [⟨Op.box 25 (Operand.tmp 0), some 4, none⟩, ⟨Op.box 32 (Operand.tmp 1), some 5, none⟩, ⟨Op.assign (Operand.const (Value.bool false)), some 8, none⟩]
abbrev oo81 : List LOp := [⟨Op.call { callee := Callee.value (Operand.func 8), args := #[], argTypes := #[] }, some 21, none⟩, ⟨Op.assign (Operand.tmp 21), some 9, none⟩]
abbrev oo82 : List LOp := [⟨Op.load 25 (Operand.tmp 4), some 23, none⟩, ⟨Op.load 32 (Operand.tmp 5), some 24, none⟩, ⟨Op.call { callee := Callee.value (Operand.func 9), args := #[Operand.tmp 23, Operand.tmp 24], argTypes := #[25, 32] }, some 25, none⟩, ⟨Op.move (Operand.tmp 25), some 22, none⟩, ⟨Op.extract (Operand.tmp 22) 0, some 26, none⟩, ⟨Op.extract (Operand.tmp 22) 1, some 27, none⟩, ⟨Op.extract (Operand.tmp 22) 2, some 28, none⟩, ⟨Op.assign (Operand.tmp 26), some 10, none⟩, ⟨Op.assign (Operand.tmp 27), some 11, none⟩, ⟨Op.assign (Operand.tmp 28), some 12, none⟩]
abbrev oo83 : List LOp := [⟨Op.move (Operand.tmp 9), some 29, none⟩, ⟨Op.unOp UnOp.not 4 (Operand.tmp 29), some 30, none⟩, ⟨Op.move (Operand.tmp 30), some 31, none⟩, ⟨Op.move (Operand.tmp 12), some 32, some (some 31, false)⟩, ⟨Op.binOp BinOp.neq 35 (Operand.tmp 32) (Operand.const (Value.int IntKind.i64 0)) 35, some 33, some (some 31, false)⟩, ⟨Op.pick (Operand.tmp 31) (Operand.const (Value.bool true)) (Operand.tmp 33), some 34, none⟩, ⟨Op.move (Operand.tmp 34), some 35, none⟩, ⟨Op.load 25 (Operand.tmp 4), some 36, some (some 35, false)⟩, ⟨Op.call { callee := Callee.value (Operand.func 10), args := #[Operand.tmp 36, Operand.const (Value.int IntKind.i64 300)], argTypes := #[25, 3] }, some 37, some (some 35, false)⟩, ⟨Op.binOp BinOp.gtr 3 (Operand.tmp 37) (Operand.const (Value.int IntKind.i64 300)) 3, some 38, some (some 35, false)⟩, ⟨Op.pick (Operand.tmp 35) (Operand.const (Value.bool true)) (Operand.tmp 38), some 39, none⟩]
end Go.Proofs.Ytimgbdkgjfbhkaa.Z
section
set_option maxRecDepth 100000
namespace Go.Proofs.Ytimgbdkgjfbhkaa.Z
open Go Go.Fw
attribute [-simp] lookV updV Blk.fgt Blk.ren Blk.men Blk.fin lost litV
attribute [local simp] litV_agg litV_int litV_str litV_bool litV_slice litV_tup
theorem stepsS_parts {c : CoreT} {tabs : List (List Int)} {ps : List PlanT} {i : Int} (hi : i ≤ ps.length) {q : PlanT} {l' : List Int} : ∀ (r : List StepR) (l : List Int) (p : PlanT), stepsS c tabs ps i l p r = (some q, l') → partsP q + tot 0 ps l' ≤ partsP p + tot 0 ps l + wL r
  | [], l, p, h => by rw [stepsS] at h; cases h; simp [wL]
  | s :: r, l, p, h => by
    rw [stepsS] at h
    rcases he : stepS c tabs ps i l p s with ⟨o, l2⟩
    rw [he] at h
    cases o with
    | none => cases h
    | some q2 =>
      simp only at h
      split at h
      · have h1 := stepS_parts hi he
        have h2 := stepsS_parts hi r l2 q2 h
        rw [wL]; omega
      · cases h
theorem pipesS_parts {c : CoreT} {tabs : List (List Int)} : ∀ (r : List PipeR) (ps : List PlanT) (l : List Int), (∀ q ∈ ps, partsP q ≤ 1100000) → tot 0 ps l + wP r ≤ 1100000 → ∀ q ∈ (pipesS c tabs ps l r).1, partsP q ≤ 1100000
  | [], ps, l, h, _ => by simpa [pipesS] using h
  | x :: r, ps, l, h, hw => by
    rw [pipesS]
    rw [wP] at hw
    rcases he : pipeS c tabs ps l x with ⟨o, l2⟩
    cases o with
    | none => exact h
    | some q2 =>
      unfold pipeS at he
      split at he
      · cases he
      · have h1 := stepsS_parts (Int.le_refl _) _ _ _ he
        have h2 : partsP (scanT x.scan) = 1 := by simp [scanT, partsP, partsL, cntL]
        have h3 := tot_app l2 q2 ps 0
        refine pipesS_parts r (ps ++ [q2]) l2 (fun q hq => ?_) (by omega)
        rcases List.mem_append.1 hq with hq | hq
        · exact h q hq
        · rw [List.mem_singleton.1 hq]; omega
theorem planS_parts (c : CoreT) (r : ProgR) (hw : wP r.pipes ≤ 1100000) (he : (planS c r).2.2 = 0) : partsP (planS c r).1 ≤ 1100000 := by
  unfold planS at he ⊢
  split
  · rename_i h; rw [if_pos h] at he; cases he
  · rename_i h
    rw [if_neg h] at he
    split
    · rename_i h; rw [if_pos h] at he; cases he
    · rename_i h2
      rw [if_neg h2] at he
      have hp := pipesS_parts (c := c) (tabs := r.tabs) r.pipes [] [] (by simp) (by simpa [tot] using hw)
      have ha := pipesS_len (c := c) (tabs := r.tabs) r.pipes [] []
      rcases hR : pipesS c r.tabs [] [] r.pipes with ⟨R1, R2, R3⟩
      rw [hR] at he hp ha
      simp only at he hp ha ⊢
      split
      · rename_i h; rw [if_pos h] at he; cases he
      · rename_i h
        have hR3 : R3 = true := by cases R3 with
          | true => rfl
          | false => exact absurd (by simp) h
        subst hR3
        simp at ha
        exact hp _ (rdI_mem (by omega) (by omega))
/-- what Check answers -/
def checkS (c : CoreT) (r : ProgR) : D × Int × Int := if (planS c r).2.2 = 0 then ((boundD c (planS c r).1).1, 0, 0) else (.lit (.slice none 0 0), (planS c r).2.1, (planS c r).2.2)

/-! a program's weight -/
def goTb : List (List Int) → Int → Int → Int
  | [], _, n => n
  | t :: r, m, n => if n ≤ m then goTb r m (n + t.length) else n
def stepW (s : StepR) : PlanT := .mk 0 [] 0 s.edges false s.terms
def goSt : List StepR → Int → Int → Int
  | [], _, n => n
  | s :: r, m, n => if n ≤ m then goSt r m (n + partsR (stepW s) (m - n)) else n
def goPi : List PipeR → Int → Int → Int
  | [], _, n => n
  | x :: r, m, n => if n ≤ m then goPi r m (goSt x.steps m n) else n
def weightS (r : ProgR) (most : Int) : Int := goPi r.pipes most (goTb r.tabs most (r.pipes.length + r.tabs.length))
theorem goTb_step {l : List (List Int)} {i : Nat} {m v : Int} (h : i < l.length) (h2 : v ≤ m) : goTb (l.drop i) m v = goTb (l.drop (i + 1)) m (v + (rdI l (i : Nat)).length) := by rw [drop_rd h, goTb, if_pos h2]
theorem goTb_end {l : List (List Int)} {i : Nat} {m v : Int} (h : ¬ (i < l.length ∧ v ≤ m)) : goTb (l.drop i) m v = v := by
  by_cases hi : i < l.length
  · rw [drop_rd hi, goTb, if_neg (fun e => h ⟨hi, e⟩)]
  · rw [List.drop_of_length_le (by omega), goTb]
theorem goSt_step {l : List StepR} {i : Nat} {m v : Int} (h : i < l.length) (h2 : v ≤ m) : goSt (l.drop i) m v = goSt (l.drop (i + 1)) m (v + partsR (stepW (rdI l (i : Nat))) (m - v)) := by rw [drop_rd h, goSt, if_pos h2]
theorem goSt_end {l : List StepR} {i : Nat} {m v : Int} (h : ¬ (i < l.length ∧ v ≤ m)) : goSt (l.drop i) m v = v := by
  by_cases hi : i < l.length
  · rw [drop_rd hi, goSt, if_neg (fun e => h ⟨hi, e⟩)]
  · rw [List.drop_of_length_le (by omega), goSt]
theorem goPi_step {l : List PipeR} {i : Nat} {m v : Int} (h : i < l.length) (h2 : v ≤ m) : goPi (l.drop i) m v = goPi (l.drop (i + 1)) m (goSt (rdI l (i : Nat)).steps m v) := by rw [drop_rd h, goPi, if_pos h2]
theorem goPi_end {l : List PipeR} {i : Nat} {m v : Int} (h : ¬ (i < l.length ∧ v ≤ m)) : goPi (l.drop i) m v = v := by
  by_cases hi : i < l.length
  · rw [drop_rd hi, goPi, if_neg (fun e => h ⟨hi, e⟩)]
  · rw [List.drop_of_length_le (by omega), goPi]
theorem wL_mem {l : List StepR} {s : StepR} (h : s ∈ l) : wS s ≤ wL l := by
  induction l with
  | nil => cases h
  | cons x r ih =>
    rw [wL]
    rcases List.mem_cons.1 h with rfl | h
    · omega
    · have := ih h; omega
theorem wP_mem {l : List PipeR} {x : PipeR} (h : x ∈ l) : 1 + wL x.steps ≤ wP l := by
  induction l with
  | nil => cases h
  | cons y r ih =>
    rw [wP]
    rcases List.mem_cons.1 h with rfl | h
    · omega
    · have := ih h; omega
theorem stepW_parts (s : StepR) : partsP (stepW s) = wS s := by simp [stepW, partsP, partsL, wS]
set_option maxHeartbeats 8000000 in
theorem checkN_ok (c : CoreT) (r : ProgR) (p : PlanT) (a e : Int) (he : ¬ e = 0) (h : Snd P 27 [.d (.ag (encPr r)), .d (.ag (encC c))] (.tup [.d (.ag (encP p)), .int a, .int e]) []) : Snd P 9 [.d (.ag (encPr r)), .d (.ag (encC c))] (.tup [.d (.lit (.slice none 0 0)), .int a, .int e]) [] := by
  rw [encP_cells] at h
  refine snd_of [] Try.func9 rfl (by kernel_rfl) Try.ntmps9 (by simp) ?_
  unfold Try.f9
  simp only [List.cons_append, List.nil_append, List.length_cons, List.length_nil, Nat.reduceAdd, Nat.reduceSub, List.replicate]
  refine Run.seq ?_
  refine opsF oo77 fun K hK => ?_
  try simp
  repeat' first | ((refine evL_c ?_); simp [he]) | (with_reducible refine And.intro ?_ ?_) | intro _ | (with_reducible assumption) | omega
  all_goals (refine Fin.go hK ?_; clear hK K)
  simp only [Then_normal]
  refine Run.seq ?_
  refine opsF oo78 fun K hK => ?_
  try simp
  repeat' first | (refine ecall (by exact h) rfl ?_) | ((refine evL_c ?_); simp [he]) | (with_reducible refine And.intro ?_ ?_) | intro _ | (with_reducible assumption) | omega
  all_goals (refine Fin.go hK ?_; clear hK K)
  simp only [Then_normal]
  refine Run.seq ?_
  refine Run.seq ?_
  refine opsF oo79 fun K hK => ?_
  try simp
  repeat' first | ((refine evL_c ?_); simp [he]) | (with_reducible refine And.intro ?_ ?_) | intro _ | (with_reducible assumption) | omega
  all_goals (refine Fin.go hK ?_; clear hK K)
  simp only [Then_normal]
  refine Run.cond rfl (fun h20 => ?_) (fun h20 => ?_)
  · skip
    refine Run.seq ?_
    refine opsF [⟨Op.move (Operand.tmp 8), some 21, none⟩, ⟨Op.move (Operand.tmp 9), some 22, none⟩, ⟨Op.assign (Operand.const (Value.slice none 0 0)), some 4, none⟩, ⟨Op.assign (Operand.tmp 21), some 5, none⟩, ⟨Op.assign (Operand.tmp 22), some 6, none⟩] fun K hK => ?_
    try simp
    repeat' first | ((refine evL_c ?_); simp [he]) | (with_reducible refine And.intro ?_ ?_) | intro _ | (with_reducible assumption) | omega
    all_goals (refine Fin.go hK ?_; clear hK K)
    simp only [Then_normal]
    refine Run.ret ?_
    try simp only [Then_ret, Blok_ret]
    simp
  · simp at h20

set_option maxHeartbeats 8000000 in
theorem checkA_ok (c : CoreT) (r : ProgR) (p : PlanT) (a : Int) (d : D) (n : Int) (h : Snd P 27 [.d (.ag (encPr r)), .d (.ag (encC c))] (.tup [.d (.ag (encP p)), .int a, .int 0]) []) (hb : Snd P 24 [.d (.ag (encP p)), .d (.ag (encC c))] (.tup [.d d, .int n]) []) : Snd P 9 [.d (.ag (encPr r)), .d (.ag (encC c))] (.tup [.d d, .int 0, .int 0]) [] := by
  rw [encP_cells] at h
  rw [encP_cells] at hb
  refine snd_of [] Try.func9 rfl (by kernel_rfl) Try.ntmps9 (by simp) ?_
  unfold Try.f9
  simp only [List.cons_append, List.nil_append, List.length_cons, List.length_nil, Nat.reduceAdd, Nat.reduceSub, List.replicate]
  refine Run.seq ?_
  refine opsF oo77 fun K hK => ?_
  try simp
  repeat' first | ((refine evL_c ?_); simp) | (with_reducible refine And.intro ?_ ?_) | intro _ | (with_reducible assumption) | omega
  all_goals (refine Fin.go hK ?_; clear hK K)
  simp only [Then_normal]
  refine Run.seq ?_
  refine opsF oo78 fun K hK => ?_
  try simp
  repeat' first | (refine ecall (by exact h) rfl ?_) | ((refine evL_c ?_); simp) | (with_reducible refine And.intro ?_ ?_) | intro _ | (with_reducible assumption) | omega
  all_goals (refine Fin.go hK ?_; clear hK K)
  simp only [Then_normal]
  refine Run.seq ?_
  refine Run.seq ?_
  refine opsF oo79 fun K hK => ?_
  try simp
  repeat' first | ((refine evL_c ?_); simp) | (with_reducible refine And.intro ?_ ?_) | intro _ | (with_reducible assumption) | omega
  all_goals (refine Fin.go hK ?_; clear hK K)
  simp only [Then_normal]
  refine Run.cond rfl (fun h20 => ?_) (fun h20 => ?_)
  · simp at h20
  · skip
    refine Run.skip ?_
    simp only [Then_normal]
    refine Run.seq ?_
    refine opsF [⟨Op.load 48 (Operand.tmp 7), some 24, none⟩, ⟨Op.load 32 (Operand.tmp 3), some 25, none⟩, ⟨Op.call { callee := Callee.value (Operand.func 24), args := #[Operand.tmp 24, Operand.tmp 25], argTypes := #[48, 32] }, some 26, none⟩, ⟨Op.move (Operand.tmp 26), some 23, none⟩, ⟨Op.extract (Operand.tmp 23) 0, some 27, none⟩, ⟨Op.extract (Operand.tmp 23) 1, some 28, none⟩, ⟨Op.assign (Operand.tmp 27), some 10, none⟩, ⟨Op.assign (Operand.tmp 28), some 11, none⟩] fun K hK => ?_
    try simp
    repeat' first | (refine ecall (by exact hb) rfl ?_) | ((refine evL_c ?_); simp) | (with_reducible refine And.intro ?_ ?_) | intro _ | (with_reducible assumption) | omega
    all_goals (refine Fin.go hK ?_; clear hK K)
    simp only [Then_normal]
    refine Run.seq ?_
    refine opsF [⟨Op.move (Operand.tmp 10), some 29, none⟩, ⟨Op.assign (Operand.tmp 29), some 4, none⟩, ⟨Op.assign (Operand.const (Value.int IntKind.i64 0)), some 5, none⟩, ⟨Op.assign (Operand.const (Value.int IntKind.i64 0)), some 6, none⟩] fun K hK => ?_
    try simp
    repeat' first | ((refine evL_c ?_); simp) | (with_reducible refine And.intro ?_ ?_) | intro _ | (with_reducible assumption) | omega
    all_goals (refine Fin.go hK ?_; clear hK K)
    simp only [Then_normal]
    refine Run.ret ?_
    try simp only [Then_ret, Blok_ret]
    simp

set_option maxHeartbeats 8000000 in
theorem weight_ok (r : ProgR) (most : Int) (h0 : 0 ≤ most) (h1 : most ≤ 1100000) (hw : wP r.pipes ≤ 1100000) (ht : r.tabs.length ≤ 1100000) (hT : ∀ t ∈ r.tabs, t.length ≤ 1100000) : Snd P 10 [.d (.ag (encPr r)), .int most] (.int (weightS r most)) [] := by
  have hn1 := wP_len r.pipes
  unfold weightS
  obtain ⟨n, hn⟩ : ∃ z, r.pipes.length = z := ⟨_, rfl⟩
  obtain ⟨nt, hnt⟩ : ∃ z, r.tabs.length = z := ⟨_, rfl⟩
  rw [hn] at hn1
  rw [hnt] at ht
  rw [hn, hnt]
  obtain ⟨W1, hW1⟩ : ∃ z, goTb r.tabs most ((n : Int) + (nt : Nat)) = z := ⟨_, rfl⟩
  rw [hW1]
  obtain ⟨W0, hW0⟩ : ∃ z, goPi r.pipes most W1 = z := ⟨_, rfl⟩
  rw [hW0]
  have hw0 : IntKind.i64.wrap ((n : Int) + (nt : Nat)) = n + nt := wrap_id (by omega) (by omega)
  refine snd_of [] Try.func10 rfl (by kernel_rfl) Try.ntmps10 (by simp) ?_
  unfold Try.f10
  simp only [List.cons_append, List.nil_append, List.length_cons, List.length_nil, Nat.reduceAdd, Nat.reduceSub, List.replicate]
  refine Run.seq ?_
  refine opsF [⟨Op.box 25 (Operand.tmp 0), some 2, none⟩, ⟨Op.assign (Operand.const (Value.int IntKind.i64 0)), some 4, none⟩] fun K hK => ?_
  try simp
  repeat' first | ((refine evL_c ?_); simp [hn, hnt, hw0]) | (with_reducible refine And.intro ?_ ?_) | intro _ | (with_reducible assumption) | omega
  all_goals (refine Fin.go hK ?_; clear hK K)
  simp only [Then_normal]
  refine Run.seq ?_
  refine opsF [⟨Op.fieldAddr 25 (Operand.tmp 2) 1, some 10, none⟩, ⟨Op.load 23 (Operand.tmp 10), some 11, none⟩, ⟨Op.call { callee := Callee.builtin Builtin.len, args := #[Operand.tmp 11], argTypes := #[23] }, some 12, none⟩, ⟨Op.fieldAddr 25 (Operand.tmp 2) 0, some 13, none⟩, ⟨Op.load 22 (Operand.tmp 13), some 14, none⟩, ⟨Op.call { callee := Callee.builtin Builtin.len, args := #[Operand.tmp 14], argTypes := #[22] }, some 15, none⟩, ⟨Op.binOp BinOp.add 3 (Operand.tmp 12) (Operand.tmp 15) 3, some 16, none⟩, ⟨Op.assign (Operand.tmp 16), some 5, none⟩] fun K hK => ?_
  try simp
  repeat' first | ((refine evL_c ?_); simp [hn, hnt, hw0]) | (with_reducible refine And.intro ?_ ?_) | intro _ | (with_reducible assumption) | omega
  all_goals (refine Fin.go hK ?_; clear hK K)
  simp only [Then_normal]
  refine Run.seq ?_
  refine Run.seq ?_
  refine opsF oo75 fun K hK => ?_
  try simp
  repeat' first | ((refine evL_c ?_); simp [hn, hnt, hw0]) | (with_reducible refine And.intro ?_ ?_) | intro _ | (with_reducible assumption) | omega
  all_goals (refine Fin.go hK ?_; clear hK K)
  simp only [Then_normal]
  refine Run.block ?_
  refine Run.loopO [5, 6, 17, 18, 19, 20, 21, 22, 23, 24, 25, 26, 27, 28, 29, 30, 31, 32, 33, 34, 35, 36] (fun (y : Nat × Int) => [(6, .int y.1), (5, .int y.2)]) (fun (y : Nat × Int) => [(300, .vals ((encPr r).map .d))]) (fun (y : Nat × Int) => y.1 ≤ nt ∧ 0 ≤ y.2 ∧ y.2 ≤ 4400000 ∧ goTb (r.tabs.drop y.1) most y.2 = W1) (fun (y : Nat × Int) => nt - y.1) (0, (n : Int) + nt) ⟨by omega, by simp only; omega, by simp only; omega, by simpa using hW1⟩ (by simp [hn, hnt]) fun ⟨i, v⟩ ⟨hi, hv1, hv2, hg⟩ => ?_
  simp only at hi hv1 hv2 hg
  simp only [over, List.foldl, List.set]
  refine Run.seq ?_
  refine Run.cut [17, 18, 19, 20, 21, 22, 23, 24, 25, 26] [(26, .bool (decide (i < nt ∧ v ≤ most)))] [(300, .vals ((encPr r).map .d))] ?_ ?_
  · refine opsF [⟨Op.move (Operand.tmp 6), some 17, none⟩, ⟨Op.fieldAddr 25 (Operand.tmp 2) 0, some 18, none⟩, ⟨Op.load 22 (Operand.tmp 18), some 19, none⟩, ⟨Op.call { callee := Callee.builtin Builtin.len, args := #[Operand.tmp 19], argTypes := #[22] }, some 20, none⟩, ⟨Op.binOp BinOp.lss 3 (Operand.tmp 17) (Operand.tmp 20) 3, some 21, none⟩, ⟨Op.move (Operand.tmp 21), some 22, none⟩, ⟨Op.move (Operand.tmp 5), some 23, some (some 22, true)⟩, ⟨Op.move (Operand.tmp 1), some 24, some (some 22, true)⟩, ⟨Op.binOp BinOp.leq 3 (Operand.tmp 23) (Operand.tmp 24) 3, some 25, some (some 22, true)⟩, ⟨Op.pick (Operand.tmp 22) (Operand.tmp 25) (Operand.const (Value.bool false)), some 26, none⟩] fun K hK => ?_
    try simp
    repeat' first | ((first | refine evL_c ?_ | (refine evL_g rfl ?_; try simp only [gs_tt, gs_ff, gs_tf, gs_ft]) | refine evL_u rfl ?_ | (with_reducible refine gsplit (fun hg => ?_) (fun hg => ?_) <;> try simp at hg)) <;> try simp [hn, hnt, hw0]) | (with_reducible refine And.intro ?_ ?_) | intro _ | (with_reducible assumption) | omega
    all_goals (refine Fin.go hK ?_; clear hK K)
    all_goals
      (try simp [hn, hnt]) <;> (first | omega | (simp; done) | (simp_all; done) | grind)
  · simp only [over, List.foldl, List.set]
    refine Run.cond rfl (fun h26 => ?_) (fun h26 => ?_)
    · replace h26 := of_decide_eq_true h26
      obtain ⟨hc1, hc2⟩ := h26
      have hc3 : (i : Int) < nt := by omega
      obtain ⟨tl, htl⟩ : ∃ z, (rdI r.tabs (i : Nat)).length = z := ⟨_, rfl⟩
      have htm := hT _ (rdI_mem (l := r.tabs) (i := (i : Nat)) (by omega) (by omega))
      rw [htl] at htm
      have hw1 : IntKind.i64.wrap (v + tl) = v + tl := wrap_id (by omega) (by omega)
      refine Run.skip ?_
      simp only [Then_normal]
      refine Run.seq ?_
      refine Run.block ?_
      refine opsF [⟨Op.move (Operand.tmp 5), some 29, none⟩, ⟨Op.fieldAddr 25 (Operand.tmp 2) 0, some 30, none⟩, ⟨Op.load 22 (Operand.tmp 30), some 31, none⟩, ⟨Op.move (Operand.tmp 6), some 32, none⟩, ⟨Op.indexAddr 22 (Operand.tmp 31) (Operand.tmp 32), some 33, none⟩, ⟨Op.load 46 (Operand.tmp 33), some 34, none⟩, ⟨Op.call { callee := Callee.builtin Builtin.len, args := #[Operand.tmp 34], argTypes := #[46] }, some 35, none⟩, ⟨Op.binOp BinOp.add 3 (Operand.tmp 29) (Operand.tmp 35) 3, some 36, none⟩, ⟨Op.assign (Operand.tmp 36), some 5, none⟩] fun K hK => ?_
      try simp
      repeat' first | ((refine evL_c ?_); simp [hn, hnt, hw0, hc1, htl, hw1]) | (with_reducible refine And.intro ?_ ?_) | intro _ | (with_reducible assumption) | omega
      all_goals (refine Fin.go hK ?_; clear hK K)
      simp only [Blok_normal]
      simp only [Then_normal]
      refine opsF [⟨Op.move (Operand.tmp 6), some 27, none⟩, ⟨Op.binOp BinOp.add 3 (Operand.tmp 27) (Operand.const (Value.int IntKind.i64 1)) 3, some 28, none⟩, ⟨Op.assign (Operand.tmp 28), some 6, none⟩] fun K hK => ?_
      try simp
      repeat' first | ((refine evL_c ?_); simp [hn, hnt, hw0, hc1, htl, hw1]) | (with_reducible refine And.intro ?_ ?_) | intro _ | (with_reducible assumption) | omega
      all_goals (refine Fin.go hK ?_; clear hK K)
      refine ⟨(i + 1, v + tl), ⟨by simp only; omega, by simp only; omega, by simp only; omega, ?_⟩, by simp only; omega, ?_⟩
      · simp only
        rw [← hg, goTb_step (by omega) hc2, htl]
      · simp (disch := omega) [hn, hnt, wrap_id]
    · replace h26 := of_decide_eq_false h26
      rw [goTb_end (by omega)] at hg
      subst hg
      refine Run.exit ?_
      simp (decide := true) only [Then_exit, Blok_exit, if_true, if_false]
      simp only [Then_normal]
      refine Run.seq ?_
      refine Run.seq ?_
      refine opsF oo76 fun K hK => ?_
      try simp
      repeat' first | ((refine evL_c ?_); simp [hn, hnt, hw0]) | (with_reducible refine And.intro ?_ ?_) | intro _ | (with_reducible assumption) | omega
      all_goals (refine Fin.go hK ?_; clear hK K)
      simp only [Then_normal]
      refine Run.block ?_
      refine Run.loopO [5, 7, 8, 9, 37, 38, 39, 40, 41, 42, 43, 44, 45, 46, 47, 48, 49, 50, 51, 52, 53, 54, 55, 56, 57, 58, 59, 60, 61, 62, 63, 64, 65, 66, 67, 68, 69, 70, 71, 72, 73, 74, 75, 76, 77, 78, 79, 80, 81, 82, 83, 84] (fun (y : Nat × Int) => [(7, .int y.1), (5, .int y.2)]) (fun (y : Nat × Int) => [(300, .vals ((encPr r).map .d))]) (fun (y : Nat × Int) => y.1 ≤ n ∧ 0 ≤ y.2 ∧ y.2 ≤ 4400000 ∧ goPi (r.pipes.drop y.1) most y.2 = W0) (fun (y : Nat × Int) => n - y.1) (0, v) ⟨by omega, by simp only; omega, by simp only; omega, by simpa using hW0⟩ (by simp [hn, hnt]) fun ⟨k, v1⟩ ⟨hk, hv3, hv4, hg1⟩ => ?_
      simp only at hk hv3 hv4 hg1
      simp only [over, List.foldl, List.set]
      refine Run.seq ?_
      refine Run.cut [37, 38, 39, 40, 41, 42, 43, 44, 45, 46] [(46, .bool (decide (k < n ∧ v1 ≤ most)))] [(300, .vals ((encPr r).map .d))] ?_ ?_
      · refine opsF [⟨Op.move (Operand.tmp 7), some 37, none⟩, ⟨Op.fieldAddr 25 (Operand.tmp 2) 1, some 38, none⟩, ⟨Op.load 23 (Operand.tmp 38), some 39, none⟩, ⟨Op.call { callee := Callee.builtin Builtin.len, args := #[Operand.tmp 39], argTypes := #[23] }, some 40, none⟩, ⟨Op.binOp BinOp.lss 3 (Operand.tmp 37) (Operand.tmp 40) 3, some 41, none⟩, ⟨Op.move (Operand.tmp 41), some 42, none⟩, ⟨Op.move (Operand.tmp 5), some 43, some (some 42, true)⟩, ⟨Op.move (Operand.tmp 1), some 44, some (some 42, true)⟩, ⟨Op.binOp BinOp.leq 3 (Operand.tmp 43) (Operand.tmp 44) 3, some 45, some (some 42, true)⟩, ⟨Op.pick (Operand.tmp 42) (Operand.tmp 45) (Operand.const (Value.bool false)), some 46, none⟩] fun K hK => ?_
        try simp
        repeat' first | ((first | refine evL_c ?_ | (refine evL_g rfl ?_; try simp only [gs_tt, gs_ff, gs_tf, gs_ft]) | refine evL_u rfl ?_ | (with_reducible refine gsplit (fun hg => ?_) (fun hg => ?_) <;> try simp at hg)) <;> try simp [hn, hnt, hw0]) | (with_reducible refine And.intro ?_ ?_) | intro _ | (with_reducible assumption) | omega
        all_goals (refine Fin.go hK ?_; clear hK K)
        all_goals
          (try simp [hn, hnt]) <;> (first | omega | (simp; done) | (simp_all; done) | grind)
      · simp only [over, List.foldl, List.set]
        refine Run.cond rfl (fun h46 => ?_) (fun h46 => ?_)
        · replace h46 := of_decide_eq_true h46
          obtain ⟨hd1, hd2⟩ := h46
          have hd3 : (k : Int) < n := by omega
          obtain ⟨x, hx⟩ : ∃ z, rdI r.pipes (k : Nat) = z := ⟨_, rfl⟩
          have hxm := wP_mem (rdI_mem (l := r.pipes) (i := (k : Nat)) (by omega) (by omega))
          rw [hx] at hxm
          obtain ⟨m, hm⟩ : ∃ z, x.steps.length = z := ⟨_, rfl⟩
          have hml := wL_len x.steps
          rw [hm] at hml
          obtain ⟨W2, hW2⟩ : ∃ z, goSt x.steps most v1 = z := ⟨_, rfl⟩
          refine Run.skip ?_
          simp only [Then_normal]
          refine Run.seq ?_
          refine Run.block ?_
          refine Run.seq ?_
          refine opsF [⟨Op.assign (Operand.const (Value.int IntKind.i64 0)), some 8, none⟩] fun K hK => ?_
          try simp
          repeat' first | ((refine evL_c ?_); simp [hn, hnt, hw0, hd1, hx, hm]) | (with_reducible refine And.intro ?_ ?_) | intro _ | (with_reducible assumption) | omega
          all_goals (refine Fin.go hK ?_; clear hK K)
          simp only [Then_normal]
          refine Run.block ?_
          refine Run.loopO [5, 8, 9, 49, 50, 51, 52, 53, 54, 55, 56, 57, 58, 59, 60, 61, 62, 63, 64, 65, 66, 67, 68, 69, 70, 71, 72, 73, 74, 75, 76, 77, 78, 79, 80, 81, 82, 83, 84] (fun (y : Nat × Int) => [(8, .int y.1), (5, .int y.2)]) (fun (y : Nat × Int) => [(300, .vals ((encPr r).map .d))]) (fun (y : Nat × Int) => y.1 ≤ m ∧ 0 ≤ y.2 ∧ y.2 ≤ 4400000 ∧ goSt (x.steps.drop y.1) most y.2 = W2) (fun (y : Nat × Int) => m - y.1) (0, v1) ⟨by omega, by simp only; omega, by simp only; omega, by simpa using hW2⟩ (by simp [hn, hnt]) fun ⟨j, v2⟩ ⟨hj, hv5, hv6, hg2⟩ => ?_
          simp only at hj hv5 hv6 hg2
          simp only [over, List.foldl, List.set]
          refine Run.seq ?_
          refine Run.cut [49, 50, 51, 52, 53, 54, 55, 56, 57, 58, 59, 60, 61, 62] [(62, .bool (decide (j < m ∧ v2 ≤ most)))] [(300, .vals ((encPr r).map .d))] ?_ ?_
          · refine opsF [⟨Op.move (Operand.tmp 8), some 49, none⟩, ⟨Op.fieldAddr 25 (Operand.tmp 2) 1, some 50, none⟩, ⟨Op.load 23 (Operand.tmp 50), some 51, none⟩, ⟨Op.move (Operand.tmp 7), some 52, none⟩, ⟨Op.indexAddr 23 (Operand.tmp 51) (Operand.tmp 52), some 53, none⟩, ⟨Op.fieldAddr 41 (Operand.tmp 53) 1, some 54, none⟩, ⟨Op.load 39 (Operand.tmp 54), some 55, none⟩, ⟨Op.call { callee := Callee.builtin Builtin.len, args := #[Operand.tmp 55], argTypes := #[39] }, some 56, none⟩, ⟨Op.binOp BinOp.lss 3 (Operand.tmp 49) (Operand.tmp 56) 3, some 57, none⟩, ⟨Op.move (Operand.tmp 57), some 58, none⟩, ⟨Op.move (Operand.tmp 5), some 59, some (some 58, true)⟩, ⟨Op.move (Operand.tmp 1), some 60, some (some 58, true)⟩, ⟨Op.binOp BinOp.leq 3 (Operand.tmp 59) (Operand.tmp 60) 3, some 61, some (some 58, true)⟩, ⟨Op.pick (Operand.tmp 58) (Operand.tmp 61) (Operand.const (Value.bool false)), some 62, none⟩] fun K hK => ?_
            try simp
            repeat' first | ((first | refine evL_c ?_ | (refine evL_g rfl ?_; try simp only [gs_tt, gs_ff, gs_tf, gs_ft]) | refine evL_u rfl ?_ | (with_reducible refine gsplit (fun hg => ?_) (fun hg => ?_) <;> try simp at hg)) <;> try simp [hn, hnt, hw0, hd1, hx, hm]) | (with_reducible refine And.intro ?_ ?_) | intro _ | (with_reducible assumption) | omega
            all_goals (refine Fin.go hK ?_; clear hK K)
            all_goals
              (try simp [hn, hnt]) <;> (first | omega | (simp; done) | (simp_all; done) | grind)
          · simp only [over, List.foldl, List.set]
            refine Run.cond rfl (fun h62 => ?_) (fun h62 => ?_)
            · replace h62 := of_decide_eq_true h62
              obtain ⟨hb1, hb2⟩ := h62
              have hb3 : (j : Int) < m := by omega
              obtain ⟨s, hs⟩ : ∃ z, rdI x.steps (j : Nat) = z := ⟨_, rfl⟩
              have hsm := wL_mem (rdI_mem (l := x.steps) (i := (j : Nat)) (by omega) (by omega))
              rw [hs] at hsm
              have hsp := stepW_parts s
              have hqr := partsR_rng (stepW s) (most - v2) (by omega) (by omega)
              obtain ⟨q, hq⟩ : ∃ z, partsR (stepW s) (most - v2) = z := ⟨_, rfl⟩
              have hP := snd_sub (args := [.d (.ag [.int 0, .lit (.slice none 0 0), .int 0, .sl false (s.edges.map encI), .bool false, .sl false (s.terms.map encT)]), .int (most - v2)]) (parts_ok (stepW s) (by omega) (most - v2) (by omega) (by omega)) ⟨DSub.ag ⟨.refl _, DSub.nil, .refl _, .refl _, .refl _, .refl _, trivial⟩, .refl _, trivial⟩
              rw [hq] at hP hqr
              have hw2 : IntKind.i64.wrap (most - v2) = most - v2 := wrap_id (by omega) (by omega)
              have hw3 : IntKind.i64.wrap (v2 + q) = v2 + q := wrap_id (by omega) (by omega)
              refine Run.skip ?_
              simp only [Then_normal]
              refine Run.seq ?_
              refine Run.block ?_
              refine Run.seq ?_
              refine opsF [⟨Op.fieldAddr 25 (Operand.tmp 2) 1, some 65, none⟩, ⟨Op.load 23 (Operand.tmp 65), some 66, none⟩, ⟨Op.move (Operand.tmp 7), some 67, none⟩, ⟨Op.indexAddr 23 (Operand.tmp 66) (Operand.tmp 67), some 68, none⟩, ⟨Op.fieldAddr 41 (Operand.tmp 68) 1, some 69, none⟩, ⟨Op.load 39 (Operand.tmp 69), some 70, none⟩, ⟨Op.move (Operand.tmp 8), some 71, none⟩, ⟨Op.indexAddr 39 (Operand.tmp 70) (Operand.tmp 71), some 72, none⟩, ⟨Op.load 75 (Operand.tmp 72), some 73, none⟩, ⟨Op.alloc 75, some 9, none⟩, ⟨Op.store 75 (Operand.tmp 9) (Operand.tmp 73), none, none⟩] fun K hK => ?_
              try simp
              repeat' first | ((refine evL_c ?_); simp [hn, hnt, hw0, hd1, hx, hm, hb1, hs, hw2, hw3]) | (with_reducible refine And.intro ?_ ?_) | intro _ | (with_reducible assumption) | omega
              all_goals (refine Fin.go hK ?_; clear hK K)
              simp only [Then_normal]
              refine opsF [⟨Op.move (Operand.tmp 5), some 74, none⟩, ⟨Op.fieldAddr 75 (Operand.tmp 9) 4, some 75, none⟩, ⟨Op.load 28 (Operand.tmp 75), some 76, none⟩, ⟨Op.fieldAddr 75 (Operand.tmp 9) 2, some 77, none⟩, ⟨Op.load 46 (Operand.tmp 77), some 78, none⟩, ⟨Op.build 48 #[(5, Operand.tmp 76), (3, Operand.tmp 78)], some 79, none⟩, ⟨Op.move (Operand.tmp 1), some 80, none⟩, ⟨Op.move (Operand.tmp 5), some 81, none⟩, ⟨Op.binOp BinOp.sub 3 (Operand.tmp 80) (Operand.tmp 81) 3, some 82, none⟩, ⟨Op.call { callee := Callee.value (Operand.func 16), args := #[Operand.tmp 79, Operand.tmp 82], argTypes := #[48, 3] }, some 83, none⟩, ⟨Op.binOp BinOp.add 3 (Operand.tmp 74) (Operand.tmp 83) 3, some 84, none⟩, ⟨Op.assign (Operand.tmp 84), some 5, none⟩] fun K hK => ?_
              try simp
              repeat' first | (refine ecallD (by exact hP) ?_) | ((refine evL_c ?_); simp [hn, hnt, hw0, hd1, hx, hm, hb1, hs, hw2, hw3]) | (with_reducible refine And.intro ?_ ?_) | intro _ | (with_reducible assumption) | omega
              all_goals (refine Fin.go hK ?_; clear hK K)
              simp only [Blok_normal]
              simp only [Then_normal]
              refine opsF [⟨Op.move (Operand.tmp 8), some 63, none⟩, ⟨Op.binOp BinOp.add 3 (Operand.tmp 63) (Operand.const (Value.int IntKind.i64 1)) 3, some 64, none⟩, ⟨Op.assign (Operand.tmp 64), some 8, none⟩] fun K hK => ?_
              try simp
              repeat' first | ((refine evL_c ?_); simp [hn, hnt, hw0, hd1, hx, hm, hb1, hs, hw2, hw3]) | (with_reducible refine And.intro ?_ ?_) | intro _ | (with_reducible assumption) | omega
              all_goals (refine Fin.go hK ?_; clear hK K)
              refine ⟨(j + 1, v2 + q), ⟨by simp only; omega, by simp only; omega, by simp only; omega, ?_⟩, by simp only; omega, ?_⟩
              · simp only
                rw [← hg2, goSt_step (by omega) hb2, hs, hq]
              · simp (disch := omega) [hn, hnt, wrap_id]
            · replace h62 := of_decide_eq_false h62
              rw [goSt_end (by omega)] at hg2
              subst hg2
              refine Run.exit ?_
              simp (decide := true) only [Then_exit, Blok_exit, if_true, if_false]
              simp only [Blok_normal]
              simp only [Then_normal]
              refine opsF [⟨Op.move (Operand.tmp 7), some 47, none⟩, ⟨Op.binOp BinOp.add 3 (Operand.tmp 47) (Operand.const (Value.int IntKind.i64 1)) 3, some 48, none⟩, ⟨Op.assign (Operand.tmp 48), some 7, none⟩] fun K hK => ?_
              try simp
              repeat' first | ((refine evL_c ?_); simp [hn, hnt, hw0, hd1, hx, hm]) | (with_reducible refine And.intro ?_ ?_) | intro _ | (with_reducible assumption) | omega
              all_goals (refine Fin.go hK ?_; clear hK K)
              refine ⟨(k + 1, v2), ⟨by simp only; omega, by simp only; omega, by simp only; omega, ?_⟩, by simp only; omega, ?_⟩
              · simp only
                rw [← hg1, goPi_step (by omega) hd2, hx, ← hW2]
              · simp (disch := omega) [hn, hnt, wrap_id]
        · replace h46 := of_decide_eq_false h46
          rw [goPi_end (by omega)] at hg1
          refine Run.exit ?_
          simp (decide := true) only [Then_exit, Blok_exit, if_true, if_false]
          simp only [Then_normal]
          refine Run.seq ?_
          refine opsF [⟨Op.move (Operand.tmp 5), some 85, none⟩, ⟨Op.assign (Operand.tmp 85), some 4, none⟩] fun K hK => ?_
          try simp
          repeat' first | ((refine evL_c ?_); simp [hn, hnt, hw0]) | (with_reducible refine And.intro ?_ ?_) | intro _ | (with_reducible assumption) | omega
          all_goals (refine Fin.go hK ?_; clear hK K)
          simp only [Then_normal]
          refine Run.ret ?_
          try simp only [Then_ret, Blok_ret]
          simp [hg1]


theorem check_ok (c : CoreT) (r : ProgR) (hw : wP r.pipes ≤ 1100000) (ht : r.tabs.length ≤ 1100000) (hc : c.wher.length ≤ 1100000) : Snd P 9 [.d (.ag (encPr r)), .d (.ag (encC c))] (.tup [.d (checkS c r).1, .int (checkS c r).2.1, .int (checkS c r).2.2]) [] := by
  have h := plan_ok c r hw ht hc
  unfold checkS
  split
  · rename_i he
    have hb := Bound_ok c (planS c r).1 (planS_parts c r hw he)
    rw [he] at h
    exact checkA_ok c r _ _ _ _ h hb
  · rename_i he; exact checkN_ok c r _ _ _ he h
end Go.Proofs.Ytimgbdkgjfbhkaa.Z
end
section
set_option maxRecDepth 100000
namespace Go.Fw
open Go
variable {P : Program}
/-- what a call is given and never gives back, it may read as data -/
theorem Snd.up {f : FuncId} {args args0 : List V} {s0 : Store} {r : V} (h : Snd P f args0 r []) (ha : V.finL [] s0 args = args0) (hs : s0.all (fun x => decide (x.1 < 90)) = true) : SndW P f args s0 r [] := by
  subst ha
  refine ⟨h.1, fun w X m0 vs hX hS hargs => ?_⟩
  have hZ : ∀ b, Reach (fun j => if (getB s0 j).isSome then m0 j else none) b ↔ Own m0 s0 b := by
    intro b
    constructor
    · rintro ⟨j, hj⟩
      simp only at hj
      split at hj
      · rename_i h1
        obtain ⟨c, hc⟩ := Option.isSome_iff_exists.1 h1
        exact ⟨j, c, hc, hj⟩
      · cases hj
    · rintro ⟨j, c, h1, h2⟩
      exact ⟨j, by simp [h1, h2]⟩
  have hrel : Rel w (fun j => if (getB s0 j).isSome then m0 j else none) X m0 args s0 { tmps := vs.toArray, defers := [] } w := by
    refine ⟨by simpa using hargs, hS, rfl, ⟨rfl, rfl, rfl, Nat.le_refl _, fun _ _ _ => rfl, fun _ cs _ _ q => ⟨cs, q, rfl⟩⟩, fun b hb => .inl ((hZ b).2 hb), fun b hb => ⟨(hX b hb).1, fun q => (hX b hb).2 ((hZ b).1 q)⟩, fun i hi hs => by simp [hs]⟩
  have hm : finM [] m0 = fun _ => none := by funext j; simp [finM]
  have hl : ∀ b, Live X (finM [] m0) (finS [] s0 [] 0) b → X b := fun b hb => hb.resolve_right fun q => by
    obtain ⟨id, _, hk, _⟩ := own_fin q; cases hk
  have hfin : All2 (VRel w X (fun _ => none)) (V.finL [] s0 args) vs := by
    refine ⟨hargs.len.trans (finL_len _ _ _).symm, fun j x v h1 h2 => ?_⟩
    rw [finL_at] at h1
    obtain ⟨y, hy, rfl⟩ := Option.map_eq_some_iff.1 h1
    have := fin_rel hrel (keep := []) (hargs.at_ j y v hy h2)
    rw [hm] at this hl
    exact VRel.mono' (fun _ _ _ q => q) (fun _ cs _ _ q => ⟨cs, q, rfl⟩) (fun b hb => .inl (.inl hb)) this
  refine (h.2 w X vs (fun b hb => (hX b hb).1) hfin).mono fun x w' hx => ?_
  obtain ⟨v, m', h1, h2, h3, h4, h5⟩ := hx
  exact ⟨v, m', h1, ⟨h2.os, h2.tape, h2.output, h2.size, fun b hb _ => h2.block b hb id, h2.sizes⟩, h3, h4, fun b hb => .inr (h5 b hb), fun j _ hj => by cases hj⟩
end Go.Fw
namespace Go.Proofs.Ytimgbdkgjfbhkaa.Z
open Go Go.Fw
attribute [-simp] litV
attribute [local simp] litV_agg litV_int litV_str litV_bool litV_slice litV_tup
theorem DSub.sl {nn : Bool} {l r : List (List D)} (hlen : l.length = r.length) (h : ∀ (i : Nat) (x y : List D), l[i]? = some x → r[i]? = some y → SubL x y) : DSub (.sl nn l) (.sl nn r) := fun w L v hv => by
  have back : ∀ {i : Nat} {y : List D}, r[i]? = some y → ∃ x, l[i]? = some x ∧ SubL x y := fun {i y} hy => by
    have hlt : i < l.length := by rw [hlen]; exact (List.getElem?_eq_some_iff.1 hy).1
    exact ⟨_, List.getElem?_eq_getElem hlt, h i _ y (List.getElem?_eq_getElem hlt) hy⟩
  have cell : ∀ {x y : List D} {j : Nat} {d : D}, SubL x y → y[j]? = some d → ∃ c, x[j]? = some c ∧ DSub c d := fun {x y j d} hs hd => by
    have hlt : j < x.length := by rw [hs.len]; exact (List.getElem?_eq_some_iff.1 hd).1
    exact ⟨_, List.getElem?_eq_getElem hlt, hs.at_ (List.getElem?_eq_getElem hlt) hd⟩
  cases hv with
  | slE nn A cap hn =>
    obtain rfl : r = [] := List.length_eq_zero_iff.1 (by simpa using hlen.symm)
    exact .slE nn A cap hn
  | sl nn rows b off cap sz vals hb hc hm hz hv ho hr =>
    rw [hlen]
    refine .sl nn r b off cap sz vals (fun i j y d q1 q2 => ?_) (by omega) (by omega) (fun y hy => ?_) (fun i j y d q1 q2 => ?_) (fun i j y d q1 q2 => ?_) (fun i j y d q1 q2 => ?_)
    · obtain ⟨x, p1, p2⟩ := back q1
      obtain ⟨c, p3, _⟩ := cell p2 q2
      exact hb i j x c p1 p3
    · obtain ⟨i, hi⟩ := List.getElem?_of_mem hy
      obtain ⟨x, p1, p2⟩ := back hi
      rw [← p2.len]; exact hz x (List.mem_of_getElem? p1)
    · obtain ⟨x, p1, p2⟩ := back q1
      obtain ⟨c, p3, _⟩ := cell p2 q2
      exact hv i j x c p1 p3
    · obtain ⟨x, p1, p2⟩ := back q1
      obtain ⟨c, p3, _⟩ := cell p2 q2
      exact ho i j x c p1 p3
    · obtain ⟨x, p1, p2⟩ := back q1
      obtain ⟨c, p3, p4⟩ := cell p2 q2
      exact p4 _ _ _ (hr i j x c p1 p3)
def headC : CoreT := ⟨[⟨"".toUTF8, -1⟩], [], [], .lit (.slice none 0 0), false, .lit (.slice none 0 0), 0⟩
def headR : ProgR := ⟨[], [⟨0, [], -1⟩]⟩
theorem headC_check : checkS headC headR = (.sl false [[.bool true]], 0, 0) := by rfl
theorem headN_check : (checkS headC ⟨[], []⟩).2 = (-1, 181) := by rfl
theorem sndC {f : FuncId} {args args0 : List V} {r : V} (h : Snd P f args0 r []) (hs : SubV args args0) : Snd P f args r [] := snd_sub h hs
theorem head_ok : Snd P 8 [] (.bool true) [] := by
  have h1 := snd_sub (args := [.d (.ag [.lit (.slice none 0 0), .sl false [[.int 0, .lit (.slice none 0 0), .int (-1)]]]), .d (.ag [.sl false [[.str ByteArray.empty, .int (-1)]], .sl false [], .sl false [], .lit (.slice none 0 0), .bool false, .lit (.slice none 0 0), .int 0])]) (check_ok headC headR (by decide) (by decide) (by decide)) ⟨DSub.ag ⟨DSub.nil, DSub.sl rfl (fun i x y hx hy => by
      cases i with
      | zero => cases hx; cases hy; exact ⟨.refl _, DSub.nil, .refl _, trivial⟩
      | succ i => cases hx), trivial⟩, .refl _, trivial⟩
  rw [headC_check] at h1
  have h2 := snd_sub (args := [.d (.ag [.lit (.slice none 0 0), .lit (.slice none 0 0)]), .d (.ag [.sl false [[.str ByteArray.empty, .int (-1)]], .sl false [], .sl false [], .lit (.slice none 0 0), .bool false, .lit (.slice none 0 0), .int 0])]) (check_ok headC ⟨[], []⟩ (by decide) (by decide) (by decide)) ⟨DSub.ag ⟨DSub.nil, DSub.nil, trivial⟩, .refl _, trivial⟩
  obtain ⟨d2, hd2⟩ : ∃ z, (checkS headC ⟨[], []⟩).1 = z := ⟨_, rfl⟩
  rw [headN_check, hd2] at h2
  have h1w := Snd.up (s0 := [(0, .data 3 [[.int 0, .lit (.slice none 0 0), .int (-1)]])]) (args := [.ag [.d (.lit (.slice none 0 0)), .rs 0 3 0 1], .d (.ag [.sl false [[.str ByteArray.empty, .int (-1)]], .sl false [], .sl false [], .lit (.slice none 0 0), .bool false, .lit (.slice none 0 0), .int 0])]) h1 rfl rfl
  have hrow0 : Fw.rowAt [[D.bool true]] 0 = [D.bool true] := rfl
  refine snd_of [] Try.func8 rfl (by kernel_rfl) Try.ntmps8 (by simp) ?_
  unfold Try.f8
  simp only [List.cons_append, List.nil_append, List.length_cons, List.length_nil, Nat.reduceAdd, Nat.reduceSub, List.replicate]
  refine Run.seq ?_
  refine opsF [⟨Op.assign (Operand.const (Value.bool false)), some 0, none⟩] fun K hK => ?_
  try simp
  repeat' first | ((refine evL_c ?_); simp [hrow0]) | (with_reducible refine And.intro ?_ ?_) | intro _ | (with_reducible assumption) | omega
  all_goals (refine Fin.go hK ?_; clear hK K)
  simp only [Then_normal]
  refine Run.seq ?_
  refine opsF [⟨Op.build 70 #[(1, Operand.const (Value.int IntKind.i64 (-1)))], some 8, none⟩, ⟨Op.buildSlice 26 1 #[(0, Operand.tmp 8)], some 9, none⟩, ⟨Op.build 32 #[(0, Operand.tmp 9)], some 10, none⟩, ⟨Op.alloc 32, some 1, none⟩, ⟨Op.store 32 (Operand.tmp 1) (Operand.tmp 10), none, none⟩] fun K hK => ?_
  try simp
  repeat' first | ((refine evL_c ?_); simp [hrow0]) | (with_reducible refine And.intro ?_ ?_) | intro _ | (with_reducible assumption) | omega
  all_goals (refine Fin.go hK ?_; clear hK K)
  simp only [Then_normal]
  refine Run.fra 1000 ?_
  simp [V.fra, V.fraL, fraS, frz]
  refine Run.subB 200 1 (.d (.sl false [])) rfl rfl nil_sl ?_
  try simp
  refine Run.subB 200 2 (.d (.sl false [])) rfl rfl nil_sl ?_
  try simp
  refine Run.seq ?_
  refine opsT [⟨Op.build 41 #[(2, Operand.const (Value.int IntKind.i64 (-1)))], some 12, none⟩, ⟨Op.buildSlice 23 1 #[(0, Operand.tmp 12)], some 13, none⟩, ⟨Op.build 25 #[(1, Operand.tmp 13)], some 14, none⟩, ⟨Op.load 32 (Operand.tmp 1), some 15, none⟩, ⟨Op.call { callee := Callee.value (Operand.func 9), args := #[Operand.tmp 14, Operand.tmp 15], argTypes := #[25, 32] }, some 16, none⟩, ⟨Op.move (Operand.tmp 16), some 11, none⟩, ⟨Op.extract (Operand.tmp 11) 0, some 17, none⟩, ⟨Op.extract (Operand.tmp 11) 1, some 18, none⟩, ⟨Op.extract (Operand.tmp 11) 2, some 19, none⟩, ⟨Op.assign (Operand.tmp 17), some 2, none⟩, ⟨Op.assign (Operand.tmp 18), some 3, none⟩, ⟨Op.assign (Operand.tmp 19), some 4, none⟩] fun K hK => ?_
  try simp
  repeat' first | (refine ecallW [1400] (by exact h1w) (by simp) (by simp) (by rfl) ?_) | ((refine evL_c ?_); simp [hrow0]) | (with_reducible refine And.intro ?_ ?_) | intro _ | (with_reducible assumption) | omega
  all_goals (refine Fin.go hK ?_; clear hK K)
  simp only [Then_normal]
  refine Run.seq ?_
  refine opsF [⟨Op.build 25 #[], some 21, none⟩, ⟨Op.load 32 (Operand.tmp 1), some 22, none⟩, ⟨Op.call { callee := Callee.value (Operand.func 9), args := #[Operand.tmp 21, Operand.tmp 22], argTypes := #[25, 32] }, some 23, none⟩, ⟨Op.move (Operand.tmp 23), some 20, none⟩, ⟨Op.extract (Operand.tmp 20) 0, some 24, none⟩, ⟨Op.extract (Operand.tmp 20) 1, some 25, none⟩, ⟨Op.extract (Operand.tmp 20) 2, some 26, none⟩, ⟨Op.assign (Operand.tmp 24), some 5, none⟩, ⟨Op.assign (Operand.tmp 25), some 6, none⟩, ⟨Op.assign (Operand.tmp 26), some 7, none⟩] fun K hK => ?_
  try simp
  repeat' first | (refine ecall (by exact h2) rfl ?_) | ((refine evL_c ?_); simp [hrow0]) | (with_reducible refine And.intro ?_ ?_) | intro _ | (with_reducible assumption) | omega
  all_goals (refine Fin.go hK ?_; clear hK K)
  simp only [Then_normal]
  refine Run.seq ?_
  refine opsF [⟨Op.move (Operand.tmp 4), some 27, none⟩, ⟨Op.binOp BinOp.eql 35 (Operand.tmp 27) (Operand.const (Value.int IntKind.i64 0)) 35, some 28, none⟩, ⟨Op.move (Operand.tmp 28), some 29, none⟩, ⟨Op.move (Operand.tmp 2), some 30, some (some 29, true)⟩, ⟨Op.call { callee := Callee.builtin Builtin.len, args := #[Operand.tmp 30], argTypes := #[34] }, some 31, some (some 29, true)⟩, ⟨Op.binOp BinOp.eql 3 (Operand.tmp 31) (Operand.const (Value.int IntKind.i64 1)) 3, some 32, some (some 29, true)⟩, ⟨Op.pick (Operand.tmp 29) (Operand.tmp 32) (Operand.const (Value.bool false)), some 33, none⟩, ⟨Op.move (Operand.tmp 33), some 34, none⟩, ⟨Op.move (Operand.tmp 2), some 35, some (some 34, true)⟩, ⟨Op.indexAddr 34 (Operand.tmp 35) (Operand.const (Value.int IntKind.i64 0)), some 36, some (some 34, true)⟩, ⟨Op.load 4 (Operand.tmp 36), some 37, some (some 34, true)⟩, ⟨Op.pick (Operand.tmp 34) (Operand.tmp 37) (Operand.const (Value.bool false)), some 38, none⟩, ⟨Op.move (Operand.tmp 38), some 39, none⟩, ⟨Op.move (Operand.tmp 6), some 40, some (some 39, true)⟩, ⟨Op.binOp BinOp.eql 3 (Operand.tmp 40) (Operand.const (Value.int IntKind.i64 (-1))) 3, some 41, some (some 39, true)⟩, ⟨Op.pick (Operand.tmp 39) (Operand.tmp 41) (Operand.const (Value.bool false)), some 42, none⟩, ⟨Op.move (Operand.tmp 42), some 43, none⟩, ⟨Op.move (Operand.tmp 7), some 44, some (some 43, true)⟩, ⟨Op.binOp BinOp.eql 35 (Operand.tmp 44) (Operand.const (Value.int IntKind.i64 181)) 35, some 45, some (some 43, true)⟩, ⟨Op.pick (Operand.tmp 43) (Operand.tmp 45) (Operand.const (Value.bool false)), some 46, none⟩, ⟨Op.assign (Operand.tmp 46), some 0, none⟩] fun K hK => ?_
  try simp
  repeat' first | ((first | refine evL_c ?_ | (refine evL_g rfl ?_; try simp only [gs_tt, gs_ff, gs_tf, gs_ft]) | refine evL_u rfl ?_ | (with_reducible refine gsplit (fun hg => ?_) (fun hg => ?_) <;> try simp at hg)) <;> try simp [hrow0]) | (with_reducible refine And.intro ?_ ?_) | intro _ | (with_reducible assumption) | omega
  all_goals (refine Fin.go hK ?_; clear hK K)
  all_goals
    simp only [Then_normal]
    refine Run.ret ?_
    try simp only [Then_ret, Blok_ret]
    simp


end Go.Proofs.Ytimgbdkgjfbhkaa.Z
end
section
namespace Go.Fw
variable {P : Program}

/-! stores in order -/
def Srt (s : Store) : Prop := s.Pairwise fun a b => a.1 < b.1
theorem key_putB {s : Store} {k : Nat} {b : Blk} {x : Nat × Blk} (h : x ∈ putB s k b) : x.1 = k ∨ ∃ y ∈ s, y.1 = x.1 := by
  induction s with
  | nil => simp [putB] at h; exact .inl (by rw [h])
  | cons y r ih =>
    obtain ⟨i, c⟩ := y
    simp only [putB] at h
    split at h
    · rcases List.mem_cons.1 h with h | h
      · exact .inl (by rw [h])
      · exact .inr ⟨x, by simp [h], rfl⟩
    · split at h
      · rcases List.mem_cons.1 h with h | h
        · exact .inl (by rw [h])
        · exact .inr ⟨x, h, rfl⟩
      · rcases List.mem_cons.1 h with h | h
        · exact .inr ⟨(i, c), by simp, by rw [h]⟩
        · rcases ih h with h | ⟨y, h1, h2⟩
          · exact .inl h
          · exact .inr ⟨y, by simp [h1], h2⟩
theorem Srt.putB {s : Store} (h : Srt s) (k : Nat) (b : Blk) : Srt (putB s k b) := by
  induction s with
  | nil => simp [Srt, Fw.putB]
  | cons y r ih =>
    obtain ⟨i, c⟩ := y
    have h' := List.pairwise_cons.1 h
    simp only [Fw.putB]
    split
    · rename_i e
      exact List.pairwise_cons.2 ⟨fun x hx => by have := h'.1 x hx; simp only at this ⊢; omega, h'.2⟩
    · split
      · refine List.pairwise_cons.2 ⟨fun x hx => ?_, h⟩
        rcases List.mem_cons.1 hx with rfl | hx
        · assumption
        · have := h'.1 x hx; simp only at this ⊢; omega
      · refine List.pairwise_cons.2 ⟨fun x hx => ?_, ih h'.2⟩
        rcases key_putB hx with e | ⟨z, hz, e⟩
        · simp only; omega
        · have := h'.1 z hz; simp only at this ⊢; omega
theorem key_fgtS {p : Nat → Bool} {s : Store} {x : Nat × Blk} (h : x ∈ fgtS p s) : ∃ y ∈ s, y.1 = x.1 := by
  induction s with
  | nil => cases h
  | cons y r ih =>
    obtain ⟨i, c⟩ := y
    simp only [fgtS] at h
    split at h
    · obtain ⟨z, h1, h2⟩ := ih h; exact ⟨z, by simp [h1], h2⟩
    · rcases List.mem_cons.1 h with h | h
      · exact ⟨(i, c), by simp, by rw [h]⟩
      · obtain ⟨z, h1, h2⟩ := ih h; exact ⟨z, by simp [h1], h2⟩
theorem Srt.fgtS {s : Store} (h : Srt s) (p : Nat → Bool) : Srt (fgtS p s) := by
  induction s with
  | nil => exact h
  | cons y r ih =>
    obtain ⟨i, c⟩ := y
    have h' := List.pairwise_cons.1 h
    simp only [Fw.fgtS]
    split
    · exact ih h'.2
    · refine List.pairwise_cons.2 ⟨fun x hx => ?_, ih h'.2⟩
      obtain ⟨z, hz, e⟩ := key_fgtS hx
      have := h'.1 z hz; simp only at this ⊢; omega
theorem Srt.puts {s : Store} (h : Srt s) (t : Store) : Srt (puts s t) := by
  induction t with
  | nil => exact h
  | cons x r ih => obtain ⟨i, b⟩ := x; exact ih.putB i b
theorem putB_front {s : Store} {n : Nat} {b : Blk} (h : ∀ x ∈ s, n < x.1) : putB s n b = (n, b) :: s := by
  cases s with
  | nil => rfl
  | cons x r =>
    obtain ⟨i, c⟩ := x
    have := h (i, c) (by simp)
    simp only at this
    simp only [putB]
    rw [if_neg (by omega), if_pos this]
theorem fgtS_putB {p : Nat → Bool} {n : Nat} {b : Blk} (hn : p n = false) : ∀ {s : Store}, Srt s → fgtS p (putB s n b) = putB (fgtS p s) n (b.fgt p)
  | [], _ => by simp [putB, fgtS, hn]
  | (i, c) :: r, h => by
    have h' := List.pairwise_cons.1 h
    by_cases e : i = n
    · subst e
      simp [putB, fgtS, hn]
    · by_cases e2 : n < i
      · have hf : ∀ x ∈ fgtS p ((i, c) :: r), n < x.1 := fun x hx => by
          obtain ⟨z, hz, e3⟩ := key_fgtS hx
          rcases List.mem_cons.1 hz with rfl | hz
          · simp only at e3; omega
          · have := h'.1 z hz; simp only at this; omega
        rw [putB_front hf]
        simp only [putB, if_neg e, if_pos e2]
        rw [fgtS]
        simp [hn]
      · have ih := fgtS_putB (b := b) hn h'.2
        simp only [putB, if_neg e, if_neg e2]
        cases hp : p i with
        | true => simp only [fgtS, hp, if_true]; exact ih
        | false => simp only [fgtS, hp, Bool.false_eq_true, if_false, putB, if_neg e, if_neg e2]; rw [ih]
theorem fgt_self {p : Nat → Bool} (x : V) (h : x.men p = false) : x.fgt p = x := by
  induction x using V.rec (motive_2 := fun l => V.menL p l = false → V.fgtL p l = l) with
  | rs id sz off len => simp only [V.men] at h; simp [V.fgt, h]
  | pt id sz row col => simp only [V.men] at h; simp [V.fgt, h]
  | mp id => simp only [V.men] at h; simp [V.fgt, h]
  | fn f capt ih => simp only [V.men] at h; simp only [V.fgt, ih h]
  | ag cells ih => simp only [V.men] at h; simp only [V.fgt, ih h]
  | tup vs ih => simp only [V.men] at h; simp only [V.fgt, ih h]
  | nil => rfl
  | cons v r ih1 ih2 =>
    rename_i h
    simp only [V.menL, Bool.or_eq_false_iff] at h
    simp only [V.fgtL, ih1 h.1, ih2 h.2]
  | _ => rfl
theorem fgtL_self {p : Nat → Bool} (l : List V) (h : V.menL p l = false) : V.fgtL p l = l := by
  induction l with
  | nil => rfl
  | cons v r ih =>
    simp only [V.menL, Bool.or_eq_false_iff] at h
    simp only [V.fgtL, fgt_self v h.1, ih h.2]
theorem fgtB_self {p : Nat → Bool} {b : Blk} (h : FreshB p b) : b.fgt p = b := by
  cases b with
  | vals cells => simp only [Blk.fgt]; rw [fgtL_self _ h]
  | mp ks vs => simp only [Blk.fgt]; rw [fgtL_self _ h]
  | data sz rows => rfl

/-! an append looks at no block that its slices do not name -/
theorem baseRows_put {n ny : Nat} {x : V} {s : Store} {b : Blk} {p : Nat → Bool} (hp : p ny = true) (h : x.men p = false) : baseRows n x (putB s ny b) = baseRows n x s := by
  unfold baseRows
  split <;> try rfl
  rename_i id n0 len
  simp only [V.men] at h
  have hne : getB (putB s ny b) id = getB s id := by rw [getB_putB, if_neg (fun e => by rw [e, hp] at h; cases h)]
  rw [hne]
theorem srcRows_put {n ny : Nat} {x : V} {s : Store} {b : Blk} {p : Nat → Bool} (hp : p ny = true) (h : x.men p = false) : srcRows n x (putB s ny b) = srcRows n x s := by
  unfold srcRows
  split <;> try rfl
  rename_i id n0 off len
  simp only [V.men] at h
  have hne : getB (putB s ny b) id = getB s id := by rw [getB_putB, if_neg (fun e => by rw [e, hp] at h; cases h)]
  rw [hne]
theorem baseV_put {n ny : Nat} {x : V} {s : Store} {b : Blk} {p : Nat → Bool} (hp : p ny = true) (h : x.men p = false) : baseV n x (putB s ny b) = baseV n x s := by
  unfold baseV
  split <;> try rfl
  rename_i id n0 len
  simp only [V.men] at h
  have hne : getB (putB s ny b) id = getB s id := by rw [getB_putB, if_neg (fun e => by rw [e, hp] at h; cases h)]
  rw [hne]
theorem srcV_put {n ny : Nat} {x : V} {s : Store} {b : Blk} {p : Nat → Bool} (hp : p ny = true) (h : x.men p = false) : srcV n x (putB s ny b) = srcV n x s := by
  unfold srcV
  split <;> try rfl
  rename_i id n0 off len
  simp only [V.men] at h
  have hne : getB (putB s ny b) id = getB s id := by rw [getB_putB, if_neg (fun e => by rw [e, hp] at h; cases h)]
  rw [hne]
theorem append_put {cl : Call} {ρ : Operand → V} {s : Store} {ny : Nat} {b : Blk} {p : Nat → Bool} (hp : p ny = true) (h : ∀ z, (ρ z).men p = false) : opAppend P cl ρ (putB s ny b) = opAppend P cl ρ s ∧ opAppendV P cl ρ (putB s ny b) = opAppendV P cl ρ s := by
  constructor
  · unfold opAppend
    split <;> try rfl
    simp only [baseRows_put hp (h _), srcRows_put hp (h _)]
  · unfold opAppendV
    split <;> try rfl
    simp only [baseV_put hp (h _), srcV_put hp (h _)]
theorem append_hit {cl : Call} {ρ : Operand → V} {s : Store} {p : Nat → Bool} (h : ∀ z, (ρ z).men p = false) {k : Option Nat} : (∀ c sz all, opAppend P cl ρ s = some (k, c, sz, all) → ∀ i, k = some i → p i = false) ∧ (∀ c sz n all, opAppendV P cl ρ s = some (k, c, sz, n, all) → ∀ i, k = some i → p i = false) := by
  have b1 : ∀ {n : Nat} {x : Operand} {c r}, baseRows n (ρ x) s = some (k, c, r) → ∀ i, k = some i → p i = false := fun {n x c r} hb i hi => by
    have hx := h x
    unfold baseRows at hb
    split at hb
    · cases hb; cases hi
    · split at hb
      · split at hb
        · cases hb
          cases hi
          simp_all [V.men]
        · cases hb
      · cases hb
    · cases hb
  have b2 : ∀ {n : Nat} {x : Operand} {c m r}, baseV n (ρ x) s = some (k, c, m, r) → ∀ i, k = some i → p i = false := fun {n x c m r} hb i hi => by
    have hx := h x
    unfold baseV at hb
    split at hb
    · cases hb; cases hi
    · split at hb
      · split at hb
        · cases hb
          cases hi
          simp_all [V.men]
        · cases hb
      · cases hb
    · cases hb
  constructor
  · intro c sz all ha i hi
    unfold opAppend at ha
    split at ha
    · split at ha
      · split at ha
        · split at ha
          · split at ha
            · rename_i q1 _
              cases ha
              exact b1 q1 i hi
            · cases ha
          · cases ha
        · cases ha
      · cases ha
    · cases ha
  · intro c sz n all ha i hi
    unfold opAppendV at ha
    split at ha
    · split at ha
      · split at ha
        · split at ha
          · split at ha
            · rename_i q1 _
              cases ha
              exact b2 q1 i hi
            · cases ha
          · cases ha
        · cases ha
      · cases ha
    · cases ha

def isLen (o : Oper) : Bool := cls o.op == .r && (match o.op with | .call _ => true | _ => false)
theorem len_store {c : Call} {ρ : Operand → V} {s s' : Store} (h : ∀ z ∈ c.args, ∀ id, ρ z ≠ .mp id) : opR P (.call c) ρ s = opR P (.call c) ρ s' := by
  simp only [opR]
  split
  · rename_i x t h1 h2
    have hx := h x (by rw [← Array.mem_toList_iff, h1]; simp)
    cases hρ : ρ x with
    | mp id => exact absurd hρ (hx id)
    | _ => rfl
  · rfl
theorem len_lit {c : Call} {ρ : Operand → V} {s : Store} {q : Prop} {v : V} (h : opR P (.call c) ρ s = some (q, v)) : ∃ n : Int, v = .int n := by
  simp only [opR] at h
  split at h
  · split at h
    · split at h
      · split at h
        · cases h; exact ⟨_, rfl⟩
        · cases h
      · cases h
    · split at h
      · cases h; exact ⟨_, rfl⟩
      · cases h
  · cases h
/-- what stands behind an append and looks at what it leaves alone -/
def aftX (la : List Nat) (all : List Oper) (j i : Nat) (x y : Oper) : Bool := cls x.op == .x && x.guard.isNone && y.guard.isNone && (cls y.op == .p || isLoad y || cls y.op == .a || isLen y) &&
  y.op.operands.toList.all fun z => match z with
    | .tmp a => la.contains a && y.dst != some a && (List.range all.length).all fun k => match all[k]? with
      | some z => decide (k ≤ j) || k == i || z.dst != some a || dep all all.length k i
      | none => true
    | _ => true
def commB (im : Op → Bool) (la : List Nat) (all : List Oper) (j i : Nat) (x y : Oper) : Bool := commL im la all j i x y || (apart all x y && aftX la all j i x y)
def indepB (im : Op → Bool) (la : List Nat) (all : List Oper) : Bool := ahead all && (List.range all.length).all fun i => (List.range i).all fun j => dep all all.length j i || (match all[j]?, all[i]? with | some x, some y => commB im la all j i x y | _, _ => true)
theorem commB_apart {im : Op → Bool} {la : List Nat} {all : List Oper} {j i : Nat} {x y : Oper} (h : commB im la all j i x y = true) : apart all x y = true := by
  simp only [commB, Bool.or_eq_true, Bool.and_eq_true] at h
  rcases h with h | h
  · exact commL_apart h
  · exact h.1
theorem exchangeAY {im : Op → Bool} {all : List Oper} {x y : Oper} (ha : apart all x y = true) (hx : cls x.op = .x) (hxg : x.guard = none) (hyg : y.guard = none) (hyc : cls y.op = .p ∨ isLoad y = true ∨ cls y.op = .a ∨ isLen y = true) {E E1 E2 : St} (hso : Srt E.s)
    (hv : ∀ a, Operand.tmp a ∈ y.op.operands → y.dst ≠ some a ∧ ∃ q, (E2.e.getD a .top).at? = some q) (hfy : makes y = true → Fresh (mine y) E.e E.s) (h1 : Stp P im all x E E1) (h2 : Stp P im all y E1 E2) : ∃ E1', Stp P im all y E E1' ∧ Stp P im all x E1' E2 := by
  have gx : ∀ e, guardOf all e x.guard = some none := fun e => by rw [hxg]; rfl
  have gy : ∀ e, guardOf all e y.guard = some none := fun e => by rw [hyg]; rfl
  have hld : isLoad y = true → ∃ t z, y.op = .load t z := fun h => by
    unfold isLoad at h
    simp only [Bool.and_eq_true] at h
    cases ho : y.op <;> rw [ho] at h <;> first | exact ⟨_, _, rfl⟩ | exact absurd h.1 (by simp)
  have hln : isLen y = true → cls y.op = .r ∧ ∃ c, y.op = .call c := fun h => by
    unfold isLen at h
    simp only [Bool.and_eq_true, beq_iff_eq] at h
    refine ⟨h.1, ?_⟩
    cases ho : y.op <;> rw [ho] at h <;> first | exact ⟨_, rfl⟩ | exact absurd h.2 (by simp)
  have hyx : cls y.op ≠ .x := by
    rcases hyc with h | h | h | h
    · rw [h]; simp
    · obtain ⟨t, z, e⟩ := hld h; rw [e]; simp [cls]
    · rw [h]; simp
    · rw [(hln h).1]; simp
  have hyn : cls y.op ≠ .c := by
    rcases hyc with h | h | h | h
    · rw [h]; simp
    · obtain ⟨t, z, e⟩ := hld h; rw [e]; simp [cls]
    · rw [h]; simp
    · rw [(hln h).1]; simp
  have dx : ∀ {E E' : St}, Stp P im all x E E' ↔ Do P x E E' := fun {E E'} => by
    unfold Stp; rw [gx]; exact doI_do (fun _ => by rw [hx]; simp)
  have dy : ∀ {E E' : St}, Stp P im all y E E' ↔ ∃ v ext, LocX P y (look E.e) E.s v ext ∧ E' = ⟨put E.e y.dst v, puts E.s ext⟩ := fun {E E'} => by
    rw [show Stp P im all y E E' ↔ Do P y E E' from by unfold Stp; rw [gy]; exact doI_do (fun _ => hyn)]
    exact locX_of hyx
  obtain ⟨v, ext, g2, rfl⟩ := dy.1 h2
  rw [dx] at h1
  unfold Do at h1
  rw [hx] at h1
  simp only at h1
  obtain ⟨cl, ho, hcal, k, c, sz, n, blk, ga, hc, rfl⟩ := h1
  simp only at g2 hv
  simp only [apart, Bool.and_eq_true] at ha
  have hne : ∀ q, x.dst = some q → y.dst ≠ some q := fun q e => by
    have := ha.1; rw [e] at this; simp at this; exact this.2
  have hlx : ∀ q, looks all y q = true → x.dst ≠ some q := fun q hk e => by
    have := ha.1; rw [e] at this; simp [hk] at this
  have hly : ∀ q, looks all x q = true → y.dst ≠ some q := fun q hk e => by
    have := ha.2; rw [e] at this; simp [hk] at this
  have hargs : ∀ (v : V), ∀ u ∈ cl.args, look (put E.e y.dst v) u = look E.e u := fun v u hu => by
    cases u with
    | tmp t =>
      exact put_getD (hly t (by
        unfold looks
        rw [Bool.or_eq_true, ho]
        exact .inl (List.any_eq_true.2 ⟨.tmp t, by simp only [Op.operands, Call.operands, Array.toList_append, List.mem_append]; exact .inr (by simpa using hu), by simp⟩)))
    | _ => rfl
  obtain ⟨H, hH⟩ : ∃ H, hitO k (newId x.dst) = H := ⟨_, rfl⟩
  rw [hH] at g2 hv
  have hHn : H (newId x.dst) = true := by rw [← hH]; simp [hitO]
  -- what it looks at stays
  have opn : ∀ z ∈ y.op.operands, look (put (V.fgtL H E.e) x.dst (.rs (newId x.dst) sz 0 n)) z = look E.e z ∧ look (V.fgtL H E.e) z = look E.e z ∧ (∀ i sz r c, look E.e z = .pt i sz r c → H i = false) ∧ ∀ id, look E.e z ≠ .mp id := by
    intro z hz
    cases z with
    | tmp a =>
      obtain ⟨hya, q, hq⟩ := hv a hz
      have hxa : x.dst ≠ some a := hlx a (by
        unfold looks
        rw [Bool.or_eq_true]
        exact .inl (List.any_eq_true.2 ⟨.tmp a, by simpa using hz, by simp⟩))
      rw [put_getD hya, put_getD hxa] at hq
      have e1 : look (put (V.fgtL H E.e) x.dst (.rs (newId x.dst) sz 0 n)) (.tmp a) = (V.fgtL H E.e).getD a .top := put_getD hxa
      rw [e1]
      show (V.fgtL H E.e).getD a .top = E.e.getD a .top ∧ (V.fgtL H E.e).getD a .top = E.e.getD a .top ∧ (∀ i sz r c, E.e.getD a .top = .pt i sz r c → H i = false) ∧ ∀ id, E.e.getD a .top ≠ .mp id
      rw [List.getD_eq_getElem?_getD, fgtL_at] at hq ⊢
      rw [List.getD_eq_getElem?_getD]
      cases he : E.e[a]? with
      | none => rw [he] at hq; cases hq
      | some z =>
        rw [he] at hq
        simp only [Option.map_some, Option.getD_some] at hq ⊢
        cases z with
        | pt i sz r c =>
          simp only [V.fgt] at hq ⊢
          cases hh : H i with
          | true => rw [hh] at hq; cases hq
          | false => simp only [Bool.false_eq_true, if_false, true_and]; exact ⟨fun i' _ _ _ e => (by cases e; exact hh), fun _ e => by cases e⟩
        | d d => simp [V.fgt]
        | rs _ _ _ _ => simp only [V.fgt] at hq; split at hq <;> cases hq
        | mp _ => simp only [V.fgt] at hq; split at hq <;> cases hq
        | _ => cases hq
    | const v => exact ⟨rfl, rfl, fun i sz r c e => (by
        simp only [look] at e
        cases v <;> simp only [litV] at e <;> (first | cases e | (split at e <;> cases e))), fun id e => by
        simp only [look] at e
        cases v <;> simp only [litV] at e <;> (first | cases e | (split at e <;> cases e))⟩
    | func f => exact ⟨rfl, rfl, fun _ _ _ _ e => (by cases e), fun _ e => by cases e⟩
    | global g => exact ⟨rfl, rfl, fun _ _ _ _ e => (by cases e), fun _ e => by cases e⟩
  have g3 := (locX_congr (P := P) (fun z hz => (opn z hz).1)).1 g2
  have gmk : ∀ (u : V), (Do P x ⟨put E.e y.dst u, E.s⟩ ⟨put (V.fgtL H (put E.e y.dst u)) x.dst (.rs (newId x.dst) sz 0 n), putB (fgtS H E.s) (newId x.dst) blk⟩) := fun u => by
    obtain ⟨q1, q2⟩ := append_congr (P := P) (hargs u) E.s
    unfold Do; rw [hx]
    refine ⟨cl, ho, hcal, k, c, sz, n, blk, ?_, hc, by rw [hH]⟩
    rcases ga with ⟨al, w1, w2, w3⟩ | ⟨al, w1, w2⟩
    · exact .inl ⟨al, q1.trans w1, w2, w3⟩
    · exact .inr ⟨al, q2.trans w1, w2⟩
  rcases hyc with hyc | hyc | hyc | hyc
  · -- it reckons
    have g4 : LocX P y (look E.e) E.s v ext := by unfold LocX at g3 ⊢; rw [hyc] at g3 ⊢; exact g3
    have g5 : LocX P y (look (V.fgtL H E.e)) (fgtS H E.s) v ext := by
      have := (locX_congr (P := P) (fun z hz => (opn z hz).2.1)).2 g4
      unfold LocX at this ⊢; rw [hyc] at this ⊢; exact this
    have hvm := (locX_fresh (fgt_fresh H E.e E.s) (fun hm => by unfold makes at hm; rw [hyc] at hm; cases hm) g5).1
    obtain rfl : ext = [] := by unfold LocX at g4; rw [hyc] at g4; obtain ⟨_, _, _, h⟩ := g4; exact h
    refine ⟨⟨put E.e y.dst v, E.s⟩, dy.2 ⟨v, [], g4, rfl⟩, dx.2 ?_⟩
    have := gmk v
    rw [fgtL_put, fgt_self v hvm, put_comm (fun q e => fun e2 => hne q e2 e)] at this
    rw [hH]
    exact this
  · -- it loads
    obtain ⟨t, z, ey⟩ := hld hyc
    have hcr : cls y.op = .r := by rw [ey]; rfl
    obtain ⟨c1, g4, gc1, rfl⟩ : ∃ c1, opR P y.op (look E.e) (putB (fgtS H E.s) (newId x.dst) blk) = some (c1, v) ∧ c1 ∧ ext = [] := by
      unfold LocX at g3; rw [hcr] at g3; exact g3
    have hpt := (opn z (by rw [ey]; simp [Op.operands])).2.2.1
    obtain ⟨u, g5, hu⟩ : ∃ u, opR P y.op (look E.e) E.s = some (c1, u) ∧ u.fgt H = v := by
      rw [ey] at g4 ⊢
      simp only [opR] at g4 ⊢
      generalize look E.e z = va at g4 hpt ⊢
      cases va with
      | pt i sz2 r c2 =>
        have hh := hpt i sz2 r c2 rfl
        have hni : i ≠ newId x.dst := fun e => by rw [e, hHn] at hh; cases hh
        simp only [getB_putB, if_neg hni, getB_fgtS, hh, Bool.false_eq_true, if_false] at g4
        simp only
        cases hb : getB E.s i with
        | none => rw [hb] at g4; cases g4
        | some b =>
          rw [hb] at g4
          simp only [Option.map_some] at g4 ⊢
          cases b with
          | vals cells =>
            simp only [Blk.fgt, loadV_fgt] at g4
            simp only
            cases hl : loadV P t cells (r * sz2 + c2) with
            | none => rw [hl] at g4; cases g4
            | some w =>
              rw [hl] at g4
              simp only [Option.map_some, Option.some.injEq, Prod.mk.injEq] at g4
              exact ⟨w, by simp only [Option.some.injEq, Prod.mk.injEq]; exact ⟨g4.1, trivial⟩, g4.2⟩
          | data n2 rows =>
            simp only [Blk.fgt] at g4
            have hd := loadV_fgt P t ((rowN rows r).map .d) c2 H
            rw [fgtL_map_d] at hd
            cases hl : loadV P t ((rowN rows r).map .d) c2 with
            | none => rw [hl] at g4; cases g4
            | some w =>
              rw [hl] at g4 hd
              simp only [Option.map_some, Option.some.injEq] at hd
              simp only [Option.some.injEq, Prod.mk.injEq] at g4
              exact ⟨w, by simp only [hl, Option.some.injEq, Prod.mk.injEq]; exact ⟨g4.1, trivial⟩, by rw [← g4.2]; exact hd.symm⟩
          | mp ks vs => cases g4
      | d x =>
        cases x with
        | ip row c2 =>
          simp only at g4 ⊢
          have hd := loadV_fgt P t (row.map .d) c2 H
          rw [fgtL_map_d] at hd
          cases hl : loadV P t (row.map .d) c2 with
          | none => rw [hl] at g4; cases g4
          | some w =>
            rw [hl] at g4 hd
            simp only [Option.map_some, Option.some.injEq] at hd
            simp only [Option.some.injEq, Prod.mk.injEq] at g4
            exact ⟨w, by simp only [Option.some.injEq, Prod.mk.injEq]; exact ⟨g4.1, trivial⟩, by rw [← g4.2]; exact hd.symm⟩
        | _ => cases g4
      | _ => cases g4
    refine ⟨⟨put E.e y.dst u, E.s⟩, dy.2 ⟨u, [], by unfold LocX; rw [hcr]; exact ⟨c1, g5, gc1, rfl⟩, rfl⟩, dx.2 ?_⟩
    have := gmk u
    rw [fgtL_put, hu, put_comm (fun q e => fun e2 => hne q e2 e)] at this
    rw [hH]
    exact this
  · -- it makes a block
    have hmk : makes y = true := by unfold makes; rw [hyc]
    have hF := hfy hmk
    have hmen : ∀ z, (look E.e z).men (mine y) = false := look_men hF.env
    have g4 : LocX P y (look E.e) E.s v ext := by unfold LocX at g3 ⊢; rw [hyc] at g3 ⊢; exact g3
    have g5 : LocX P y (look (V.fgtL H E.e)) (fgtS H E.s) v ext := by
      have := (locX_congr (P := P) (fun z hz => (opn z hz).2.1)).2 g4
      unfold LocX at this ⊢; rw [hyc] at this ⊢; exact this
    have hk : ∀ i, k = some i → mine y i = false := by
      rcases ga with ⟨al, w1, w2, w3⟩ | ⟨al, w1, w2⟩
      · exact (append_hit hmen).1 _ _ _ w1
      · exact (append_hit hmen).2 _ _ _ _ w1
    obtain ⟨c2, b2, hds, g6, gc2, rfl⟩ : ∃ c b, y.dst.isSome = true ∧ opA P y.op (look E.e) (newId y.dst) = some (c, v, b) ∧ c ∧ ext = [(newId y.dst, b)] := by
      unfold LocX at g4; rw [hyc] at g4; exact g4
    have hHy : ∀ i, mine y i = true → H i = false := fun i hi => by
      rw [← hH]
      simp only [hitO, Bool.or_eq_false_iff, beq_eq_false_iff_ne, ne_eq]
      refine ⟨fun e => ?_, fun e => ?_⟩
      · subst e
        simp only [mine, decide_eq_true_eq] at hi
        have := newId_inj hi
        obtain ⟨q, hq⟩ := Option.isSome_iff_exists.1 hds
        exact hne q (this.trans hq) hq
      · rw [hk i e] at hi; cases hi
    have hny : H (newId y.dst) = false := hHy _ (by simp [mine])
    have hxy : newId x.dst ≠ newId y.dst := fun e => by rw [← e, hHn] at hny; cases hny
    obtain ⟨hvm, hbm⟩ := locX_fresh (fgt_fresh H E.e E.s) (fun _ => hHy) g5
    have hb2 := (hbm _ (List.mem_singleton.2 rfl)).2
    refine ⟨⟨put E.e y.dst v, putB E.s (newId y.dst) b2⟩, dy.2 ⟨v, _, g4, rfl⟩, dx.2 ?_⟩
    obtain ⟨q1, q2⟩ := append_congr (P := P) (hargs v) (putB E.s (newId y.dst) b2)
    obtain ⟨p1, p2⟩ := append_put (P := P) (cl := cl) (s := E.s) (b := b2) (show mine y (newId y.dst) = true by simp [mine]) hmen
    unfold Do; rw [hx]
    refine ⟨cl, ho, hcal, k, c, sz, n, blk, ?_, hc, ?_⟩
    · rcases ga with ⟨al, w1, w2, w3⟩ | ⟨al, w1, w2⟩
      · exact .inl ⟨al, (q1.trans p1).trans w1, w2, w3⟩
      · exact .inr ⟨al, (q2.trans p2).trans w1, w2⟩
    · rw [hH, fgtL_put, fgt_self v hvm, put_comm (fun q e => fun e2 => hne q e2 e)]
      simp only [Fw.puts]
      rw [fgtS_putB hny hso, fgtB_self hb2, putB_comm hxy]
  · -- it tells a length
    obtain ⟨hcr, c0, ey⟩ := hln hyc
    have hmp : ∀ z ∈ c0.args, ∀ id, look E.e z ≠ .mp id := fun z hz => (opn z (by rw [ey]; simp [Op.operands, Call.operands, hz])).2.2.2
    obtain ⟨c1, g4, gc1, rfl⟩ : ∃ c1, opR P y.op (look E.e) (putB (fgtS H E.s) (newId x.dst) blk) = some (c1, v) ∧ c1 ∧ ext = [] := by
      unfold LocX at g3; rw [hcr] at g3; exact g3
    rw [ey] at g4
    obtain ⟨m, rfl⟩ := len_lit g4
    rw [len_store (s' := E.s) hmp, ← ey] at g4
    refine ⟨⟨put E.e y.dst (.int m), E.s⟩, dy.2 ⟨_, [], by unfold LocX; rw [hcr]; exact ⟨c1, g4, gc1, rfl⟩, rfl⟩, dx.2 ?_⟩
    have := gmk (.int m)
    rw [fgtL_put, show (V.int m).fgt H = .int m from rfl, put_comm (fun q e => fun e2 => hne q e2 e)] at this
    rw [hH]
    exact this
end Go.Fw
end
section
namespace Go.Fw
variable {P : Program}
theorem stp_srt {all : List Oper} {o : Oper} {E E' : St} (h : Stp P (fun _ => false) all o E E') (hs : Srt E.s) : Srt E'.s := by
  have hdo : ∀ {E E' : St}, Do P o E E' → Srt E.s → Srt E'.s := by
    intro E E' h hs
    by_cases hx : cls o.op = .x
    · unfold Do at h
      rw [hx] at h
      obtain ⟨cl, ho, hcal, k', c, sz, n, blk, h1, hc, rfl⟩ := h
      exact (hs.fgtS _).putB _ _
    · obtain ⟨v, ext, _, rfl⟩ := (locX_of hx).1 h
      exact hs.puts ext
  have hdi : DoI P (fun _ => false) o E E' → Srt E'.s := fun h => hdo ((doI_do (fun h => by cases h)).1 h) hs
  unfold Stp at h
  split at h
  · exact h.elim
  · exact hdi h
  · rename_i want b hg
    rcases bool_or b want with hb | hb
    · exact hdi (h.1 hb)
    · rw [h.2 hb]; exact hs
theorem aft_case {la : List Nat} {all : List Oper} {x o : Oper} {j i : Nat} (hap : apart all x o = true) (hc : aftX la all j i x o = true) {E E1 E2 E' : St} (h1 : Stp P (fun _ => false) all x E E1) (g1 : Stp P (fun _ => false) all o E1 E2) (hso : Srt E.s) (htwo : Vis la E'.e)
    (hf : makes o = true → Fresh (mine o) E.e E.s) {R : List Nat} (g2 : Steps P (fun _ => false) all R E2 E') (hR : ∀ k ∈ R, j < k ∧ k ≠ i ∧ (dep all all.length k i = true → False)) : ∃ E3, Stp P (fun _ => false) all o E E3 ∧ Stp P (fun _ => false) all x E3 E2 := by
  simp only [aftX, Bool.and_eq_true, Bool.or_eq_true, beq_iff_eq, Option.isNone_iff_eq_none] at hc
  obtain ⟨⟨⟨⟨hcx, hxg⟩, hog⟩, hoc⟩, hz⟩ := hc
  refine exchangeAY hap hcx hxg hog (by rcases hoc with ((h | h) | h) | h; exact .inl h; exact .inr (.inl h); exact .inr (.inr (.inl h)); exact .inr (.inr (.inr h))) hso (fun a hma => ?_) hf h1 g1
  have h2 := List.all_eq_true.1 hz (.tmp a) (by simpa using hma)
  simp only [Bool.and_eq_true, bne_iff_ne, ne_eq, List.all_eq_true, List.mem_range] at h2
  obtain ⟨⟨hin, hda⟩, hks⟩ := h2
  refine ⟨hda, ?_⟩
  have hv := List.all_eq_true.1 htwo a (by simpa using hin)
  obtain ⟨q, hq⟩ := Option.isSome_iff_exists.1 hv
  refine ⟨q, steps_at g2 (fun k hk z hzk => ?_) hq⟩
  obtain ⟨r1, r2, r3⟩ := hR k hk
  have := hks k ((List.getElem?_eq_some_iff.1 hzk).1)
  rw [hzk] at this
  simp only [Bool.or_eq_true, decide_eq_true_eq, beq_iff_eq, bne_iff_ne, ne_eq] at this
  rcases this with ((h | h) | h) | h
  · omega
  · exact absurd h r2
  · exact h
  · exact absurd h r3
/-- one that may stand first is taken first -/
theorem to_frontB {la : List Nat} {all : List Oper} (ha : alone all = true) {i : Nat} {o : Oper} (hi : all[i]? = some o) : ∀ {R : List Nat} {E E' : St}, Vis la E'.e → Srt E.s → (∀ k ∈ R, dep all all.length k i = true → False) → R.Pairwise (· < ·) → i ∈ R → FreshAll all R E → (∀ j ∈ R.takeWhile (· != i), ∀ x, all[j]? = some x → commB (fun _ => false) la all j i x o = true) → Steps P (fun _ => false) all R E E' →
    ∃ E1, Stp P (fun _ => false) all o E E1 ∧ Steps P (fun _ => false) all (R.erase i) E1 E' := by
  intro R
  induction R with
  | nil => intro E E' _ _ _ _ h; cases h
  | cons j r ih =>
    intro E E' htwo hso hdp hpw hm hf hc hs
    have hnd : (j :: r).Nodup := hpw.imp fun h => Nat.ne_of_lt h
    obtain ⟨x, hx, E1, h1, h2⟩ := hs
    by_cases e : j = i
    · subst e
      rw [hx] at hi; cases hi
      exact ⟨E1, h1, by simpa using h2⟩
    · have hmr : i ∈ r := (List.mem_cons.1 hm).resolve_left (Ne.symm e)
      have hnd' := List.nodup_cons.1 hnd
      have hpw' := List.pairwise_cons.1 hpw
      have hfr : FreshAll all r E1 := freshAll_step ha hx hnd'.1 (fun k hk => hf k (by simp [hk])) h1
      have htw : (j :: r).takeWhile (· != i) = j :: r.takeWhile (· != i) := by simp [e]
      rw [htw] at hc
      obtain ⟨E2, g1, g2⟩ := ih htwo (stp_srt h1 hso) (fun k hk => hdp k (by simp [hk])) hpw'.2 hmr hfr (fun k hk => hc k (by simp [hk])) h2
      have hcj := hc j (by simp) x hx
      have hex : ∃ E3, Stp P (fun _ => false) all o E E3 ∧ Stp P (fun _ => false) all x E3 E2 := by
        have hap := commB_apart hcj
        simp only [commB, Bool.or_eq_true, Bool.and_eq_true] at hcj
        rcases hcj with hcj | ⟨_, hcj⟩
        rotate_left
        · exact aft_case hap hcj h1 g1 hso htwo (hf i hm o hi) g2 fun k hk => ⟨by have := hpw'.1 k (List.mem_of_mem_erase hk); exact this, fun e => List.Nodup.not_mem_erase hnd'.2 (e ▸ hk), hdp k (by simp [List.mem_of_mem_erase hk])⟩
        simp only [commL, Bool.or_eq_true, Bool.and_eq_true] at hcj
        rcases hcj with hcj | ⟨_, hcj⟩
        · exact exchange hcj (hf j (by simp) x hx) (hf i hm o hi) (fun m1 m2 k hk => alone_mine ha (Ne.symm e) hi hx m2 k hk) h1 g1
        · cases hp : pairL la x o with
          | none => rw [hp] at hcj; cases hcj
          | some a =>
            rw [hp] at hcj
            simp only [Bool.and_eq_true, bne_iff_ne, ne_eq, List.all_eq_true, List.mem_range] at hcj
            obtain ⟨⟨hxa, hoa⟩, hks⟩ := hcj
            have hlen : ∀ {k : Nat} {z : Oper}, all[k]? = some z → k < all.length := fun h => (List.getElem?_eq_some_iff.1 h).1
            have ln : ∀ k ∈ r.erase i, ∀ z, all[k]? = some z → z.dst ≠ some a := fun k hk z hz => by
              have hkr : k ∈ r := List.mem_of_mem_erase hk
              have hki : k ≠ i := fun e => List.Nodup.not_mem_erase hnd'.2 (e ▸ hk)
              have := hks k (hlen hz)
              rw [hz] at this
              simp only [Bool.or_eq_true, decide_eq_true_eq, beq_iff_eq, bne_iff_ne, ne_eq] at this
              rcases this with (h | h) | h
              · have := hpw'.1 k hkr; omega
              · exact absurd h hki
              · exact h
            unfold pairL at hp
            split at hp
            · rename_i a' hla
              split at hp
              · rename_i hcd
                cases hp
                simp only [Bool.and_eq_true, beq_iff_eq, Option.isNone_iff_eq_none] at hcd
                obtain ⟨⟨hin, hcx⟩, hog⟩ := hcd
                have hv := List.all_eq_true.1 htwo a (by simpa using hin)
                obtain ⟨q, hq⟩ := Option.isSome_iff_exists.1 hv
                exact exchangeLA hap hla hcx hog hxa hoa (steps_at g2 ln hq) h1 g1
              · cases hp
            · cases hp
      obtain ⟨E3, g3, g4⟩ := hex
      refine ⟨E3, g3, ?_⟩
      rw [List.erase_cons_tail (by simpa using e)]
      exact ⟨x, hx, E2, g4, g2⟩

section
variable {w0 : World} {L0 : Par} {X : Nat → Prop}
theorem any_opsB {la : List Nat} {all : List Oper} (ha : alone all = true) (hi : indepB (fun _ => false) la all = true) : ∀ (fuel : Nat) {listed : Array Bool} {m : Nat → Option Nat} {a : Act} {w : World} {E E' : St}, Vis la E'.e → Srt E.s → listed.size = all.length → (undone all.length listed).length ≤ fuel →
    (∀ i o, all[i]? = some o → listed.getD i true = true → i < all.length → ∀ e ∈ o.after.toList, Region.binds .any e = true → listed.getD e.on false = true) →
    FreshAll all (undone all.length listed) E → Rel w0 L0 X m E.e E.s a w → Steps P (fun _ => false) all (undone all.length listed) E E' → ∀ {Q : Exit → Act → World → Prop}, (∀ m' a' w', Rel w0 L0 X m' E'.e E'.s a' w' → Q .normal a' w') → wpAny P .any all.toArray Q fuel listed a w := by
  simp only [indepB, Bool.and_eq_true] at hi
  obtain ⟨hah, hco⟩ := hi
  intro fuel
  have rdy : ∀ {listed : Array Bool}, listed.size = all.length → ∀ i, i ∈ Region.ready .any all.toArray listed ↔ i ∈ undone all.length listed ∧ ∃ o, all[i]? = some o ∧ ∀ e ∈ o.after.toList, Region.binds .any e = true → listed.getD e.on false = true := by
    intro listed hl i
    simp only [Region.ready, undone, List.mem_filter, List.size_toArray, List.getElem?_toArray, Bool.and_eq_true]
    constructor
    · rintro ⟨h1, h2, h3⟩
      refine ⟨⟨h1, h2⟩, ?_⟩
      cases ho : all[i]? with
      | none => rw [ho] at h3; cases h3
      | some o =>
        rw [ho] at h3
        refine ⟨o, rfl, fun e he hb => ?_⟩
        simp only [Option.map_some, Option.getD_some, Array.all_eq_true_iff_forall_mem] at h3
        have := h3 e (by simpa using he)
        simpa [hb] using this
    · rintro ⟨⟨h1, h2⟩, o, ho, h3⟩
      refine ⟨h1, h2, ?_⟩
      rw [ho]
      simp only [Option.map_some, Option.getD_some, Array.all_eq_true_iff_forall_mem]
      intro e he
      by_cases hb : Region.binds .any e = true
      · simp [h3 e (by simpa using he) hb]
      · simp [hb]
  -- as long as one is left, one may be taken
  have least : ∀ {listed : Array Bool}, listed.size = all.length → Region.ready .any all.toArray listed = [] → undone all.length listed = [] := by
    intro listed hl hr
    cases hu : undone all.length listed with
    | nil => rfl
    | cons i r =>
      exfalso
      have hmem : ∀ k, k ∈ undone all.length listed ↔ k < all.length ∧ listed.getD k true = false := fun k => by simp [undone]
      have hmin : ∀ k, k < i → listed.getD k false = true := by
        intro k hk
        have hii : i < all.length := ((hmem i).1 (by rw [hu]; simp)).1
        have hsort : (undone all.length listed).Pairwise (· < ·) := List.pairwise_lt_range.filter _
        rw [hu] at hsort
        have hks : k < listed.size := by omega
        cases hq : listed.getD k true with
        | true => simp [Array.getD, hks] at hq ⊢; exact hq
        | false =>
          have : k ∈ undone all.length listed := (hmem k).2 ⟨by omega, hq⟩
          rw [hu] at this
          rcases List.mem_cons.1 this with e | hm
          · omega
          · have := (List.pairwise_cons.1 hsort).1 k hm
            omega
      have hii : i < all.length := ((hmem i).1 (by rw [hu]; simp)).1
      have : i ∈ Region.ready .any all.toArray listed := (rdy hl i).2 ⟨by rw [hu]; simp, all[i], List.getElem?_eq_getElem hii, fun e he hb => by
        have h1 := List.all_eq_true.1 hah i (List.mem_range.2 hii)
        rw [List.getElem?_eq_getElem hii] at h1
        have h2 := List.all_eq_true.1 h1 e he
        simp only [hb, Bool.not_true, Bool.false_or, decide_eq_true_eq] at h2
        exact hmin _ h2⟩
      rw [hr] at this; cases this
  induction fuel with
  | zero =>
    intro listed m a w E E' htwo hso hl hn hcl hf h hs Q hQ
    have hu : undone all.length listed = [] := List.eq_nil_of_length_eq_zero (by omega)
    rw [hu] at hs
    cases hs
    refine ⟨?_, hQ m a w h⟩
    cases hr : Region.ready .any all.toArray listed with
    | nil => rfl
    | cons i r =>
      have := ((rdy hl i).1 (by rw [hr]; simp)).1
      rw [hu] at this; cases this
  | succ n ih =>
    intro listed m a w E E' htwo hso hl hn hcl hf h hs Q hQ
    refine ⟨fun hr => ?_, fun i hri => ?_⟩
    · have hu := least hl hr
      rw [hu] at hs
      cases hs
      exact hQ m a w h
    · obtain ⟨hu, o, ho, hd⟩ := (rdy hl i).1 hri
      have hii : i < all.length := (List.getElem?_eq_some_iff.1 ho).1
      have hnd : (undone all.length listed).Nodup := List.nodup_range.filter _
      have hsort : (undone all.length listed).Pairwise (· < ·) := List.pairwise_lt_range.filter _
      obtain ⟨E1, g1, g2⟩ := to_frontB ha ho htwo hso (fun k hku hk => by
        have := dep_listed hcl hl _ k i o ho hd hk
        have hjl : k < listed.size := by have := (List.mem_filter.1 hku).1; have := List.mem_range.1 this; omega
        have h2 : listed.getD k true = false := by simp only [undone, List.mem_filter, Bool.not_eq_true'] at hku; exact hku.2
        simp [Array.getD, hjl] at this h2
        rw [this] at h2; cases h2) hsort hu hf (fun j hj x hx => by
        have hju : j ∈ undone all.length listed := (List.takeWhile_prefix _).subset hj
        have hne : j ≠ i := by have := List.all_eq_true.1 List.all_takeWhile j hj; simpa using this
        have hji : j < i := by
          have : ∀ (R : List Nat), R.Pairwise (· < ·) → i ∈ R → j ∈ R.takeWhile (· != i) → j < i := by
            intro R
            induction R with
            | nil => intro _ h; cases h
            | cons k r ih =>
              intro hp hm hj
              have hp' := List.pairwise_cons.1 hp
              by_cases e : k = i
              · simp [e] at hj
              · have hmr : i ∈ r := (List.mem_cons.1 hm).resolve_left (Ne.symm e)
                simp only [List.takeWhile_cons, bne_iff_ne, ne_eq, e, not_false_eq_true, if_true, List.mem_cons] at hj
                rcases hj with rfl | hj
                · exact hp'.1 i hmr
                · exact ih hp'.2 hmr hj
          exact this _ hsort hu hj
        have h1 := List.all_eq_true.1 (List.all_eq_true.1 hco i (List.mem_range.2 hii)) j (List.mem_range.2 hji)
        simp only [hx, ho, Bool.or_eq_true] at h1
        rcases h1 with h1 | h1
        · have := dep_listed hcl hl _ j i o ho hd h1
          have hjl : j < listed.size := by omega
          have h2 : listed.getD j true = false := by have := hju; simp only [undone, List.mem_filter, Bool.not_eq_true'] at this; exact this.2
          simp [Array.getD, hjl] at this h2
          rw [this] at h2; cases h2
        · exact h1) hs
      refine stp_op ho h (hf i hu o ho) g1 fun m' a' w' h' => ?_
      have hue := undone_set (listed := listed) hl hii
      refine ih htwo (stp_srt g1 hso) (by simpa using hl) ?_ ?_ ?_ h' (by rw [hue]; exact g2) hQ
      · rw [hue, List.length_erase_of_mem hu]; omega
      · intro k x hx hk hkl e he hb
        by_cases e1 : i = k
        · subst e1
          rw [ho] at hx; cases hx
          have := hd e he hb
          have hne : e.on < all.length := by
            have hlt : e.on < listed.size := by
              rcases Nat.lt_or_ge e.on listed.size with h | h
              · exact h
              · simp [Array.getD, Nat.not_lt.2 h] at this
            omega
          simp [Array.getD_eq_getD_getElem?, Array.getElem?_setIfInBounds] at this ⊢
          split
          · split <;> simp_all
          · exact this
        · have hk' : listed.getD k true = true := by
            simpa [Array.getD_eq_getD_getElem?, Array.getElem?_setIfInBounds, e1] using hk
          have := hcl k x hx hk' hkl e he hb
          simp [Array.getD_eq_getD_getElem?, Array.getElem?_setIfInBounds] at this ⊢
          split
          · split <;> simp_all
          · exact this
      · rw [hue]
        have hf' : FreshAll all ((undone all.length listed).erase i) E := fun k hk => hf k (List.mem_of_mem_erase hk)
        exact freshAll_step ha ho (List.Nodup.not_mem_erase hnd) hf' g1
end
variable {E : St} {Q : Exit → St → Prop}
def okRegB (la : List Nat) (draw : Bool) (all : List Oper) : Bool := alone all && (!draw || indepB (fun _ => false) la all)
theorem Run.regionB (la : List Nat) {id : Nat} {ops : Array Oper} {draw : Bool} (hm : P.follows .mixedOrders = true) (hk : okRegB la draw ops.toList = true) {e : Env} {s : Store} {E' : St}
    (hs : Steps P (fun _ => false) ops.toList (List.range ops.toList.length) ⟨enterE ops.toList e, enterS ops.toList s⟩ E') (hsr : Srt s) (htwo : Vis la E'.e) (hq : Q .normal E') : Run P (.region id ops draw) ⟨e, s⟩ Q := fun w0 L0 X m a w hr => by
  simp only [okRegB, Bool.and_eq_true, Bool.or_eq_true, Bool.not_eq_true'] at hk
  obtain ⟨ha, hd⟩ := hk
  have henter : Rel w0 L0 X m (enterE ops.toList e) (enterS ops.toList s) a w ∧ FreshAll ops.toList (List.range ops.toList.length) ⟨enterE ops.toList e, enterS ops.toList s⟩ := by
    unfold enterE enterS
    by_cases h : (ks ops.toList).isEmpty = true
    · simp only [h, if_true]
      refine ⟨hr, fun i _ o ho hm => ?_⟩
      have := ks_nil h o (List.mem_of_getElem? ho)
      rw [this] at hm; cases hm
    · simp only [h, if_false]
      exact ⟨hr.fgt _, fresh_enter⟩
  obtain ⟨h1, h2⟩ := henter
  have fin : ∀ m' a' w', Rel w0 L0 X m' E'.e E'.s a' w' → ∃ E'' m'', Q .normal E'' ∧ Rel w0 L0 X m'' E''.e E''.s a' w' := fun m' a' w' h => ⟨E', m', hq, h⟩
  cases draw with
  | false =>
    refine wp_region ?_
    have := seq_ops (P := P) (w0 := w0) (L0 := L0) (X := X) ha List.nodup_range h2 h1 hs (Q := fun x a' w' => ∃ E' m', Q x E' ∧ Rel w0 L0 X m' E'.e E'.s a' w') fin
    simpa using this
  | true =>
    have hi : indepB (fun _ => false) la ops.toList = true := by rcases hd with h | h; exact absurd h (by simp); exact h
    refine wp_region_any hm ?_
    have hu : undone ops.toList.length (Array.replicate ops.size false) = List.range ops.toList.length := by
      unfold undone
      rw [List.filter_eq_self]
      intro k hk
      have := List.mem_range.1 hk
      simp at this
      simp [Array.getD, this]
    have h3 : Rel w0 L0 X m (enterE ops.toList e) (enterS ops.toList s) a { w with drawn := w.drawn + 1 } := by
      have hk : CellsKept (Live X m (enterS ops.toList s)) w { w with drawn := w.drawn + 1 } := fun _ _ _ q => q
      have hz : SizesKept w { w with drawn := w.drawn + 1 } := fun _ cs _ _ q => ⟨cs, q, rfl⟩
      refine ⟨⟨h1.env.len, fun j x v q1 q2 => VRel.mono' hk hz (fun b hb => .inl hb) (h1.env.at_ j x v q1 q2)⟩, ⟨fun i blk hi => ?_, h1.sto.inj⟩, h1.dfr, ⟨h1.ext.os, h1.ext.tape, h1.ext.output, h1.ext.size, h1.ext.block, h1.ext.sizes⟩, h1.liv, h1.old, h1.par⟩
      rcases h1.sto.blk i blk hi with ⟨b, r1, r2⟩ | r
      · exact .inl ⟨b, r1, BRel.mono (p := fun _ => false) hk hz (fun b hb => .inl hb) (fun _ _ => rfl) rfl (by cases blk <;> first | exact menL_false _ | trivial) r2⟩
      · exact .inr r
    have hsr2 : Srt (⟨enterE ops.toList e, enterS ops.toList s⟩ : St).s := by
      show Srt (enterS ops.toList s)
      unfold enterS; split; exact hsr; exact hsr.fgtS _
    have := any_opsB (P := P) (la := la) (w0 := w0) (L0 := L0) (X := X) ha hi ops.size (listed := Array.replicate ops.size false) htwo hsr2 (by simp) (by rw [hu]; simp) (fun i o ho hl hlt e he hb => by
      simp at hlt
      simp [Array.getD, hlt] at hl) (by rw [hu]; exact h2) h3 (by rw [hu]; exact hs) (Q := fun x a' w' => ∃ E' m', Q x E' ∧ Rel w0 L0 X m' E'.e E'.s a' w') fin
    simpa using this
/-- A REGION, operation by operation; la: the slots of loads beside an append. -/
theorem Run.opsB (la : List Nat) {id : Nat} {ops : Array Oper} {draw : Bool} (los : List LOp) (hm : P.follows .mixedOrders = true) (hk : okRegB la draw ops.toList = true) (hl : ops.toList.map (lite ops.toList) = los) {e : Env} {s : Store} (hsr : Srt s)
    (h : ∀ K : Env → Store → Prop, (∀ e s, Vis la e → Q .normal ⟨e, s⟩ → K e s) → EvL P (fun _ => false) K los (enterE ops.toList e) (enterS ops.toList s)) : Run P (.region id ops draw) ⟨e, s⟩ Q := by
  have h0 : EvO P (fun _ => false) ops.toList (fun e s => Vis la e ∧ Q .normal ⟨e, s⟩) ops.toList (enterE ops.toList e) (enterS ops.toList s) := by
    subst hl; exact evL_evO (h _ fun _ _ h1 h2 => ⟨h1, h2⟩)
  obtain ⟨E', h1, h2⟩ := evO_steps (P := P) (im := fun _ => false) (n := 0) (List.drop_zero ..) h0
  rw [← List.range_eq_range'] at h1
  exact Run.regionB la hm hk h1 hsr h2.1 h2.2
end Go.Fw
end
section
set_option maxRecDepth 100000
namespace Go.Proofs.Ytimgbdkgjfbhkaa.Z
open Go Go.Fw
theorem checkS_e (c : CoreT) (r : ProgR) : (checkS c r).2.2 = (planS c r).2.2 := by
  unfold checkS; split
  · rename_i h; rw [h]
  · rfl
theorem checkS_a {c : CoreT} {r : ProgR} (h : (planS c r).2.2 ≠ 0) : (checkS c r).2 = (planS c r).2 := by
  unfold checkS; rw [if_neg h]
theorem planS_right {c : CoreT} {r : ProgR} (h : (planS c r).2.2 = 0) : (transS c).op ≠ 0 ∧ r.pipes.length = r.tabs.length + 1 ∧ (pipesS c r.tabs [] [] r.pipes).2.2 = true := by
  unfold planS at h
  split at h
  · cases h
  · rename_i h1
    split at h
    · cases h
    · rename_i h2
      refine ⟨h1, by omega, ?_⟩
      rcases hR : pipesS c r.tabs [] [] r.pipes with ⟨R1, R2, R3⟩
      rw [hR] at h
      simp only at h ⊢
      split at h
      · cases h
      · rename_i h3
        cases R3 with
        | true => rfl
        | false => exact absurd (by simp) h3
theorem planS_bad {c : CoreT} {r : ProgR} {R1 : List PlanT} {R2 : List Int} {R3 : Bool} (h1 : (transS c).op ≠ 0) (h2 : r.pipes.length = r.tabs.length + 1) (hR : pipesS c r.tabs [] [] r.pipes = (R1, R2, R3)) (h : R3 = true → R2.length < r.tabs.length) :
    (planS c r).2 = ((if R3 then (r.tabs.length : Int) else R1.length), 181) := by
  unfold planS
  rw [if_neg h1, if_neg (by omega), hR]
  simp only
  rw [if_pos (by
    cases R3 with
    | false => rfl
    | true => simp [h rfl])]
theorem pipeS_none {c : CoreT} {tabs : List (List Int)} {ps : List PlanT} {l : List Int} {x : PipeR} (h : x.sink ≠ sinkS tabs ps.length) : pipeS c tabs ps l x = (none, l) := by
  unfold pipeS; rw [if_pos (.inl h)]
theorem pipeS_sink {c : CoreT} {tabs : List (List Int)} {ps : List PlanT} {l l' : List Int} {x : PipeR} {q : PlanT} (h : pipeS c tabs ps l x = (some q, l')) : x.sink = sinkS tabs ps.length ∧ (bndT c (scanT x.scan)).isSome = true ∧ stepsS c tabs ps ps.length l (scanT x.scan) x.steps = (some q, l') := by
  unfold pipeS at h
  split at h
  · cases h
  · rename_i hb
    exact ⟨Decidable.not_not.1 fun e => hb (.inl e), Decidable.not_not.1 fun e => hb (.inr e), h⟩
theorem pipeS_mk {c : CoreT} {tabs : List (List Int)} {ps : List PlanT} {l l' : List Int} {x : PipeR} {q : PlanT} (h1 : x.sink = sinkS tabs ps.length) (h2 : (bndT c (scanT x.scan)).isSome = true) (h : stepsS c tabs ps ps.length l (scanT x.scan) x.steps = (some q, l')) : pipeS c tabs ps l x = (some q, l') := by
  unfold pipeS
  rw [if_neg (fun e => e.elim (fun e => e h1) (fun e => e h2))]; exact h
theorem pipesS_cons {c : CoreT} {tabs : List (List Int)} {ps : List PlanT} {l l' : List Int} {x : PipeR} {q : PlanT} {r : List PipeR} (h : pipeS c tabs ps l x = (some q, l')) : pipesS c tabs ps l (x :: r) = pipesS c tabs (ps ++ [q]) l' r := by
  rw [pipesS, h]
theorem pipesS_right {c : CoreT} {tabs : List (List Int)} {ps : List PlanT} {l : List Int} {x : PipeR} {r : List PipeR} (h : (pipesS c tabs ps l (x :: r)).2.2 = true) : ∃ q l', pipeS c tabs ps l x = (some q, l') := by
  rw [pipesS] at h
  rcases he : pipeS c tabs ps l x with ⟨o, l'⟩
  rw [he] at h
  cases o with
  | none => cases h
  | some q => exact ⟨q, l', rfl⟩
theorem rdI_succ {α : Type} [Inhabited α] (x : α) (l : List α) (n : Nat) : rdI (x :: l) ((n + 1 : Nat) : Int) = rdI l (n : Nat) := by
  simp [rdI]
/-! another Sink -/
def setSink (l : List PipeR) (k : Nat) (s : Int) : List PipeR := l.set k ⟨(rdI l (k : Nat)).scan, (rdI l (k : Nat)).steps, s⟩
theorem pipesS_set {c : CoreT} {tabs : List (List Int)} : ∀ (r : List PipeR) (ps : List PlanT) (l : List Int) (k : Nat) (s : Int), k < r.length → (pipesS c tabs ps l r).2.2 = true → s ≠ (rdI r (k : Nat)).sink → ∃ R1 R2, pipesS c tabs ps l (setSink r k s) = (R1, R2, false) ∧ R1.length = ps.length + k
  | [], _, _, _, _, h, _, _ => by simp at h
  | x :: r, ps, l, 0, s, _, h, hs => by
    obtain ⟨q, l', he⟩ := pipesS_right h
    obtain ⟨h1, -, -⟩ := pipeS_sink he
    have hx : rdI (x :: r) ((0 : Nat) : Int) = x := rfl
    rw [hx] at hs
    refine ⟨ps, l, ?_, rfl⟩
    unfold setSink
    rw [hx, List.set_cons_zero, pipesS, pipeS_none (by rw [← h1]; exact hs)]
  | x :: r, ps, l, k + 1, s, hk, h, hs => by
    obtain ⟨q, l', he⟩ := pipesS_right h
    rw [pipesS_cons he] at h
    rw [rdI_succ] at hs
    obtain ⟨R1, R2, h1, h2⟩ := pipesS_set r (ps ++ [q]) l' k s (by simpa using hk) h hs
    refine ⟨R1, R2, ?_, by rw [h2, List.length_append, List.length_singleton]; omega⟩
    unfold setSink at h1 ⊢
    rw [rdI_succ, List.set_cons_succ, pipesS_cons he, h1]
theorem set_self {l : List PipeR} {k : Nat} (h : k < l.length) : setSink l k (rdI l (k : Nat)).sink = l := by
  unfold setSink
  have : (rdI l (k : Nat)) = l[k] := by simp [rdI, List.getD_eq_getElem?_getD, h]
  rw [this]
  exact List.set_getElem_self h
theorem sink_law {c : CoreT} {r : ProgR} (h : (checkS c r).2.2 = 0) (k : Nat) (hk : k < r.pipes.length) (s : Int) :
    (s ≠ (rdI r.pipes (k : Nat)).sink → (checkS c ⟨r.tabs, setSink r.pipes k s⟩).2 = ((k : Int), 181)) ∧ (s = (rdI r.pipes (k : Nat)).sink → (checkS c ⟨r.tabs, setSink r.pipes k s⟩).2.2 = 0) := by
  rw [checkS_e] at h
  obtain ⟨h1, h2, h3⟩ := planS_right h
  refine ⟨fun hs => ?_, fun hs => ?_⟩
  · obtain ⟨R1, R2, hR, hl⟩ := pipesS_set r.pipes [] [] k s hk h3 hs
    have hb := planS_bad (r := ⟨r.tabs, setSink r.pipes k s⟩) h1 (by simp only [setSink, List.length_set]; exact h2) hR (by simp)
    rw [checkS_a (by rw [hb]; simp), hb]
    simp only [List.length_nil, Nat.zero_add] at hl
    simp [hl]
  · subst hs
    rw [set_self hk, checkS_e]; exact h
/-! a pipe more -/
theorem more_law {c : CoreT} {r : ProgR} (h : (checkS c r).2.2 = 0) (x : PipeR) : (checkS c ⟨r.tabs, r.pipes ++ [x]⟩).2 = (-1, 181) := by
  rw [checkS_e] at h
  obtain ⟨h1, h2, h3⟩ := planS_right h
  have hb : (planS c ⟨r.tabs, r.pipes ++ [x]⟩).2 = (-1, 181) := by
    unfold planS
    rw [if_neg h1, if_pos (by simp; omega)]
  rw [checkS_a (by rw [hb]; simp), hb]
/-! a table that nobody asks -/
theorem stepS_ext {c : CoreT} {tabs tabs' : List (List Int)} {ps ps' : List PlanT} {i i' : Int} {l l' : List Int} {p q : PlanT} {s : StepR} (hi : i ≤ i') (ht : ∀ t, 0 ≤ t → t < i → rdI tabs' t = rdI tabs t) (hp : ∀ t, 0 ≤ t → t < i → rdI ps' t = rdI ps t)
    (h : stepS c tabs ps i l p s = (some q, l')) : stepS c tabs' ps' i' l p s = (some q, l') := by
  unfold stepS at h ⊢
  split at h
  · rename_i h5
    rw [if_pos h5]
    split at h
    · cases h
    · rename_i hb
      have h0 : 0 ≤ s.table := Int.not_lt.1 fun e => hb (.inl (.inl e))
      have h1 : s.table < i := Int.not_le.1 fun e => hb (.inl (.inr e))
      rw [if_neg (fun e => by rcases e with (e | e) | e; omega; omega; exact hb (.inr e)), ht _ h0 h1, hp _ h0 h1]
      exact h
  · rename_i h5
    rw [if_neg h5]; exact h
theorem stepsS_ext {c : CoreT} {tabs tabs' : List (List Int)} {ps ps' : List PlanT} {i i' : Int} (hi : i ≤ i') (ht : ∀ t, 0 ≤ t → t < i → rdI tabs' t = rdI tabs t) (hp : ∀ t, 0 ≤ t → t < i → rdI ps' t = rdI ps t) {q : PlanT} {l' : List Int} : ∀ (r : List StepR) (l : List Int) (p : PlanT), stepsS c tabs ps i l p r = (some q, l') → stepsS c tabs' ps' i' l p r = (some q, l')
  | [], l, p, h => by rw [stepsS] at h ⊢; exact h
  | s :: r, l, p, h => by
    rw [stepsS] at h ⊢
    rcases he : stepS c tabs ps i l p s with ⟨o, l2⟩
    rw [he] at h
    cases o with
    | none => cases h
    | some q2 =>
      rw [stepS_ext hi ht hp he]
      simp only at h ⊢
      split at h
      · rename_i hb; rw [if_pos hb]; exact stepsS_ext hi ht hp r l2 q2 h
      · cases h
def Askd (N : Nat) (l : List Int) : Prop := l.Nodup ∧ ∀ t ∈ l, 0 ≤ t ∧ t < N
theorem stepS_rng {c : CoreT} {tabs : List (List Int)} {ps : List PlanT} {i : Int} {N : Nat} (hi : i ≤ N) {l : List Int} {p : PlanT} {s : StepR} (h : Askd N l) : Askd N (stepS c tabs ps i l p s).2 := by
  unfold stepS
  split
  · split
    · exact h
    · rename_i hb
      refine ⟨List.nodup_append.2 ⟨h.1, by simp, fun a ha b hb2 => ?_⟩, fun t ht => ?_⟩
      · rw [List.mem_singleton.1 hb2]
        rintro rfl
        exact hb (.inr ha)
      · rcases List.mem_append.1 ht with ht | ht
        · exact h.2 t ht
        · rw [List.mem_singleton.1 ht]
          exact ⟨Int.not_lt.1 fun e => hb (.inl (.inl e)), by have := Int.not_le.1 fun e => hb (.inl (.inr e)); omega⟩
  · exact h
theorem stepsS_rng {c : CoreT} {tabs : List (List Int)} {ps : List PlanT} {i : Int} {N : Nat} (hi : i ≤ N) : ∀ (r : List StepR) (l : List Int) (p : PlanT), Askd N l → Askd N (stepsS c tabs ps i l p r).2
  | [], l, p, h => by rw [stepsS]; exact h
  | s :: r, l, p, h => by
    have h1 := stepS_rng (c := c) (tabs := tabs) (ps := ps) (p := p) (s := s) hi h
    rw [stepsS]
    rcases he : stepS c tabs ps i l p s with ⟨o, l2⟩
    rw [he] at h1
    cases o with
    | none => exact h1
    | some q =>
      simp only
      split
      · exact stepsS_rng hi r l2 q h1
      · exact h1
theorem pipesS_rng {c : CoreT} {tabs : List (List Int)} {N : Nat} : ∀ (r : List PipeR) (ps : List PlanT) (l : List Int), ps.length + r.length ≤ N + 1 → Askd N l → Askd N (pipesS c tabs ps l r).2.1
  | [], ps, l, _, h => by rw [pipesS]; exact h
  | x :: r, ps, l, hl, h => by
    simp only [List.length_cons] at hl
    have h1 : Askd N (pipeS c tabs ps l x).2 := by
      unfold pipeS
      split
      · exact h
      · exact stepsS_rng (by omega) _ _ _ h
    rw [pipesS]
    rcases he : pipeS c tabs ps l x with ⟨o, l2⟩
    rw [he] at h1
    cases o with
    | none => exact h1
    | some q => exact pipesS_rng r (ps ++ [q]) l2 (by rw [List.length_append, List.length_singleton]; omega) h1
theorem asked_len : ∀ (N : Nat) (l : List Int), Askd N l → l.length ≤ N
  | 0, l, h => by
    cases l with
    | nil => simp
    | cons t r => have := h.2 t (by simp); omega
  | N + 1, l, h => by
    by_cases hm : (N : Int) ∈ l
    · have h1 := asked_len N (l.erase (N : Int)) ⟨h.1.erase _, fun t ht => by
        have ht2 := List.mem_of_mem_erase ht
        have := h.2 t ht2
        have hne : t ≠ N := fun e => by subst e; exact List.Nodup.not_mem_erase h.1 ht
        omega⟩
      rw [List.length_erase_of_mem hm] at h1
      omega
    · have h1 := asked_len N l ⟨h.1, fun t ht => by
        have := h.2 t ht
        have hne : t ≠ N := fun e => by subst e; exact hm ht
        omega⟩
      omega
theorem rdI_app {α : Type} [Inhabited α] {l m : List α} {t : Int} (h0 : 0 ≤ t) (h : t < (l.length : Int)) : rdI (l ++ m) t = rdI l t := by
  unfold rdI
  rw [List.getD_eq_getElem?_getD, List.getD_eq_getElem?_getD, List.getElem?_append_left (by omega)]
theorem pipesS_ext {c : CoreT} {tabs : List (List Int)} : ∀ (a : List PipeR) (ps : List PlanT) (l : List Int), ps.length + a.length ≤ tabs.length → (pipesS c tabs ps l a).2.2 = true → pipesS c (tabs ++ [[]]) ps l a = pipesS c tabs ps l a
  | [], _, _, _, _ => by rw [pipesS, pipesS]
  | x :: r, ps, l, hl, h => by
    simp only [List.length_cons] at hl
    obtain ⟨q, l', he⟩ := pipesS_right h
    obtain ⟨h1, h2, h3⟩ := pipeS_sink he
    rw [pipesS_cons he] at h
    have he' : pipeS c (tabs ++ [[]]) ps l x = (some q, l') := pipeS_mk (by
      rw [h1]; unfold sinkS; rw [if_neg (by omega), if_neg (by simp; omega)]) h2 (stepsS_ext (Int.le_refl _) (fun t g0 g1 => rdI_app g0 (by omega)) (fun _ _ _ => rfl) _ _ _ h3)
    rw [pipesS_cons he, pipesS_cons he']
    exact pipesS_ext r (ps ++ [q]) l' (by rw [List.length_append, List.length_singleton]; omega) h
theorem pipesS_app {c : CoreT} {tabs : List (List Int)} {b : List PipeR} : ∀ (a : List PipeR) (ps : List PlanT) (l : List Int), (pipesS c tabs ps l a).2.2 = true → pipesS c tabs ps l (a ++ b) = pipesS c tabs (pipesS c tabs ps l a).1 (pipesS c tabs ps l a).2.1 b
  | [], ps, l, _ => by rw [pipesS]; rfl
  | x :: r, ps, l, h => by
    obtain ⟨q, l', he⟩ := pipesS_right h
    rw [pipesS_cons he] at h
    rw [List.cons_append, pipesS_cons he, pipesS_cons he]
    exact pipesS_app r _ _ h
theorem pipesS_pre {c : CoreT} {tabs : List (List Int)} {b : List PipeR} : ∀ (a : List PipeR) (ps : List PlanT) (l : List Int), (pipesS c tabs ps l (a ++ b)).2.2 = true → (pipesS c tabs ps l a).2.2 = true
  | [], ps, l, _ => by rw [pipesS]
  | x :: r, ps, l, h => by
    rw [List.cons_append] at h
    obtain ⟨q, l', he⟩ := pipesS_right h
    rw [pipesS_cons he] at h ⊢
    exact pipesS_pre r _ _ h
theorem scan0 {c : CoreT} (h : patS c.nodes c.edges = true) : (bndT c (scanT 0)).isSome = true := by
  have := (pat_rng h).1
  rw [bndT_eq]
  rw [if_pos (by rfl)]
  show ((bndL c []).bind (opS c (scanT 0))).isSome = true
  rw [bndL]
  simp only [Option.bind_some]
  unfold opS
  rw [if_pos (by rfl), if_pos ⟨by simp, by simp; omega⟩]
  rfl
/-- a pipe and a table more, behind all others but the last -/
def noneR (r : ProgR) : ProgR := ⟨r.tabs ++ [[]], r.pipes.take r.tabs.length ++ [⟨0, [], r.tabs.length⟩, rdI r.pipes r.tabs.length]⟩
theorem none_law {c : CoreT} {r : ProgR} (h : (checkS c r).2.2 = 0) : (checkS c (noneR r)).2 = (((r.tabs.length + 1 : Nat) : Int), 181) := by
  rw [checkS_e] at h
  obtain ⟨h1, h2, h3⟩ := planS_right h
  have hsp : r.pipes = r.pipes.take r.tabs.length ++ [rdI r.pipes r.tabs.length] := by
    rw [← take_rd (by omega), List.take_of_length_le (by omega)]
  obtain ⟨a, ha⟩ : ∃ z, r.pipes.take r.tabs.length = z := ⟨_, rfl⟩
  obtain ⟨z, hz⟩ : ∃ z, rdI r.pipes r.tabs.length = z := ⟨_, rfl⟩
  have hal : a.length = r.tabs.length := by rw [← ha, List.length_take]; omega
  rw [ha, hz] at hsp
  rw [hsp] at h3
  have hpre := pipesS_pre _ _ _ h3
  have happ := pipesS_app (b := [z]) _ _ _ hpre
  have hext := pipesS_ext a [] [] (by simp; omega) hpre
  have hlen := pipesS_len (c := c) (tabs := r.tabs) a [] []
  rw [hpre] at hlen
  simp only [if_true, List.length_nil, Nat.zero_add] at hlen
  rcases hA : pipesS c r.tabs [] [] a with ⟨ps, l, t3⟩
  rw [hA] at hpre happ hext hlen
  simp only at hpre happ hlen
  subst hpre
  rw [happ] at h3
  obtain ⟨q, l', he⟩ := pipesS_right h3
  obtain ⟨e1, e2, e3⟩ := pipeS_sink he
  have hy : pipeS c (r.tabs ++ [[]]) ps l ⟨0, [], r.tabs.length⟩ = (some (scanT 0), l) := pipeS_mk (by
    show (r.tabs.length : Int) = sinkS (r.tabs ++ [[]]) ps.length
    unfold sinkS
    rw [if_neg (by simp; omega)]
    omega) (scan0 (trans_pat h1)) rfl
  have hzz : pipeS c (r.tabs ++ [[]]) (ps ++ [scanT 0]) l z = (some q, l') := pipeS_mk (by
    rw [e1]
    unfold sinkS
    rw [if_pos (by omega), if_pos (by simp; omega)]) e2 (stepsS_ext (i := (ps.length : Int)) (by simp; omega) (fun t g0 g1 => rdI_app g0 (by omega)) (fun t g0 g1 => rdI_app g0 g1) _ _ _ e3)
  have hR : pipesS c (r.tabs ++ [[]]) [] [] (a ++ [⟨0, [], r.tabs.length⟩, z]) = (ps ++ [scanT 0] ++ [q], l', true) := by
    rw [pipesS_app _ _ _ (by rw [hext]), hext]
    simp only
    rw [pipesS_cons hy, pipesS_cons hzz, pipesS]
  have hask : Askd r.tabs.length l' := by
    have := pipesS_rng (c := c) (tabs := r.tabs) (N := r.tabs.length) r.pipes [] [] (by simp; omega) ⟨by simp, by simp⟩
    rw [hsp, happ, pipesS_cons he, pipesS] at this
    exact this
  have hb := planS_bad (r := noneR r) (R1 := ps ++ [scanT 0] ++ [q]) (R2 := l') (R3 := true) h1 (by unfold noneR; rw [ha]; simp; omega) (by unfold noneR; rw [ha, hz]; exact hR) (fun _ => by
    have := asked_len _ _ hask
    unfold noneR; simp; omega)
  rw [checkS_a (by rw [hb]; simp), hb]
  simp [noneR]
end Go.Proofs.Ytimgbdkgjfbhkaa.Z
end
section
set_option maxRecDepth 100000
namespace Go.Proofs.Ytimgbdkgjfbhkaa.Z
open Go Go.Fw
attribute [-simp] litV
attribute [local simp] litV_agg litV_int litV_str litV_bool litV_slice litV_tup
theorem SubL.refl : ∀ l : List D, SubL l l
  | [] => trivial
  | x :: r => ⟨.refl x, SubL.refl r⟩
theorem DSub.slA {nn : Bool} {A B B' : List (List D)} (hl : B.length = B'.length) (h : ∀ (i : Nat) (x y : List D), B[i]? = some x → B'[i]? = some y → SubL x y) : DSub (.sl nn (A ++ B)) (.sl nn (A ++ B')) :=
  DSub.sl (by simp [hl]) fun i x y hx hy => by
    by_cases hi : i < A.length
    · rw [List.getElem?_append_left hi] at hx hy
      rw [hx] at hy; cases hy; exact SubL.refl _
    · rw [List.getElem?_append_right (by omega)] at hx hy
      exact h _ _ _ hx hy
set_option maxHeartbeats 8000000 in
theorem sinks0_ok (c : CoreT) (r : ProgR) (w : Nat) (s : Int) (d1 : D) (a1 e1 W : Int) (hC1 : Snd P 9 [.d (.ag (encPr r)), .d (.ag (encC c))] (.tup [.d d1, .int a1, .int e1]) []) (hW : Snd P 10 [.d (.ag (encPr r)), .int 300] (.int W) []) (hor : (!decide (e1 = 0) || decide (300 < W)) = true) : Snd P 3 [.d (.ag (encPr r)), .d (.ag (encC c)), .d (.lit (.int .u8 (w : Nat))), .int s] (.bool true) [] := by
  simp only [encPr] at hC1 hW
  refine snd_of [] Try.func3 rfl (by kernel_rfl) Try.ntmps3 (by simp) ?_
  unfold Try.f3
  simp only [List.cons_append, List.nil_append, List.length_cons, List.length_nil, Nat.reduceAdd, Nat.reduceSub, List.replicate]
  refine Run.seq ?_
  refine opsF oo80 fun K hK => ?_
  try simp
  repeat' first | ((refine evL_c ?_); simp) | (with_reducible refine And.intro ?_ ?_) | intro _ | (with_reducible assumption) | omega
  all_goals (refine Fin.go hK ?_; clear hK K)
  simp only [Then_normal]
  refine Run.seq ?_
  refine opsF oo81 fun K hK => ?_
  try simp
  repeat' first | (refine ecallD (by exact head_ok) ?_) | ((refine evL_c ?_); simp) | (with_reducible refine And.intro ?_ ?_) | intro _ | (with_reducible assumption) | omega
  all_goals (refine Fin.go hK ?_; clear hK K)
  simp only [Then_normal]
  refine Run.seq ?_
  refine opsF oo82 fun K hK => ?_
  try simp
  repeat' first | (refine ecall (by exact hC1) rfl ?_) | ((refine evL_c ?_); simp) | (with_reducible refine And.intro ?_ ?_) | intro _ | (with_reducible assumption) | omega
  all_goals (refine Fin.go hK ?_; clear hK K)
  simp only [Then_normal]
  refine Run.seq ?_
  refine Run.cut [29, 30, 31, 32, 33, 34, 35, 36, 37, 38, 39] [(39, .bool (!decide (e1 = 0) || decide (300 < W)))] [(500, .vals ((encPr r).map .d)), (600, .vals ((encC c).map .d))] ?_ ?_
  · refine opsF oo83 fun K hK => ?_
    try simp
    repeat' first | (refine ecallD (by exact hW) ?_) | ((first | refine evL_c ?_ | (refine evL_g rfl ?_; try simp only [gs_tt, gs_ff, gs_tf, gs_ft]) | refine evL_u rfl ?_ | (with_reducible refine gsplit (fun hg => ?_) (fun hg => ?_) <;> try simp at hg)) <;> try simp) | (with_reducible refine And.intro ?_ ?_) | intro _ | (with_reducible assumption) | omega
    all_goals (refine Fin.go hK ?_; clear hK K)
    all_goals
      (try simp) <;> (first | omega | (simp; done) | (simp_all; done) | grind)
  · simp only [over, List.foldl, List.set]
    refine Run.cond rfl (fun h39 => ?_) (fun h39 => ?_)
    · skip
      refine Run.seq ?_
      refine opsF [⟨Op.move (Operand.tmp 9), some 40, none⟩, ⟨Op.assign (Operand.tmp 40), some 8, none⟩] fun K hK => ?_
      try simp
      repeat' first | ((refine evL_c ?_); simp) | (with_reducible refine And.intro ?_ ?_) | intro _ | (with_reducible assumption) | omega
      all_goals (refine Fin.go hK ?_; clear hK K)
      simp only [Then_normal]
      refine Run.ret ?_
      try simp only [Then_ret, Blok_ret]
      simp
    · rw [hor] at h39
      cases h39

set_option maxHeartbeats 16000000 in
theorem sinks1_ok (c : CoreT) (r : ProgR) (w : Nat) (s : Int) (d1 d2 d3 d4 : D) (a1 a2 e2 W : Int) (nt : Nat) (hl : r.pipes.length = nt + 1) (ht : r.tabs.length = nt) (hb : nt ≤ 1100000) (hw : w ≤ 255) (hC1 : Snd P 9 [.d (.ag (encPr r)), .d (.ag (encC c))] (.tup [.d d1, .int a1, .int 0]) []) (hW : Snd P 10 [.d (.ag (encPr r)), .int 300] (.int W) []) (hor : ¬ 300 < W)
  (hC2 : Snd P 9 [.d (.ag (encPr ⟨r.tabs, setSink r.pipes (w % (nt + 1)) s⟩)), .d (.ag (encC c))] (.tup [.d d2, .int a2, .int e2]) []) (hA : s ≠ (rdI r.pipes ((w % (nt + 1) : Nat) : Int)).sink → e2 = 181 ∧ a2 = (w % (nt + 1) : Nat)) (hB : s = (rdI r.pipes ((w % (nt + 1) : Nat) : Int)).sink → e2 = 0)
  (hC3 : Snd P 9 [.d (.ag (encPr ⟨r.tabs, r.pipes ++ [⟨0, [], -1⟩]⟩)), .d (.ag (encC c))] (.tup [.d d3, .int (-1), .int 181]) []) (hC4 : Snd P 9 [.d (.ag (encPr (noneR r))), .d (.ag (encC c))] (.tup [.d d4, .int (nt + 1 : Nat), .int 181]) []) : Snd P 3 [.d (.ag (encPr r)), .d (.ag (encC c)), .d (.lit (.int .u8 (w : Nat))), .int s] (.bool true) [] := by
  obtain ⟨k, hk⟩ : ∃ z, w % (nt + 1) = z := ⟨_, rfl⟩
  have hkn : k < nt + 1 := by rw [← hk]; exact Nat.mod_lt _ (by omega)
  have hkm : Int.tmod (w : Int) ((nt : Int) + 1) = k := by rw [← hk]; exact (Int.ofNat_tmod w (nt + 1)).symm
  rw [hk] at hC2 hA hB
  obtain ⟨x, hx⟩ : ∃ z, rdI r.pipes (k : Nat) = z := ⟨_, rfl⟩
  rw [hx] at hA hB
  have hset : (r.pipes.map encPi).set k [.int x.scan, .sl false (x.steps.map encR), .int s] = (setSink r.pipes k s).map encPi := by
    unfold setSink
    rw [List.map_set, hx]; rfl
  obtain ⟨L2, hL2⟩ : ∃ z, setSink r.pipes k s = z := ⟨_, rfl⟩
  rw [hL2] at hset hC2
  have hrow : rowN (r.pipes.map encPi) k = [.int x.scan, .sl false (x.steps.map encR), .int x.sink] := by
    rw [rowN_map (by omega), hx]; rfl
  obtain ⟨z, hz⟩ : ∃ z, rdI r.pipes (nt : Nat) = z := ⟨_, rfl⟩
  have hrz : Fw.rowAt (r.pipes.map encPi) (nt : Nat) = [.int z.scan, .sl false (z.steps.map encR), .int z.sink] := by
    rw [rowAt_map (by omega) (by omega), hz]; rfl
  have hD3 := snd_sub (args := [.d (.ag [encTa r.tabs, .sl false (r.pipes.map encPi ++ [[.int 0, .lit (.slice none 0 0), .int (-1)]])]), .d (.ag (encC c))]) hC3 ⟨DSub.ag ⟨.refl _, by
      simp only [List.map_append]
      exact DSub.slA rfl (fun i x y hx hy => by
        cases i with
        | zero => cases hx; cases hy; exact ⟨.refl _, DSub.nil, .refl _, trivial⟩
        | succ i => cases hx), trivial⟩, .refl _, trivial⟩
  have hD4 := snd_sub (args := [.d (.ag [.sl false (r.tabs.map (fun l => [D.sl false (l.map encI)]) ++ [[.lit (.slice none 0 0)]]), .sl false ((r.pipes.map encPi).take nt ++ [[.int 0, .lit (.slice none 0 0), .int nt], [.int z.scan, .sl false (z.steps.map encR), .int z.sink]])]), .d (.ag (encC c))]) hC4 ⟨DSub.ag ⟨by
      simp only [noneR, encTa, List.map_append]
      exact DSub.slA rfl (fun i x y hx hy => by
        cases i with
        | zero => cases hx; cases hy; exact ⟨DSub.nil, trivial⟩
        | succ i => cases hx), by
      simp only [noneR, ht, hz, List.map_append, List.map_take]
      exact DSub.slA rfl (fun i x y hx hy => by
        cases i with
        | zero => cases hx; cases hy; exact ⟨.refl _, DSub.nil, .refl _, trivial⟩
        | succ i =>
          cases i with
          | zero => cases hx; cases hy; exact SubL.refl _
          | succ i => cases hx), trivial⟩, .refl _, trivial⟩
  have hwn : IntKind.i64.wrap (nt : Int) = nt := wrap_id (by omega) (by omega)
  have hw1 : IntKind.i64.wrap ((nt : Int) + 1) = nt + 1 := wrap_id (by omega) (by omega)
  have hL2l : L2.length = nt + 1 := by rw [← hL2]; simp [setSink, hl]
  have hta2 : (L2.map encPi).take (nt + 1) = L2.map encPi := List.take_of_length_le (by simp [hL2l])
  have hq0 : nt + 1 ≤ 1100002 := by omega
  have hq1 : nt + 1 + 1 ≤ 1100002 := by omega
  have hq2 : nt ≤ 1100002 := by omega
  have hq3 : nt + 2 ≤ 1100002 := by omega
  have hl3 : ∀ q : List D, q ∈ (r.pipes.map encPi).take nt → q.length = 3 := fun q hq => by
    obtain ⟨p, _, rfl⟩ := List.mem_map.1 (List.mem_of_mem_take hq); rfl
  have htt : ((r.pipes.map encPi).take nt).take nt = (r.pipes.map encPi).take nt := by rw [List.take_take, Nat.min_self]
  have hta1 : (r.pipes.map encPi).take (nt + 1) = r.pipes.map encPi := List.take_of_length_le (by simp [hl])
  have hta0 : (r.tabs.map (fun l => [D.sl false (l.map encI)])).take nt = r.tabs.map (fun l => [D.sl false (l.map encI)]) := List.take_of_length_le (by simp [ht])
  have hta3 : ∀ x : List D, (r.pipes.map encPi ++ [x]).take (nt + 1 + 1) = r.pipes.map encPi ++ [x] := fun x => List.take_of_length_le (by simp [hl])
  have hta4 : ∀ x y : List D, ((r.pipes.map encPi).take nt ++ [x, y]).take (nt + 2) = (r.pipes.map encPi).take nt ++ [x, y] := fun x y => List.take_of_length_le (by simp [hl])
  have hta5 : ∀ x : List D, (r.tabs.map (fun l => [D.sl false (l.map encI)]) ++ [x]).take (nt + 1) = r.tabs.map (fun l => [D.sl false (l.map encI)]) ++ [x] := fun x => List.take_of_length_le (by simp [ht])
  have hww : IntKind.i64.wrap (w : Int) = w := wrap_id (by omega) (by omega)
  have hw2 : IntKind.i64.wrap ((nt : Int) + 2 - 1) = nt + 1 := (wrap_id (by omega) (by omega)).trans (by omega)
  have hmin : min nt (nt + 1) = nt := by omega
  simp only [encPr] at hC1 hW hC2
  refine snd_of [] Try.func3 rfl (by kernel_rfl) Try.ntmps3 (by simp) ?_
  unfold Try.f3
  simp only [List.cons_append, List.nil_append, List.length_cons, List.length_nil, Nat.reduceAdd, Nat.reduceSub, List.replicate]
  refine Run.seq ?_
  refine opsF oo80 fun K hK => ?_
  try simp
  repeat' first | ((refine evL_c ?_); simp [hl, ht, hkm, hkn, hwn, hw1, hw2, hmin, hww, hta1, hta0, htt]) | (with_reducible refine And.intro ?_ ?_) | (first | exact hl3 | exact Nat.le_trans (Nat.mul_le_mul_right _ (show _ ≤ 1100002 from by first | exact hq0 | exact hq1 | exact hq2 | exact hq3)) (by decide)) | intro _ | (with_reducible assumption) | omega
  all_goals (refine Fin.go hK ?_; clear hK K)
  simp only [Then_normal]
  refine Run.seq ?_
  refine opsF oo81 fun K hK => ?_
  try simp
  repeat' first | (refine ecallD (by exact head_ok) ?_) | ((refine evL_c ?_); simp [hl, ht, hkm, hkn, hwn, hw1, hw2, hmin, hww, hta1, hta0, htt]) | (with_reducible refine And.intro ?_ ?_) | (first | exact hl3 | exact Nat.le_trans (Nat.mul_le_mul_right _ (show _ ≤ 1100002 from by first | exact hq0 | exact hq1 | exact hq2 | exact hq3)) (by decide)) | intro _ | (with_reducible assumption) | omega
  all_goals (refine Fin.go hK ?_; clear hK K)
  simp only [Then_normal]
  refine Run.seq ?_
  refine opsF oo82 fun K hK => ?_
  try simp
  repeat' first | (refine ecall (by exact hC1) rfl ?_) | ((refine evL_c ?_); simp [hl, ht, hkm, hkn, hwn, hw1, hw2, hmin, hww, hta1, hta0, htt]) | (with_reducible refine And.intro ?_ ?_) | (first | exact hl3 | exact Nat.le_trans (Nat.mul_le_mul_right _ (show _ ≤ 1100002 from by first | exact hq0 | exact hq1 | exact hq2 | exact hq3)) (by decide)) | intro _ | (with_reducible assumption) | omega
  all_goals (refine Fin.go hK ?_; clear hK K)
  simp only [Then_normal]
  refine Run.seq ?_
  refine Run.cut [29, 30, 31, 32, 33, 34, 35, 36, 37, 38, 39] [(39, .bool false)] [(500, .vals ((encPr r).map .d)), (600, .vals ((encC c).map .d))] ?_ ?_
  · refine opsF oo83 fun K hK => ?_
    try simp
    repeat' first | (refine ecallD (by exact hW) ?_) | ((first | refine evL_c ?_ | (refine evL_g rfl ?_; try simp only [gs_tt, gs_ff, gs_tf, gs_ft]) | refine evL_u rfl ?_ | (with_reducible refine gsplit (fun hg => ?_) (fun hg => ?_) <;> try simp at hg)) <;> try simp [hl, ht, hkm, hkn, hwn, hw1, hw2, hmin, hww, hta1, hta0, htt]) | (with_reducible refine And.intro ?_ ?_) | (first | exact hl3 | exact Nat.le_trans (Nat.mul_le_mul_right _ (show _ ≤ 1100002 from by first | exact hq0 | exact hq1 | exact hq2 | exact hq3)) (by decide)) | intro _ | (with_reducible assumption) | omega
    all_goals (refine Fin.go hK ?_; clear hK K)
    all_goals
      (try simp [hor]) <;> (first | omega | (simp; done) | (simp_all; done) | grind)
  · simp only [over, List.foldl, List.set]
    refine Run.cond rfl (fun h39 => ?_) (fun h39 => ?_)
    · simp at h39
    · skip
      refine Run.skip ?_
      simp only [Then_normal]
      refine Run.seq ?_
      refine opsF [⟨Op.move (Operand.tmp 2), some 41, none⟩, ⟨Op.convert 5 3 (Operand.tmp 41), some 42, none⟩, ⟨Op.fieldAddr 25 (Operand.tmp 4) 1, some 43, none⟩, ⟨Op.load 23 (Operand.tmp 43), some 44, none⟩, ⟨Op.call { callee := Callee.builtin Builtin.len, args := #[Operand.tmp 44], argTypes := #[23] }, some 45, none⟩, ⟨Op.binOp BinOp.rem 3 (Operand.tmp 42) (Operand.tmp 45) 3, some 46, none⟩, ⟨Op.assign (Operand.tmp 46), some 13, none⟩] fun K hK => ?_
      try simp
      repeat' first | ((refine evL_c ?_); simp [hl, ht, hkm, hkn, hwn, hw1, hw2, hmin, hww, hta1, hta0, htt]) | (with_reducible refine And.intro ?_ ?_) | (first | exact hl3 | exact Nat.le_trans (Nat.mul_le_mul_right _ (show _ ≤ 1100002 from by first | exact hq0 | exact hq1 | exact hq2 | exact hq3)) (by decide)) | intro _ | (with_reducible assumption) | omega
      all_goals (refine Fin.go hK ?_; clear hK K)
      simp only [Then_normal]
      refine Run.seq ?_
      refine opsF [⟨Op.load 25 (Operand.tmp 4), some 47, none⟩, ⟨Op.alloc 25, some 14, none⟩, ⟨Op.store 25 (Operand.tmp 14) (Operand.tmp 47), none, none⟩] fun K hK => ?_
      try simp
      repeat' first | ((refine evL_c ?_); simp [hl, ht, hkm, hkn, hwn, hw1, hw2, hmin, hww, hta1, hta0, htt]) | (with_reducible refine And.intro ?_ ?_) | (first | exact hl3 | exact Nat.le_trans (Nat.mul_le_mul_right _ (show _ ≤ 1100002 from by first | exact hq0 | exact hq1 | exact hq2 | exact hq3)) (by decide)) | intro _ | (with_reducible assumption) | omega
      all_goals (refine Fin.go hK ?_; clear hK K)
      simp only [Then_normal]
      refine Run.seq ?_
      refine opsF [⟨Op.buildSlice 23 0 #[], some 48, none⟩, ⟨Op.fieldAddr 25 (Operand.tmp 4) 1, some 49, none⟩, ⟨Op.load 23 (Operand.tmp 49), some 50, none⟩, ⟨Op.call { callee := Callee.builtin Builtin.append, args := #[Operand.tmp 48, Operand.tmp 50], argTypes := #[23, 23] }, some 51, none⟩, ⟨Op.fieldAddr 25 (Operand.tmp 14) 1, some 52, none⟩, ⟨Op.store 23 (Operand.tmp 52) (Operand.tmp 51), none, none⟩] fun K hK => ?_
      try simp
      repeat' first | ((refine evL_c ?_); simp [hl, ht, hkm, hkn, hwn, hw1, hw2, hmin, hww, hta1, hta0, htt]) | (with_reducible refine And.intro ?_ ?_) | (first | exact hl3 | exact Nat.le_trans (Nat.mul_le_mul_right _ (show _ ≤ 1100002 from by first | exact hq0 | exact hq1 | exact hq2 | exact hq3)) (by decide)) | intro _ | (with_reducible assumption) | omega
      all_goals (refine Fin.go hK ?_; clear hK K)
      simp only [Then_normal]
      refine Run.seq ?_
      refine opsF [⟨Op.fieldAddr 25 (Operand.tmp 14) 1, some 53, none⟩, ⟨Op.load 23 (Operand.tmp 53), some 54, none⟩, ⟨Op.move (Operand.tmp 13), some 55, none⟩, ⟨Op.indexAddr 23 (Operand.tmp 54) (Operand.tmp 55), some 56, none⟩, ⟨Op.fieldAddr 41 (Operand.tmp 56) 2, some 57, none⟩, ⟨Op.load 3 (Operand.tmp 57), some 58, none⟩, ⟨Op.assign (Operand.tmp 58), some 15, none⟩] fun K hK => ?_
      try simp
      repeat' first | ((refine evL_c ?_); simp [hl, ht, hkm, hkn, hwn, hw1, hw2, hmin, hww, hta1, hta0, htt, hrow]) | (with_reducible refine And.intro ?_ ?_) | (first | exact hl3 | exact Nat.le_trans (Nat.mul_le_mul_right _ (show _ ≤ 1100002 from by first | exact hq0 | exact hq1 | exact hq2 | exact hq3)) (by decide)) | intro _ | (with_reducible assumption) | omega
      all_goals (refine Fin.go hK ?_; clear hK K)
      simp only [Then_normal]
      refine Run.seq ?_
      refine opsF [⟨Op.fieldAddr 25 (Operand.tmp 14) 1, some 59, none⟩, ⟨Op.load 23 (Operand.tmp 59), some 60, none⟩, ⟨Op.move (Operand.tmp 13), some 61, none⟩, ⟨Op.move (Operand.tmp 3), some 62, none⟩, ⟨Op.indexAddr 23 (Operand.tmp 60) (Operand.tmp 61), some 63, none⟩, ⟨Op.fieldAddr 41 (Operand.tmp 63) 2, some 64, none⟩, ⟨Op.store 3 (Operand.tmp 64) (Operand.tmp 62), none, none⟩] fun K hK => ?_
      try simp
      repeat' first | ((refine evL_c ?_); simp [hl, ht, hkm, hkn, hwn, hw1, hw2, hmin, hww, hta1, hta0, htt, hrow, hset]) | (with_reducible refine And.intro ?_ ?_) | (first | exact hl3 | exact Nat.le_trans (Nat.mul_le_mul_right _ (show _ ≤ 1100002 from by first | exact hq0 | exact hq1 | exact hq2 | exact hq3)) (by decide)) | intro _ | (with_reducible assumption) | omega
      all_goals (refine Fin.go hK ?_; clear hK K)
      simp only [Then_normal]
      refine Run.fra 5200 ?_
      simp [V.fra, V.fraL, fraS, frz, hL2l, hta2]
      refine Run.seq ?_
      refine opsF [⟨Op.load 25 (Operand.tmp 14), some 66, none⟩, ⟨Op.load 32 (Operand.tmp 5), some 67, none⟩, ⟨Op.call { callee := Callee.value (Operand.func 9), args := #[Operand.tmp 66, Operand.tmp 67], argTypes := #[25, 32] }, some 68, none⟩, ⟨Op.move (Operand.tmp 68), some 65, none⟩, ⟨Op.extract (Operand.tmp 65) 0, some 69, none⟩, ⟨Op.extract (Operand.tmp 65) 1, some 70, none⟩, ⟨Op.extract (Operand.tmp 65) 2, some 71, none⟩, ⟨Op.assign (Operand.tmp 69), some 16, none⟩, ⟨Op.assign (Operand.tmp 70), some 17, none⟩, ⟨Op.assign (Operand.tmp 71), some 18, none⟩] fun K hK => ?_
      try simp
      repeat' first | (refine ecall (by exact hC2) rfl ?_) | ((refine evL_c ?_); simp [hl, ht, hkm, hkn, hwn, hw1, hw2, hmin, hww, hta1, hta0, htt]) | (with_reducible refine And.intro ?_ ?_) | (first | exact hl3 | exact Nat.le_trans (Nat.mul_le_mul_right _ (show _ ≤ 1100002 from by first | exact hq0 | exact hq1 | exact hq2 | exact hq3)) (by decide)) | intro _ | (with_reducible assumption) | omega
      all_goals (refine Fin.go hK ?_; clear hK K)
      simp only [Then_normal]
      refine Run.seq ?_
      refine Run.cut [72, 73, 74, 75, 76, 77, 78, 79, 80, 81, 82, 83, 84, 85, 86, 87, 88, 89, 90, 91, 92] [(92, .bool false)] [(500, .vals ((encPr r).map .d)), (600, .vals ((encC c).map .d))] ?_ ?_
      · refine opsF [⟨Op.move (Operand.tmp 3), some 72, none⟩, ⟨Op.move (Operand.tmp 15), some 73, none⟩, ⟨Op.binOp BinOp.neq 3 (Operand.tmp 72) (Operand.tmp 73) 3, some 74, none⟩, ⟨Op.move (Operand.tmp 74), some 75, none⟩, ⟨Op.move (Operand.tmp 18), some 76, some (some 75, true)⟩, ⟨Op.binOp BinOp.neq 35 (Operand.tmp 76) (Operand.const (Value.int IntKind.i64 181)) 35, some 77, some (some 75, true)⟩, ⟨Op.move (Operand.tmp 77), some 78, some (some 75, true)⟩, ⟨Op.move (Operand.tmp 17), some 79, some (some 78, false)⟩, ⟨Op.move (Operand.tmp 13), some 80, some (some 78, false)⟩, ⟨Op.binOp BinOp.neq 3 (Operand.tmp 79) (Operand.tmp 80) 3, some 81, some (some 78, false)⟩, ⟨Op.pick (Operand.tmp 78) (Operand.const (Value.bool true)) (Operand.tmp 81), some 82, some (some 75, true)⟩, ⟨Op.pick (Operand.tmp 75) (Operand.tmp 82) (Operand.const (Value.bool false)), some 83, none⟩, ⟨Op.move (Operand.tmp 83), some 84, none⟩, ⟨Op.move (Operand.tmp 3), some 85, some (some 84, false)⟩, ⟨Op.move (Operand.tmp 15), some 86, some (some 84, false)⟩, ⟨Op.binOp BinOp.eql 3 (Operand.tmp 85) (Operand.tmp 86) 3, some 87, some (some 84, false)⟩, ⟨Op.move (Operand.tmp 87), some 88, some (some 84, false)⟩, ⟨Op.move (Operand.tmp 18), some 89, some (some 88, true)⟩, ⟨Op.binOp BinOp.neq 35 (Operand.tmp 89) (Operand.const (Value.int IntKind.i64 0)) 35, some 90, some (some 88, true)⟩, ⟨Op.pick (Operand.tmp 88) (Operand.tmp 90) (Operand.const (Value.bool false)), some 91, some (some 84, false)⟩, ⟨Op.pick (Operand.tmp 84) (Operand.const (Value.bool true)) (Operand.tmp 91), some 92, none⟩] fun K hK => ?_
        try simp
        repeat' first | ((first | refine evL_c ?_ | (refine evL_g rfl ?_; try simp only [gs_tt, gs_ff, gs_tf, gs_ft]) | refine evL_u rfl ?_ | (with_reducible refine gsplit (fun hg => ?_) (fun hg => ?_) <;> try simp at hg)) <;> try simp [hl, ht, hkm, hkn, hwn, hw1, hw2, hmin, hww, hta1, hta0, htt]) | (with_reducible refine And.intro ?_ ?_) | (first | exact hl3 | exact Nat.le_trans (Nat.mul_le_mul_right _ (show _ ≤ 1100002 from by first | exact hq0 | exact hq1 | exact hq2 | exact hq3)) (by decide)) | intro _ | (with_reducible assumption) | omega
        all_goals (refine Fin.go hK ?_; clear hK K)
        all_goals
          by_cases hsw : s = x.sink
          · (try simp [hsw, hB hsw]) <;> (first | omega | (simp; done) | (simp_all; done) | grind)
          · (try simp [hsw, hA hsw]) <;> (first | omega | (simp; done) | (simp_all; done) | grind)
      · simp only [over, List.foldl, List.set]
        clear hA hB hk
        refine Run.cond rfl (fun h92 => ?_) (fun h92 => ?_)
        · simp at h92
        · skip
          refine Run.skip ?_
          simp only [Then_normal]
          refine Run.seq ?_
          refine opsF [⟨Op.load 25 (Operand.tmp 4), some 93, none⟩, ⟨Op.alloc 25, some 19, none⟩, ⟨Op.store 25 (Operand.tmp 19) (Operand.tmp 93), none, none⟩] fun K hK => ?_
          try simp
          repeat' first | ((refine evL_c ?_); simp [hl, ht, hkm, hkn, hwn, hw1, hw2, hmin, hww, hta1, hta0, htt]) | (with_reducible refine And.intro ?_ ?_) | (first | exact hl3 | exact Nat.le_trans (Nat.mul_le_mul_right _ (show _ ≤ 1100002 from by first | exact hq0 | exact hq1 | exact hq2 | exact hq3)) (by decide)) | intro _ | (with_reducible assumption) | omega
          all_goals (refine Fin.go hK ?_; clear hK K)
          simp only [Then_normal]
          refine Run.seq ?_
          refine opsF [⟨Op.buildSlice 23 0 #[], some 94, none⟩, ⟨Op.fieldAddr 25 (Operand.tmp 4) 1, some 95, none⟩, ⟨Op.load 23 (Operand.tmp 95), some 96, none⟩, ⟨Op.call { callee := Callee.builtin Builtin.append, args := #[Operand.tmp 94, Operand.tmp 96], argTypes := #[23, 23] }, some 97, none⟩, ⟨Op.build 41 #[(2, Operand.const (Value.int IntKind.i64 (-1)))], some 98, none⟩, ⟨Op.buildSlice 23 1 #[(0, Operand.tmp 98)], some 99, none⟩, ⟨Op.call { callee := Callee.builtin Builtin.append, args := #[Operand.tmp 97, Operand.tmp 99], argTypes := #[23, 23] }, some 100, none⟩, ⟨Op.fieldAddr 25 (Operand.tmp 19) 1, some 101, none⟩, ⟨Op.store 23 (Operand.tmp 101) (Operand.tmp 100), none, none⟩] fun K hK => ?_
          try simp
          repeat' first | ((refine evL_c ?_); simp [hl, ht, hkm, hkn, hwn, hw1, hw2, hmin, hww, hta1, hta0, htt]) | (with_reducible refine And.intro ?_ ?_) | (first | exact hl3 | exact Nat.le_trans (Nat.mul_le_mul_right _ (show _ ≤ 1100002 from by first | exact hq0 | exact hq1 | exact hq2 | exact hq3)) (by decide)) | intro _ | (with_reducible assumption) | omega
          all_goals (refine Fin.go hK ?_; clear hK K)
          simp only [Then_normal]
          refine Run.fra 10100 ?_
          simp [V.fra, V.fraL, fraS, frz, hl, hta3]
          refine Run.seq ?_
          refine opsF [⟨Op.load 25 (Operand.tmp 19), some 103, none⟩, ⟨Op.load 32 (Operand.tmp 5), some 104, none⟩, ⟨Op.call { callee := Callee.value (Operand.func 9), args := #[Operand.tmp 103, Operand.tmp 104], argTypes := #[25, 32] }, some 105, none⟩, ⟨Op.move (Operand.tmp 105), some 102, none⟩, ⟨Op.extract (Operand.tmp 102) 0, some 106, none⟩, ⟨Op.extract (Operand.tmp 102) 1, some 107, none⟩, ⟨Op.extract (Operand.tmp 102) 2, some 108, none⟩, ⟨Op.assign (Operand.tmp 107), some 17, none⟩, ⟨Op.assign (Operand.tmp 108), some 18, none⟩] fun K hK => ?_
          try simp
          repeat' first | (refine ecall (by exact hD3) rfl ?_) | ((refine evL_c ?_); simp [hl, ht, hkm, hkn, hwn, hw1, hw2, hmin, hww, hta1, hta0, htt]) | (with_reducible refine And.intro ?_ ?_) | (first | exact hl3 | exact Nat.le_trans (Nat.mul_le_mul_right _ (show _ ≤ 1100002 from by first | exact hq0 | exact hq1 | exact hq2 | exact hq3)) (by decide)) | intro _ | (with_reducible assumption) | omega
          all_goals (refine Fin.go hK ?_; clear hK K)
          simp only [Then_normal]
          refine Run.seq ?_
          refine Run.cut [109, 110, 111, 112, 113, 114] [(114, .bool false)] [(500, .vals ((encPr r).map .d)), (600, .vals ((encC c).map .d))] ?_ ?_
          · refine opsF [⟨Op.move (Operand.tmp 18), some 109, none⟩, ⟨Op.binOp BinOp.neq 35 (Operand.tmp 109) (Operand.const (Value.int IntKind.i64 181)) 35, some 110, none⟩, ⟨Op.move (Operand.tmp 110), some 111, none⟩, ⟨Op.move (Operand.tmp 17), some 112, some (some 111, false)⟩, ⟨Op.binOp BinOp.neq 3 (Operand.tmp 112) (Operand.const (Value.int IntKind.i64 (-1))) 3, some 113, some (some 111, false)⟩, ⟨Op.pick (Operand.tmp 111) (Operand.const (Value.bool true)) (Operand.tmp 113), some 114, none⟩] fun K hK => ?_
            try simp
            repeat' first | ((first | refine evL_c ?_ | (refine evL_g rfl ?_; try simp only [gs_tt, gs_ff, gs_tf, gs_ft]) | refine evL_u rfl ?_ | (with_reducible refine gsplit (fun hg => ?_) (fun hg => ?_) <;> try simp at hg)) <;> try simp [hl, ht, hkm, hkn, hwn, hw1, hw2, hmin, hww, hta1, hta0, htt]) | (with_reducible refine And.intro ?_ ?_) | (first | exact hl3 | exact Nat.le_trans (Nat.mul_le_mul_right _ (show _ ≤ 1100002 from by first | exact hq0 | exact hq1 | exact hq2 | exact hq3)) (by decide)) | intro _ | (with_reducible assumption) | omega
            all_goals (refine Fin.go hK ?_; clear hK K)
            all_goals
              (try simp) <;> (first | omega | (simp; done) | (simp_all; done) | grind)
          · simp only [over, List.foldl, List.set]
            refine Run.cond rfl (fun h114 => ?_) (fun h114 => ?_)
            · simp at h114
            · skip
              refine Run.skip ?_
              simp only [Then_normal]
              refine Run.seq ?_
              refine opsF [⟨Op.load 25 (Operand.tmp 4), some 115, none⟩, ⟨Op.alloc 25, some 20, none⟩, ⟨Op.store 25 (Operand.tmp 20) (Operand.tmp 115), none, none⟩] fun K hK => ?_
              try simp
              repeat' first | ((refine evL_c ?_); simp [hl, ht, hkm, hkn, hwn, hw1, hw2, hmin, hww, hta1, hta0, htt]) | (with_reducible refine And.intro ?_ ?_) | (first | exact hl3 | exact Nat.le_trans (Nat.mul_le_mul_right _ (show _ ≤ 1100002 from by first | exact hq0 | exact hq1 | exact hq2 | exact hq3)) (by decide)) | intro _ | (with_reducible assumption) | omega
              all_goals (refine Fin.go hK ?_; clear hK K)
              simp only [Then_normal]
              refine Run.seq ?_
              refine opsF [⟨Op.buildSlice 22 0 #[], some 116, none⟩, ⟨Op.fieldAddr 25 (Operand.tmp 4) 0, some 117, none⟩, ⟨Op.load 22 (Operand.tmp 117), some 118, none⟩, ⟨Op.call { callee := Callee.builtin Builtin.append, args := #[Operand.tmp 116, Operand.tmp 118], argTypes := #[22, 22] }, some 119, none⟩, ⟨Op.buildSlice 22 1 #[(0, Operand.const (Value.slice none 0 0))], some 120, none⟩, ⟨Op.call { callee := Callee.builtin Builtin.append, args := #[Operand.tmp 119, Operand.tmp 120], argTypes := #[22, 22] }, some 121, none⟩, ⟨Op.fieldAddr 25 (Operand.tmp 20) 0, some 122, none⟩, ⟨Op.store 22 (Operand.tmp 122) (Operand.tmp 121), none, none⟩] fun K hK => ?_
              try simp
              repeat' first | ((refine evL_c ?_); simp [hl, ht, hkm, hkn, hwn, hw1, hw2, hmin, hww, hta1, hta0, htt]) | (with_reducible refine And.intro ?_ ?_) | (first | exact hl3 | exact Nat.le_trans (Nat.mul_le_mul_right _ (show _ ≤ 1100002 from by first | exact hq0 | exact hq1 | exact hq2 | exact hq3)) (by decide)) | intro _ | (with_reducible assumption) | omega
              all_goals (refine Fin.go hK ?_; clear hK K)
              simp only [Then_normal]
              refine Run.seq ?_
              refine Run.opsB [132, 133, 134, 135, 136, 137, 138, 139, 140, 141, 142, 143] [⟨Op.buildSlice 23 0 #[], some 123, none⟩, ⟨Op.fieldAddr 25 (Operand.tmp 4) 1, some 124, none⟩, ⟨Op.load 23 (Operand.tmp 124), some 125, none⟩, ⟨Op.fieldAddr 25 (Operand.tmp 4) 1, some 126, none⟩, ⟨Op.load 23 (Operand.tmp 126), some 127, none⟩, ⟨Op.call { callee := Callee.builtin Builtin.len, args := #[Operand.tmp 127], argTypes := #[23] }, some 128, none⟩, ⟨Op.binOp BinOp.sub 3 (Operand.tmp 128) (Operand.const (Value.int IntKind.i64 1)) 3, some 129, none⟩, ⟨Op.slice 23 (Operand.tmp 125) none (some (Operand.tmp 129)) none, some 130, none⟩, ⟨Op.call { callee := Callee.builtin Builtin.append, args := #[Operand.tmp 123, Operand.tmp 130], argTypes := #[23, 23] }, some 131, none⟩, ⟨Op.fieldAddr 25 (Operand.tmp 4) 0, some 132, none⟩, ⟨Op.load 22 (Operand.tmp 132), some 133, none⟩, ⟨Op.call { callee := Callee.builtin Builtin.len, args := #[Operand.tmp 133], argTypes := #[22] }, some 134, none⟩, ⟨Op.build 41 #[(2, Operand.tmp 134)], some 135, none⟩, ⟨Op.fieldAddr 25 (Operand.tmp 4) 1, some 136, none⟩, ⟨Op.load 23 (Operand.tmp 136), some 137, none⟩, ⟨Op.fieldAddr 25 (Operand.tmp 4) 1, some 138, none⟩, ⟨Op.load 23 (Operand.tmp 138), some 139, none⟩, ⟨Op.call { callee := Callee.builtin Builtin.len, args := #[Operand.tmp 139], argTypes := #[23] }, some 140, none⟩, ⟨Op.binOp BinOp.sub 3 (Operand.tmp 140) (Operand.const (Value.int IntKind.i64 1)) 3, some 141, none⟩, ⟨Op.indexAddr 23 (Operand.tmp 137) (Operand.tmp 141), some 142, none⟩, ⟨Op.load 41 (Operand.tmp 142), some 143, none⟩, ⟨Op.buildSlice 23 2 #[(0, Operand.tmp 135), (1, Operand.tmp 143)], some 144, none⟩, ⟨Op.call { callee := Callee.builtin Builtin.append, args := #[Operand.tmp 131, Operand.tmp 144], argTypes := #[23, 23] }, some 145, none⟩, ⟨Op.fieldAddr 25 (Operand.tmp 20) 1, some 146, none⟩, ⟨Op.store 23 (Operand.tmp 146) (Operand.tmp 145), none, none⟩] mixed (by kernel_rfl) rfl (by simp [Srt]) fun K hK => ?_
              try simp
              repeat' first | ((refine evL_c ?_); simp [hl, ht, hkm, hkn, hwn, hw1, hw2, hmin, hww, hta1, hta0, htt, hrz]) | (with_reducible refine And.intro ?_ ?_) | (first | exact hl3 | exact Nat.le_trans (Nat.mul_le_mul_right _ (show _ ≤ 1100002 from by first | exact hq0 | exact hq1 | exact hq2 | exact hq3)) (by decide)) | intro _ | (with_reducible assumption) | omega
              all_goals (refine hK _ _ (by rfl) ?_; clear hK K)
              simp only [Then_normal]
              refine Run.fra 14600 ?_
              simp [V.fra, V.fraL, fraS, frz, hl, ht, hmin, htt, hta4]
              refine Run.fra 12200 ?_
              simp [V.fra, V.fraL, fraS, frz, hl, ht, hta5]
              refine Run.seq ?_
              refine opsF [⟨Op.load 25 (Operand.tmp 20), some 148, none⟩, ⟨Op.load 32 (Operand.tmp 5), some 149, none⟩, ⟨Op.call { callee := Callee.value (Operand.func 9), args := #[Operand.tmp 148, Operand.tmp 149], argTypes := #[25, 32] }, some 150, none⟩, ⟨Op.move (Operand.tmp 150), some 147, none⟩, ⟨Op.extract (Operand.tmp 147) 0, some 151, none⟩, ⟨Op.extract (Operand.tmp 147) 1, some 152, none⟩, ⟨Op.extract (Operand.tmp 147) 2, some 153, none⟩, ⟨Op.assign (Operand.tmp 152), some 17, none⟩, ⟨Op.assign (Operand.tmp 153), some 18, none⟩] fun K hK => ?_
              try simp
              repeat' first | (refine ecall (by exact hD4) rfl ?_) | ((refine evL_c ?_); simp [hl, ht, hkm, hkn, hwn, hw1, hw2, hmin, hww, hta1, hta0, htt]) | (with_reducible refine And.intro ?_ ?_) | (first | exact hl3 | exact Nat.le_trans (Nat.mul_le_mul_right _ (show _ ≤ 1100002 from by first | exact hq0 | exact hq1 | exact hq2 | exact hq3)) (by decide)) | intro _ | (with_reducible assumption) | omega
              all_goals (refine Fin.go hK ?_; clear hK K)
              simp only [Then_normal]
              refine Run.seq ?_
              refine opsF [⟨Op.move (Operand.tmp 18), some 154, none⟩, ⟨Op.binOp BinOp.eql 35 (Operand.tmp 154) (Operand.const (Value.int IntKind.i64 181)) 35, some 155, none⟩, ⟨Op.move (Operand.tmp 155), some 156, none⟩, ⟨Op.move (Operand.tmp 17), some 157, some (some 156, true)⟩, ⟨Op.fieldAddr 25 (Operand.tmp 20) 1, some 158, some (some 156, true)⟩, ⟨Op.load 23 (Operand.tmp 158), some 159, some (some 156, true)⟩, ⟨Op.call { callee := Callee.builtin Builtin.len, args := #[Operand.tmp 159], argTypes := #[23] }, some 160, some (some 156, true)⟩, ⟨Op.binOp BinOp.sub 3 (Operand.tmp 160) (Operand.const (Value.int IntKind.i64 1)) 3, some 161, some (some 156, true)⟩, ⟨Op.binOp BinOp.eql 3 (Operand.tmp 157) (Operand.tmp 161) 3, some 162, some (some 156, true)⟩, ⟨Op.pick (Operand.tmp 156) (Operand.tmp 162) (Operand.const (Value.bool false)), some 163, none⟩, ⟨Op.assign (Operand.tmp 163), some 8, none⟩] fun K hK => ?_
              try simp
              repeat' first | ((first | refine evL_c ?_ | (refine evL_g rfl ?_; try simp only [gs_tt, gs_ff, gs_tf, gs_ft]) | refine evL_u rfl ?_ | (with_reducible refine gsplit (fun hg => ?_) (fun hg => ?_) <;> try simp at hg)) <;> try simp [hl, ht, hkm, hkn, hwn, hw1, hw2, hmin, hww, hta1, hta0, htt]) | (with_reducible refine And.intro ?_ ?_) | (first | exact hl3 | exact Nat.le_trans (Nat.mul_le_mul_right _ (show _ ≤ 1100002 from by first | exact hq0 | exact hq1 | exact hq2 | exact hq3)) (by decide)) | intro _ | (with_reducible assumption) | omega
              all_goals (refine Fin.go hK ?_; clear hK K)
              all_goals
                simp only [Then_normal]
                refine Run.ret ?_
                try simp only [Then_ret, Blok_ret]
                simp


end Go.Proofs.Ytimgbdkgjfbhkaa.Z
end
section
set_option maxRecDepth 100000
namespace Go.Proofs.Ytimgbdkgjfbhkaa.Z
open Go Go.Fw Go.ChangeShapes Go.WideShapes Go.ChangeAt Go.RowKit Go.Joins Go.Deep
def lay (P : Program) (t : TypeId) : List (Nat × TypeId) := match P.underlying t with
  | some (.struct fs) => fs.toList.map fun f => (f.offset, f.type)
  | _ => []
abbrev CR (w : World) (ds : List D) (cs : List Value) : Prop := All2 (fun x v => v.oneCell = true ∧ DRel w (fun _ => False) x v) ds cs
theorem CR.one {w : World} {x : D} {v : Value} (h1 : v.oneCell = true) (h2 : DRel w (fun _ => False) x v) : CR w [x] [v] := All2.cons ⟨h1, h2⟩ All2.nil
theorem ok_wf {n : Int} (h : (Lit.int .i64 n).wf = true) : okLit (.int .i64 n) = true := by
  have := bounds_i64 h
  simp; omega
theorem ok_strl {s : ByteArray} (h : s.size ≤ maxLen) : okLit (.string s) = true := by
  have : s.size ≤ 9223372036854775807 := Nat.le_trans h (by decide)
  simp [this]
section
variable {H : Type} {enc : TypeId × Value → H} {P : Program} {w : World} {base : Nat} {spare : Nat → Bool} {held : Bool} {fuel : Nat} {t : TypeId} {cs : List Value} {x : DataW H × List MemPlace}
theorem rd_struct {l : List (Nat × TypeId)} (hl : lay P t = l) (h0 : l ≠ []) (h : DataW.trod enc P w base spare held fuel t cs = some x) :
    ∃ (xs : List (DataW H × List MemPlace)) (n : Nat), fuel = n + 1 ∧ x.1 = .agg (xs.map (·.1)) ∧ cs.length = P.cellsOf t ∧ xs.length = l.length ∧
      ∀ (i o : Nat) (ty : TypeId), l[i]? = some (o, ty) → DataW.trod enc P w base spare held n ty ((cs.drop o).take (P.cellsOf ty)) = xs[i]? := by
  unfold lay at hl
  split at hl
  · rename_i fs hu
    obtain ⟨xs, n, h1, h2, h3, h4, h5⟩ := DataW.trod_struct hu h
    subst hl
    refine ⟨xs, n, h1, by rw [h2], h3, by simp [h4], fun i o ty hi => ?_⟩
    rw [List.getElem?_map, Array.getElem?_toList] at hi
    obtain ⟨f, hf, e⟩ := Option.map_eq_some_iff.1 hi
    cases e
    exact h5 i f hf
  · exact absurd hl.symm h0
theorem rd_int (ht : P.underlying t = some (.int .i64)) (h : DataW.trod enc P w base spare held fuel t cs = some x) : ∃ v : Int, CR w (encI v) cs ∧ 1 ≤ Rows.uptoBulk x.1 := by
  obtain ⟨n, rfl, rfl, hw⟩ := DataW.trod_int ht h
  exact ⟨n, CR.one rfl (.lit _ (ok_wf hw)), by simp [Rows.uptoBulk]⟩
theorem rd_raw {e : TypeId} (ht : P.underlying t = some (.slice e)) (h : DataW.trod enc P w base spare held fuel t cs = some x) : ∃ v : Value, cs = [v] ∧ v.oneCell = true ∧ okLit v = true := by
  rcases DataW.trod_slice ht h with ⟨rfl, rfl⟩ | ⟨a, len, cap, elems, rest, n, hf, rfl, rfl, _⟩
  · exact ⟨_, rfl, rfl, rfl⟩
  · exact ⟨_, rfl, rfl, rfl⟩
theorem sum_bulk {α : Type} (μ : α → Nat) (l : List α) (es : List (DataW H × List MemPlace)) (hl : l.length = es.length) (h : ∀ (i : Nat) (v : α) (x : DataW H × List MemPlace), l[i]? = some v → es[i]? = some x → μ v ≤ Rows.uptoBulk x.1) : (l.map μ).sum ≤ Rows.uptoBulkAll (es.map (·.1)) := by
  induction l generalizing es with
  | nil => simp
  | cons v r ih =>
    cases es with
    | nil => simp at hl
    | cons x t =>
      have h1 := h 0 v x rfl rfl
      have h2 := ih t (by simpa using hl) fun i v x hv hx => h (i + 1) v x (by simpa using hv) (by simpa using hx)
      simp only [List.map_cons, List.sum_cons, Rows.uptoBulkAll]
      omega
theorem rd_slice {α : Type} [Inhabited α] (en : α → List D) (μ : α → Nat) {e : TypeId} {sz : Nat} (ht : P.underlying t = some (.slice e)) (hsz : P.cellsOf e = sz) (h0 : 0 < sz)
    (hel : ∀ n, fuel = n + 1 → ∀ cs x, DataW.trod enc P w base spare held n e cs = some x → ∃ v, CR w (en v) cs ∧ μ v ≤ Rows.uptoBulk x.1) (h : DataW.trod enc P w base spare held fuel t cs = some x) :
    ∃ (sv : Value) (l : List α), cs = [sv] ∧ sv.oneCell = true ∧ DRel w (fun _ => False) (.sl false (l.map en)) sv ∧ (l.map μ).sum + 1 ≤ Rows.uptoBulk x.1 := by
  rcases DataW.trod_slice ht h with ⟨rfl, rfl⟩ | ⟨a, len, cap, elems, rest, n, hf, rfl, rfl, hb, hl, hm, hlen, hi, _, _⟩
  · exact ⟨.slice none 0 0, [], rfl, rfl, .slE false none 0 (by simp), by simp [Rows.uptoBulk]⟩
  · obtain ⟨f, hF⟩ := choose_lt (α := α) (n := len) (p := fun i v => ∃ c, CR w (en v) c ∧ c.length = sz ∧ (∀ j u, c[j]? = some u → w.cell? (a.add (i * sz + j)) = some u) ∧ ∀ x, elems[i]? = some x → μ v ≤ Rows.uptoBulk x.1) (fun i hlt => by
      have h1 := hi i hlt
      rw [List.getElem?_eq_getElem (by omega)] at h1
      obtain ⟨c, h2, h3⟩ := Option.bind_eq_some_iff.1 h1
      obtain ⟨_, h4, h5⟩ := World.cells?_some h2
      obtain ⟨v, hk, hp⟩ := hel n hf c _ h3
      refine ⟨v, c, hk, h4.trans hsz, fun j u hu => ?_, fun x hx => ?_⟩
      · have hj : j < P.cellsOf e := by
          rw [← h4]
          exact (List.getElem?_eq_some_iff.1 hu).1
        have h6 := h5 j hj
        rw [hu, Go.Deep.add_add, hsz] at h6
        exact h6
      · rw [List.getElem?_eq_getElem (by omega)] at hx
        rw [← Option.some.inj hx]; exact hp)
    have hbk : (((List.range len).map f).map μ).sum + 1 ≤ Rows.uptoBulk (DataW.slice (elems.map (·.1)) (rest.map (·.1))) := by
      have := sum_bulk μ ((List.range len).map f) elems (by simp [hlen]) fun i v x hv hx => by
        rw [List.getElem?_map] at hv
        obtain ⟨k, hk, rfl⟩ := Option.map_eq_some_iff.1 hv
        have hlt : i < len := by have := (List.getElem?_eq_some_iff.1 hk).1; simpa using this
        have : k = i := by rw [List.getElem?_range hlt] at hk; exact (Option.some.inj hk).symm
        subst this
        obtain ⟨c, _, _, _, h4⟩ := hF k hlt
        exact h4 x hx
      simp only [Rows.uptoBulk]; omega
    by_cases hz : len = 0
    · subst hz
      exact ⟨.slice (some a) 0 cap, [], rfl, rfl, .slE false (some a) cap (by simp), by simpa using hbk⟩
    · refine ⟨.slice (some a) len cap, (List.range len).map f, rfl, rfl, ?_, hbk⟩
      obtain ⟨b, off, spot⟩ := a
      have hsp : spot = none := by
        obtain ⟨c, h1, h2, h3, _⟩ := hF 0 (by omega)
        obtain ⟨u, hu⟩ : ∃ u, c[0]? = some u := ⟨c[0], List.getElem?_eq_getElem (by omega)⟩
        have := h3 0 u hu
        cases spot with
        | none => rfl
        | some q =>
          simp [World.cell?, Addr.add] at this
          split at this
          · cases this
          · cases this
      subst hsp
      have key : ∀ i j r y, (((List.range len).map f).map en)[i]? = some r → r[j]? = some y → ∃ u, w.cell? ⟨b, off + i * sz + j, none⟩ = some u ∧ u.oneCell = true ∧ DRel w (fun _ => False) y u := fun i j r y hr hy => by
        rw [List.getElem?_map, List.getElem?_map] at hr
        obtain ⟨v, hv, rfl⟩ := Option.map_eq_some_iff.1 hr
        obtain ⟨k, hk, rfl⟩ := Option.map_eq_some_iff.1 hv
        have hlt : i < len := by have := (List.getElem?_eq_some_iff.1 hk).1; simpa using this
        have : k = i := by rw [List.getElem?_range hlt] at hk; exact (Option.some.inj hk).symm
        subst this
        obtain ⟨c, h1, _, h3, _⟩ := hF k hlt
        obtain ⟨u, hu, ho, hd⟩ := h1.get hy
        have := h3 j u hu
        have e : (Addr.add ⟨b, off, none⟩ (k * sz + j)) = ⟨b, off + k * sz + j, none⟩ := by
          unfold Addr.add
          split
          · rename_i q; rw [Nat.add_assoc, q]; rfl
          · simp [Nat.add_assoc]
        rw [e] at this
        exact ⟨u, this, ho, hd⟩
      have hlen2 : (((List.range len).map f).map en).length = len := by simp
      have := DRel.sl (w := w) (L := fun _ => False) false (((List.range len).map f).map en) b off cap sz (fun i j => (w.cell? ⟨b, off + i * sz + j, none⟩).getD (.bool false)) (fun _ _ _ _ _ _ h => h) (by rw [hlen2]; exact hl) (by rw [hlen2]; exact Nat.le_trans hl (Nat.le_trans hm (by decide)))
        (fun r hr => by
          obtain ⟨v, hv, rfl⟩ := List.mem_map.1 hr
          obtain ⟨i, hi, rfl⟩ := List.mem_map.1 hv
          obtain ⟨c, h1, h2, _⟩ := hF i (by simpa using hi)
          rw [← h1.len, h2])
        (fun i j r y hr hy => by obtain ⟨u, h1, _⟩ := key i j r y hr hy; simp [h1])
        (fun i j r y hr hy => by obtain ⟨u, h1, h2, _⟩ := key i j r y hr hy; simpa [h1] using h2)
        (fun i j r y hr hy => by obtain ⟨u, h1, _, h3⟩ := key i j r y hr hy; simpa [h1] using h3)
      rw [hlen2] at this
      exact this
theorem cntL_sum (l : List TermT) : cntL l = (l.map cntT).sum := by
  induction l with
  | nil => rfl
  | cons t r ih => rw [cntL, ih]; rfl
theorem partsL_sum (l : List PlanT) : partsL l = (l.map partsP).sum := by
  induction l with
  | nil => rfl
  | cons t r ih => rw [partsL, ih]; rfl
theorem sum_len (l : List Int) : (l.map fun _ => 1).sum = l.length := by
  induction l with
  | nil => rfl
  | cons t r ih => simp only [List.map_cons, List.sum_cons, List.length_cons, ih]; omega
theorem sum_one (l : List TermT) : (l.map fun t => 1 + cntT t).sum = l.length + (l.map cntT).sum := by
  induction l with
  | nil => rfl
  | cons t r ih => simp only [List.map_cons, List.sum_cons, List.length_cons]; omega
theorem wL_sum (l : List StepR) : wL l = (l.map wS).sum := by
  induction l with
  | nil => rfl
  | cons t r ih => rw [wL, ih]; rfl
theorem wP_sum (l : List PipeR) : wP l = (l.map fun x => 1 + wL x.steps).sum := by
  induction l with
  | nil => rfl
  | cons t r ih => rw [wP, ih]; rfl
/-- the tables' bulk -/
def tbW (l : List (List Int)) : Nat := (l.map fun l => l.length + 1).sum
theorem tbW_len (l : List (List Int)) : l.length ≤ tbW l := by
  induction l with
  | nil => exact Nat.le_refl _
  | cons t r ih => simp only [tbW, List.map_cons, List.sum_cons, List.length_cons] at ih ⊢; omega
theorem tbW_mem {l : List (List Int)} {t : List Int} (h : t ∈ l) : t.length ≤ tbW l := by
  induction l with
  | nil => cases h
  | cons x r ih =>
    simp only [tbW, List.map_cons, List.sum_cons] at ih ⊢
    rcases List.mem_cons.1 h with rfl | h
    · omega
    · have := ih h; omega
end
section
variable {H : Type} {enc : TypeId × Value → H} {w : World} {base : Nat} {spare : Nat → Bool} {held : Bool}
theorem lay_V : lay Try.prog 87 = [(0, 85), (1, 4), (2, 2), (3, 9), (4, 59)] := by kernel_rfl
set_option maxRecDepth 100000 in
theorem rd_V {fuel : Nat} {cs : List Value} {x : DataW H × List MemPlace} (h : DataW.trod enc Try.prog w base spare held fuel 87 cs = some x) : ∃ v : ValT, CR w (encV v) cs ∧ 1 ≤ Rows.uptoBulk x.1 := by
  obtain ⟨xs, n, hn, hx, hl, hlen, hg⟩ := rd_struct lay_V (by simp) h
  obtain ⟨c0, c1, c2, c3, c4, rfl⟩ : ∃ c0 c1 c2 c3 c4, cs = [c0, c1, c2, c3, c4] := by
    have hl2 : cs.length = 5 := hl.trans (show Try.prog.cellsOf 87 = 5 from by kernel_rfl)
    match cs, hl2 with
    | [c0, c1, c2, c3, c4], _ => exact ⟨c0, c1, c2, c3, c4, rfl⟩
  obtain ⟨y0, y1, y2, y3, y4, rfl⟩ : ∃ y0 y1 y2 y3 y4, xs = [y0, y1, y2, y3, y4] := by
    match xs, hlen with
    | [y0, y1, y2, y3, y4], _ => exact ⟨y0, y1, y2, y3, y4, rfl⟩
  have g0 := hg 0 0 85 rfl
  rw [show Try.prog.cellsOf 85 = 1 from by kernel_rfl] at g0
  have g1 := hg 1 1 4 rfl
  rw [show Try.prog.cellsOf 4 = 1 from by kernel_rfl] at g1
  have g2 := hg 2 2 2 rfl
  rw [show Try.prog.cellsOf 2 = 1 from by kernel_rfl] at g2
  have g3 := hg 3 3 9 rfl
  rw [show Try.prog.cellsOf 9 = 1 from by kernel_rfl] at g3
  have g4 := hg 4 4 59 rfl
  rw [show Try.prog.cellsOf 59 = 1 from by kernel_rfl] at g4
  simp only [List.drop_zero, List.drop_succ_cons, List.take_succ_cons, List.take_zero, List.getElem?_cons_zero, List.getElem?_cons_succ] at g0 g1 g2 g3 g4
  simp only [List.map_cons, List.map_nil] at hx
  obtain ⟨a0, e0, _, w0⟩ := DataW.trod_int (show Try.prog.underlying 85 = some (.int .i64) from by kernel_rfl) g0
  simp at e0
  subst e0
  obtain ⟨a1, e1, _⟩ := DataW.trod_bool (show Try.prog.underlying 4 = some .bool from by kernel_rfl) g1
  simp at e1
  subst e1
  obtain ⟨a2, e2, _, w2⟩ := DataW.trod_int (show Try.prog.underlying 2 = some (.int .i64) from by kernel_rfl) g2
  simp at e2
  subst e2
  obtain ⟨a3, e3, _, w3⟩ := DataW.trod_string (show Try.prog.underlying 9 = some .string from by kernel_rfl) g3
  simp at e3
  subst e3
  obtain ⟨s4, l4, e4, o4, r4, b4⟩ := rd_slice encI (fun _ => 1) (sz := 1) (show Try.prog.underlying 59 = some (.slice 2) from by kernel_rfl) (by kernel_rfl) (by omega) (fun m hm cs x hx => rd_int (show Try.prog.underlying 2 = some (.int .i64) from by kernel_rfl) hx) g4
  simp at e4
  subst e4
  refine ⟨⟨a0, a1, a2, a3, l4⟩, ?_, ?_⟩
  · exact (CR.one rfl (.lit _ (ok_wf w0))).append ((CR.one rfl (.lit _ rfl)).append ((CR.one rfl (.lit _ (ok_wf w2))).append ((CR.one rfl (.lit _ (ok_strl w3))).append (CR.one o4 r4))))
  · rw [hx]; simp only [Rows.uptoBulk, Rows.uptoBulkAll]
    omega
theorem lay_N : lay Try.prog 70 = [(0, 9), (1, 3)] := by kernel_rfl
set_option maxRecDepth 100000 in
theorem rd_N {fuel : Nat} {cs : List Value} {x : DataW H × List MemPlace} (h : DataW.trod enc Try.prog w base spare held fuel 70 cs = some x) : ∃ v : NodeT, CR w (encN v) cs ∧ 1 ≤ Rows.uptoBulk x.1 := by
  obtain ⟨xs, n, hn, hx, hl, hlen, hg⟩ := rd_struct lay_N (by simp) h
  obtain ⟨c0, c1, rfl⟩ : ∃ c0 c1, cs = [c0, c1] := by
    have hl2 : cs.length = 2 := hl.trans (show Try.prog.cellsOf 70 = 2 from by kernel_rfl)
    match cs, hl2 with
    | [c0, c1], _ => exact ⟨c0, c1, rfl⟩
  obtain ⟨y0, y1, rfl⟩ : ∃ y0 y1, xs = [y0, y1] := by
    match xs, hlen with
    | [y0, y1], _ => exact ⟨y0, y1, rfl⟩
  have g0 := hg 0 0 9 rfl
  rw [show Try.prog.cellsOf 9 = 1 from by kernel_rfl] at g0
  have g1 := hg 1 1 3 rfl
  rw [show Try.prog.cellsOf 3 = 1 from by kernel_rfl] at g1
  simp only [List.drop_zero, List.drop_succ_cons, List.take_succ_cons, List.take_zero, List.getElem?_cons_zero, List.getElem?_cons_succ] at g0 g1
  simp only [List.map_cons, List.map_nil] at hx
  obtain ⟨a0, e0, _, w0⟩ := DataW.trod_string (show Try.prog.underlying 9 = some .string from by kernel_rfl) g0
  simp at e0
  subst e0
  obtain ⟨a1, e1, _, w1⟩ := DataW.trod_int (show Try.prog.underlying 3 = some (.int .i64) from by kernel_rfl) g1
  simp at e1
  subst e1
  refine ⟨⟨a0, a1⟩, ?_, ?_⟩
  · exact (CR.one rfl (.lit _ (ok_strl w0))).append (CR.one rfl (.lit _ (ok_wf w1)))
  · rw [hx]; simp only [Rows.uptoBulk, Rows.uptoBulkAll]
    omega
theorem lay_E : lay Try.prog 98 = [(0, 9), (1, 3), (2, 3), (3, 3), (4, 96), (5, 3), (6, 3)] := by kernel_rfl
set_option maxRecDepth 100000 in
theorem rd_E {fuel : Nat} {cs : List Value} {x : DataW H × List MemPlace} (h : DataW.trod enc Try.prog w base spare held fuel 98 cs = some x) : ∃ v : EdgeT, CR w (encE v) cs ∧ 1 ≤ Rows.uptoBulk x.1 := by
  obtain ⟨xs, n, hn, hx, hl, hlen, hg⟩ := rd_struct lay_E (by simp) h
  obtain ⟨c0, c1, c2, c3, c4, c5, c6, rfl⟩ : ∃ c0 c1 c2 c3 c4 c5 c6, cs = [c0, c1, c2, c3, c4, c5, c6] := by
    have hl2 : cs.length = 7 := hl.trans (show Try.prog.cellsOf 98 = 7 from by kernel_rfl)
    match cs, hl2 with
    | [c0, c1, c2, c3, c4, c5, c6], _ => exact ⟨c0, c1, c2, c3, c4, c5, c6, rfl⟩
  obtain ⟨y0, y1, y2, y3, y4, y5, y6, rfl⟩ : ∃ y0 y1 y2 y3 y4 y5 y6, xs = [y0, y1, y2, y3, y4, y5, y6] := by
    match xs, hlen with
    | [y0, y1, y2, y3, y4, y5, y6], _ => exact ⟨y0, y1, y2, y3, y4, y5, y6, rfl⟩
  have g0 := hg 0 0 9 rfl
  rw [show Try.prog.cellsOf 9 = 1 from by kernel_rfl] at g0
  have g1 := hg 1 1 3 rfl
  rw [show Try.prog.cellsOf 3 = 1 from by kernel_rfl] at g1
  have g2 := hg 2 2 3 rfl
  rw [show Try.prog.cellsOf 3 = 1 from by kernel_rfl] at g2
  have g3 := hg 3 3 3 rfl
  rw [show Try.prog.cellsOf 3 = 1 from by kernel_rfl] at g3
  have g4 := hg 4 4 96 rfl
  rw [show Try.prog.cellsOf 96 = 1 from by kernel_rfl] at g4
  have g5 := hg 5 5 3 rfl
  rw [show Try.prog.cellsOf 3 = 1 from by kernel_rfl] at g5
  have g6 := hg 6 6 3 rfl
  rw [show Try.prog.cellsOf 3 = 1 from by kernel_rfl] at g6
  simp only [List.drop_zero, List.drop_succ_cons, List.take_succ_cons, List.take_zero, List.getElem?_cons_zero, List.getElem?_cons_succ] at g0 g1 g2 g3 g4 g5 g6
  simp only [List.map_cons, List.map_nil] at hx
  obtain ⟨a0, e0, _, w0⟩ := DataW.trod_string (show Try.prog.underlying 9 = some .string from by kernel_rfl) g0
  simp at e0
  subst e0
  obtain ⟨a1, e1, _, w1⟩ := DataW.trod_int (show Try.prog.underlying 3 = some (.int .i64) from by kernel_rfl) g1
  simp at e1
  subst e1
  obtain ⟨a2, e2, _, w2⟩ := DataW.trod_int (show Try.prog.underlying 3 = some (.int .i64) from by kernel_rfl) g2
  simp at e2
  subst e2
  obtain ⟨a3, e3, _, w3⟩ := DataW.trod_int (show Try.prog.underlying 3 = some (.int .i64) from by kernel_rfl) g3
  simp at e3
  subst e3
  obtain ⟨a4, e4, _, w4⟩ := DataW.trod_int (show Try.prog.underlying 96 = some (.int .i64) from by kernel_rfl) g4
  simp at e4
  subst e4
  obtain ⟨a5, e5, _, w5⟩ := DataW.trod_int (show Try.prog.underlying 3 = some (.int .i64) from by kernel_rfl) g5
  simp at e5
  subst e5
  obtain ⟨a6, e6, _, w6⟩ := DataW.trod_int (show Try.prog.underlying 3 = some (.int .i64) from by kernel_rfl) g6
  simp at e6
  subst e6
  refine ⟨⟨a0, a1, a2, a3, a4, a5, a6⟩, ?_, ?_⟩
  · exact (CR.one rfl (.lit _ (ok_strl w0))).append ((CR.one rfl (.lit _ (ok_wf w1))).append ((CR.one rfl (.lit _ (ok_wf w2))).append ((CR.one rfl (.lit _ (ok_wf w3))).append ((CR.one rfl (.lit _ (ok_wf w4))).append ((CR.one rfl (.lit _ (ok_wf w5))).append (CR.one rfl (.lit _ (ok_wf w6))))))))
  · rw [hx]; simp only [Rows.uptoBulk, Rows.uptoBulkAll]
    omega
theorem lay_T : lay Try.prog 89 = [(0, 84), (1, 28), (2, 3), (3, 9), (4, 87)] := by kernel_rfl
set_option maxRecDepth 100000 in
theorem rd_T : ∀ (fuel : Nat) {cs : List Value} {x : DataW H × List MemPlace}, DataW.trod enc Try.prog w base spare held fuel 89 cs = some x → ∃ v : TermT, CR w (encT v) cs ∧ (1 + cntT v) ≤ Rows.uptoBulk x.1 := by
  intro fuel
  induction fuel using Nat.strongRecOn with
  | _ fuel ih =>
  intro cs x h
  obtain ⟨xs, n, hn, hx, hl, hlen, hg⟩ := rd_struct lay_T (by simp) h
  obtain ⟨c0, c1, c2, c3, c4, c5, c6, c7, c8, rfl⟩ : ∃ c0 c1 c2 c3 c4 c5 c6 c7 c8, cs = [c0, c1, c2, c3, c4, c5, c6, c7, c8] := by
    have hl2 : cs.length = 9 := hl.trans (show Try.prog.cellsOf 89 = 9 from by kernel_rfl)
    match cs, hl2 with
    | [c0, c1, c2, c3, c4, c5, c6, c7, c8], _ => exact ⟨c0, c1, c2, c3, c4, c5, c6, c7, c8, rfl⟩
  obtain ⟨y0, y1, y2, y3, y4, rfl⟩ : ∃ y0 y1 y2 y3 y4, xs = [y0, y1, y2, y3, y4] := by
    match xs, hlen with
    | [y0, y1, y2, y3, y4], _ => exact ⟨y0, y1, y2, y3, y4, rfl⟩
  have g0 := hg 0 0 84 rfl
  rw [show Try.prog.cellsOf 84 = 1 from by kernel_rfl] at g0
  have g1 := hg 1 1 28 rfl
  rw [show Try.prog.cellsOf 28 = 1 from by kernel_rfl] at g1
  have g2 := hg 2 2 3 rfl
  rw [show Try.prog.cellsOf 3 = 1 from by kernel_rfl] at g2
  have g3 := hg 3 3 9 rfl
  rw [show Try.prog.cellsOf 9 = 1 from by kernel_rfl] at g3
  have g4 := hg 4 4 87 rfl
  rw [show Try.prog.cellsOf 87 = 5 from by kernel_rfl] at g4
  simp only [List.drop_zero, List.drop_succ_cons, List.take_succ_cons, List.take_zero, List.getElem?_cons_zero, List.getElem?_cons_succ] at g0 g1 g2 g3 g4
  simp only [List.map_cons, List.map_nil] at hx
  obtain ⟨a0, e0, _, w0⟩ := DataW.trod_int (show Try.prog.underlying 84 = some (.int .i64) from by kernel_rfl) g0
  simp at e0
  subst e0
  obtain ⟨s1, l1, e1, o1, r1, b1⟩ := rd_slice encT (fun t => 1 + cntT t) (sz := 9) (show Try.prog.underlying 28 = some (.slice 89) from by kernel_rfl) (by kernel_rfl) (by omega) (fun m hm cs x hx => ih m (by omega) hx) g1
  simp at e1
  subst e1
  obtain ⟨a2, e2, _, w2⟩ := DataW.trod_int (show Try.prog.underlying 3 = some (.int .i64) from by kernel_rfl) g2
  simp at e2
  subst e2
  obtain ⟨a3, e3, _, w3⟩ := DataW.trod_string (show Try.prog.underlying 9 = some .string from by kernel_rfl) g3
  simp at e3
  subst e3
  obtain ⟨v4, r4, b4⟩ := rd_V g4
  refine ⟨(.mk a0 l1 a2 a3 v4), ?_, ?_⟩
  · rw [encT_cells]
    exact (CR.one rfl (.lit _ (ok_wf w0))).append ((CR.one o1 r1).append ((CR.one rfl (.lit _ (ok_wf w2))).append ((CR.one rfl (.lit _ (ok_strl w3))).append (r4))))
  · rw [hx]; simp only [Rows.uptoBulk, Rows.uptoBulkAll]
    rw [cntT, cntL_sum]; rw [sum_one] at b1; omega
theorem lay_P : lay Try.prog 48 = [(0, 44), (1, 45), (2, 3), (3, 46), (4, 4), (5, 28)] := by kernel_rfl
set_option maxRecDepth 100000 in
theorem rd_P : ∀ (fuel : Nat) {cs : List Value} {x : DataW H × List MemPlace}, DataW.trod enc Try.prog w base spare held fuel 48 cs = some x → ∃ v : PlanT, CR w (encP v) cs ∧ (partsP v) ≤ Rows.uptoBulk x.1 := by
  intro fuel
  induction fuel using Nat.strongRecOn with
  | _ fuel ih =>
  intro cs x h
  obtain ⟨xs, n, hn, hx, hl, hlen, hg⟩ := rd_struct lay_P (by simp) h
  obtain ⟨c0, c1, c2, c3, c4, c5, rfl⟩ : ∃ c0 c1 c2 c3 c4 c5, cs = [c0, c1, c2, c3, c4, c5] := by
    have hl2 : cs.length = 6 := hl.trans (show Try.prog.cellsOf 48 = 6 from by kernel_rfl)
    match cs, hl2 with
    | [c0, c1, c2, c3, c4, c5], _ => exact ⟨c0, c1, c2, c3, c4, c5, rfl⟩
  obtain ⟨y0, y1, y2, y3, y4, y5, rfl⟩ : ∃ y0 y1 y2 y3 y4 y5, xs = [y0, y1, y2, y3, y4, y5] := by
    match xs, hlen with
    | [y0, y1, y2, y3, y4, y5], _ => exact ⟨y0, y1, y2, y3, y4, y5, rfl⟩
  have g0 := hg 0 0 44 rfl
  rw [show Try.prog.cellsOf 44 = 1 from by kernel_rfl] at g0
  have g1 := hg 1 1 45 rfl
  rw [show Try.prog.cellsOf 45 = 1 from by kernel_rfl] at g1
  have g2 := hg 2 2 3 rfl
  rw [show Try.prog.cellsOf 3 = 1 from by kernel_rfl] at g2
  have g3 := hg 3 3 46 rfl
  rw [show Try.prog.cellsOf 46 = 1 from by kernel_rfl] at g3
  have g4 := hg 4 4 4 rfl
  rw [show Try.prog.cellsOf 4 = 1 from by kernel_rfl] at g4
  have g5 := hg 5 5 28 rfl
  rw [show Try.prog.cellsOf 28 = 1 from by kernel_rfl] at g5
  simp only [List.drop_zero, List.drop_succ_cons, List.take_succ_cons, List.take_zero, List.getElem?_cons_zero, List.getElem?_cons_succ] at g0 g1 g2 g3 g4 g5
  simp only [List.map_cons, List.map_nil] at hx
  obtain ⟨a0, e0, _, w0⟩ := DataW.trod_int (show Try.prog.underlying 44 = some (.int .i64) from by kernel_rfl) g0
  simp at e0
  subst e0
  obtain ⟨s1, l1, e1, o1, r1, b1⟩ := rd_slice encP partsP (sz := 6) (show Try.prog.underlying 45 = some (.slice 48) from by kernel_rfl) (by kernel_rfl) (by omega) (fun m hm cs x hx => ih m (by omega) hx) g1
  simp at e1
  subst e1
  obtain ⟨a2, e2, _, w2⟩ := DataW.trod_int (show Try.prog.underlying 3 = some (.int .i64) from by kernel_rfl) g2
  simp at e2
  subst e2
  obtain ⟨s3, l3, e3, o3, r3, b3⟩ := rd_slice encI (fun _ => 1) (sz := 1) (show Try.prog.underlying 46 = some (.slice 3) from by kernel_rfl) (by kernel_rfl) (by omega) (fun m hm cs x hx => rd_int (show Try.prog.underlying 3 = some (.int .i64) from by kernel_rfl) hx) g3
  simp at e3
  subst e3
  obtain ⟨a4, e4, _⟩ := DataW.trod_bool (show Try.prog.underlying 4 = some .bool from by kernel_rfl) g4
  simp at e4
  subst e4
  obtain ⟨s5, l5, e5, o5, r5, b5⟩ := rd_slice encT (fun t => 1 + cntT t) (sz := 9) (show Try.prog.underlying 28 = some (.slice 89) from by kernel_rfl) (by kernel_rfl) (by omega) (fun m hm cs x hx => rd_T m hx) g5
  simp at e5
  subst e5
  refine ⟨(.mk a0 l1 a2 l3 a4 l5), ?_, ?_⟩
  · rw [encP_cells]
    exact (CR.one rfl (.lit _ (ok_wf w0))).append ((CR.one o1 r1).append ((CR.one rfl (.lit _ (ok_wf w2))).append ((CR.one o3 r3).append ((CR.one rfl (.lit _ rfl)).append (CR.one o5 r5)))))
  · rw [hx]; simp only [Rows.uptoBulk, Rows.uptoBulkAll]
    rw [partsP, cntL_sum, partsL_sum]; rw [sum_one] at b5; rw [sum_len] at b3; omega
theorem lay_C : lay Try.prog 32 = [(0, 26), (1, 27), (2, 28), (3, 29), (4, 4), (5, 30), (6, 3)] := by kernel_rfl
set_option maxRecDepth 100000 in
theorem rd_C {fuel : Nat} {cs : List Value} {x : DataW H × List MemPlace} (h : DataW.trod enc Try.prog w base spare held fuel 32 cs = some x) : ∃ v : CoreT, CR w (encC v) cs ∧ v.wher.length ≤ Rows.uptoBulk x.1 := by
  obtain ⟨xs, n, hn, hx, hl, hlen, hg⟩ := rd_struct lay_C (by simp) h
  obtain ⟨c0, c1, c2, c3, c4, c5, c6, rfl⟩ : ∃ c0 c1 c2 c3 c4 c5 c6, cs = [c0, c1, c2, c3, c4, c5, c6] := by
    have hl2 : cs.length = 7 := hl.trans (show Try.prog.cellsOf 32 = 7 from by kernel_rfl)
    match cs, hl2 with
    | [c0, c1, c2, c3, c4, c5, c6], _ => exact ⟨c0, c1, c2, c3, c4, c5, c6, rfl⟩
  obtain ⟨y0, y1, y2, y3, y4, y5, y6, rfl⟩ : ∃ y0 y1 y2 y3 y4 y5 y6, xs = [y0, y1, y2, y3, y4, y5, y6] := by
    match xs, hlen with
    | [y0, y1, y2, y3, y4, y5, y6], _ => exact ⟨y0, y1, y2, y3, y4, y5, y6, rfl⟩
  have g0 := hg 0 0 26 rfl
  rw [show Try.prog.cellsOf 26 = 1 from by kernel_rfl] at g0
  have g1 := hg 1 1 27 rfl
  rw [show Try.prog.cellsOf 27 = 1 from by kernel_rfl] at g1
  have g2 := hg 2 2 28 rfl
  rw [show Try.prog.cellsOf 28 = 1 from by kernel_rfl] at g2
  have g3 := hg 3 3 29 rfl
  rw [show Try.prog.cellsOf 29 = 1 from by kernel_rfl] at g3
  have g4 := hg 4 4 4 rfl
  rw [show Try.prog.cellsOf 4 = 1 from by kernel_rfl] at g4
  have g5 := hg 5 5 30 rfl
  rw [show Try.prog.cellsOf 30 = 1 from by kernel_rfl] at g5
  have g6 := hg 6 6 3 rfl
  rw [show Try.prog.cellsOf 3 = 1 from by kernel_rfl] at g6
  simp only [List.drop_zero, List.drop_succ_cons, List.take_succ_cons, List.take_zero, List.getElem?_cons_zero, List.getElem?_cons_succ] at g0 g1 g2 g3 g4 g5 g6
  simp only [List.map_cons, List.map_nil] at hx
  obtain ⟨s0, l0, e0, o0, r0, b0⟩ := rd_slice encN (fun _ => 1) (sz := 2) (show Try.prog.underlying 26 = some (.slice 70) from by kernel_rfl) (by kernel_rfl) (by omega) (fun m hm cs x hx => rd_N hx) g0
  simp at e0
  subst e0
  obtain ⟨s1, l1, e1, o1, r1, b1⟩ := rd_slice encE (fun _ => 1) (sz := 7) (show Try.prog.underlying 27 = some (.slice 98) from by kernel_rfl) (by kernel_rfl) (by omega) (fun m hm cs x hx => rd_E hx) g1
  simp at e1
  subst e1
  obtain ⟨s2, l2, e2, o2, r2, b2⟩ := rd_slice encT (fun t => 1 + cntT t) (sz := 9) (show Try.prog.underlying 28 = some (.slice 89) from by kernel_rfl) (by kernel_rfl) (by omega) (fun m hm cs x hx => rd_T m hx) g2
  simp at e2
  subst e2
  obtain ⟨a3, e3, o3, k3⟩ := rd_raw (show Try.prog.underlying 29 = some (.slice 204) from by kernel_rfl) g3
  simp at e3
  subst e3
  obtain ⟨a4, e4, _⟩ := DataW.trod_bool (show Try.prog.underlying 4 = some .bool from by kernel_rfl) g4
  simp at e4
  subst e4
  obtain ⟨a5, e5, o5, k5⟩ := rd_raw (show Try.prog.underlying 30 = some (.slice 206) from by kernel_rfl) g5
  simp at e5
  subst e5
  obtain ⟨a6, e6, _, w6⟩ := DataW.trod_int (show Try.prog.underlying 3 = some (.int .i64) from by kernel_rfl) g6
  simp at e6
  subst e6
  refine ⟨⟨l0, l1, l2, .lit c3, a4, .lit c5, a6⟩, ?_, ?_⟩
  · exact (CR.one o0 r0).append ((CR.one o1 r1).append ((CR.one o2 r2).append ((CR.one o3 (.lit _ k3)).append ((CR.one rfl (.lit _ rfl)).append ((CR.one o5 (.lit _ k5)).append (CR.one rfl (.lit _ (ok_wf w6))))))))
  · rw [hx]; simp only [Rows.uptoBulk, Rows.uptoBulkAll]
    rw [sum_one] at b2; omega
theorem lay_R : lay Try.prog 75 = [(0, 73), (1, 3), (2, 46), (3, 4), (4, 28), (5, 3)] := by kernel_rfl
set_option maxRecDepth 100000 in
theorem rd_R {fuel : Nat} {cs : List Value} {x : DataW H × List MemPlace} (h : DataW.trod enc Try.prog w base spare held fuel 75 cs = some x) : ∃ v : StepR, CR w (encR v) cs ∧ (wS v) ≤ Rows.uptoBulk x.1 := by
  obtain ⟨xs, n, hn, hx, hl, hlen, hg⟩ := rd_struct lay_R (by simp) h
  obtain ⟨c0, c1, c2, c3, c4, c5, rfl⟩ : ∃ c0 c1 c2 c3 c4 c5, cs = [c0, c1, c2, c3, c4, c5] := by
    have hl2 : cs.length = 6 := hl.trans (show Try.prog.cellsOf 75 = 6 from by kernel_rfl)
    match cs, hl2 with
    | [c0, c1, c2, c3, c4, c5], _ => exact ⟨c0, c1, c2, c3, c4, c5, rfl⟩
  obtain ⟨y0, y1, y2, y3, y4, y5, rfl⟩ : ∃ y0 y1 y2 y3 y4 y5, xs = [y0, y1, y2, y3, y4, y5] := by
    match xs, hlen with
    | [y0, y1, y2, y3, y4, y5], _ => exact ⟨y0, y1, y2, y3, y4, y5, rfl⟩
  have g0 := hg 0 0 73 rfl
  rw [show Try.prog.cellsOf 73 = 1 from by kernel_rfl] at g0
  have g1 := hg 1 1 3 rfl
  rw [show Try.prog.cellsOf 3 = 1 from by kernel_rfl] at g1
  have g2 := hg 2 2 46 rfl
  rw [show Try.prog.cellsOf 46 = 1 from by kernel_rfl] at g2
  have g3 := hg 3 3 4 rfl
  rw [show Try.prog.cellsOf 4 = 1 from by kernel_rfl] at g3
  have g4 := hg 4 4 28 rfl
  rw [show Try.prog.cellsOf 28 = 1 from by kernel_rfl] at g4
  have g5 := hg 5 5 3 rfl
  rw [show Try.prog.cellsOf 3 = 1 from by kernel_rfl] at g5
  simp only [List.drop_zero, List.drop_succ_cons, List.take_succ_cons, List.take_zero, List.getElem?_cons_zero, List.getElem?_cons_succ] at g0 g1 g2 g3 g4 g5
  simp only [List.map_cons, List.map_nil] at hx
  obtain ⟨a0, e0, _, w0⟩ := DataW.trod_int (show Try.prog.underlying 73 = some (.int .i64) from by kernel_rfl) g0
  simp at e0
  subst e0
  obtain ⟨a1, e1, _, w1⟩ := DataW.trod_int (show Try.prog.underlying 3 = some (.int .i64) from by kernel_rfl) g1
  simp at e1
  subst e1
  obtain ⟨s2, l2, e2, o2, r2, b2⟩ := rd_slice encI (fun _ => 1) (sz := 1) (show Try.prog.underlying 46 = some (.slice 3) from by kernel_rfl) (by kernel_rfl) (by omega) (fun m hm cs x hx => rd_int (show Try.prog.underlying 3 = some (.int .i64) from by kernel_rfl) hx) g2
  simp at e2
  subst e2
  obtain ⟨a3, e3, _⟩ := DataW.trod_bool (show Try.prog.underlying 4 = some .bool from by kernel_rfl) g3
  simp at e3
  subst e3
  obtain ⟨s4, l4, e4, o4, r4, b4⟩ := rd_slice encT (fun t => 1 + cntT t) (sz := 9) (show Try.prog.underlying 28 = some (.slice 89) from by kernel_rfl) (by kernel_rfl) (by omega) (fun m hm cs x hx => rd_T m hx) g4
  simp at e4
  subst e4
  obtain ⟨a5, e5, _, w5⟩ := DataW.trod_int (show Try.prog.underlying 3 = some (.int .i64) from by kernel_rfl) g5
  simp at e5
  subst e5
  refine ⟨⟨a0, a1, l2, a3, l4, a5⟩, ?_, ?_⟩
  · exact (CR.one rfl (.lit _ (ok_wf w0))).append ((CR.one rfl (.lit _ (ok_wf w1))).append ((CR.one o2 r2).append ((CR.one rfl (.lit _ rfl)).append ((CR.one o4 r4).append (CR.one rfl (.lit _ (ok_wf w5)))))))
  · rw [hx]; simp only [Rows.uptoBulk, Rows.uptoBulkAll]
    simp only [wS]; rw [cntL_sum]; rw [sum_one] at b4; rw [sum_len] at b2; omega
theorem lay_I : lay Try.prog 41 = [(0, 3), (1, 39), (2, 3)] := by kernel_rfl
set_option maxRecDepth 100000 in
theorem rd_I {fuel : Nat} {cs : List Value} {x : DataW H × List MemPlace} (h : DataW.trod enc Try.prog w base spare held fuel 41 cs = some x) : ∃ v : PipeR, CR w (encPi v) cs ∧ (1 + wL v.steps) ≤ Rows.uptoBulk x.1 := by
  obtain ⟨xs, n, hn, hx, hl, hlen, hg⟩ := rd_struct lay_I (by simp) h
  obtain ⟨c0, c1, c2, rfl⟩ : ∃ c0 c1 c2, cs = [c0, c1, c2] := by
    have hl2 : cs.length = 3 := hl.trans (show Try.prog.cellsOf 41 = 3 from by kernel_rfl)
    match cs, hl2 with
    | [c0, c1, c2], _ => exact ⟨c0, c1, c2, rfl⟩
  obtain ⟨y0, y1, y2, rfl⟩ : ∃ y0 y1 y2, xs = [y0, y1, y2] := by
    match xs, hlen with
    | [y0, y1, y2], _ => exact ⟨y0, y1, y2, rfl⟩
  have g0 := hg 0 0 3 rfl
  rw [show Try.prog.cellsOf 3 = 1 from by kernel_rfl] at g0
  have g1 := hg 1 1 39 rfl
  rw [show Try.prog.cellsOf 39 = 1 from by kernel_rfl] at g1
  have g2 := hg 2 2 3 rfl
  rw [show Try.prog.cellsOf 3 = 1 from by kernel_rfl] at g2
  simp only [List.drop_zero, List.drop_succ_cons, List.take_succ_cons, List.take_zero, List.getElem?_cons_zero, List.getElem?_cons_succ] at g0 g1 g2
  simp only [List.map_cons, List.map_nil] at hx
  obtain ⟨a0, e0, _, w0⟩ := DataW.trod_int (show Try.prog.underlying 3 = some (.int .i64) from by kernel_rfl) g0
  simp at e0
  subst e0
  obtain ⟨s1, l1, e1, o1, r1, b1⟩ := rd_slice encR wS (sz := 6) (show Try.prog.underlying 39 = some (.slice 75) from by kernel_rfl) (by kernel_rfl) (by omega) (fun m hm cs x hx => rd_R hx) g1
  simp at e1
  subst e1
  obtain ⟨a2, e2, _, w2⟩ := DataW.trod_int (show Try.prog.underlying 3 = some (.int .i64) from by kernel_rfl) g2
  simp at e2
  subst e2
  refine ⟨⟨a0, l1, a2⟩, ?_, ?_⟩
  · exact (CR.one rfl (.lit _ (ok_wf w0))).append ((CR.one o1 r1).append (CR.one rfl (.lit _ (ok_wf w2))))
  · rw [hx]; simp only [Rows.uptoBulk, Rows.uptoBulkAll]
    rw [wL_sum]; omega
set_option maxRecDepth 100000 in
theorem rd_L {fuel : Nat} {cs : List Value} {x : DataW H × List MemPlace} (h : DataW.trod enc Try.prog w base spare held fuel 46 cs = some x) : ∃ v : List Int, CR w [.sl false (v.map encI)] cs ∧ v.length + 1 ≤ Rows.uptoBulk x.1 := by
  obtain ⟨s, l, e, o, r, b⟩ := rd_slice encI (fun _ => 1) (sz := 1) (show Try.prog.underlying 46 = some (.slice 3) from by kernel_rfl) (by kernel_rfl) (by omega) (fun m hm cs x hx => rd_int (show Try.prog.underlying 3 = some (.int .i64) from by kernel_rfl) hx) h
  rw [sum_len] at b
  exact ⟨l, by subst e; exact CR.one o r, b⟩
theorem lay_G : lay Try.prog 25 = [(0, 22), (1, 23)] := by kernel_rfl
set_option maxRecDepth 100000 in
theorem rd_G {fuel : Nat} {cs : List Value} {x : DataW H × List MemPlace} (h : DataW.trod enc Try.prog w base spare held fuel 25 cs = some x) : ∃ v : ProgR, CR w (encPr v) cs ∧ (tbW v.tabs + wP v.pipes) ≤ Rows.uptoBulk x.1 := by
  obtain ⟨xs, n, hn, hx, hl, hlen, hg⟩ := rd_struct lay_G (by simp) h
  obtain ⟨c0, c1, rfl⟩ : ∃ c0 c1, cs = [c0, c1] := by
    have hl2 : cs.length = 2 := hl.trans (show Try.prog.cellsOf 25 = 2 from by kernel_rfl)
    match cs, hl2 with
    | [c0, c1], _ => exact ⟨c0, c1, rfl⟩
  obtain ⟨y0, y1, rfl⟩ : ∃ y0 y1, xs = [y0, y1] := by
    match xs, hlen with
    | [y0, y1], _ => exact ⟨y0, y1, rfl⟩
  have g0 := hg 0 0 22 rfl
  rw [show Try.prog.cellsOf 22 = 1 from by kernel_rfl] at g0
  have g1 := hg 1 1 23 rfl
  rw [show Try.prog.cellsOf 23 = 1 from by kernel_rfl] at g1
  simp only [List.drop_zero, List.drop_succ_cons, List.take_succ_cons, List.take_zero, List.getElem?_cons_zero, List.getElem?_cons_succ] at g0 g1
  simp only [List.map_cons, List.map_nil] at hx
  obtain ⟨s0, l0, e0, o0, r0, b0⟩ := rd_slice (fun l : List Int => [D.sl false (l.map encI)]) (fun l : List Int => l.length + 1) (sz := 1) (show Try.prog.underlying 22 = some (.slice 46) from by kernel_rfl) (by kernel_rfl) (by omega) (fun m hm cs x hx => rd_L hx) g0
  simp at e0
  subst e0
  obtain ⟨s1, l1, e1, o1, r1, b1⟩ := rd_slice encPi (fun x => 1 + wL x.steps) (sz := 3) (show Try.prog.underlying 23 = some (.slice 41) from by kernel_rfl) (by kernel_rfl) (by omega) (fun m hm cs x hx => rd_I hx) g1
  simp at e1
  subst e1
  refine ⟨⟨l0, l1⟩, ?_, ?_⟩
  · exact (CR.one o0 r0).append (CR.one o1 r1)
  · rw [hx]; simp only [Rows.uptoBulk, Rows.uptoBulkAll]
    simp only [tbW]; rw [wP_sum]; omega

end
end Go.Proofs.Ytimgbdkgjfbhkaa.Z
end
section
namespace Go.Proofs.Ytimgbdkgjfbhkaa.lawIrcheckSinks
open Go Go.Fw Go.ChangeShapes Go.WideShapes Go.ChangeAt Go.RowKit Go.Joins Go.Deep Go.Proofs.Ytimgbdkgjfbhkaa.Z
theorem wP_app (a b : List PipeR) : wP (a ++ b) = wP a + wP b := by
  induction a with
  | nil => simp [wP]
  | cons x r ih => simp only [List.cons_append, wP, ih]; omega
theorem wP_set : ∀ (l : List PipeR) (k : Nat) (s : Int), k < l.length → wP (setSink l k s) = wP l
  | [], k, s, h => by simp at h
  | x :: r, 0, s, _ => by
    have : setSink (x :: r) 0 s = ⟨x.scan, x.steps, s⟩ :: r := rfl
    rw [this, wP, wP]
  | x :: r, k + 1, s, h => by
    have : setSink (x :: r) (k + 1) s = x :: setSink r k s := by
      unfold setSink
      rw [rdI_succ, List.set_cons_succ]
    rw [this, wP, wP, wP_set r k s (by simpa using h)]
theorem sinks_ok (c : CoreT) (r : ProgR) (w : Nat) (s : Int) (hw : w ≤ 255) (h1 : tbW r.tabs + wP r.pipes + c.wher.length ≤ 1048576) :
    Snd Try.prog 3 [.d (.ag (encPr r)), .d (.ag (encC c)), .d (.lit (.int .u8 (w : Nat))), .int s] (.bool true) [] := by
  have ht := tbW_len r.tabs
  have hC1 := check_ok c r (by omega) (by omega) (by omega)
  have hW := weight_ok r 300 (by omega) (by omega) (by omega) (by omega) (fun t h => by have := tbW_mem h; omega)
  by_cases hor : (!decide ((checkS c r).2.2 = 0) || decide (300 < weightS r 300)) = true
  · exact sinks0_ok c r w s _ _ _ _ hC1 hW hor
  · obtain ⟨he, hW3⟩ : (checkS c r).2.2 = 0 ∧ ¬ 300 < weightS r 300 := by simpa using hor
    have hpl : r.pipes.length = r.tabs.length + 1 := (planS_right (by rw [← checkS_e]; exact he)).2.1
    have hk : w % (r.tabs.length + 1) < r.pipes.length := by rw [hpl]; exact Nat.mod_lt _ (by omega)
    obtain ⟨hA, hB⟩ := sink_law he _ hk s
    have hm := more_law he ⟨0, [], -1⟩
    have hn := none_law he
    have hlast : wP (noneR r).pipes = wP r.pipes + 1 := by
      have h2 : r.pipes = r.pipes.take r.tabs.length ++ [rdI r.pipes r.tabs.length] := by
        rw [← take_rd (by omega), List.take_of_length_le (by omega)]
      have h3 : wP r.pipes = wP (r.pipes.take r.tabs.length) + wP [rdI r.pipes r.tabs.length] := by rw [← wP_app, ← h2]
      simp only [noneR]
      rw [wP_app, h3]
      simp only [wP, wL]
      omega
    have hC2 := check_ok c ⟨r.tabs, setSink r.pipes (w % (r.tabs.length + 1)) s⟩ (by simp only; rw [wP_set _ _ _ hk]; omega) (by simp only; omega) (by omega)
    have hC3 := check_ok c ⟨r.tabs, r.pipes ++ [⟨0, [], -1⟩]⟩ (by simp only; rw [wP_app]; simp only [wP, wL]; omega) (by simp only; omega) (by omega)
    have hC4 := check_ok c (noneR r) (by rw [hlast]; omega) (by simp only [noneR, List.length_append, List.length_singleton]; omega) (by omega)
    rw [hm] at hC3
    rw [hn] at hC4
    rw [he] at hC1
    exact sinks1_ok c r w s _ _ _ _ _ _ _ _ r.tabs.length hpl rfl (by omega) hw hC1 hW hW3 hC2 (fun h => by rw [hA h]; exact ⟨rfl, rfl⟩) hB hC3 hC4
theorem own : ownKnob Try.prog.godebug = none := by kernel_rfl
theorem laidOut : laidOutB Try.prog = true := by kernel_rfl
theorem under_lay {P : Program} {t : TypeId} {l : List (Nat × TypeId)} (hl : lay P t = l) (h0 : l ≠ []) : ∃ fs, P.underlying t = some (.struct fs) := by
  unfold lay at hl
  split at hl
  · exact ⟨_, ‹_›⟩
  · exact absurd hl.symm h0
theorem vrel_ag {w : World} {m : Nat → Option Nat} {ds : List D} {cs : Array Value} (h : CR w ds cs.toList) : VRel w (fun _ => False) m (.d (.ag ds)) (.agg cs) := by
  have := DRel.ag (w := w) (L := fun _ => False) ds cs.toList h.len (fun v hv => by
    obtain ⟨j, hj⟩ := List.getElem?_of_mem hv
    have hlt : j < ds.length := by rw [← h.len]; exact (List.getElem?_eq_some_iff.1 hj).1
    exact (h.at_ j _ v (List.getElem?_eq_getElem hlt) hj).1) (fun j x v hx hv => (h.at_ j x v hx hv).2)
  rw [Array.toArray_toList] at this
  exact .d this
set_option maxRecDepth 100000 in
theorem contract (H : Type) (enc : TypeId × Value → H) (W : World) (base : Nat) (args : Array Value) (ds gs : List (DataW H)) (before : List MemPlace)
    (hval : ∀ (j : Nat) t v, Try.f3.params[j]? = some t → args[j]? = some v → Value.okWide Try.prog W .any base t v)
    (hW : DataW.Whole enc Try.prog Try.f3.params.toList Rows.ircheckSinksSpec.vars false W args.toList ds gs before) (hk : Rows.uptoSmall H (ds ++ gs) = true) :
    Calls Try.prog 3 args W fun e W' => ∃ v, e = .returned v ∧ Rows.ircheckSinksSpec.post enc Try.prog Try.f3 false true false false W args v W' := by
  have hW' := hW
  obtain ⟨p, q, hA0, hV, rfl, hfz, hnd⟩ := hW
  have hA : DataW.TrodAll enc Try.prog W 0 (fun _ => true) true Try.f3.params.toList args.toList ds p := hA0
  rw [show Try.f3.params = #[25, 32, 5, 3] from by kernel_rfl] at hA hval
  obtain ⟨v0, vs0, d0, ds0, p0, q0, hargs, rfl, rfl, h0, r0⟩ := trodAll_cons hA
  obtain ⟨v1, vs1, d1, ds1, p1, q1, rfl, rfl, rfl, h1, r1⟩ := trodAll_cons r0
  obtain ⟨v2, vs2, d2, ds2, p2, q2, rfl, rfl, rfl, h2, r2⟩ := trodAll_cons r1
  obtain ⟨v3, vs3, d3, ds3, p3, q3, rfl, rfl, rfl, h3, r3⟩ := trodAll_cons r2
  obtain ⟨rfl, rfl, rfl⟩ := trodAll_nil r3
  obtain rfl : args = #[v0, v1, v2, v3] := by cases args; simp_all
  obtain ⟨rfl, rfl⟩ := trodVars_none hV
  have k0 := h0
  have k1 := h1
  have lt : ∀ {t v d ps}, DataW.Trod enc Try.prog W 0 (fun _ => true) true t v d ps → ∀ x ∈ ps, x.block < W.heap.size := fun h => by obtain ⟨m, hm⟩ := h; exact DataW.trod_lt m _ _ _ hm
  obtain ⟨fs0, u0⟩ := under_lay lay_G (by simp)
  obtain ⟨fs1, u1⟩ := under_lay lay_C (by simp)
  obtain ⟨c0, rfl, -⟩ := okWide_struct u0 (hval 0 _ v0 rfl rfl)
  obtain ⟨c1, rfl, -⟩ := okWide_struct u1 (hval 1 _ v1 rfl rfl)
  obtain ⟨n2, rfl, rfl, rfl, w2⟩ := open_int (show Try.prog.underlying 5 = some (.int .u8) from by kernel_rfl) (hval 2 5 v2 rfl rfl) h2
  obtain ⟨n3, rfl, rfl, rfl, w3⟩ := open_int (show Try.prog.underlying 3 = some (.int .i64) from by kernel_rfl) (hval 3 3 v3 rfl rfl) h3
  obtain ⟨f0, g0⟩ := h0
  obtain ⟨f1, g1⟩ := h1
  simp only [Value.cells] at g0 g1
  obtain ⟨pr, ra, ba⟩ := rd_G g0
  obtain ⟨co, rc, bc⟩ := rd_C g1
  have hb : Rows.uptoBulkAll [d0, d1, .lit (.int .u8 n2), .lit (.int .i64 n3)] ≤ 1048576 := by
    have := of_decide_eq_true hk
    simpa using this
  simp only [Rows.uptoBulkAll] at hb
  simp only at ba bc
  have hn2 : 0 ≤ n2 ∧ n2 ≤ 255 := by
    simp only [Lit.wf, Bool.and_eq_true, decide_eq_true_eq] at w2
    simpa [IntKind.min, IntKind.max, IntKind.signed, IntKind.bits] using w2
  have ok2 : okLit (.int .u8 n2) = true := by simp; omega
  have ok3 : okLit (.int .i64 n3) = true := ok_wf w3
  obtain ⟨w, rfl⟩ : ∃ w : Nat, n2 = w := ⟨n2.toNat, by omega⟩
  have hS := sinks_ok co pr w n3 (by omega) (by omega)
  have hC := hS.2 W (fun _ => False) [.agg c0, .agg c1, .int .u8 w, .int .i64 n3] (fun _ h => h.elim)
    (All2.cons (vrel_ag ra) (All2.cons (vrel_ag rc) (All2.cons (.d (.lit _ ok2)) (All2.cons (.d (.lit _ ok3)) All2.nil))))
  refine hC.mono fun e W' hx => ?_
  obtain ⟨v, m', rfl, hx, hv, -⟩ := hx
  have hv := hv.lit_inv
  subst hv
  have bel : Below W.heap.size W W' := ⟨hx.os, hx.tape, hx.output, hx.size, fun k hk => hx.block k hk fun f => f⟩
  exact ⟨_, rfl, _, _, _, [], _, [], hW', trodAll_mk1 (shut_bool (show Try.prog.underlying 4 = some .bool from by kernel_rfl) _),
    (trodAll_cons_mk (Below.trod laidOut (by kernel_rfl) (of_decide_eq_true (by kernel_rfl)) k0 bel (lt k0))
      (trodAll_cons_mk (Below.trod laidOut (by kernel_rfl) (of_decide_eq_true (by kernel_rfl)) k1 bel (lt k1))
        (trodAll_cons_mk (shut_int (show Try.prog.underlying 5 = some (.int .u8) from by kernel_rfl) w2)
          (trodAll_cons_mk (shut_int (show Try.prog.underlying 3 = some (.int .i64) from by kernel_rfl) w3)
            trodAll_mk0)))), rfl, bel.frame _, fun h => by cases h⟩
set_option maxRecDepth 100000 in
theorem lifted (os : Os) (started : os.Started) (H : Type) (enc : TypeId × Value → H) (F : Stop.Interp) :
    ReturnsInHanded {} Try.checked os 3 .any ((Rows.OpenSpec.upto Rows.ircheckSinksSpec).pre6 enc Try.prog Try.f3 Rows.ircheckSinksUptoRow.domain false) (((Rows.OpenSpec.upto Rows.ircheckSinksSpec).at F).post enc Try.prog Try.f3 false true false false) := by
  refine returnsInHanded_of_cond (C := Try.checked) (s := Rows.OpenSpec.upto Rows.ircheckSinksSpec) (k := Rows.uptoSmall) rfl own started (by kernel_rfl) Try.func3
    (OpenSpec.witness (enc := enc) (C := Try.checked) (s := Rows.OpenSpec.upto Rows.ircheckSinksSpec) (k := Rows.uptoSmall) rfl false ⟨#[], #[.agg #[.slice none 0 0, .slice none 0 0], .agg #[.slice none 0 0, .slice none 0 0, .slice none 0 0, .slice none 0 0, .bool false, .slice none 0 0, .int .i64 0], .int .u8 0, .int .i64 0], []⟩ 8 (by kernel_rfl) (by kernel_rfl) (by kernel_rfl)
      (x := ([.agg [.nil, .nil], .agg [.nil, .nil, .nil, .nil, .lit (.bool false), .nil, .lit (.int .i64 0)], .lit (.int .u8 0), .lit (.int .i64 0)], [], [])) (by kernel_rfl) rfl (by kernel_rfl)) ?_
  intro W base args ds gs before hval hW _ hk _
  exact contract H enc W base args ds gs before hval hW hk
theorem proved : Rows.IrcheckSinksUptoSaid :=
  OpenClaim.holds_of_cond 3 Try.f3 rfl rfl rfl rfl rfl rfl rfl ⟨rfl, rfl, rfl, rfl, rfl⟩ rfl rfl rfl rfl rfl (by kernel_rfl) Try.func3 (by kernel_rfl)
    (of_decide_eq_true (by kernel_rfl)) (by unfold Func.isWrapper; first | (rw [if_pos (by decide +kernel)]; kernel_rfl) | (rw [if_neg (by decide +kernel)]; exact ⟨rfl, rfl⟩))
    (fun os started H enc _ F => lifted os started H enc F)
#print axioms proved
end Go.Proofs.Ytimgbdkgjfbhkaa.lawIrcheckSinks
end
