/- Texts of this claim, put together: Rb, Fx, Pu, Pv, Pw, Py, Pz. -/
import Derived.Test.YtihbejpkfifplaaCh
set_option linter.unusedVariables false
set_option linter.unusedSimpArgs false
namespace Go.Proofs.Ytihbejpkfifplaa.Z
open Go Go.Fw
abbrev oo66 : List LOp := [⟨Op.box 82 (Operand.tmp 0), some 2, none⟩, ⟨Op.box 27 (Operand.tmp 1), some 3, none⟩, ⟨Op.assign (Operand.const (Value.int IntKind.i64 0)), some 4, none⟩]
abbrev oo67 : List LOp := [⟨Op.fieldAddr 27 (Operand.tmp 3) 0, some 21, none⟩, ⟨Op.load 22 (Operand.tmp 21), some 22, none⟩, ⟨Op.binOp BinOp.eql 22 (Operand.tmp 22) (Operand.const (Value.int IntKind.i64 1)) 22, some 23, none⟩]
abbrev oo68 : List LOp := [⟨Op.fieldAddr 27 (Operand.tmp 3) 1, some 28, none⟩, ⟨Op.load 23 (Operand.tmp 28), some 29, none⟩, ⟨Op.indexAddr 23 (Operand.tmp 29) (Operand.const (Value.int IntKind.i64 0)), some 30, none⟩, ⟨Op.load 27 (Operand.tmp 30), some 31, none⟩, ⟨Op.alloc 27, some 5, none⟩, ⟨Op.store 27 (Operand.tmp 5) (Operand.tmp 31), none, none⟩]
abbrev oo69 : List LOp := [⟨Op.load 82 (Operand.tmp 2), some 32, none⟩, ⟨Op.load 27 (Operand.tmp 5), some 33, none⟩, ⟨Op.call { callee := Callee.value (Operand.func 32), args := #[Operand.tmp 32, Operand.tmp 33], argTypes := #[82, 27] }, some 34, none⟩, ⟨Op.assign (Operand.tmp 34), some 6, none⟩]
abbrev oo70 : List LOp := [⟨Op.load 27 (Operand.tmp 5), some 36, none⟩, ⟨Op.fieldAddr 82 (Operand.tmp 2) 0, some 37, none⟩, ⟨Op.load 33 (Operand.tmp 37), some 38, none⟩, ⟨Op.call { callee := Callee.value (Operand.func 20), args := #[Operand.tmp 36, Operand.tmp 38], argTypes := #[27, 33] }, some 39, none⟩, ⟨Op.move (Operand.tmp 39), some 35, none⟩, ⟨Op.extract (Operand.tmp 35) 0, some 40, none⟩, ⟨Op.extract (Operand.tmp 35) 1, some 41, none⟩, ⟨Op.assign (Operand.tmp 40), some 7, none⟩, ⟨Op.assign (Operand.tmp 41), some 8, none⟩]
abbrev oo71 : List LOp := [⟨Op.fieldAddr 27 (Operand.tmp 3) 0, some 42, none⟩, ⟨Op.load 22 (Operand.tmp 42), some 43, none⟩]
abbrev oo72 : List LOp := [⟨Op.binOp BinOp.eql 22 (Operand.tmp 43) (Operand.const (Value.int IntKind.i64 2)) 22, some 45, none⟩, ⟨Op.assign (Operand.tmp 45), some 44, none⟩]
abbrev oo73 : List LOp := [⟨Op.binOp BinOp.eql 22 (Operand.tmp 43) (Operand.const (Value.int IntKind.i64 3)) 22, some 46, none⟩, ⟨Op.assign (Operand.tmp 46), some 44, none⟩]
abbrev oo74 : List LOp := [⟨Op.binOp BinOp.eql 22 (Operand.tmp 43) (Operand.const (Value.int IntKind.i64 4)) 22, some 119, none⟩, ⟨Op.assign (Operand.tmp 119), some 118, none⟩]
abbrev oo75 : List LOp := [⟨Op.binOp BinOp.eql 22 (Operand.tmp 43) (Operand.const (Value.int IntKind.i64 5)) 22, some 163, none⟩, ⟨Op.assign (Operand.tmp 163), some 162, none⟩]
abbrev oo76 : List LOp := [⟨Op.move (Operand.tmp 6), some 222, none⟩, ⟨Op.assign (Operand.tmp 222), some 4, none⟩]
abbrev oo77 : List LOp := [⟨Op.fieldAddr 27 (Operand.tmp 3) 3, some 47, none⟩, ⟨Op.load 24 (Operand.tmp 47), some 48, none⟩, ⟨Op.indexAddr 24 (Operand.tmp 48) (Operand.const (Value.int IntKind.i64 0)), some 49, none⟩, ⟨Op.load 3 (Operand.tmp 49), some 50, none⟩, ⟨Op.assign (Operand.tmp 50), some 9, none⟩]
abbrev oo78 : List LOp := [⟨Op.fieldAddr 82 (Operand.tmp 2) 0, some 51, none⟩, ⟨Op.fieldAddr 33 (Operand.tmp 51) 1, some 52, none⟩, ⟨Op.load 29 (Operand.tmp 52), some 53, none⟩, ⟨Op.move (Operand.tmp 9), some 54, none⟩, ⟨Op.indexAddr 29 (Operand.tmp 53) (Operand.tmp 54), some 55, none⟩, ⟨Op.fieldAddr 105 (Operand.tmp 55) 2, some 56, none⟩, ⟨Op.load 3 (Operand.tmp 56), some 57, none⟩, ⟨Op.fieldAddr 82 (Operand.tmp 2) 0, some 58, none⟩, ⟨Op.fieldAddr 33 (Operand.tmp 58) 1, some 59, none⟩, ⟨Op.load 29 (Operand.tmp 59), some 60, none⟩, ⟨Op.move (Operand.tmp 9), some 61, none⟩, ⟨Op.indexAddr 29 (Operand.tmp 60) (Operand.tmp 61), some 62, none⟩, ⟨Op.fieldAddr 105 (Operand.tmp 62) 3, some 63, none⟩, ⟨Op.load 3 (Operand.tmp 63), some 64, none⟩, ⟨Op.assign (Operand.tmp 57), some 10, none⟩, ⟨Op.assign (Operand.tmp 64), some 11, none⟩]
abbrev oo79 : List LOp := [⟨Op.fieldAddr 27 (Operand.tmp 3) 4, some 65, none⟩, ⟨Op.load 4 (Operand.tmp 65), some 66, none⟩]
abbrev oo80 : List LOp := [⟨Op.move (Operand.tmp 11), some 67, none⟩, ⟨Op.move (Operand.tmp 10), some 68, none⟩, ⟨Op.assign (Operand.tmp 67), some 10, none⟩, ⟨Op.assign (Operand.tmp 68), some 11, none⟩]
abbrev oo81 : List LOp := [⟨Op.load 82 (Operand.tmp 2), some 69, none⟩, ⟨Op.move (Operand.tmp 9), some 70, none⟩, ⟨Op.call { callee := Callee.value (Operand.func 65), args := #[Operand.tmp 69, Operand.tmp 70], argTypes := #[82, 3] }, some 71, none⟩, ⟨Op.load 82 (Operand.tmp 2), some 72, none⟩, ⟨Op.move (Operand.tmp 10), some 73, none⟩, ⟨Op.call { callee := Callee.value (Operand.func 63), args := #[Operand.tmp 72, Operand.tmp 73], argTypes := #[82, 3] }, some 74, none⟩, ⟨Op.call { callee := Callee.value (Operand.func 64), args := #[Operand.tmp 71, Operand.tmp 74], argTypes := #[2, 2] }, some 75, none⟩, ⟨Op.assign (Operand.tmp 75), some 12, none⟩]
abbrev oo82 : List LOp := [⟨Op.fieldAddr 27 (Operand.tmp 3) 0, some 76, none⟩, ⟨Op.load 22 (Operand.tmp 76), some 77, none⟩, ⟨Op.binOp BinOp.eql 22 (Operand.tmp 77) (Operand.const (Value.int IntKind.i64 3)) 22, some 78, none⟩]
abbrev oo83 : List LOp := [⟨Op.move (Operand.tmp 6), some 105, none⟩, ⟨Op.move (Operand.tmp 12), some 106, none⟩, ⟨Op.buildSlice 51 2 #[(0, Operand.tmp 105), (1, Operand.tmp 106)], some 107, none⟩, ⟨Op.call { callee := Callee.value (Operand.func 66), args := #[Operand.tmp 107], argTypes := #[51] }, some 108, none⟩, ⟨Op.assign (Operand.tmp 108), some 6, none⟩]
abbrev oo84 : List LOp := [⟨Op.move (Operand.tmp 7), some 109, none⟩, ⟨Op.move (Operand.tmp 11), some 110, none⟩, ⟨Op.indexAddr 60 (Operand.tmp 109) (Operand.tmp 110), some 111, none⟩, ⟨Op.load 4 (Operand.tmp 111), some 112, none⟩]
abbrev oo85 : List LOp := [⟨Op.move (Operand.tmp 6), some 113, none⟩, ⟨Op.load 82 (Operand.tmp 2), some 114, none⟩, ⟨Op.move (Operand.tmp 11), some 115, none⟩, ⟨Op.call { callee := Callee.value (Operand.func 63), args := #[Operand.tmp 114, Operand.tmp 115], argTypes := #[82, 3] }, some 116, none⟩, ⟨Op.call { callee := Callee.value (Operand.func 64), args := #[Operand.tmp 113, Operand.tmp 116], argTypes := #[2, 2] }, some 117, none⟩, ⟨Op.assign (Operand.tmp 117), some 6, none⟩]
abbrev oo86 : List LOp := [⟨Op.assign (Operand.const (Value.int IntKind.i64 0)), some 14, none⟩]
abbrev oo87 : List LOp := [⟨Op.binOp BinOp.add 3 (Operand.tmp 143) (Operand.const (Value.int IntKind.i64 1)) 3, some 161, none⟩, ⟨Op.move (Operand.tmp 161), some 143, none⟩]
abbrev oo88 : List LOp := [⟨Op.load 27 (Operand.tmp 3), some 10, none⟩, ⟨Op.load 33 (Operand.tmp 4), some 11, none⟩, ⟨Op.call { callee := Callee.value (Operand.func 20), args := #[Operand.tmp 10, Operand.tmp 11], argTypes := #[27, 33] }, some 12, none⟩, ⟨Op.move (Operand.tmp 12), some 9, none⟩, ⟨Op.extract (Operand.tmp 9) 0, some 13, none⟩, ⟨Op.extract (Operand.tmp 9) 1, some 14, none⟩, ⟨Op.assign (Operand.tmp 13), some 7, none⟩, ⟨Op.assign (Operand.tmp 14), some 8, none⟩]
abbrev oo89 : List LOp := [⟨Op.move (Operand.tmp 8), some 15, none⟩, ⟨Op.binOp BinOp.neq 40 (Operand.tmp 15) (Operand.const (Value.int IntKind.i64 0)) 40, some 16, none⟩]
end Go.Proofs.Ytihbejpkfifplaa.Z
section
set_option maxRecDepth 100000
namespace Go.Proofs.Ytihbejpkfifplaa.Z
open Go Go.Fw
def pushU (acc : List Int) (v : Int) : List Int := if acc.length = 0 ∨ rdI acc ((acc.length : Int) - 1) ≠ v then acc ++ [v] else acc
def mrg : List Int → List Int → List Int
  | [], b => b
  | x :: a, [] => x :: a
  | x :: a, y :: b => if x ≤ y then x :: mrg a (y :: b) else y :: mrg (x :: a) b
termination_by a b => a.length + b.length
def unionS (a b : List Int) : List Int := (mrg a b).foldl pushU []
def tk (a b : List Int) : Bool := decide (b.length = 0 ∨ (0 < a.length ∧ rdI a 0 ≤ rdI b 0))
theorem mrg_nil (a : List Int) : mrg a [] = a := by cases a <;> rw [mrg]
theorem mrg_tk {a b : List Int} (ha : 0 < a.length) (h : tk a b = true) : mrg a b = rdI a 0 :: mrg (a.drop 1) b := by
  cases a with
  | nil => simp at ha
  | cons x a =>
    cases b with
    | nil => rw [mrg_nil, mrg_nil]; rfl
    | cons y b =>
      have h1 : x ≤ y := by simpa [tk, rdI] using h
      rw [mrg, if_pos h1]; rfl
theorem mrg_nt {a b : List Int} (hb : 0 < b.length) (h : tk a b = false) : mrg a b = rdI b 0 :: mrg a (b.drop 1) := by
  cases b with
  | nil => simp at hb
  | cons y b =>
    cases a with
    | nil => rw [mrg]; simp [mrg, rdI]
    | cons x a =>
      have h1 : ¬ x ≤ y := by simpa [tk, rdI] using h
      rw [mrg, if_neg h1]; rfl
theorem pushU_mem {acc : List Int} {v x : Int} : x ∈ pushU acc v ↔ x ∈ acc ∨ x = v := by
  unfold pushU
  split
  · simp
  · rename_i h
    have h1 : rdI acc ((acc.length : Int) - 1) = v ∧ acc.length ≠ 0 := by
      constructor
      · by_cases e : rdI acc ((acc.length : Int) - 1) = v
        · exact e
        · exact absurd (.inr e) h
      · exact fun e => h (.inl e)
    constructor
    · exact .inl
    · rintro (h | rfl)
      · exact h
      · rw [← h1.1]; exact rdI_mem (by omega) (by omega)
theorem foldl_push {l acc : List Int} {x : Int} : x ∈ l.foldl pushU acc ↔ x ∈ acc ∨ x ∈ l := by
  induction l generalizing acc with
  | nil => simp
  | cons v r ih => rw [List.foldl_cons, ih, pushU_mem]; simp [or_assoc]
theorem mrg_mem {x : Int} : ∀ (a b : List Int), x ∈ mrg a b ↔ x ∈ a ∨ x ∈ b
  | [], b => by rw [mrg]; simp
  | y :: a, [] => by rw [mrg]; simp
  | y :: a, z :: b => by
    rw [mrg]
    split
    · rw [List.mem_cons, mrg_mem a (z :: b)]; simp [or_assoc]
    · rw [List.mem_cons, mrg_mem (y :: a) b]
      simp only [List.mem_cons]
      constructor
      · rintro (h | (h | h) | h) <;> simp [h]
      · rintro ((h | h) | (h | h)) <;> simp [h]
termination_by a b => a.length + b.length
theorem union_mem {a b : List Int} {x : Int} : x ∈ unionS a b ↔ x ∈ a ∨ x ∈ b := by
  rw [unionS, foldl_push, mrg_mem]; simp
theorem mrg_len : ∀ (a b : List Int), (mrg a b).length = a.length + b.length
  | [], b => by rw [mrg]; simp
  | y :: a, [] => by rw [mrg]; simp
  | y :: a, z :: b => by
    rw [mrg]
    split
    · rw [List.length_cons, mrg_len a (z :: b)]; simp; omega
    · rw [List.length_cons, mrg_len (y :: a) b]; simp; omega
termination_by a b => a.length + b.length
theorem foldl_len (l acc : List Int) : (l.foldl pushU acc).length ≤ acc.length + l.length := by
  induction l generalizing acc with
  | nil => simp
  | cons v r ih =>
    have := ih (pushU acc v)
    have h : (pushU acc v).length ≤ acc.length + 1 := by unfold pushU; split <;> simp
    rw [List.foldl_cons, List.length_cons]; omega
theorem union_len (a b : List Int) : (unionS a b).length ≤ a.length + b.length := by
  have := foldl_len (mrg a b) []
  rw [mrg_len] at this
  simpa [unionS] using this
def takeU (a b : List Int) : Int × List Int × List Int := if tk a b then (rdI a 0, a.drop 1, b) else (rdI b 0, a, b.drop 1)
theorem take_mrg {a b a2 b2 : List Int} {v : Int} (h : 0 < a.length ∨ 0 < b.length) (ht : takeU a b = (v, a2, b2)) : mrg a b = v :: mrg a2 b2 ∧ a2.length + b2.length + 1 = a.length + b.length := by
  unfold takeU at ht
  split at ht
  · rename_i q
    have h1 : 0 < a.length := by
      simp only [tk, decide_eq_true_eq] at q; omega
    cases ht
    exact ⟨mrg_tk h1 q, by simp; omega⟩
  · rename_i q
    have q : tk a b = false := by simpa using q
    have h1 : 0 < b.length := by
      simp only [tk, decide_eq_false_iff_not] at q; omega
    cases ht
    exact ⟨mrg_nt h1 q, by simp; omega⟩
set_option maxHeartbeats 4000000 in
theorem union_ok (a b : List Int) (hab : a.length + b.length ≤ 2000000) : Snd P 87 [.d (.sl false (a.map encI)), .d (.sl false (b.map encI))] (.d (.sl false ((unionS a b).map encI))) [] := by
  refine snd_of [] Try.func87 rfl (by kernel_rfl) Try.ntmps87 (by simp) ?_
  unfold Try.f87
  simp only [List.cons_append, List.nil_append, List.length_cons, List.length_nil, Nat.reduceAdd, Nat.reduceSub, List.replicate]
  refine Run.seq ?_
  refine opsF oo31 fun K hK => ?_
  try simp
  repeat' first | ((refine evL_c ?_); simp) | (with_reducible refine And.intro ?_ ?_) | intro _ | (with_reducible assumption) | omega
  all_goals (refine Fin.go hK ?_; clear hK K)
  simp only [Then_normal]
  refine Run.seq ?_
  refine opsF [⟨Op.assign (Operand.const (Value.slice none 0 0)), some 5, none⟩] fun K hK => ?_
  try simp
  repeat' first | ((refine evL_c ?_); simp) | (with_reducible refine And.intro ?_ ?_) | intro _ | (with_reducible assumption) | omega
  all_goals (refine Fin.go hK ?_; clear hK K)
  simp only [Then_normal]
  refine Run.virt 5 5900 1 (by omega) (.inl rfl) ?_ rfl
  simp only [V.fgtL, V.fgt, fgtS, putB, List.set]
  refine Run.seq ?_
  refine Run.block ?_
  refine Run.loopO [0, 1, 5, 6, 7, 8, 9, 10, 11, 12, 13, 14, 15, 16, 17, 18, 19, 20, 21, 22, 23, 24, 25, 26, 27, 28, 29, 30, 31, 32, 33, 34, 35, 36, 37, 38, 39, 40, 41, 42, 43, 44, 45, 46, 47, 48, 49, 50, 51, 52, 53, 54, 55, 56, 57, 58] (fun (x : List Int × List Int × List Int) => [(0, .d (.sl false (x.1.map encI))), (1, .d (.sl false (x.2.1.map encI))), (5, .rs 5900 1 0 x.2.2.length)]) (fun (x : List Int × List Int × List Int) => [(5900, .data 1 (x.2.2.map encI))]) (fun (x : List Int × List Int × List Int) => (mrg x.1 x.2.1).foldl pushU x.2.2 = unionS a b ∧ x.2.2.length + (x.1.length + x.2.1.length) ≤ 2000000) (fun (x : List Int × List Int × List Int) => x.1.length + x.2.1.length) (a, b, []) ⟨rfl, by simpa using hab⟩ (by simp) fun ⟨a1, b1, acc⟩ ⟨hg, hl⟩ => ?_
  simp only at hg hl
  simp only [over, List.foldl, List.set]
  obtain ⟨la, hla⟩ : ∃ x, a1.length = x := ⟨_, rfl⟩
  obtain ⟨lb, hlb⟩ : ∃ x, b1.length = x := ⟨_, rfl⟩
  obtain ⟨lc, hlc⟩ : ∃ x, acc.length = x := ⟨_, rfl⟩
  rw [hla, hlb, hlc] at hl
  refine Run.seq ?_
  refine Run.cut [7, 8, 9, 10, 11, 12, 13, 14] [(14, .bool (decide (0 < la ∨ 0 < lb)))] [(5900, .data 1 (acc.map encI))] ?_ ?_
  · refine opsF [⟨Op.move (Operand.tmp 0), some 7, none⟩, ⟨Op.call { callee := Callee.builtin Builtin.len, args := #[Operand.tmp 7], argTypes := #[24] }, some 8, none⟩, ⟨Op.binOp BinOp.gtr 3 (Operand.tmp 8) (Operand.const (Value.int IntKind.i64 0)) 3, some 9, none⟩, ⟨Op.move (Operand.tmp 9), some 10, none⟩, ⟨Op.move (Operand.tmp 1), some 11, some (some 10, false)⟩, ⟨Op.call { callee := Callee.builtin Builtin.len, args := #[Operand.tmp 11], argTypes := #[24] }, some 12, some (some 10, false)⟩, ⟨Op.binOp BinOp.gtr 3 (Operand.tmp 12) (Operand.const (Value.int IntKind.i64 0)) 3, some 13, some (some 10, false)⟩, ⟨Op.pick (Operand.tmp 10) (Operand.const (Value.bool true)) (Operand.tmp 13), some 14, none⟩] fun K hK => ?_
    try simp
    repeat' first | ((first | refine evL_c ?_ | (refine evL_g rfl ?_; try simp only [gs_tt, gs_ff, gs_tf, gs_ft]) | refine evL_u rfl ?_ | (with_reducible refine gsplit (fun hg => ?_) (fun hg => ?_) <;> try simp at hg)) <;> try simp [*]) | (with_reducible refine And.intro ?_ ?_) | intro _ | (with_reducible assumption) | omega
    all_goals (refine Fin.go hK ?_; clear hK K)
    all_goals
      (try simp [hla, hlb, hlc]) <;> (first | omega | (simp; done) | (rw [Bool.eq_iff_iff]; simp only [Bool.or_eq_true, Bool.and_eq_true, Bool.not_eq_true', decide_eq_true_eq, decide_eq_false_iff_not]; omega) | grind)
  · simp only [over, List.foldl, List.set]
    refine Run.cond rfl (fun h14 => ?_) (fun h14 => ?_)
    · replace h14 := of_decide_eq_true h14
      obtain ⟨⟨v, a2, b2⟩, ht⟩ : ∃ x, takeU a1 b1 = x := ⟨_, rfl⟩
      obtain ⟨hmg, hml⟩ := take_mrg (by rw [hla, hlb]; exact h14) ht
      rw [hla, hlb] at hml
      have q1 : ¬ lb = 0 → 0 < lb := by omega
      have q2 : ¬ lc = 0 → IntKind.i64.wrap ((lc:Int) - 1) = (lc:Int) - 1 := fun h => wrap_id (by omega) (by omega)
      have q3 : ¬ lc = 0 → ((lc:Int) - 1).toNat < lc := by omega
      have q7 : ¬ lc = 0 → lc - 1 < lc := by omega
      have q8 : ¬ lc = 0 → ((lc - 1 : Nat) : Int) = (lc:Int) - 1 := by omega
      have q4 : ¬ lc = 0 → 0 ≤ (lc:Int) - 1 := by omega
      have q5 : (lc:Int) - 1 < lc := by omega
      have q6 : (lc + 1) * 8 ≤ 140737488355328 := by omega
      refine Run.skip ?_
      simp only [Then_normal]
      refine Run.block ?_
      refine Run.seq ?_
      refine opsF oo42 fun K hK => ?_
      try simp
      repeat' first | ((refine evL_c ?_); simp [hla, hlb, hlc, q1, q2, q3, q4, q5, q6, q7, q8]) | (with_reducible refine And.intro ?_ ?_) | intro _ | (with_reducible assumption) | omega
      all_goals (refine Fin.go hK ?_; clear hK K)
      simp only [Then_normal]
      refine Run.cut [0, 1, 6, 15, 16, 17, 18, 19, 20, 21, 22, 23, 24, 25, 26, 27, 28, 29, 30, 31, 32, 33, 34, 35, 36, 37, 38, 39, 40, 41] [(6, .int v), (0, .d (.sl false (a2.map encI))), (1, .d (.sl false (b2.map encI)))] [(5900, .data 1 (acc.map encI))] ?_ ?_
      · refine Run.cut [15, 16, 17, 18, 19, 20, 21, 22, 23, 24, 25, 26, 27, 28, 29, 30, 31] [(31, .bool (tk a1 b1))] [(5900, .data 1 (acc.map encI))] ?_ ?_
        · refine opsF [⟨Op.move (Operand.tmp 1), some 15, none⟩, ⟨Op.call { callee := Callee.builtin Builtin.len, args := #[Operand.tmp 15], argTypes := #[24] }, some 16, none⟩, ⟨Op.binOp BinOp.eql 3 (Operand.tmp 16) (Operand.const (Value.int IntKind.i64 0)) 3, some 17, none⟩, ⟨Op.move (Operand.tmp 17), some 18, none⟩, ⟨Op.move (Operand.tmp 0), some 19, some (some 18, false)⟩, ⟨Op.call { callee := Callee.builtin Builtin.len, args := #[Operand.tmp 19], argTypes := #[24] }, some 20, some (some 18, false)⟩, ⟨Op.binOp BinOp.gtr 3 (Operand.tmp 20) (Operand.const (Value.int IntKind.i64 0)) 3, some 21, some (some 18, false)⟩, ⟨Op.move (Operand.tmp 21), some 22, some (some 18, false)⟩, ⟨Op.move (Operand.tmp 0), some 23, some (some 22, true)⟩, ⟨Op.indexAddr 24 (Operand.tmp 23) (Operand.const (Value.int IntKind.i64 0)), some 24, some (some 22, true)⟩, ⟨Op.load 3 (Operand.tmp 24), some 25, some (some 22, true)⟩, ⟨Op.move (Operand.tmp 1), some 26, some (some 22, true)⟩, ⟨Op.indexAddr 24 (Operand.tmp 26) (Operand.const (Value.int IntKind.i64 0)), some 27, some (some 22, true)⟩, ⟨Op.load 3 (Operand.tmp 27), some 28, some (some 22, true)⟩, ⟨Op.binOp BinOp.leq 3 (Operand.tmp 25) (Operand.tmp 28) 3, some 29, some (some 22, true)⟩, ⟨Op.pick (Operand.tmp 22) (Operand.tmp 29) (Operand.const (Value.bool false)), some 30, some (some 18, false)⟩, ⟨Op.pick (Operand.tmp 18) (Operand.const (Value.bool true)) (Operand.tmp 30), some 31, none⟩] fun K hK => ?_
          try simp
          repeat' first | ((first | refine evL_c ?_ | (refine evL_g rfl ?_; try simp only [gs_tt, gs_ff, gs_tf, gs_ft]) | refine evL_u rfl ?_ | (with_reducible refine gsplit (fun hg => ?_) (fun hg => ?_) <;> try simp at hg)) <;> try simp [hla, hlb, hlc, q1, q2, q3, q4, q5, q6, q7, q8, *]) | (with_reducible refine And.intro ?_ ?_) | intro _ | (with_reducible assumption) | omega
          all_goals (refine Fin.go hK ?_; clear hK K)
          all_goals
            (try simp [tk, hla, hlb, hlc, *]) <;> (first | omega | (simp; done) | (rw [Bool.eq_iff_iff]; simp only [Bool.or_eq_true, Bool.and_eq_true, Bool.not_eq_true', decide_eq_true_eq, decide_eq_false_iff_not]; omega) | grind)
        · simp only [over, List.foldl, List.set]
          refine Run.cond rfl (fun h31 => ?_) (fun h31 => ?_)
          · have ha0 : 0 < la := by
              have := h31
              simp [tk, hla, hlb] at this
              omega
            refine Run.seq ?_
            refine opsF [⟨Op.move (Operand.tmp 0), some 32, none⟩, ⟨Op.indexAddr 24 (Operand.tmp 32) (Operand.const (Value.int IntKind.i64 0)), some 33, none⟩, ⟨Op.load 3 (Operand.tmp 33), some 34, none⟩, ⟨Op.assign (Operand.tmp 34), some 6, none⟩] fun K hK => ?_
            try simp
            repeat' first | ((refine evL_c ?_); simp [hla, hlb, hlc, q1, q2, q3, q4, q5, q6, q7, q8, ha0]) | (with_reducible refine And.intro ?_ ?_) | intro _ | (with_reducible assumption) | omega
            all_goals (refine Fin.go hK ?_; clear hK K)
            simp only [Then_normal]
            refine opsF [⟨Op.move (Operand.tmp 0), some 35, none⟩, ⟨Op.slice 24 (Operand.tmp 35) (some (Operand.const (Value.int IntKind.i64 1))) none none, some 36, none⟩, ⟨Op.assign (Operand.tmp 36), some 0, none⟩] fun K hK => ?_
            try simp
            repeat' first | ((refine evL_c ?_); simp [hla, hlb, hlc, q1, q2, q3, q4, q5, q6, q7, q8, ha0]) | (with_reducible refine And.intro ?_ ?_) | intro _ | (with_reducible assumption) | omega
            all_goals (refine Fin.go hK ?_; clear hK K)
            rw [takeU, h31] at ht
            simp at ht
            obtain ⟨rfl, rfl, rfl⟩ := ht
            simp [hla, hlb, hlc, h14, List.map_drop, List.take_of_length_le]
          · have hb0 : 0 < lb := by
              have := h31
              simp [tk, hla, hlb] at this
              omega
            refine Run.seq ?_
            refine opsF [⟨Op.move (Operand.tmp 1), some 37, none⟩, ⟨Op.indexAddr 24 (Operand.tmp 37) (Operand.const (Value.int IntKind.i64 0)), some 38, none⟩, ⟨Op.load 3 (Operand.tmp 38), some 39, none⟩, ⟨Op.assign (Operand.tmp 39), some 6, none⟩] fun K hK => ?_
            try simp
            repeat' first | ((refine evL_c ?_); simp [hla, hlb, hlc, q1, q2, q3, q4, q5, q6, q7, q8, hb0]) | (with_reducible refine And.intro ?_ ?_) | intro _ | (with_reducible assumption) | omega
            all_goals (refine Fin.go hK ?_; clear hK K)
            simp only [Then_normal]
            refine opsF [⟨Op.move (Operand.tmp 1), some 40, none⟩, ⟨Op.slice 24 (Operand.tmp 40) (some (Operand.const (Value.int IntKind.i64 1))) none none, some 41, none⟩, ⟨Op.assign (Operand.tmp 41), some 1, none⟩] fun K hK => ?_
            try simp
            repeat' first | ((refine evL_c ?_); simp [hla, hlb, hlc, q1, q2, q3, q4, q5, q6, q7, q8, hb0]) | (with_reducible refine And.intro ?_ ?_) | intro _ | (with_reducible assumption) | omega
            all_goals (refine Fin.go hK ?_; clear hK K)
            rw [takeU, h31] at ht
            simp at ht
            obtain ⟨rfl, rfl, rfl⟩ := ht
            simp [hla, hlb, hlc, h14, List.map_drop, List.take_of_length_le]
      · simp only [over, List.foldl, List.set]
        refine Run.cut [42, 43, 44, 45, 46, 47, 48, 49, 50, 51, 52, 53, 54] [(54, .bool (decide (lc = 0 ∨ rdI acc ((lc:Int) - 1) ≠ v)))] [(5900, .data 1 (acc.map encI))] ?_ ?_
        · refine opsF [⟨Op.move (Operand.tmp 5), some 42, none⟩, ⟨Op.call { callee := Callee.builtin Builtin.len, args := #[Operand.tmp 42], argTypes := #[24] }, some 43, none⟩, ⟨Op.binOp BinOp.eql 3 (Operand.tmp 43) (Operand.const (Value.int IntKind.i64 0)) 3, some 44, none⟩, ⟨Op.move (Operand.tmp 44), some 45, none⟩, ⟨Op.move (Operand.tmp 5), some 46, some (some 45, false)⟩, ⟨Op.move (Operand.tmp 5), some 47, some (some 45, false)⟩, ⟨Op.call { callee := Callee.builtin Builtin.len, args := #[Operand.tmp 47], argTypes := #[24] }, some 48, some (some 45, false)⟩, ⟨Op.binOp BinOp.sub 3 (Operand.tmp 48) (Operand.const (Value.int IntKind.i64 1)) 3, some 49, some (some 45, false)⟩, ⟨Op.indexAddr 24 (Operand.tmp 46) (Operand.tmp 49), some 50, some (some 45, false)⟩, ⟨Op.load 3 (Operand.tmp 50), some 51, some (some 45, false)⟩, ⟨Op.move (Operand.tmp 6), some 52, some (some 45, false)⟩, ⟨Op.binOp BinOp.neq 3 (Operand.tmp 51) (Operand.tmp 52) 3, some 53, some (some 45, false)⟩, ⟨Op.pick (Operand.tmp 45) (Operand.const (Value.bool true)) (Operand.tmp 53), some 54, none⟩] fun K hK => ?_
          try simp
          repeat' first | ((first | refine evL_c ?_ | (refine evL_g rfl ?_; try simp only [gs_tt, gs_ff, gs_tf, gs_ft]) | refine evL_u rfl ?_ | (with_reducible refine gsplit (fun hg => ?_) (fun hg => ?_) <;> try simp at hg)) <;> try simp [hla, hlb, hlc, q1, q2, q3, q4, q5, q6, q7, q8, *]) | (with_reducible refine And.intro ?_ ?_) | intro _ | (with_reducible assumption) | omega
          all_goals (refine Fin.go hK ?_; clear hK K)
          all_goals
            (try simp [hlc]) <;> (first | omega | (simp; done) | (rw [Bool.eq_iff_iff]; simp only [Bool.or_eq_true, Bool.and_eq_true, Bool.not_eq_true', decide_eq_true_eq, decide_eq_false_iff_not]; omega) | grind)
        · simp only [over, List.foldl, List.set]
          refine Run.cond rfl (fun h54 => ?_) (fun h54 => ?_)
          · replace h54 := of_decide_eq_true h54
            refine opsF [⟨Op.move (Operand.tmp 5), some 55, none⟩, ⟨Op.move (Operand.tmp 6), some 56, none⟩, ⟨Op.buildSlice 24 1 #[(0, Operand.tmp 56)], some 57, none⟩, ⟨Op.call { callee := Callee.builtin Builtin.append, args := #[Operand.tmp 55, Operand.tmp 57], argTypes := #[24, 24] }, some 58, none⟩, ⟨Op.assign (Operand.tmp 58), some 5, none⟩] fun K hK => ?_
            try simp
            repeat' first | ((refine evL_c ?_); simp [hla, hlb, hlc, q1, q2, q3, q4, q5, q6, q7, q8]) | (with_reducible refine And.intro ?_ ?_) | intro _ | (with_reducible assumption) | omega
            all_goals (refine Fin.go hK ?_; clear hK K)
            simp only [Blok_normal]
            refine ⟨(a2, b2, pushU acc v), ⟨by rw [← hg, hmg]; rfl, ?_⟩, by simp; omega, ?_⟩
            · have : (pushU acc v).length ≤ acc.length + 1 := by unfold pushU; split <;> simp
              simp only; omega
            · first
                | (have e : pushU acc v = acc ++ [v] := by rw [pushU, hlc, if_pos h54]
                   simp [e, hlc, List.take_of_length_le]; done)
                | (have e : pushU acc v = acc := by rw [pushU, hlc, if_neg h54]
                   simp [e, hlc]; done)
          · replace h54 := of_decide_eq_false h54
            refine Run.skip ?_
            simp only [Blok_normal]
            refine ⟨(a2, b2, pushU acc v), ⟨by rw [← hg, hmg]; rfl, ?_⟩, by simp; omega, ?_⟩
            · have : (pushU acc v).length ≤ acc.length + 1 := by unfold pushU; split <;> simp
              simp only; omega
            · first
                | (have e : pushU acc v = acc ++ [v] := by rw [pushU, hlc, if_pos h54]
                   simp [e, hlc, List.take_of_length_le]; done)
                | (have e : pushU acc v = acc := by rw [pushU, hlc, if_neg h54]
                   simp [e, hlc]; done)
    · replace h14 := of_decide_eq_false h14
      refine Run.exit ?_
      simp (decide := true) only [Then_exit, Blok_exit, if_true, if_false]
      simp only [Then_normal]
      refine Run.seq ?_
      refine opsF [⟨Op.move (Operand.tmp 5), some 59, none⟩, ⟨Op.assign (Operand.tmp 59), some 4, none⟩] fun K hK => ?_
      try simp
      repeat' first | ((refine evL_c ?_); simp [hla, hlb, hlc]) | (with_reducible refine And.intro ?_ ?_) | intro _ | (with_reducible assumption) | omega
      all_goals (refine Fin.go hK ?_; clear hK K)
      simp only [Then_normal]
      refine Run.ret ?_
      try simp only [Then_ret, Blok_ret]
      first
        | (have e1 : a1 = [] := List.length_eq_zero_iff.1 (by omega)
           have e2 : b1 = [] := List.length_eq_zero_iff.1 (by omega)
           rw [e1, e2, mrg] at hg
           have e3 : acc = unionS a b := hg
           simp [← e3, hlc, List.take_of_length_le]; done)


end Go.Proofs.Ytihbejpkfifplaa.Z
end
section
namespace Go.Fw
variable {P : Program} {Q : Exit → St → Prop}
theorem getB_fgtS' {p : Nat → Bool} {s : Store} {i : Nat} {b : Blk} (h : getB (fgtS p s) i = some b) : p i = false ∧ ∃ c, getB s i = some c := by
  induction s with
  | nil => cases h
  | cons x r ih =>
    obtain ⟨j, d⟩ := x
    simp only [fgtS] at h
    split at h
    · rename_i hp
      obtain ⟨h1, c, h2⟩ := ih h
      refine ⟨h1, ?_⟩
      simp only [getB]
      split
      · exact ⟨d, rfl⟩
      · exact ⟨c, h2⟩
    · rename_i hp
      simp only [getB] at h ⊢
      split at h
      · rename_i e
        subst e
        rw [if_pos rfl]
        exact ⟨by simpa using hp, d, rfl⟩
      · rename_i e
        rw [if_neg e]
        exact ih h
theorem Rel.frz {w0 : World} {L0 : Par} {X : Nat → Prop} {m : Nat → Option Nat} {e : Env} {s : Store} {a : Act} {w : World} (h : Rel w0 L0 X m e s a w) {k id sz off len : Nat} {rows : List (List D)} (hid : getB s id = some (.data sz rows)) (hle : off + len ≤ rows.length) (hk : e.getD k .top = .rs id sz off len) :
    Rel w0 L0 X m ((V.fgtL (· == id) e).set k (.d (.sl false ((rows.drop off).take len)))) (fgtS (· == id) s) a w := by
  have hv := h.look (.tmp k)
  simp only [Fw.look, hk] at hv
  have hlt : k < e.length := by
    rcases Nat.lt_or_ge k e.length with h | h
    · exact h
    · rw [List.getD_eq_getElem?_getD, List.getElem?_eq_none h] at hk; cases hk
  have hlt' : k < a.tmps.size := by have := h.env.len; simp at this; omega
  have hkeep : id ∉ (s.map (·.1)).filter (fun i => !(i == id)) := by simp
  have h1 := fin_rel h (keep := (s.map (·.1)).filter (fun i => !(i == id))) hv
  have e0 : V.fin ((s.map (·.1)).filter (fun i => !(i == id))) s (.rs id sz off len) = .d (.sl false ((rows.drop off).take len)) := by
    simp only [V.fin]
    rw [show ((s.map (·.1)).filter (fun i => !(i == id))).idxOf? id = none from List.idxOf?_eq_none_iff.2 hkeep]
    simp only [Fw.frz, hid]
    simp [hle]
  rw [e0] at h1
  have hL : ∀ b, Live X m (fgtS (· == id) s) b → Live X (finM ((s.map (·.1)).filter (fun i => !(i == id))) m) (finS ((s.map (·.1)).filter (fun i => !(i == id))) s ((s.map (·.1)).filter (fun i => !(i == id))) 0) b := by
    intro b hb
    refine hb.imp_right ?_
    rintro ⟨i, blk, g1, g2⟩
    obtain ⟨g3, c, g4⟩ := getB_fgtS' g1
    have hi : i ∈ (s.map (·.1)).filter (fun i => !(i == id)) := by
      rw [List.mem_filter]
      exact ⟨List.mem_map.2 ⟨_, getB_mem g4, rfl⟩, by simpa using g3⟩
    obtain ⟨j, hj⟩ := List.getElem?_of_mem hi
    refine ⟨j, c.fin ((s.map (·.1)).filter (fun i => !(i == id))) s, ?_, by simp [finM, hj, g2]⟩
    rw [getB_finS]
    simp [hj, g4]
  have hd : VRel w (Live X m (fgtS (· == id) s)) m (.d (.sl false ((rows.drop off).take len))) (a.eval (.tmp k)) := by
    cases h1 with
    | d hd => exact .d (hd.mono (fun _ _ _ q => q) fun b hb => .inl (hL b hb))
  have h2 := (h.fgt (· == id)).put (some k) hd
  have e1 : a.put (some k) (a.eval (.tmp k)) = a := by
    cases a with
    | mk tmps defers =>
      simp only [Act.eval, Act.put]
      congr 1
      apply Array.ext
      · simp
      · intro j h1 h2
        by_cases e : k = j
        · subst e
          simp [Array.getD, h2]
        · rw [Array.getElem_setIfInBounds, if_neg e]
  rw [e1] at h2
  exact h2
/-- a slot's block is given up -/
theorem Run.frz {c : Code} {e : Env} {s : Store} (k id : Nat) {sz off len : Nat} {rows : List (List D)} (hid : getB s id = some (.data sz rows)) (hle : off + len ≤ rows.length) (hk : e.getD k .top = .rs id sz off len)
    (h : Run P c ⟨(V.fgtL (· == id) e).set k (.d (.sl false ((rows.drop off).take len))), fgtS (· == id) s⟩ Q) : Run P c ⟨e, s⟩ Q := fun w0 L0 X m a w hr => h w0 L0 X (hr.frz hid hle hk)
/-- data may be read as other data -/
theorem Run.sub {c : Code} {e : Env} {s : Store} (k : Nat) {x y : D} (hk : e.getD k .top = .d x) (hs : ∀ (w : World) (L : Nat → Prop) (v : Value), DRel w L x v → DRel w L y v) (h : Run P c ⟨e.set k (.d y), s⟩ Q) : Run P c ⟨e, s⟩ Q := fun w0 L0 X m a w hr => by
  have hv := hr.look (.tmp k)
  simp only [look, hk] at hv
  have hlt : k < e.length := by
    rcases Nat.lt_or_ge k e.length with h | h
    · exact h
    · rw [List.getD_eq_getElem?_getD, List.getElem?_eq_none h] at hk; cases hk
  have hlt' : k < a.tmps.size := by have := hr.env.len; simp at this; omega
  have hd : VRel w (Live X m s) m (.d y) (a.eval (.tmp k)) := by
    cases hv with
    | d hd => exact .d (hs _ _ _ hd)
  have h2 := hr.put (some k) hd
  have e1 : a.put (some k) (a.eval (.tmp k)) = a := by
    cases a with
    | mk tmps defers =>
      simp only [Act.eval, Act.put]
      congr 1
      apply Array.ext
      · simp
      · intro j h1 h2
        by_cases e : k = j
        · subst e
          simp [Array.getD, h2]
        · rw [Array.getElem_setIfInBounds, if_neg e]
  rw [e1] at h2
  exact h w0 L0 X h2
end Go.Fw
end
section
set_option maxRecDepth 100000
namespace Go.Proofs.Ytihbejpkfifplaa.Z
open Go Go.Fw
set_option maxHeartbeats 4000000 in
theorem est1_ok (c : CoreT) (s : StatsT) (p : PlanT) (hP : patS c.nodes c.edges = true) (hop : p.op = 1) (hkl : p.kids.length = 0) (hs0 : 0 ≤ p.slot) (hs1 : p.slot < c.nodes.length) : Snd P 32 [.d (.ag (encC c ++ encS s)), .d (.ag (encP p))] (.int (nodesS c s p.slot)) [] := by
  have hN := nodesS_ok c s p.slot hs0 hs1
  refine snd_of [] Try.func32 rfl (by kernel_rfl) Try.ntmps32 (by simp) ?_
  unfold Try.f32
  simp only [List.cons_append, List.nil_append, List.length_cons, List.length_nil, Nat.reduceAdd, Nat.reduceSub, List.replicate]
  refine Run.seq ?_
  refine opsF oo66 fun K hK => ?_
  try simp
  repeat' first | ((refine evL_c ?_); simp [hop]) | (with_reducible refine And.intro ?_ ?_) | intro _ | (with_reducible assumption) | omega
  all_goals (refine Fin.go hK ?_; clear hK K)
  simp only [Then_normal]
  refine Run.seq ?_
  refine Run.seq ?_
  refine opsF oo67 fun K hK => ?_
  try simp
  repeat' first | ((refine evL_c ?_); simp [hop]) | (with_reducible refine And.intro ?_ ?_) | intro _ | (with_reducible assumption) | omega
  all_goals (refine Fin.go hK ?_; clear hK K)
  simp only [Then_normal]
  refine Run.cond rfl (fun h23 => ?_) (fun h23 => ?_)
  · skip
    refine Run.seq ?_
    refine opsF [⟨Op.load 82 (Operand.tmp 2), some 24, none⟩, ⟨Op.fieldAddr 27 (Operand.tmp 3) 2, some 25, none⟩, ⟨Op.load 3 (Operand.tmp 25), some 26, none⟩, ⟨Op.call { callee := Callee.value (Operand.func 63), args := #[Operand.tmp 24, Operand.tmp 26], argTypes := #[82, 3] }, some 27, none⟩, ⟨Op.assign (Operand.tmp 27), some 4, none⟩] fun K hK => ?_
    try simp
    repeat' first | (refine ecallD (by exact hN) ?_) | ((refine evL_c ?_); simp [hop]) | (with_reducible refine And.intro ?_ ?_) | intro _ | (with_reducible assumption) | omega
    all_goals (refine Fin.go hK ?_; clear hK K)
    simp only [Then_normal]
    refine Run.ret ?_
    try simp only [Then_ret, Blok_ret]
    simp
  · simp at h23

set_option maxHeartbeats 4000000 in
theorem est6_ok (c : CoreT) (s : StatsT) (p : PlanT) (n0 : Int) (b0 : List Bool) (hP : patS c.nodes c.edges = true) (hop : p.op = 6) (hkl : p.kids.length = 1) (IH0 : Snd P 32 [.d (.ag (encC c ++ encS s)), .d (.ag (encP (rdI p.kids 0)))] (.int n0) []) (hn0 : 0 ≤ n0 ∧ n0 ≤ 1099511627776) (hB0 : Snd P 20 [.d (.ag (encP (rdI p.kids 0))), .d (.ag (encC c))] (.tup [.d (.sl false (b0.map encB)), .int 0]) []) (hb0 : b0.length = c.nodes.length + c.edges.length) : Snd P 32 [.d (.ag (encC c ++ encS s)), .d (.ag (encP p))] (.int (filtE n0 p.terms.length)) [] := by
  refine Snd.ok 1 rfl (by kernel_rfl) fun hok => ?_
  have htm := (encP_ok hok).2.2
  clear hok
  obtain ⟨-, hn8, hk8⟩ := pat_rng hP
  have hE := goodE_of hP
  obtain ⟨n, hn⟩ : ∃ k, c.nodes.length = k := ⟨_, rfl⟩
  obtain ⟨k, hk⟩ : ∃ k, c.edges.length = k := ⟨_, rfl⟩
  rw [hn] at hn8
  rw [hk] at hk8
  rw [hn, hk] at hb0
  have hI := IH0
  have hJ := hB0
  rw [encP_cells] at hI hJ
  obtain ⟨tl, htl⟩ : ∃ m, p.terms.length = m := ⟨_, rfl⟩
  rw [htl] at htm
  refine snd_of [] Try.func32 rfl (by kernel_rfl) Try.ntmps32 (by simp) ?_
  unfold Try.f32
  simp only [List.cons_append, List.nil_append, List.length_cons, List.length_nil, Nat.reduceAdd, Nat.reduceSub, List.replicate]
  refine Run.seq ?_
  refine opsF oo66 fun K hK => ?_
  try simp
  repeat' first | ((refine evL_c ?_); simp [hn, hk, hop, hkl, hb0, htl]) | (with_reducible refine And.intro ?_ ?_) | intro _ | (with_reducible assumption) | omega
  all_goals (refine Fin.go hK ?_; clear hK K)
  simp only [Then_normal]
  refine Run.seq ?_
  refine Run.seq ?_
  refine opsF oo67 fun K hK => ?_
  try simp
  repeat' first | ((refine evL_c ?_); simp [hn, hk, hop, hkl, hb0, htl]) | (with_reducible refine And.intro ?_ ?_) | intro _ | (with_reducible assumption) | omega
  all_goals (refine Fin.go hK ?_; clear hK K)
  simp only [Then_normal]
  refine Run.cond rfl (fun h23 => ?_) (fun h23 => ?_)
  · simp at h23
  · skip
    refine Run.skip ?_
    simp only [Then_normal]
    refine Run.seq ?_
    refine opsF oo68 fun K hK => ?_
    try simp
    repeat' first | ((refine evL_c ?_); simp [hn, hk, hop, hkl, hb0, htl]) | (with_reducible refine And.intro ?_ ?_) | intro _ | (with_reducible assumption) | omega
    all_goals (refine Fin.go hK ?_; clear hK K)
    simp only [Then_normal]
    refine Run.seq ?_
    refine opsF oo69 fun K hK => ?_
    try simp
    repeat' first | (refine ecallD (by exact hI) ?_) | ((refine evL_c ?_); simp [hn, hk, hop, hkl, hb0, htl]) | (with_reducible refine And.intro ?_ ?_) | intro _ | (with_reducible assumption) | omega
    all_goals (refine Fin.go hK ?_; clear hK K)
    simp only [Then_normal]
    refine Run.seq ?_
    refine opsF oo70 fun K hK => ?_
    try simp
    repeat' first | (refine ecall (by exact hJ) rfl ?_) | ((refine evL_c ?_); simp [hn, hk, hop, hkl, hb0, htl]) | (with_reducible refine And.intro ?_ ?_) | intro _ | (with_reducible assumption) | omega
    all_goals (refine Fin.go hK ?_; clear hK K)
    simp only [Then_normal]
    refine Run.seq ?_
    refine Run.seq ?_
    refine opsF oo71 fun K hK => ?_
    try simp
    repeat' first | ((refine evL_c ?_); simp [hn, hk, hop, hkl, hb0, htl]) | (with_reducible refine And.intro ?_ ?_) | intro _ | (with_reducible assumption) | omega
    all_goals (refine Fin.go hK ?_; clear hK K)
    simp only [Then_normal]
    refine Run.block ?_
    refine Run.seq ?_
    refine Run.seq ?_
    refine opsF oo72 fun K hK => ?_
    try simp
    repeat' first | ((refine evL_c ?_); simp [hn, hk, hop, hkl, hb0, htl]) | (with_reducible refine And.intro ?_ ?_) | intro _ | (with_reducible assumption) | omega
    all_goals (refine Fin.go hK ?_; clear hK K)
    simp only [Then_normal]
    refine Run.cond rfl (fun h44 => ?_) (fun h44 => ?_)
    · simp at h44
    · skip
      refine opsF oo73 fun K hK => ?_
      try simp
      repeat' first | ((refine evL_c ?_); simp [hn, hk, hop, hkl, hb0, htl]) | (with_reducible refine And.intro ?_ ?_) | intro _ | (with_reducible assumption) | omega
      all_goals (refine Fin.go hK ?_; clear hK K)
      simp only [Then_normal]
      refine Run.cond rfl (fun h44 => ?_) (fun h44 => ?_)
      · simp at h44
      · skip
        refine Run.seq ?_
        refine opsF oo74 fun K hK => ?_
        try simp
        repeat' first | ((refine evL_c ?_); simp [hn, hk, hop, hkl, hb0, htl]) | (with_reducible refine And.intro ?_ ?_) | intro _ | (with_reducible assumption) | omega
        all_goals (refine Fin.go hK ?_; clear hK K)
        simp only [Then_normal]
        refine Run.cond rfl (fun h118 => ?_) (fun h118 => ?_)
        · simp at h118
        · skip
          refine Run.seq ?_
          refine opsF oo75 fun K hK => ?_
          try simp
          repeat' first | ((refine evL_c ?_); simp [hn, hk, hop, hkl, hb0, htl]) | (with_reducible refine And.intro ?_ ?_) | intro _ | (with_reducible assumption) | omega
          all_goals (refine Fin.go hK ?_; clear hK K)
          simp only [Then_normal]
          refine Run.cond rfl (fun h162 => ?_) (fun h162 => ?_)
          · simp at h162
          · skip
            refine Run.seq ?_
            refine opsF [⟨Op.binOp BinOp.eql 22 (Operand.tmp 43) (Operand.const (Value.int IntKind.i64 6)) 22, some 213, none⟩, ⟨Op.assign (Operand.tmp 213), some 212, none⟩] fun K hK => ?_
            try simp
            repeat' first | ((refine evL_c ?_); simp [hn, hk, hop, hkl, hb0, htl]) | (with_reducible refine And.intro ?_ ?_) | intro _ | (with_reducible assumption) | omega
            all_goals (refine Fin.go hK ?_; clear hK K)
            simp only [Then_normal]
            refine Run.cond rfl (fun h212 => ?_) (fun h212 => ?_)
            · skip
              refine Run.seq ?_
              refine opsF [⟨Op.fieldAddr 27 (Operand.tmp 3) 5, some 214, none⟩, ⟨Op.load 25 (Operand.tmp 214), some 215, none⟩, ⟨Op.call { callee := Callee.builtin Builtin.len, args := #[Operand.tmp 215], argTypes := #[25] }, some 216, none⟩, ⟨Op.move (Operand.const (Value.int IntKind.i64 0)), some 217, none⟩] fun K hK => ?_
              try simp
              repeat' first | ((refine evL_c ?_); simp [hn, hk, hop, hkl, hb0, htl]) | (with_reducible refine And.intro ?_ ?_) | intro _ | (with_reducible assumption) | omega
              all_goals (refine Fin.go hK ?_; clear hK K)
              simp only [Then_normal]
              refine Run.block ?_
              refine Run.loopO [6, 217, 218, 219, 220, 221] (fun (i : Nat) => [(217, .int i), (6, .int (filtE n0 i))]) (fun (i : Nat) => []) (fun (i : Nat) => i ≤ tl) (fun (i : Nat) => tl - i) 0 (by omega) (by simp [filtE, hn]) fun i hi => ?_
              simp only [over, List.foldl, List.set]
              have hS := share_ok' (filtE n0 i) 3 (filtE_rng hn0 i) (by omega)
              refine Run.seq ?_
              refine opsF [⟨Op.binOp BinOp.lss 3 (Operand.tmp 217) (Operand.tmp 216) 3, some 218, none⟩] fun K hK => ?_
              try simp
              repeat' first | ((refine evL_c ?_); simp [hn, hk, hop, hkl, hb0, htl]) | (with_reducible refine And.intro ?_ ?_) | intro _ | (with_reducible assumption) | omega
              all_goals (refine Fin.go hK ?_; clear hK K)
              simp only [Then_normal]
              refine Run.seq ?_
              refine Run.cond rfl (fun h218 => ?_) (fun h218 => ?_)
              · try simp at h218
                refine Run.skip ?_
                simp only [Then_normal]
                refine Run.seq ?_
                refine Run.block ?_
                refine opsF [⟨Op.move (Operand.tmp 6), some 219, none⟩, ⟨Op.call { callee := Callee.value (Operand.func 64), args := #[Operand.tmp 219, Operand.const (Value.int IntKind.i64 3)], argTypes := #[2, 2] }, some 220, none⟩, ⟨Op.assign (Operand.tmp 220), some 6, none⟩] fun K hK => ?_
                try simp
                repeat' first | (refine ecallD (by exact hS) ?_) | ((refine evL_c ?_); simp [hn, hk, hop, hkl, hb0, htl]) | (with_reducible refine And.intro ?_ ?_) | intro _ | (with_reducible assumption) | omega
                all_goals (refine Fin.go hK ?_; clear hK K)
                simp only [Blok_normal]
                simp only [Then_normal]
                refine opsF [⟨Op.binOp BinOp.add 3 (Operand.tmp 217) (Operand.const (Value.int IntKind.i64 1)) 3, some 221, none⟩, ⟨Op.move (Operand.tmp 221), some 217, none⟩] fun K hK => ?_
                try simp
                repeat' first | ((refine evL_c ?_); simp [hn, hk, hop, hkl, hb0, htl]) | (with_reducible refine And.intro ?_ ?_) | intro _ | (with_reducible assumption) | omega
                all_goals (refine Fin.go hK ?_; clear hK K)
                refine ⟨i + 1, by omega, by omega, ?_⟩
                simp (disch := omega) [wrap_id, filtE]
              · try simp at h218
                have hi2 : i = tl := by omega
                subst hi2
                refine Run.exit ?_
                simp (decide := true) only [Then_exit, Blok_exit, if_true, if_false]
                simp only [Blok_normal]
                simp only [Then_normal]
                refine Run.seq ?_
                refine opsF oo76 fun K hK => ?_
                try simp
                repeat' first | ((refine evL_c ?_); simp [hn, hk, hop, hkl, hb0, htl]) | (with_reducible refine And.intro ?_ ?_) | intro _ | (with_reducible assumption) | omega
                all_goals (refine Fin.go hK ?_; clear hK K)
                simp only [Then_normal]
                refine Run.ret ?_
                try simp only [Then_ret, Blok_ret]
                simp [htl]
            · simp at h212


end Go.Proofs.Ytihbejpkfifplaa.Z
end
section
set_option maxRecDepth 100000
namespace Go.Proofs.Ytihbejpkfifplaa.Z
open Go Go.Fw
set_option maxHeartbeats 4000000 in
theorem est2_ok (c : CoreT) (s : StatsT) (p : PlanT) (n0 : Int) (b0 : List Bool) (hP : patS c.nodes c.edges = true) (hop : p.op = 2) (hkl : p.kids.length = 1) (he0 : 0 ≤ rdI p.edges 0) (he1 : rdI p.edges 0 < c.edges.length) (hel : p.edges.length = 1) (IH0 : Snd P 32 [.d (.ag (encC c ++ encS s)), .d (.ag (encP (rdI p.kids 0)))] (.int n0) []) (hn0 : 0 ≤ n0 ∧ n0 ≤ 1099511627776) (hB0 : Snd P 20 [.d (.ag (encP (rdI p.kids 0))), .d (.ag (encC c))] (.tup [.d (.sl false (b0.map encB)), .int 0]) []) (hb0 : b0.length = c.nodes.length + c.edges.length) : Snd P 32 [.d (.ag (encC c ++ encS s)), .d (.ag (encP p))] (.int (stepS c s p n0 b0)) [] := by
  refine Snd.ok 0 rfl (by kernel_rfl) fun hok => ?_
  have hhi := encC_ok hok (rdI_mem he0 he1)
  clear hok
  obtain ⟨-, hn8, hk8⟩ := pat_rng hP
  have hE := goodE_of hP
  obtain ⟨n, hn⟩ : ∃ k, c.nodes.length = k := ⟨_, rfl⟩
  obtain ⟨k, hk⟩ : ∃ k, c.edges.length = k := ⟨_, rfl⟩
  rw [hn] at hn8
  rw [hk] at hk8
  rw [hn, hk] at hb0
  have hI := IH0
  have hJ := hB0
  rw [encP_cells] at hI hJ
  obtain ⟨ke, hke⟩ : ∃ x, rdI p.edges 0 = x := ⟨_, rfl⟩
  rw [hke] at he0 he1 hhi
  obtain ⟨mx, hmx⟩ : ∃ x, (rdI c.edges ke).hi = x := ⟨_, rfl⟩
  rw [hmx] at hhi
  have hel0 : 0 < p.edges.length := by omega
  have he2 : ke < (k : Int) := by rw [← hk]; exact he1
  have hG := hE (rdI c.edges ke) (rdI_mem he0 he1)
  rw [hn] at hG
  obtain ⟨fr, hfr⟩ : ∃ x, fromE c p = x := ⟨_, rfl⟩
  obtain ⟨to, hto⟩ : ∃ x, toE c p = x := ⟨_, rfl⟩
  have hf : 0 ≤ fr ∧ fr < n ∧ 0 ≤ to ∧ to < n := by
    rw [← hfr, ← hto]; unfold fromE toE; rw [hke]; split <;> omega
  obtain ⟨hf1, hf2, hf3, hf4⟩ := hf
  have hf5 : to < (n : Int) + k := by omega
  have hf6 : to < (b0.length : Int) := by omega
  have hE1 := edgesS_ok c s ke he0 he1
  have hN1 := nodesS_ok c s fr hf1 (by omega)
  have hN2 := nodesS_ok c s to hf3 (by omega)
  obtain ⟨nf, hnf⟩ : ∃ x, nodesS c s fr = x := ⟨_, rfl⟩
  obtain ⟨nt, hnt⟩ : ∃ x, nodesS c s to = x := ⟨_, rfl⟩
  obtain ⟨ee, hee⟩ : ∃ x, edgesS c s ke = x := ⟨_, rfl⟩
  have r1 := nodesS_rng c s fr
  have r2 := nodesS_rng c s to
  have r3 := edgesS_rng c s ke
  rw [hnf] at r1 hN1
  rw [hnt] at r2 hN2
  rw [hee] at r3 hE1
  have hS1 := share_ok' ee nf r3 r1
  have hdr := share_rng' r3 r1
  obtain ⟨d, hd⟩ : ∃ x, shareS ee nf = x := ⟨_, rfl⟩
  rw [hd] at hS1 hdr
  obtain ⟨sd, hsd⟩ : ∃ x, stepD c s p = x := ⟨_, rfl⟩
  have hsr := stepD_rng c s p
  rw [hsd] at hsr
  have hM := prod2D_ok n0 sd hn0 hsr
  have hmr := mul_rng' hn0 hsr
  obtain ⟨m, hm⟩ : ∃ x, mulS n0 sd = x := ⟨_, rfl⟩
  rw [hm] at hM hmr
  have hS2 := share_ok' m nt hmr r2
  have hsd2 : sd = d := by rw [← hsd, stepD, if_neg (by omega), hke, hee, hfr, hnf, hd]
  subst hsd2
  refine snd_of [] Try.func32 rfl (by kernel_rfl) Try.ntmps32 (by simp) ?_
  unfold Try.f32
  simp only [List.cons_append, List.nil_append, List.length_cons, List.length_nil, Nat.reduceAdd, Nat.reduceSub, List.replicate]
  refine Run.seq ?_
  refine opsF oo66 fun K hK => ?_
  try simp
  repeat' first | ((refine evL_c ?_); simp [hn, hk, hop, hkl, hb0, hmx, hke, he0, he1, he2, hel0, hf1, hf2, hf3, hf4, hf5, hf6, hfr, hto]) | (with_reducible refine And.intro ?_ ?_) | intro _ | (with_reducible assumption) | omega
  all_goals (refine Fin.go hK ?_; clear hK K)
  simp only [Then_normal]
  refine Run.seq ?_
  refine Run.seq ?_
  refine opsF oo67 fun K hK => ?_
  try simp
  repeat' first | ((refine evL_c ?_); simp [hn, hk, hop, hkl, hb0, hmx, hke, he0, he1, he2, hel0, hf1, hf2, hf3, hf4, hf5, hf6, hfr, hto]) | (with_reducible refine And.intro ?_ ?_) | intro _ | (with_reducible assumption) | omega
  all_goals (refine Fin.go hK ?_; clear hK K)
  simp only [Then_normal]
  refine Run.cond rfl (fun h23 => ?_) (fun h23 => ?_)
  · simp at h23
  · skip
    refine Run.skip ?_
    simp only [Then_normal]
    refine Run.seq ?_
    refine opsF oo68 fun K hK => ?_
    try simp
    repeat' first | ((refine evL_c ?_); simp [hn, hk, hop, hkl, hb0, hmx, hke, he0, he1, he2, hel0, hf1, hf2, hf3, hf4, hf5, hf6, hfr, hto]) | (with_reducible refine And.intro ?_ ?_) | intro _ | (with_reducible assumption) | omega
    all_goals (refine Fin.go hK ?_; clear hK K)
    simp only [Then_normal]
    refine Run.seq ?_
    refine opsF oo69 fun K hK => ?_
    try simp
    repeat' first | (refine ecallD (by exact hI) ?_) | ((refine evL_c ?_); simp [hn, hk, hop, hkl, hb0, hmx, hke, he0, he1, he2, hel0, hf1, hf2, hf3, hf4, hf5, hf6, hfr, hto]) | (with_reducible refine And.intro ?_ ?_) | intro _ | (with_reducible assumption) | omega
    all_goals (refine Fin.go hK ?_; clear hK K)
    simp only [Then_normal]
    refine Run.seq ?_
    refine opsF oo70 fun K hK => ?_
    try simp
    repeat' first | (refine ecall (by exact hJ) rfl ?_) | ((refine evL_c ?_); simp [hn, hk, hop, hkl, hb0, hmx, hke, he0, he1, he2, hel0, hf1, hf2, hf3, hf4, hf5, hf6, hfr, hto]) | (with_reducible refine And.intro ?_ ?_) | intro _ | (with_reducible assumption) | omega
    all_goals (refine Fin.go hK ?_; clear hK K)
    simp only [Then_normal]
    refine Run.seq ?_
    refine Run.seq ?_
    refine opsF oo71 fun K hK => ?_
    try simp
    repeat' first | ((refine evL_c ?_); simp [hn, hk, hop, hkl, hb0, hmx, hke, he0, he1, he2, hel0, hf1, hf2, hf3, hf4, hf5, hf6, hfr, hto]) | (with_reducible refine And.intro ?_ ?_) | intro _ | (with_reducible assumption) | omega
    all_goals (refine Fin.go hK ?_; clear hK K)
    simp only [Then_normal]
    refine Run.block ?_
    refine Run.seq ?_
    refine Run.seq ?_
    refine opsF oo72 fun K hK => ?_
    try simp
    repeat' first | ((refine evL_c ?_); simp [hn, hk, hop, hkl, hb0, hmx, hke, he0, he1, he2, hel0, hf1, hf2, hf3, hf4, hf5, hf6, hfr, hto]) | (with_reducible refine And.intro ?_ ?_) | intro _ | (with_reducible assumption) | omega
    all_goals (refine Fin.go hK ?_; clear hK K)
    simp only [Then_normal]
    refine Run.cond rfl (fun h44 => ?_) (fun h44 => ?_)
    · skip
      refine Run.skip ?_
      simp only [Then_normal]
      refine Run.cond rfl (fun h44 => ?_) (fun h44 => ?_)
      · skip
        refine Run.seq ?_
        refine opsF oo77 fun K hK => ?_
        try simp
        repeat' first | ((refine evL_c ?_); simp [hn, hk, hop, hkl, hb0, hmx, hke, he0, he1, he2, hel0, hf1, hf2, hf3, hf4, hf5, hf6, hfr, hto]) | (with_reducible refine And.intro ?_ ?_) | intro _ | (with_reducible assumption) | omega
        all_goals (refine Fin.go hK ?_; clear hK K)
        simp only [Then_normal]
        refine Run.seq ?_
        refine opsF oo78 fun K hK => ?_
        try simp
        repeat' first | ((refine evL_c ?_); simp [hn, hk, hop, hkl, hb0, hmx, hke, he0, he1, he2, hel0, hf1, hf2, hf3, hf4, hf5, hf6, hfr, hto]) | (with_reducible refine And.intro ?_ ?_) | intro _ | (with_reducible assumption) | omega
        all_goals (refine Fin.go hK ?_; clear hK K)
        simp only [Then_normal]
        refine Run.cut [10, 11, 65, 66, 67, 68] [(10, .int fr), (11, .int to)] [(300, .vals ((encC c ++ encS s).map .d)), (400, .vals ((encP p).map .d)), (600, .vals ((encP (rdI p.kids 0)).map .d))] ?_ ?_
        · refine Run.seq ?_
          refine opsF oo79 fun K hK => ?_
          try simp
          repeat' first | ((refine evL_c ?_); simp [hn, hk, hop, hkl, hb0, hmx, hke, he0, he1, he2, hel0, hf1, hf2, hf3, hf4, hf5, hf6, hfr, hto]) | (with_reducible refine And.intro ?_ ?_) | intro _ | (with_reducible assumption) | omega
          all_goals (refine Fin.go hK ?_; clear hK K)
          simp only [Then_normal]
          refine Run.cond rfl (fun h66 => ?_) (fun h66 => ?_)
          · try simp at h66
            refine opsF oo80 fun K hK => ?_
            try simp
            repeat' first | ((refine evL_c ?_); simp [hn, hk, hop, hkl, hb0, hmx, hke, he0, he1, he2, hel0, hf1, hf2, hf3, hf4, hf5, hf6, hfr, hto]) | (with_reducible refine And.intro ?_ ?_) | intro _ | (with_reducible assumption) | omega
            all_goals (refine Fin.go hK ?_; clear hK K)
            rw [fromE, hke, h66] at hfr
            rw [toE, hke, h66] at hto
            simp at hfr hto
            simp [hfr, hto, hn, hop]
          · try simp at h66
            refine Run.skip ?_
            rw [fromE, hke, h66] at hfr
            rw [toE, hke, h66] at hto
            simp at hfr hto
            simp [hfr, hto, hn, hop]
        · simp only [over, List.foldl, List.set]
          refine Run.seq ?_
          refine opsF oo81 fun K hK => ?_
          try simp
          repeat' first | (refine ecallD (by exact hE1) ?_) | (refine ecallD (by exact hN1) ?_) | (refine ecallD (by exact hS1) ?_) | ((refine evL_c ?_); simp [hn, hk, hop, hkl, hb0, hmx, hke, he0, he1, he2, hel0, hf1, hf2, hf3, hf4, hf5, hf6, hfr, hto]) | (with_reducible refine And.intro ?_ ?_) | intro _ | (with_reducible assumption) | omega
          all_goals (refine Fin.go hK ?_; clear hK K)
          simp only [Then_normal]
          refine Run.seq ?_
          refine Run.seq ?_
          refine opsF oo82 fun K hK => ?_
          try simp
          repeat' first | ((refine evL_c ?_); simp [hn, hk, hop, hkl, hb0, hmx, hke, he0, he1, he2, hel0, hf1, hf2, hf3, hf4, hf5, hf6, hfr, hto]) | (with_reducible refine And.intro ?_ ?_) | intro _ | (with_reducible assumption) | omega
          all_goals (refine Fin.go hK ?_; clear hK K)
          simp only [Then_normal]
          refine Run.cond rfl (fun h78 => ?_) (fun h78 => ?_)
          · simp at h78
          · skip
            refine Run.skip ?_
            simp only [Then_normal]
            refine Run.seq ?_
            refine opsF oo83 fun K hK => ?_
            try simp
            repeat' first | (refine ecallF (by simp) (by simp) hM ?_) | ((refine evL_c ?_); simp [hn, hk, hop, hkl, hb0, hmx, hke, he0, he1, he2, hel0, hf1, hf2, hf3, hf4, hf5, hf6, hfr, hto]) | (with_reducible refine And.intro ?_ ?_) | intro _ | (with_reducible assumption) | omega
            all_goals (refine Fin.go hK ?_; clear hK K)
            simp only [Then_normal]
            refine Run.seq ?_
            refine opsF oo84 fun K hK => ?_
            try simp
            repeat' first | ((refine evL_c ?_); simp [hn, hk, hop, hkl, hb0, hmx, hke, he0, he1, he2, hel0, hf1, hf2, hf3, hf4, hf5, hf6, hfr, hto]) | (with_reducible refine And.intro ?_ ?_) | intro _ | (with_reducible assumption) | omega
            all_goals (refine Fin.go hK ?_; clear hK K)
            simp only [Then_normal]
            refine Run.cond rfl (fun h112 => ?_) (fun h112 => ?_)
            · try simp at h112
              refine opsF oo85 fun K hK => ?_
              try simp
              repeat' first | (refine ecallD (by exact hN2) ?_) | (refine ecallD (by exact hS2) ?_) | ((refine evL_c ?_); simp [hn, hk, hop, hkl, hb0, hmx, hke, he0, he1, he2, hel0, hf1, hf2, hf3, hf4, hf5, hf6, hfr, hto]) | (with_reducible refine And.intro ?_ ?_) | intro _ | (with_reducible assumption) | omega
              all_goals (refine Fin.go hK ?_; clear hK K)
              simp only [Blok_normal]
              simp only [Then_normal]
              refine Run.seq ?_
              refine opsF oo76 fun K hK => ?_
              try simp
              repeat' first | ((refine evL_c ?_); simp [hn, hk, hop, hkl, hb0, hmx, hke, he0, he1, he2, hel0, hf1, hf2, hf3, hf4, hf5, hf6, hfr, hto]) | (with_reducible refine And.intro ?_ ?_) | intro _ | (with_reducible assumption) | omega
              all_goals (refine Fin.go hK ?_; clear hK K)
              simp only [Then_normal]
              refine Run.ret ?_
              try simp only [Then_ret, Blok_ret]
              simp [stepS, hto, hsd, hnt, hm, h112]
            · try simp at h112
              refine Run.skip ?_
              simp only [Blok_normal]
              simp only [Then_normal]
              refine Run.seq ?_
              refine opsF oo76 fun K hK => ?_
              try simp
              repeat' first | ((refine evL_c ?_); simp [hn, hk, hop, hkl, hb0, hmx, hke, he0, he1, he2, hel0, hf1, hf2, hf3, hf4, hf5, hf6, hfr, hto]) | (with_reducible refine And.intro ?_ ?_) | intro _ | (with_reducible assumption) | omega
              all_goals (refine Fin.go hK ?_; clear hK K)
              simp only [Then_normal]
              refine Run.ret ?_
              try simp only [Then_ret, Blok_ret]
              simp [stepS, hto, hsd, hnt, hm, h112]
      · simp at h44
    · simp at h44

set_option maxHeartbeats 4000000 in
theorem est3_ok (c : CoreT) (s : StatsT) (p : PlanT) (n0 : Int) (b0 : List Bool) (hP : patS c.nodes c.edges = true) (hop : p.op = 3) (hkl : p.kids.length = 1) (he0 : 0 ≤ rdI p.edges 0) (he1 : rdI p.edges 0 < c.edges.length) (hel : p.edges.length = 1) (IH0 : Snd P 32 [.d (.ag (encC c ++ encS s)), .d (.ag (encP (rdI p.kids 0)))] (.int n0) []) (hn0 : 0 ≤ n0 ∧ n0 ≤ 1099511627776) (hB0 : Snd P 20 [.d (.ag (encP (rdI p.kids 0))), .d (.ag (encC c))] (.tup [.d (.sl false (b0.map encB)), .int 0]) []) (hb0 : b0.length = c.nodes.length + c.edges.length) : Snd P 32 [.d (.ag (encC c ++ encS s)), .d (.ag (encP p))] (.int (stepS c s p n0 b0)) [] := by
  refine Snd.ok 0 rfl (by kernel_rfl) fun hok => ?_
  have hhi := encC_ok hok (rdI_mem he0 he1)
  clear hok
  obtain ⟨-, hn8, hk8⟩ := pat_rng hP
  have hE := goodE_of hP
  obtain ⟨n, hn⟩ : ∃ k, c.nodes.length = k := ⟨_, rfl⟩
  obtain ⟨k, hk⟩ : ∃ k, c.edges.length = k := ⟨_, rfl⟩
  rw [hn] at hn8
  rw [hk] at hk8
  rw [hn, hk] at hb0
  have hI := IH0
  have hJ := hB0
  rw [encP_cells] at hI hJ
  obtain ⟨ke, hke⟩ : ∃ x, rdI p.edges 0 = x := ⟨_, rfl⟩
  rw [hke] at he0 he1 hhi
  obtain ⟨mx, hmx⟩ : ∃ x, (rdI c.edges ke).hi = x := ⟨_, rfl⟩
  rw [hmx] at hhi
  have hel0 : 0 < p.edges.length := by omega
  have he2 : ke < (k : Int) := by rw [← hk]; exact he1
  have hG := hE (rdI c.edges ke) (rdI_mem he0 he1)
  rw [hn] at hG
  obtain ⟨fr, hfr⟩ : ∃ x, fromE c p = x := ⟨_, rfl⟩
  obtain ⟨to, hto⟩ : ∃ x, toE c p = x := ⟨_, rfl⟩
  have hf : 0 ≤ fr ∧ fr < n ∧ 0 ≤ to ∧ to < n := by
    rw [← hfr, ← hto]; unfold fromE toE; rw [hke]; split <;> omega
  obtain ⟨hf1, hf2, hf3, hf4⟩ := hf
  have hf5 : to < (n : Int) + k := by omega
  have hf6 : to < (b0.length : Int) := by omega
  have hE1 := edgesS_ok c s ke he0 he1
  have hN1 := nodesS_ok c s fr hf1 (by omega)
  have hN2 := nodesS_ok c s to hf3 (by omega)
  obtain ⟨nf, hnf⟩ : ∃ x, nodesS c s fr = x := ⟨_, rfl⟩
  obtain ⟨nt, hnt⟩ : ∃ x, nodesS c s to = x := ⟨_, rfl⟩
  obtain ⟨ee, hee⟩ : ∃ x, edgesS c s ke = x := ⟨_, rfl⟩
  have r1 := nodesS_rng c s fr
  have r2 := nodesS_rng c s to
  have r3 := edgesS_rng c s ke
  rw [hnf] at r1 hN1
  rw [hnt] at r2 hN2
  rw [hee] at r3 hE1
  have hS1 := share_ok' ee nf r3 r1
  have hdr := share_rng' r3 r1
  obtain ⟨d, hd⟩ : ∃ x, shareS ee nf = x := ⟨_, rfl⟩
  rw [hd] at hS1 hdr
  obtain ⟨sd, hsd⟩ : ∃ x, stepD c s p = x := ⟨_, rfl⟩
  have hsr := stepD_rng c s p
  rw [hsd] at hsr
  have hM := prod2D_ok n0 sd hn0 hsr
  have hmr := mul_rng' hn0 hsr
  obtain ⟨m, hm⟩ : ∃ x, mulS n0 sd = x := ⟨_, rfl⟩
  rw [hm] at hM hmr
  have hS2 := share_ok' m nt hmr r2
  have hsd2 : sd = pathS mx d := by rw [← hsd, stepD, if_pos hop, hke, hee, hfr, hnf, hd, hmx]
  have hw1 : IntKind.i64.wrap (d + 1) = d + 1 := wrap_id (by omega) (by omega)
  refine snd_of [] Try.func32 rfl (by kernel_rfl) Try.ntmps32 (by simp) ?_
  unfold Try.f32
  simp only [List.cons_append, List.nil_append, List.length_cons, List.length_nil, Nat.reduceAdd, Nat.reduceSub, List.replicate]
  refine Run.seq ?_
  refine opsF oo66 fun K hK => ?_
  try simp
  repeat' first | ((refine evL_c ?_); simp [hn, hk, hop, hkl, hb0, hmx, hke, he0, he1, he2, hel0, hf1, hf2, hf3, hf4, hf5, hf6, hfr, hto]) | (with_reducible refine And.intro ?_ ?_) | intro _ | (with_reducible assumption) | omega
  all_goals (refine Fin.go hK ?_; clear hK K)
  simp only [Then_normal]
  refine Run.seq ?_
  refine Run.seq ?_
  refine opsF oo67 fun K hK => ?_
  try simp
  repeat' first | ((refine evL_c ?_); simp [hn, hk, hop, hkl, hb0, hmx, hke, he0, he1, he2, hel0, hf1, hf2, hf3, hf4, hf5, hf6, hfr, hto]) | (with_reducible refine And.intro ?_ ?_) | intro _ | (with_reducible assumption) | omega
  all_goals (refine Fin.go hK ?_; clear hK K)
  simp only [Then_normal]
  refine Run.cond rfl (fun h23 => ?_) (fun h23 => ?_)
  · simp at h23
  · skip
    refine Run.skip ?_
    simp only [Then_normal]
    refine Run.seq ?_
    refine opsF oo68 fun K hK => ?_
    try simp
    repeat' first | ((refine evL_c ?_); simp [hn, hk, hop, hkl, hb0, hmx, hke, he0, he1, he2, hel0, hf1, hf2, hf3, hf4, hf5, hf6, hfr, hto]) | (with_reducible refine And.intro ?_ ?_) | intro _ | (with_reducible assumption) | omega
    all_goals (refine Fin.go hK ?_; clear hK K)
    simp only [Then_normal]
    refine Run.seq ?_
    refine opsF oo69 fun K hK => ?_
    try simp
    repeat' first | (refine ecallD (by exact hI) ?_) | ((refine evL_c ?_); simp [hn, hk, hop, hkl, hb0, hmx, hke, he0, he1, he2, hel0, hf1, hf2, hf3, hf4, hf5, hf6, hfr, hto]) | (with_reducible refine And.intro ?_ ?_) | intro _ | (with_reducible assumption) | omega
    all_goals (refine Fin.go hK ?_; clear hK K)
    simp only [Then_normal]
    refine Run.seq ?_
    refine opsF oo70 fun K hK => ?_
    try simp
    repeat' first | (refine ecall (by exact hJ) rfl ?_) | ((refine evL_c ?_); simp [hn, hk, hop, hkl, hb0, hmx, hke, he0, he1, he2, hel0, hf1, hf2, hf3, hf4, hf5, hf6, hfr, hto]) | (with_reducible refine And.intro ?_ ?_) | intro _ | (with_reducible assumption) | omega
    all_goals (refine Fin.go hK ?_; clear hK K)
    simp only [Then_normal]
    refine Run.seq ?_
    refine Run.seq ?_
    refine opsF oo71 fun K hK => ?_
    try simp
    repeat' first | ((refine evL_c ?_); simp [hn, hk, hop, hkl, hb0, hmx, hke, he0, he1, he2, hel0, hf1, hf2, hf3, hf4, hf5, hf6, hfr, hto]) | (with_reducible refine And.intro ?_ ?_) | intro _ | (with_reducible assumption) | omega
    all_goals (refine Fin.go hK ?_; clear hK K)
    simp only [Then_normal]
    refine Run.block ?_
    refine Run.seq ?_
    refine Run.seq ?_
    refine opsF oo72 fun K hK => ?_
    try simp
    repeat' first | ((refine evL_c ?_); simp [hn, hk, hop, hkl, hb0, hmx, hke, he0, he1, he2, hel0, hf1, hf2, hf3, hf4, hf5, hf6, hfr, hto]) | (with_reducible refine And.intro ?_ ?_) | intro _ | (with_reducible assumption) | omega
    all_goals (refine Fin.go hK ?_; clear hK K)
    simp only [Then_normal]
    refine Run.cond rfl (fun h44 => ?_) (fun h44 => ?_)
    · simp at h44
    · skip
      refine opsF oo73 fun K hK => ?_
      try simp
      repeat' first | ((refine evL_c ?_); simp [hn, hk, hop, hkl, hb0, hmx, hke, he0, he1, he2, hel0, hf1, hf2, hf3, hf4, hf5, hf6, hfr, hto]) | (with_reducible refine And.intro ?_ ?_) | intro _ | (with_reducible assumption) | omega
      all_goals (refine Fin.go hK ?_; clear hK K)
      simp only [Then_normal]
      refine Run.cond rfl (fun h44 => ?_) (fun h44 => ?_)
      · skip
        refine Run.seq ?_
        refine opsF oo77 fun K hK => ?_
        try simp
        repeat' first | ((refine evL_c ?_); simp [hn, hk, hop, hkl, hb0, hmx, hke, he0, he1, he2, hel0, hf1, hf2, hf3, hf4, hf5, hf6, hfr, hto]) | (with_reducible refine And.intro ?_ ?_) | intro _ | (with_reducible assumption) | omega
        all_goals (refine Fin.go hK ?_; clear hK K)
        simp only [Then_normal]
        refine Run.seq ?_
        refine opsF oo78 fun K hK => ?_
        try simp
        repeat' first | ((refine evL_c ?_); simp [hn, hk, hop, hkl, hb0, hmx, hke, he0, he1, he2, hel0, hf1, hf2, hf3, hf4, hf5, hf6, hfr, hto]) | (with_reducible refine And.intro ?_ ?_) | intro _ | (with_reducible assumption) | omega
        all_goals (refine Fin.go hK ?_; clear hK K)
        simp only [Then_normal]
        refine Run.cut [10, 11, 65, 66, 67, 68] [(10, .int fr), (11, .int to)] [(300, .vals ((encC c ++ encS s).map .d)), (400, .vals ((encP p).map .d)), (600, .vals ((encP (rdI p.kids 0)).map .d))] ?_ ?_
        · refine Run.seq ?_
          refine opsF oo79 fun K hK => ?_
          try simp
          repeat' first | ((refine evL_c ?_); simp [hn, hk, hop, hkl, hb0, hmx, hke, he0, he1, he2, hel0, hf1, hf2, hf3, hf4, hf5, hf6, hfr, hto]) | (with_reducible refine And.intro ?_ ?_) | intro _ | (with_reducible assumption) | omega
          all_goals (refine Fin.go hK ?_; clear hK K)
          simp only [Then_normal]
          refine Run.cond rfl (fun h66 => ?_) (fun h66 => ?_)
          · try simp at h66
            refine opsF oo80 fun K hK => ?_
            try simp
            repeat' first | ((refine evL_c ?_); simp [hn, hk, hop, hkl, hb0, hmx, hke, he0, he1, he2, hel0, hf1, hf2, hf3, hf4, hf5, hf6, hfr, hto]) | (with_reducible refine And.intro ?_ ?_) | intro _ | (with_reducible assumption) | omega
            all_goals (refine Fin.go hK ?_; clear hK K)
            rw [fromE, hke, h66] at hfr
            rw [toE, hke, h66] at hto
            simp at hfr hto
            simp [hfr, hto, hn, hop]
          · try simp at h66
            refine Run.skip ?_
            rw [fromE, hke, h66] at hfr
            rw [toE, hke, h66] at hto
            simp at hfr hto
            simp [hfr, hto, hn, hop]
        · simp only [over, List.foldl, List.set]
          refine Run.seq ?_
          refine opsF oo81 fun K hK => ?_
          try simp
          repeat' first | (refine ecallD (by exact hE1) ?_) | (refine ecallD (by exact hN1) ?_) | (refine ecallD (by exact hS1) ?_) | ((refine evL_c ?_); simp [hn, hk, hop, hkl, hb0, hmx, hke, he0, he1, he2, hel0, hf1, hf2, hf3, hf4, hf5, hf6, hfr, hto]) | (with_reducible refine And.intro ?_ ?_) | intro _ | (with_reducible assumption) | omega
          all_goals (refine Fin.go hK ?_; clear hK K)
          simp only [Then_normal]
          refine Run.seq ?_
          refine Run.seq ?_
          refine opsF oo82 fun K hK => ?_
          try simp
          repeat' first | ((refine evL_c ?_); simp [hn, hk, hop, hkl, hb0, hmx, hke, he0, he1, he2, hel0, hf1, hf2, hf3, hf4, hf5, hf6, hfr, hto]) | (with_reducible refine And.intro ?_ ?_) | intro _ | (with_reducible assumption) | omega
          all_goals (refine Fin.go hK ?_; clear hK K)
          simp only [Then_normal]
          refine Run.cond rfl (fun h78 => ?_) (fun h78 => ?_)
          · skip
            refine Run.seq ?_
            refine opsF [⟨Op.assign (Operand.const (Value.int IntKind.i64 1)), some 13, none⟩] fun K hK => ?_
            try simp
            repeat' first | ((refine evL_c ?_); simp [hn, hk, hop, hkl, hb0, hmx, hke, he0, he1, he2, hel0, hf1, hf2, hf3, hf4, hf5, hf6, hfr, hto]) | (with_reducible refine And.intro ?_ ?_) | intro _ | (with_reducible assumption) | omega
            all_goals (refine Fin.go hK ?_; clear hK K)
            simp only [Then_normal]
            refine Run.seq ?_
            refine Run.seq ?_
            refine opsF oo86 fun K hK => ?_
            try simp
            repeat' first | ((refine evL_c ?_); simp [hn, hk, hop, hkl, hb0, hmx, hke, he0, he1, he2, hel0, hf1, hf2, hf3, hf4, hf5, hf6, hfr, hto]) | (with_reducible refine And.intro ?_ ?_) | intro _ | (with_reducible assumption) | omega
            all_goals (refine Fin.go hK ?_; clear hK K)
            simp only [Then_normal]
            refine Run.block ?_
            refine Run.loopO [13, 14, 79, 80, 81, 82, 83, 84, 85, 86, 87, 88, 89, 90, 91, 92, 93, 94, 95, 96, 97, 98, 99, 100, 101, 102, 103] (fun (i : Nat) => [(14, .int i), (13, .int (pathN d i))]) (fun (i : Nat) => [(300, .vals ((encC c ++ encS s).map .d)), (400, .vals ((encP p).map .d)), (600, .vals ((encP (rdI p.kids 0)).map .d))]) (fun (i : Nat) => i = 0 ∨ ((i : Int) ≤ mx ∧ 0 < d)) (fun (i : Nat) => mx.toNat - i) 0 (.inl rfl) (by simp [pathN, hop, hn]) fun i hi => ?_
            simp only [over, List.foldl, List.set]
            have hpr := pathN_rng d i
            have hMp := prod2D_ok (pathN d i) (clipS (d + 1)) hpr (clip_rng _)
            have hCl := clip_ok (d + 1)
            refine Run.seq ?_
            refine Run.cut [79, 80, 81, 82, 83, 84, 85, 86, 87, 88, 89, 90, 91, 92, 93, 94, 95] [(95, .bool (decide ((i : Int) < mx ∧ 0 < d ∧ pathN d i < 1099511627776)))] [(300, .vals ((encC c ++ encS s).map .d)), (400, .vals ((encP p).map .d)), (600, .vals ((encP (rdI p.kids 0)).map .d))] ?_ ?_
            · refine opsF [⟨Op.move (Operand.tmp 14), some 79, none⟩, ⟨Op.fieldAddr 82 (Operand.tmp 2) 0, some 80, none⟩, ⟨Op.fieldAddr 33 (Operand.tmp 80) 1, some 81, none⟩, ⟨Op.load 29 (Operand.tmp 81), some 82, none⟩, ⟨Op.move (Operand.tmp 9), some 83, none⟩, ⟨Op.indexAddr 29 (Operand.tmp 82) (Operand.tmp 83), some 84, none⟩, ⟨Op.fieldAddr 105 (Operand.tmp 84) 6, some 85, none⟩, ⟨Op.load 3 (Operand.tmp 85), some 86, none⟩, ⟨Op.binOp BinOp.lss 3 (Operand.tmp 79) (Operand.tmp 86) 3, some 87, none⟩, ⟨Op.move (Operand.tmp 87), some 88, none⟩, ⟨Op.move (Operand.tmp 12), some 89, some (some 88, true)⟩, ⟨Op.binOp BinOp.gtr 2 (Operand.tmp 89) (Operand.const (Value.int IntKind.i64 0)) 2, some 90, some (some 88, true)⟩, ⟨Op.pick (Operand.tmp 88) (Operand.tmp 90) (Operand.const (Value.bool false)), some 91, none⟩, ⟨Op.move (Operand.tmp 91), some 92, none⟩, ⟨Op.move (Operand.tmp 13), some 93, some (some 92, true)⟩, ⟨Op.binOp BinOp.lss 2 (Operand.tmp 93) (Operand.const (Value.int IntKind.i64 1099511627776)) 2, some 94, some (some 92, true)⟩, ⟨Op.pick (Operand.tmp 92) (Operand.tmp 94) (Operand.const (Value.bool false)), some 95, none⟩] fun K hK => ?_
              try simp
              repeat' first | ((first | refine evL_c ?_ | (refine evL_g rfl ?_; try simp only [gs_tt, gs_ff, gs_tf, gs_ft]) | refine evL_u rfl ?_ | (with_reducible refine gsplit (fun hg => ?_) (fun hg => ?_) <;> try simp at hg)) <;> try simp [hn, hk, hop, hkl, hb0, hmx, hke, he0, he1, he2, hel0, hf1, hf2, hf3, hf4, hf5, hf6, hfr, hto, *]) | (with_reducible refine And.intro ?_ ?_) | intro _ | (with_reducible assumption) | omega
              all_goals (refine Fin.go hK ?_; clear hK K)
              all_goals
                (try simp [hop, hn, *]) <;> (first | omega | (simp; done) | grind)
            · simp only [over, List.foldl, List.set]
              refine Run.cond rfl (fun h95 => ?_) (fun h95 => ?_)
              · replace h95 := of_decide_eq_true h95
                obtain ⟨hc1, hc2, hc3⟩ := h95
                refine Run.skip ?_
                simp only [Then_normal]
                refine Run.seq ?_
                refine Run.block ?_
                refine opsF [⟨Op.move (Operand.tmp 13), some 98, none⟩, ⟨Op.move (Operand.tmp 12), some 99, none⟩, ⟨Op.binOp BinOp.add 2 (Operand.tmp 99) (Operand.const (Value.int IntKind.i64 1)) 2, some 100, none⟩, ⟨Op.call { callee := Callee.value (Operand.func 34), args := #[Operand.tmp 100], argTypes := #[2] }, some 101, none⟩, ⟨Op.buildSlice 51 2 #[(0, Operand.tmp 98), (1, Operand.tmp 101)], some 102, none⟩, ⟨Op.call { callee := Callee.value (Operand.func 66), args := #[Operand.tmp 102], argTypes := #[51] }, some 103, none⟩, ⟨Op.assign (Operand.tmp 103), some 13, none⟩] fun K hK => ?_
                try simp
                repeat' first | (refine ecallD (by exact hCl) ?_) | (refine ecallF (by simp) (by simp) hMp ?_) | ((refine evL_c ?_); simp [hn, hk, hop, hkl, hb0, hmx, hke, he0, he1, he2, hel0, hf1, hf2, hf3, hf4, hf5, hf6, hfr, hto, hw1]) | (with_reducible refine And.intro ?_ ?_) | intro _ | (with_reducible assumption) | omega
                all_goals (refine Fin.go hK ?_; clear hK K)
                simp only [Blok_normal]
                simp only [Then_normal]
                refine opsF [⟨Op.move (Operand.tmp 14), some 96, none⟩, ⟨Op.binOp BinOp.add 3 (Operand.tmp 96) (Operand.const (Value.int IntKind.i64 1)) 3, some 97, none⟩, ⟨Op.assign (Operand.tmp 97), some 14, none⟩] fun K hK => ?_
                try simp
                repeat' first | ((refine evL_c ?_); simp [hn, hk, hop, hkl, hb0, hmx, hke, he0, he1, he2, hel0, hf1, hf2, hf3, hf4, hf5, hf6, hfr, hto, hw1]) | (with_reducible refine And.intro ?_ ?_) | intro _ | (with_reducible assumption) | omega
                all_goals (refine Fin.go hK ?_; clear hK K)
                refine ⟨i + 1, .inr ⟨by omega, hc2⟩, by omega, ?_⟩
                simp (disch := omega) [wrap_id, pathN, hop, hn, hc3]
              · replace h95 := of_decide_eq_false h95
                have hpe : pathN d i = sd := by
                  rw [hsd2]
                  by_cases hd0 : 0 < d
                  · exact (pathS_end hd0 (by omega) (by omega)).symm
                  · rw [pathS, if_neg hd0]
                    have : i = 0 := by omega
                    subst this; rfl
                refine Run.exit ?_
                simp (decide := true) only [Then_exit, Blok_exit, if_true, if_false]
                simp only [Then_normal]
                refine opsF [⟨Op.move (Operand.tmp 13), some 104, none⟩, ⟨Op.assign (Operand.tmp 104), some 12, none⟩] fun K hK => ?_
                try simp
                repeat' first | ((refine evL_c ?_); simp [hn, hk, hop, hkl, hb0, hmx, hke, he0, he1, he2, hel0, hf1, hf2, hf3, hf4, hf5, hf6, hfr, hto, hpe]) | (with_reducible refine And.intro ?_ ?_) | intro _ | (with_reducible assumption) | omega
                all_goals (refine Fin.go hK ?_; clear hK K)
                simp only [Then_normal]
                refine Run.seq ?_
                refine opsF oo83 fun K hK => ?_
                try simp
                repeat' first | (refine ecallF (by simp) (by simp) hM ?_) | ((refine evL_c ?_); simp [hn, hk, hop, hkl, hb0, hmx, hke, he0, he1, he2, hel0, hf1, hf2, hf3, hf4, hf5, hf6, hfr, hto, hpe]) | (with_reducible refine And.intro ?_ ?_) | intro _ | (with_reducible assumption) | omega
                all_goals (refine Fin.go hK ?_; clear hK K)
                simp only [Then_normal]
                refine Run.seq ?_
                refine opsF oo84 fun K hK => ?_
                try simp
                repeat' first | ((refine evL_c ?_); simp [hn, hk, hop, hkl, hb0, hmx, hke, he0, he1, he2, hel0, hf1, hf2, hf3, hf4, hf5, hf6, hfr, hto, hpe]) | (with_reducible refine And.intro ?_ ?_) | intro _ | (with_reducible assumption) | omega
                all_goals (refine Fin.go hK ?_; clear hK K)
                simp only [Then_normal]
                refine Run.cond rfl (fun h112 => ?_) (fun h112 => ?_)
                · try simp at h112
                  refine opsF oo85 fun K hK => ?_
                  try simp
                  repeat' first | (refine ecallD (by exact hN2) ?_) | (refine ecallD (by exact hS2) ?_) | ((refine evL_c ?_); simp [hn, hk, hop, hkl, hb0, hmx, hke, he0, he1, he2, hel0, hf1, hf2, hf3, hf4, hf5, hf6, hfr, hto, hpe]) | (with_reducible refine And.intro ?_ ?_) | intro _ | (with_reducible assumption) | omega
                  all_goals (refine Fin.go hK ?_; clear hK K)
                  simp only [Blok_normal]
                  simp only [Then_normal]
                  refine Run.seq ?_
                  refine opsF oo76 fun K hK => ?_
                  try simp
                  repeat' first | ((refine evL_c ?_); simp [hn, hk, hop, hkl, hb0, hmx, hke, he0, he1, he2, hel0, hf1, hf2, hf3, hf4, hf5, hf6, hfr, hto, hpe]) | (with_reducible refine And.intro ?_ ?_) | intro _ | (with_reducible assumption) | omega
                  all_goals (refine Fin.go hK ?_; clear hK K)
                  simp only [Then_normal]
                  refine Run.ret ?_
                  try simp only [Then_ret, Blok_ret]
                  simp [stepS, hto, hsd, hnt, hm, h112]
                · try simp at h112
                  refine Run.skip ?_
                  simp only [Blok_normal]
                  simp only [Then_normal]
                  refine Run.seq ?_
                  refine opsF oo76 fun K hK => ?_
                  try simp
                  repeat' first | ((refine evL_c ?_); simp [hn, hk, hop, hkl, hb0, hmx, hke, he0, he1, he2, hel0, hf1, hf2, hf3, hf4, hf5, hf6, hfr, hto, hpe]) | (with_reducible refine And.intro ?_ ?_) | intro _ | (with_reducible assumption) | omega
                  all_goals (refine Fin.go hK ?_; clear hK K)
                  simp only [Then_normal]
                  refine Run.ret ?_
                  try simp only [Then_ret, Blok_ret]
                  simp [stepS, hto, hsd, hnt, hm, h112]
          · simp at h78
      · simp at h44


end Go.Proofs.Ytihbejpkfifplaa.Z
end
section
set_option maxRecDepth 100000
namespace Go.Proofs.Ytihbejpkfifplaa.Z
open Go Go.Fw
set_option maxHeartbeats 4000000 in
theorem est4_ok (c : CoreT) (s : StatsT) (p : PlanT) (n0 n1 : Int) (b0 b1 : List Bool) (hP : patS c.nodes c.edges = true) (hop : p.op = 4) (hkl : p.kids.length = 2) (IH0 : Snd P 32 [.d (.ag (encC c ++ encS s)), .d (.ag (encP (rdI p.kids 0)))] (.int n0) []) (hn0 : 0 ≤ n0 ∧ n0 ≤ 1099511627776) (hB0 : Snd P 20 [.d (.ag (encP (rdI p.kids 0))), .d (.ag (encC c))] (.tup [.d (.sl false (b0.map encB)), .int 0]) []) (hb0 : b0.length = c.nodes.length + c.edges.length) (IH1 : Snd P 32 [.d (.ag (encC c ++ encS s)), .d (.ag (encP (rdI p.kids 1)))] (.int n1) []) (hn1 : 0 ≤ n1 ∧ n1 ≤ 1099511627776) (hB1 : Snd P 20 [.d (.ag (encP (rdI p.kids 1))), .d (.ag (encC c))] (.tup [.d (.sl false (b1.map encB)), .int 0]) []) (hb1 : b1.length = c.nodes.length + c.edges.length) : Snd P 32 [.d (.ag (encC c ++ encS s)), .d (.ag (encP p))] (.int (joinE c s b0 b1 (mulS n0 n1) c.nodes.length)) [] := by
  obtain ⟨-, hn8, hk8⟩ := pat_rng hP
  have hE := goodE_of hP
  obtain ⟨n, hn⟩ : ∃ k, c.nodes.length = k := ⟨_, rfl⟩
  obtain ⟨k, hk⟩ : ∃ k, c.edges.length = k := ⟨_, rfl⟩
  rw [hn] at hn8
  rw [hk] at hk8
  rw [hn, hk] at hb0
  have hI := IH0
  have hJ := hB0
  rw [encP_cells] at hI hJ
  rw [hn, hk] at hb1
  have hI1 := IH1
  have hJ1 := hB1
  rw [encP_cells] at hI1 hJ1
  have hM := prod2D_ok n0 n1 hn0 hn1
  have hmr := mul_rng' hn0 hn1
  obtain ⟨m, hm⟩ : ∃ x, mulS n0 n1 = x := ⟨_, rfl⟩
  rw [hm] at hM hmr
  refine snd_of [] Try.func32 rfl (by kernel_rfl) Try.ntmps32 (by simp) ?_
  unfold Try.f32
  simp only [List.cons_append, List.nil_append, List.length_cons, List.length_nil, Nat.reduceAdd, Nat.reduceSub, List.replicate]
  refine Run.seq ?_
  refine opsF oo66 fun K hK => ?_
  try simp
  repeat' first | ((refine evL_c ?_); simp [hn, hk, hop, hkl, hb0, hb1]) | (with_reducible refine And.intro ?_ ?_) | intro _ | (with_reducible assumption) | omega
  all_goals (refine Fin.go hK ?_; clear hK K)
  simp only [Then_normal]
  refine Run.seq ?_
  refine Run.seq ?_
  refine opsF oo67 fun K hK => ?_
  try simp
  repeat' first | ((refine evL_c ?_); simp [hn, hk, hop, hkl, hb0, hb1]) | (with_reducible refine And.intro ?_ ?_) | intro _ | (with_reducible assumption) | omega
  all_goals (refine Fin.go hK ?_; clear hK K)
  simp only [Then_normal]
  refine Run.cond rfl (fun h23 => ?_) (fun h23 => ?_)
  · simp at h23
  · skip
    refine Run.skip ?_
    simp only [Then_normal]
    refine Run.seq ?_
    refine opsF oo68 fun K hK => ?_
    try simp
    repeat' first | ((refine evL_c ?_); simp [hn, hk, hop, hkl, hb0, hb1]) | (with_reducible refine And.intro ?_ ?_) | intro _ | (with_reducible assumption) | omega
    all_goals (refine Fin.go hK ?_; clear hK K)
    simp only [Then_normal]
    refine Run.seq ?_
    refine opsF oo69 fun K hK => ?_
    try simp
    repeat' first | (refine ecallD (by exact hI) ?_) | ((refine evL_c ?_); simp [hn, hk, hop, hkl, hb0, hb1]) | (with_reducible refine And.intro ?_ ?_) | intro _ | (with_reducible assumption) | omega
    all_goals (refine Fin.go hK ?_; clear hK K)
    simp only [Then_normal]
    refine Run.seq ?_
    refine opsF oo70 fun K hK => ?_
    try simp
    repeat' first | (refine ecall (by exact hJ) rfl ?_) | ((refine evL_c ?_); simp [hn, hk, hop, hkl, hb0, hb1]) | (with_reducible refine And.intro ?_ ?_) | intro _ | (with_reducible assumption) | omega
    all_goals (refine Fin.go hK ?_; clear hK K)
    simp only [Then_normal]
    refine Run.seq ?_
    refine Run.seq ?_
    refine opsF oo71 fun K hK => ?_
    try simp
    repeat' first | ((refine evL_c ?_); simp [hn, hk, hop, hkl, hb0, hb1]) | (with_reducible refine And.intro ?_ ?_) | intro _ | (with_reducible assumption) | omega
    all_goals (refine Fin.go hK ?_; clear hK K)
    simp only [Then_normal]
    refine Run.block ?_
    refine Run.seq ?_
    refine Run.seq ?_
    refine opsF oo72 fun K hK => ?_
    try simp
    repeat' first | ((refine evL_c ?_); simp [hn, hk, hop, hkl, hb0, hb1]) | (with_reducible refine And.intro ?_ ?_) | intro _ | (with_reducible assumption) | omega
    all_goals (refine Fin.go hK ?_; clear hK K)
    simp only [Then_normal]
    refine Run.cond rfl (fun h44 => ?_) (fun h44 => ?_)
    · simp at h44
    · skip
      refine opsF oo73 fun K hK => ?_
      try simp
      repeat' first | ((refine evL_c ?_); simp [hn, hk, hop, hkl, hb0, hb1]) | (with_reducible refine And.intro ?_ ?_) | intro _ | (with_reducible assumption) | omega
      all_goals (refine Fin.go hK ?_; clear hK K)
      simp only [Then_normal]
      refine Run.cond rfl (fun h44 => ?_) (fun h44 => ?_)
      · simp at h44
      · skip
        refine Run.seq ?_
        refine opsF oo74 fun K hK => ?_
        try simp
        repeat' first | ((refine evL_c ?_); simp [hn, hk, hop, hkl, hb0, hb1]) | (with_reducible refine And.intro ?_ ?_) | intro _ | (with_reducible assumption) | omega
        all_goals (refine Fin.go hK ?_; clear hK K)
        simp only [Then_normal]
        refine Run.cond rfl (fun h118 => ?_) (fun h118 => ?_)
        · skip
          refine Run.seq ?_
          refine opsF [⟨Op.move (Operand.tmp 6), some 120, none⟩, ⟨Op.load 82 (Operand.tmp 2), some 121, none⟩, ⟨Op.fieldAddr 27 (Operand.tmp 3) 1, some 122, none⟩, ⟨Op.load 23 (Operand.tmp 122), some 123, none⟩, ⟨Op.indexAddr 23 (Operand.tmp 123) (Operand.const (Value.int IntKind.i64 1)), some 124, none⟩, ⟨Op.load 27 (Operand.tmp 124), some 125, none⟩, ⟨Op.call { callee := Callee.value (Operand.func 32), args := #[Operand.tmp 121, Operand.tmp 125], argTypes := #[82, 27] }, some 126, none⟩, ⟨Op.buildSlice 51 2 #[(0, Operand.tmp 120), (1, Operand.tmp 126)], some 127, none⟩, ⟨Op.call { callee := Callee.value (Operand.func 66), args := #[Operand.tmp 127], argTypes := #[51] }, some 128, none⟩, ⟨Op.assign (Operand.tmp 128), some 6, none⟩] fun K hK => ?_
          try simp
          repeat' first | (refine ecallD (by exact hI1) ?_) | (refine ecallF (by simp) (by simp) hM ?_) | ((refine evL_c ?_); simp [hn, hk, hop, hkl, hb0, hb1]) | (with_reducible refine And.intro ?_ ?_) | intro _ | (with_reducible assumption) | omega
          all_goals (refine Fin.go hK ?_; clear hK K)
          simp only [Then_normal]
          refine Run.seq ?_
          refine opsF [⟨Op.fieldAddr 27 (Operand.tmp 3) 1, some 130, none⟩, ⟨Op.load 23 (Operand.tmp 130), some 131, none⟩, ⟨Op.indexAddr 23 (Operand.tmp 131) (Operand.const (Value.int IntKind.i64 1)), some 132, none⟩, ⟨Op.load 27 (Operand.tmp 132), some 133, none⟩, ⟨Op.fieldAddr 82 (Operand.tmp 2) 0, some 134, none⟩, ⟨Op.load 33 (Operand.tmp 134), some 135, none⟩, ⟨Op.call { callee := Callee.value (Operand.func 20), args := #[Operand.tmp 133, Operand.tmp 135], argTypes := #[27, 33] }, some 136, none⟩, ⟨Op.move (Operand.tmp 136), some 129, none⟩, ⟨Op.extract (Operand.tmp 129) 0, some 137, none⟩, ⟨Op.extract (Operand.tmp 129) 1, some 138, none⟩, ⟨Op.assign (Operand.tmp 137), some 15, none⟩, ⟨Op.assign (Operand.tmp 138), some 16, none⟩] fun K hK => ?_
          try simp
          repeat' first | (refine ecall (by exact hJ1) rfl ?_) | ((refine evL_c ?_); simp [hn, hk, hop, hkl, hb0, hb1]) | (with_reducible refine And.intro ?_ ?_) | intro _ | (with_reducible assumption) | omega
          all_goals (refine Fin.go hK ?_; clear hK K)
          simp only [Then_normal]
          refine Run.seq ?_
          refine opsF [⟨Op.fieldAddr 82 (Operand.tmp 2) 0, some 139, none⟩, ⟨Op.fieldAddr 33 (Operand.tmp 139) 0, some 140, none⟩, ⟨Op.load 28 (Operand.tmp 140), some 141, none⟩, ⟨Op.call { callee := Callee.builtin Builtin.len, args := #[Operand.tmp 141], argTypes := #[28] }, some 142, none⟩, ⟨Op.move (Operand.const (Value.int IntKind.i64 0)), some 143, none⟩] fun K hK => ?_
          try simp
          repeat' first | ((refine evL_c ?_); simp [hn, hk, hop, hkl, hb0, hb1]) | (with_reducible refine And.intro ?_ ?_) | intro _ | (with_reducible assumption) | omega
          all_goals (refine Fin.go hK ?_; clear hK K)
          simp only [Then_normal]
          refine Run.block ?_
          refine Run.loopO [6, 17, 143, 144, 145, 146, 147, 148, 149, 150, 151, 152, 153, 154, 155, 156, 157, 158, 159, 160, 161] (fun (i : Nat) => [(143, .int i), (6, .int (joinE c s b0 b1 m i))]) (fun (i : Nat) => [(300, .vals ((encC c ++ encS s).map .d)), (400, .vals ((encP p).map .d)), (600, .vals ((encP (rdI p.kids 0)).map .d))]) (fun (i : Nat) => i ≤ n) (fun (i : Nat) => n - i) 0 (by omega) (by simp [joinE, hop, hn]) fun i hi => ?_
          simp only [over, List.foldl, List.set]
          have hjr := joinE_rng (c := c) (s := s) (a := b0) (b := b1) hmr i
          have hju : joinE c s b0 b1 m (i + 1) = if rdI b0 i && rdI b1 i then shareS (joinE c s b0 b1 m i) (nodesS c s i) else joinE c s b0 b1 m i := rfl
          obtain ⟨ji, hji⟩ : ∃ x, joinE c s b0 b1 m i = x := ⟨_, rfl⟩
          rw [hji] at hjr hju
          refine Run.seq ?_
          refine opsF [⟨Op.binOp BinOp.lss 3 (Operand.tmp 143) (Operand.tmp 142) 3, some 144, none⟩] fun K hK => ?_
          try simp
          repeat' first | ((refine evL_c ?_); simp [hn, hk, hop, hkl, hb0, hb1]) | (with_reducible refine And.intro ?_ ?_) | intro _ | (with_reducible assumption) | omega
          all_goals (refine Fin.go hK ?_; clear hK K)
          simp only [Then_normal]
          refine Run.seq ?_
          refine Run.cond rfl (fun h144 => ?_) (fun h144 => ?_)
          · try simp [hji] at h144
            have hi1 : i < n := by omega
            have hi2 : (i : Int) < (b0.length : Int) := by omega
            have hi3 : (i : Int) < (b1.length : Int) := by omega
            have hi4 : (i : Int) < (n : Int) + k := by omega
            have hN := nodesS_ok c s i (by omega) (by omega)
            have hS := share_ok' ji (nodesS c s i) hjr (nodesS_rng _ _ _)
            refine Run.skip ?_
            simp only [Then_normal]
            refine Run.seq ?_
            refine Run.block ?_
            refine Run.seq ?_
            refine opsF [⟨Op.move (Operand.tmp 143), some 145, none⟩, ⟨Op.assign (Operand.tmp 145), some 17, none⟩] fun K hK => ?_
            try simp
            repeat' first | ((refine evL_c ?_); simp [hn, hk, hop, hkl, hb0, hb1, hji, hi1, hi4]) | (with_reducible refine And.intro ?_ ?_) | intro _ | (with_reducible assumption) | omega
            all_goals (refine Fin.go hK ?_; clear hK K)
            simp only [Then_normal]
            refine Run.cut [146, 147, 148, 149, 150, 151, 152, 153, 154, 155] [(155, .bool (rdI b0 i && rdI b1 i))] [(300, .vals ((encC c ++ encS s).map .d)), (400, .vals ((encP p).map .d)), (600, .vals ((encP (rdI p.kids 0)).map .d))] ?_ ?_
            · refine opsF [⟨Op.move (Operand.tmp 7), some 146, none⟩, ⟨Op.move (Operand.tmp 17), some 147, none⟩, ⟨Op.indexAddr 60 (Operand.tmp 146) (Operand.tmp 147), some 148, none⟩, ⟨Op.load 4 (Operand.tmp 148), some 149, none⟩, ⟨Op.move (Operand.tmp 149), some 150, none⟩, ⟨Op.move (Operand.tmp 15), some 151, some (some 150, true)⟩, ⟨Op.move (Operand.tmp 17), some 152, some (some 150, true)⟩, ⟨Op.indexAddr 60 (Operand.tmp 151) (Operand.tmp 152), some 153, some (some 150, true)⟩, ⟨Op.load 4 (Operand.tmp 153), some 154, some (some 150, true)⟩, ⟨Op.pick (Operand.tmp 150) (Operand.tmp 154) (Operand.const (Value.bool false)), some 155, none⟩] fun K hK => ?_
              try simp
              repeat' first | ((first | refine evL_c ?_ | (refine evL_g rfl ?_; try simp only [gs_tt, gs_ff, gs_tf, gs_ft]) | refine evL_u rfl ?_ | (with_reducible refine gsplit (fun hg => ?_) (fun hg => ?_) <;> try simp at hg)) <;> try simp [hn, hk, hop, hkl, hb0, hb1, hji, hi1, hi4, *]) | (with_reducible refine And.intro ?_ ?_) | intro _ | (with_reducible assumption) | omega
              all_goals (refine Fin.go hK ?_; clear hK K)
              all_goals
                (try simp [hop, hn, *]) <;> (first | omega | (simp; done) | grind)
            · simp only [over, List.foldl, List.set]
              refine Run.cond rfl (fun h155 => ?_) (fun h155 => ?_)
              · try simp at h155
                refine opsF [⟨Op.move (Operand.tmp 6), some 156, none⟩, ⟨Op.load 82 (Operand.tmp 2), some 157, none⟩, ⟨Op.move (Operand.tmp 17), some 158, none⟩, ⟨Op.call { callee := Callee.value (Operand.func 63), args := #[Operand.tmp 157, Operand.tmp 158], argTypes := #[82, 3] }, some 159, none⟩, ⟨Op.call { callee := Callee.value (Operand.func 64), args := #[Operand.tmp 156, Operand.tmp 159], argTypes := #[2, 2] }, some 160, none⟩, ⟨Op.assign (Operand.tmp 160), some 6, none⟩] fun K hK => ?_
                try simp
                repeat' first | (refine ecallD (by exact hN) ?_) | (refine ecallD (by exact hS) ?_) | ((refine evL_c ?_); simp [hn, hk, hop, hkl, hb0, hb1, hji, hi1, hi4]) | (with_reducible refine And.intro ?_ ?_) | intro _ | (with_reducible assumption) | omega
                all_goals (refine Fin.go hK ?_; clear hK K)
                simp only [Blok_normal]
                simp only [Then_normal]
                refine opsF oo87 fun K hK => ?_
                try simp
                repeat' first | ((refine evL_c ?_); simp [hn, hk, hop, hkl, hb0, hb1, hji, hi1, hi4]) | (with_reducible refine And.intro ?_ ?_) | intro _ | (with_reducible assumption) | omega
                all_goals (refine Fin.go hK ?_; clear hK K)
                refine ⟨i + 1, by omega, by omega, ?_⟩
                (try simp at h155)
                (try simp (disch := omega) [wrap_id, hju, hop, hn, h155, hji]) <;> (first | done | grind)
              · try simp at h155
                refine Run.skip ?_
                simp only [Blok_normal]
                simp only [Then_normal]
                refine opsF oo87 fun K hK => ?_
                try simp
                repeat' first | ((refine evL_c ?_); simp [hn, hk, hop, hkl, hb0, hb1, hji, hi1, hi4]) | (with_reducible refine And.intro ?_ ?_) | intro _ | (with_reducible assumption) | omega
                all_goals (refine Fin.go hK ?_; clear hK K)
                refine ⟨i + 1, by omega, by omega, ?_⟩
                (try simp at h155)
                (try simp (disch := omega) [wrap_id, hju, hop, hn, h155, hji]) <;> (first | done | grind)
          · try simp [hji] at h144
            have hi5 : i = n := by omega
            subst hi5
            refine Run.exit ?_
            simp (decide := true) only [Then_exit, Blok_exit, if_true, if_false]
            simp only [Blok_normal]
            simp only [Then_normal]
            refine Run.seq ?_
            refine opsF oo76 fun K hK => ?_
            try simp
            repeat' first | ((refine evL_c ?_); simp [hn, hk, hop, hkl, hb0, hb1, hji]) | (with_reducible refine And.intro ?_ ?_) | intro _ | (with_reducible assumption) | omega
            all_goals (refine Fin.go hK ?_; clear hK K)
            simp only [Then_normal]
            refine Run.ret ?_
            try simp only [Then_ret, Blok_ret]
            simp [hm, hn, hji]
        · simp at h118

set_option maxHeartbeats 4000000 in
theorem est5_ok (c : CoreT) (s : StatsT) (p : PlanT) (n0 : Int) (b0 : List Bool) (hP : patS c.nodes c.edges = true) (hop : p.op = 5) (hkl : p.kids.length = 1) (hs0 : 0 ≤ p.slot) (hs1 : p.slot < c.nodes.length) (hme : ∀ i : Nat, i < p.edges.length → 0 ≤ rdI p.edges i ∧ rdI p.edges i < c.edges.length) (IH0 : Snd P 32 [.d (.ag (encC c ++ encS s)), .d (.ag (encP (rdI p.kids 0)))] (.int n0) []) (hn0 : 0 ≤ n0 ∧ n0 ≤ 1099511627776) (hB0 : Snd P 20 [.d (.ag (encP (rdI p.kids 0))), .d (.ag (encC c))] (.tup [.d (.sl false (b0.map encB)), .int 0]) []) (hb0 : b0.length = c.nodes.length + c.edges.length) : Snd P 32 [.d (.ag (encC c ++ encS s)), .d (.ag (encP p))] (.int (meetE c s p n0 p.edges.length)) [] := by
  refine Snd.ok 1 rfl (by kernel_rfl) fun hok => ?_
  have htm := (encP_ok hok).2.1
  clear hok
  obtain ⟨-, hn8, hk8⟩ := pat_rng hP
  have hE := goodE_of hP
  obtain ⟨n, hn⟩ : ∃ k, c.nodes.length = k := ⟨_, rfl⟩
  obtain ⟨k, hk⟩ : ∃ k, c.edges.length = k := ⟨_, rfl⟩
  rw [hn] at hn8
  rw [hk] at hk8
  rw [hn, hk] at hb0
  have hI := IH0
  have hJ := hB0
  rw [encP_cells] at hI hJ
  have hN0 := nodesS_ok c s p.slot hs0 hs1
  have hM := prod2D_ok n0 (nodesS c s p.slot) hn0 (nodesS_rng _ _ _)
  obtain ⟨el, hel⟩ : ∃ x, p.edges.length = x := ⟨_, rfl⟩
  rw [hel] at hme htm
  obtain ⟨ns, hns⟩ : ∃ x, nodesS c s p.slot = x := ⟨_, rfl⟩
  have hnr := nodesS_rng c s p.slot
  rw [hns] at hN0 hM hnr
  refine snd_of [] Try.func32 rfl (by kernel_rfl) Try.ntmps32 (by simp) ?_
  unfold Try.f32
  simp only [List.cons_append, List.nil_append, List.length_cons, List.length_nil, Nat.reduceAdd, Nat.reduceSub, List.replicate]
  refine Run.seq ?_
  refine opsF oo66 fun K hK => ?_
  try simp
  repeat' first | ((refine evL_c ?_); simp [hn, hk, hop, hkl, hb0, hel]) | (with_reducible refine And.intro ?_ ?_) | intro _ | (with_reducible assumption) | omega
  all_goals (refine Fin.go hK ?_; clear hK K)
  simp only [Then_normal]
  refine Run.seq ?_
  refine Run.seq ?_
  refine opsF oo67 fun K hK => ?_
  try simp
  repeat' first | ((refine evL_c ?_); simp [hn, hk, hop, hkl, hb0, hel]) | (with_reducible refine And.intro ?_ ?_) | intro _ | (with_reducible assumption) | omega
  all_goals (refine Fin.go hK ?_; clear hK K)
  simp only [Then_normal]
  refine Run.cond rfl (fun h23 => ?_) (fun h23 => ?_)
  · simp at h23
  · skip
    refine Run.skip ?_
    simp only [Then_normal]
    refine Run.seq ?_
    refine opsF oo68 fun K hK => ?_
    try simp
    repeat' first | ((refine evL_c ?_); simp [hn, hk, hop, hkl, hb0, hel]) | (with_reducible refine And.intro ?_ ?_) | intro _ | (with_reducible assumption) | omega
    all_goals (refine Fin.go hK ?_; clear hK K)
    simp only [Then_normal]
    refine Run.seq ?_
    refine opsF oo69 fun K hK => ?_
    try simp
    repeat' first | (refine ecallD (by exact hI) ?_) | ((refine evL_c ?_); simp [hn, hk, hop, hkl, hb0, hel]) | (with_reducible refine And.intro ?_ ?_) | intro _ | (with_reducible assumption) | omega
    all_goals (refine Fin.go hK ?_; clear hK K)
    simp only [Then_normal]
    refine Run.seq ?_
    refine opsF oo70 fun K hK => ?_
    try simp
    repeat' first | (refine ecall (by exact hJ) rfl ?_) | ((refine evL_c ?_); simp [hn, hk, hop, hkl, hb0, hel]) | (with_reducible refine And.intro ?_ ?_) | intro _ | (with_reducible assumption) | omega
    all_goals (refine Fin.go hK ?_; clear hK K)
    simp only [Then_normal]
    refine Run.seq ?_
    refine Run.seq ?_
    refine opsF oo71 fun K hK => ?_
    try simp
    repeat' first | ((refine evL_c ?_); simp [hn, hk, hop, hkl, hb0, hel]) | (with_reducible refine And.intro ?_ ?_) | intro _ | (with_reducible assumption) | omega
    all_goals (refine Fin.go hK ?_; clear hK K)
    simp only [Then_normal]
    refine Run.block ?_
    refine Run.seq ?_
    refine Run.seq ?_
    refine opsF oo72 fun K hK => ?_
    try simp
    repeat' first | ((refine evL_c ?_); simp [hn, hk, hop, hkl, hb0, hel]) | (with_reducible refine And.intro ?_ ?_) | intro _ | (with_reducible assumption) | omega
    all_goals (refine Fin.go hK ?_; clear hK K)
    simp only [Then_normal]
    refine Run.cond rfl (fun h44 => ?_) (fun h44 => ?_)
    · simp at h44
    · skip
      refine opsF oo73 fun K hK => ?_
      try simp
      repeat' first | ((refine evL_c ?_); simp [hn, hk, hop, hkl, hb0, hel]) | (with_reducible refine And.intro ?_ ?_) | intro _ | (with_reducible assumption) | omega
      all_goals (refine Fin.go hK ?_; clear hK K)
      simp only [Then_normal]
      refine Run.cond rfl (fun h44 => ?_) (fun h44 => ?_)
      · simp at h44
      · skip
        refine Run.seq ?_
        refine opsF oo74 fun K hK => ?_
        try simp
        repeat' first | ((refine evL_c ?_); simp [hn, hk, hop, hkl, hb0, hel]) | (with_reducible refine And.intro ?_ ?_) | intro _ | (with_reducible assumption) | omega
        all_goals (refine Fin.go hK ?_; clear hK K)
        simp only [Then_normal]
        refine Run.cond rfl (fun h118 => ?_) (fun h118 => ?_)
        · simp at h118
        · skip
          refine Run.seq ?_
          refine opsF oo75 fun K hK => ?_
          try simp
          repeat' first | ((refine evL_c ?_); simp [hn, hk, hop, hkl, hb0, hel]) | (with_reducible refine And.intro ?_ ?_) | intro _ | (with_reducible assumption) | omega
          all_goals (refine Fin.go hK ?_; clear hK K)
          simp only [Then_normal]
          refine Run.cond rfl (fun h162 => ?_) (fun h162 => ?_)
          · skip
            refine Run.seq ?_
            refine opsF [⟨Op.move (Operand.tmp 6), some 164, none⟩, ⟨Op.load 82 (Operand.tmp 2), some 165, none⟩, ⟨Op.fieldAddr 27 (Operand.tmp 3) 2, some 166, none⟩, ⟨Op.load 3 (Operand.tmp 166), some 167, none⟩, ⟨Op.call { callee := Callee.value (Operand.func 63), args := #[Operand.tmp 165, Operand.tmp 167], argTypes := #[82, 3] }, some 168, none⟩, ⟨Op.buildSlice 51 2 #[(0, Operand.tmp 164), (1, Operand.tmp 168)], some 169, none⟩, ⟨Op.call { callee := Callee.value (Operand.func 66), args := #[Operand.tmp 169], argTypes := #[51] }, some 170, none⟩, ⟨Op.assign (Operand.tmp 170), some 6, none⟩] fun K hK => ?_
            try simp
            repeat' first | (refine ecallD (by exact hN0) ?_) | (refine ecallF (by simp) (by simp) hM ?_) | ((refine evL_c ?_); simp [hn, hk, hop, hkl, hb0, hel]) | (with_reducible refine And.intro ?_ ?_) | intro _ | (with_reducible assumption) | omega
            all_goals (refine Fin.go hK ?_; clear hK K)
            simp only [Then_normal]
            refine Run.seq ?_
            refine opsF [⟨Op.fieldAddr 27 (Operand.tmp 3) 3, some 171, none⟩, ⟨Op.load 24 (Operand.tmp 171), some 172, none⟩, ⟨Op.call { callee := Callee.builtin Builtin.len, args := #[Operand.tmp 172], argTypes := #[24] }, some 173, none⟩, ⟨Op.move (Operand.const (Value.int IntKind.i64 0)), some 174, none⟩] fun K hK => ?_
            try simp
            repeat' first | ((refine evL_c ?_); simp [hn, hk, hop, hkl, hb0, hel]) | (with_reducible refine And.intro ?_ ?_) | intro _ | (with_reducible assumption) | omega
            all_goals (refine Fin.go hK ?_; clear hK K)
            simp only [Then_normal]
            refine Run.block ?_
            refine Run.loopO [6, 19, 20, 174, 175, 176, 177, 178, 179, 180, 181, 182, 183, 184, 185, 186, 187, 188, 189, 190, 191, 192, 193, 194, 195, 196, 197, 198, 199, 200, 201, 202, 203, 204, 205, 206, 207, 208, 209, 210, 211] (fun (i : Nat) => [(174, .int i), (6, .int (meetE c s p n0 i))]) (fun (i : Nat) => [(300, .vals ((encC c ++ encS s).map .d)), (400, .vals ((encP p).map .d)), (600, .vals ((encP (rdI p.kids 0)).map .d))]) (fun (i : Nat) => i ≤ el) (fun (i : Nat) => el - i) 0 (by omega) (by simp [meetE, hop, hn, hns]) fun i hi => ?_
            simp only [over, List.foldl, List.set]
            have hjr := meetE_rng (c := c) (s := s) (p := p) hn0 i
            have hju : meetE c s p n0 (i + 1) = shareS (shareS (mulS (meetE c s p n0 i) (edgesS c s (rdI p.edges i))) (nodesS c s p.slot)) (nodesS c s (if (rdI c.edges (rdI p.edges i)).src = p.slot then (rdI c.edges (rdI p.edges i)).dst else (rdI c.edges (rdI p.edges i)).src)) := rfl
            obtain ⟨ji, hji⟩ : ∃ x, meetE c s p n0 i = x := ⟨_, rfl⟩
            obtain ⟨u, hu⟩ : ∃ x, (if (rdI c.edges (rdI p.edges i)).src = p.slot then (rdI c.edges (rdI p.edges i)).dst else (rdI c.edges (rdI p.edges i)).src) = x := ⟨_, rfl⟩
            rw [hji, hu, hns] at hju
            rw [hji] at hjr
            refine Run.seq ?_
            refine opsF [⟨Op.binOp BinOp.lss 3 (Operand.tmp 174) (Operand.tmp 173) 3, some 175, none⟩] fun K hK => ?_
            try simp
            repeat' first | ((refine evL_c ?_); simp [hn, hk, hop, hkl, hb0, hel]) | (with_reducible refine And.intro ?_ ?_) | intro _ | (with_reducible assumption) | omega
            all_goals (refine Fin.go hK ?_; clear hK K)
            simp only [Then_normal]
            refine Run.seq ?_
            refine Run.cond rfl (fun h175 => ?_) (fun h175 => ?_)
            · try simp [hji] at h175
              have hi1 : i < el := by omega
              obtain ⟨he0, he1⟩ := hme i hi1
              have he2 : rdI p.edges i < (k : Int) := by omega
              have hG := hE (rdI c.edges (rdI p.edges i)) (rdI_mem he0 he1)
              have hu2 : 0 ≤ u ∧ u < c.nodes.length := by rw [← hu]; split <;> omega
              have hE1 := edgesS_ok c s (rdI p.edges i) he0 he1
              have hN1 := nodesS_ok c s u hu2.1 hu2.2
              have r1 := edgesS_rng c s (rdI p.edges i)
              have r2 := nodesS_rng c s u
              have hMi := prod2D_ok ji (edgesS c s (rdI p.edges i)) hjr r1
              have r3 := mul_rng' hjr r1
              have hS1 := share_ok' (mulS ji (edgesS c s (rdI p.edges i))) ns r3 hnr
              have r4 := share_rng' r3 hnr
              have hS2 := share_ok' (shareS (mulS ji (edgesS c s (rdI p.edges i))) ns) (nodesS c s u) r4 r2
              refine Run.skip ?_
              simp only [Then_normal]
              refine Run.seq ?_
              refine Run.block ?_
              refine Run.seq ?_
              refine opsF [⟨Op.indexAddr 24 (Operand.tmp 172) (Operand.tmp 174), some 176, none⟩, ⟨Op.load 3 (Operand.tmp 176), some 177, none⟩, ⟨Op.assign (Operand.tmp 177), some 19, none⟩] fun K hK => ?_
              try simp
              repeat' first | ((refine evL_c ?_); simp [hn, hk, hop, hkl, hb0, hel, hji, hi1, he0, he1, he2]) | (with_reducible refine And.intro ?_ ?_) | intro _ | (with_reducible assumption) | omega
              all_goals (refine Fin.go hK ?_; clear hK K)
              simp only [Then_normal]
              refine Run.seq ?_
              refine opsF [⟨Op.fieldAddr 82 (Operand.tmp 2) 0, some 178, none⟩, ⟨Op.fieldAddr 33 (Operand.tmp 178) 1, some 179, none⟩, ⟨Op.load 29 (Operand.tmp 179), some 180, none⟩, ⟨Op.move (Operand.tmp 19), some 181, none⟩, ⟨Op.indexAddr 29 (Operand.tmp 180) (Operand.tmp 181), some 182, none⟩, ⟨Op.fieldAddr 105 (Operand.tmp 182) 2, some 183, none⟩, ⟨Op.load 3 (Operand.tmp 183), some 184, none⟩, ⟨Op.assign (Operand.tmp 184), some 20, none⟩] fun K hK => ?_
              try simp
              repeat' first | ((refine evL_c ?_); simp [hn, hk, hop, hkl, hb0, hel, hji, hi1, he0, he1, he2]) | (with_reducible refine And.intro ?_ ?_) | intro _ | (with_reducible assumption) | omega
              all_goals (refine Fin.go hK ?_; clear hK K)
              simp only [Then_normal]
              refine Run.cut [20, 185, 186, 187, 188, 189, 190, 191, 192, 193, 194, 195] [(20, .int u)] [(300, .vals ((encC c ++ encS s).map .d)), (400, .vals ((encP p).map .d)), (600, .vals ((encP (rdI p.kids 0)).map .d))] ?_ ?_
              · refine Run.seq ?_
                refine opsF [⟨Op.move (Operand.tmp 20), some 185, none⟩, ⟨Op.fieldAddr 27 (Operand.tmp 3) 2, some 186, none⟩, ⟨Op.load 3 (Operand.tmp 186), some 187, none⟩, ⟨Op.binOp BinOp.eql 3 (Operand.tmp 185) (Operand.tmp 187) 3, some 188, none⟩] fun K hK => ?_
                try simp
                repeat' first | ((refine evL_c ?_); simp [hn, hk, hop, hkl, hb0, hel, hji, hi1, he0, he1, he2]) | (with_reducible refine And.intro ?_ ?_) | intro _ | (with_reducible assumption) | omega
                all_goals (refine Fin.go hK ?_; clear hK K)
                simp only [Then_normal]
                refine Run.cond rfl (fun h188 => ?_) (fun h188 => ?_)
                · try simp at h188
                  refine opsF [⟨Op.fieldAddr 82 (Operand.tmp 2) 0, some 189, none⟩, ⟨Op.fieldAddr 33 (Operand.tmp 189) 1, some 190, none⟩, ⟨Op.load 29 (Operand.tmp 190), some 191, none⟩, ⟨Op.move (Operand.tmp 19), some 192, none⟩, ⟨Op.indexAddr 29 (Operand.tmp 191) (Operand.tmp 192), some 193, none⟩, ⟨Op.fieldAddr 105 (Operand.tmp 193) 3, some 194, none⟩, ⟨Op.load 3 (Operand.tmp 194), some 195, none⟩, ⟨Op.assign (Operand.tmp 195), some 20, none⟩] fun K hK => ?_
                  try simp
                  repeat' first | ((refine evL_c ?_); simp [hn, hk, hop, hkl, hb0, hel, hji, hi1, he0, he1, he2]) | (with_reducible refine And.intro ?_ ?_) | intro _ | (with_reducible assumption) | omega
                  all_goals (refine Fin.go hK ?_; clear hK K)
                  try simp at h188
                  try simp [h188] at hu
                  simp [hop, hn, hu, h188]
                · try simp at h188
                  refine Run.skip ?_
                  try simp at h188
                  try simp [h188] at hu
                  simp [hop, hn, hu, h188]
              · simp only [over, List.foldl, List.set]
                refine opsF [⟨Op.move (Operand.tmp 6), some 196, none⟩, ⟨Op.load 82 (Operand.tmp 2), some 197, none⟩, ⟨Op.move (Operand.tmp 19), some 198, none⟩, ⟨Op.call { callee := Callee.value (Operand.func 65), args := #[Operand.tmp 197, Operand.tmp 198], argTypes := #[82, 3] }, some 199, none⟩, ⟨Op.buildSlice 51 2 #[(0, Operand.tmp 196), (1, Operand.tmp 199)], some 200, none⟩, ⟨Op.call { callee := Callee.value (Operand.func 66), args := #[Operand.tmp 200], argTypes := #[51] }, some 201, none⟩, ⟨Op.load 82 (Operand.tmp 2), some 202, none⟩, ⟨Op.fieldAddr 27 (Operand.tmp 3) 2, some 203, none⟩, ⟨Op.load 3 (Operand.tmp 203), some 204, none⟩, ⟨Op.call { callee := Callee.value (Operand.func 63), args := #[Operand.tmp 202, Operand.tmp 204], argTypes := #[82, 3] }, some 205, none⟩, ⟨Op.call { callee := Callee.value (Operand.func 64), args := #[Operand.tmp 201, Operand.tmp 205], argTypes := #[2, 2] }, some 206, none⟩, ⟨Op.load 82 (Operand.tmp 2), some 207, none⟩, ⟨Op.move (Operand.tmp 20), some 208, none⟩, ⟨Op.call { callee := Callee.value (Operand.func 63), args := #[Operand.tmp 207, Operand.tmp 208], argTypes := #[82, 3] }, some 209, none⟩, ⟨Op.call { callee := Callee.value (Operand.func 64), args := #[Operand.tmp 206, Operand.tmp 209], argTypes := #[2, 2] }, some 210, none⟩, ⟨Op.assign (Operand.tmp 210), some 6, none⟩] fun K hK => ?_
                try simp
                repeat' first | (refine ecallD (by exact hE1) ?_) | (refine ecallF (by simp) (by simp) hMi ?_) | (refine ecallD (by exact hN0) ?_) | (refine ecallD (by exact hS1) ?_) | (refine ecallD (by exact hN1) ?_) | (refine ecallD (by exact hS2) ?_) | ((refine evL_c ?_); simp [hn, hk, hop, hkl, hb0, hel, hji, hi1, he0, he1, he2]) | (with_reducible refine And.intro ?_ ?_) | intro _ | (with_reducible assumption) | omega
                all_goals (refine Fin.go hK ?_; clear hK K)
                simp only [Blok_normal]
                simp only [Then_normal]
                refine opsF [⟨Op.binOp BinOp.add 3 (Operand.tmp 174) (Operand.const (Value.int IntKind.i64 1)) 3, some 211, none⟩, ⟨Op.move (Operand.tmp 211), some 174, none⟩] fun K hK => ?_
                try simp
                repeat' first | ((refine evL_c ?_); simp [hn, hk, hop, hkl, hb0, hel, hji, hi1, he0, he1, he2]) | (with_reducible refine And.intro ?_ ?_) | intro _ | (with_reducible assumption) | omega
                all_goals (refine Fin.go hK ?_; clear hK K)
                refine ⟨i + 1, by omega, by omega, ?_⟩
                simp (disch := omega) [wrap_id, hju, hop, hn]
            · try simp [hji] at h175
              have hi5 : i = el := by omega
              subst hi5
              refine Run.exit ?_
              simp (decide := true) only [Then_exit, Blok_exit, if_true, if_false]
              simp only [Blok_normal]
              simp only [Then_normal]
              refine Run.seq ?_
              refine opsF oo76 fun K hK => ?_
              try simp
              repeat' first | ((refine evL_c ?_); simp [hn, hk, hop, hkl, hb0, hel, hji]) | (with_reducible refine And.intro ?_ ?_) | intro _ | (with_reducible assumption) | omega
              all_goals (refine Fin.go hK ?_; clear hK K)
              simp only [Then_normal]
              refine Run.ret ?_
              try simp only [Then_ret, Blok_ret]
              simp [hel, hji]
          · simp at h162


end Go.Proofs.Ytihbejpkfifplaa.Z
end
section
set_option maxRecDepth 100000
namespace Go.Proofs.Ytihbejpkfifplaa.Z
open Go Go.Fw
def bndD (c : CoreT) (p : PlanT) : List Bool := (bndT c p).getD []
def estOp (c : CoreT) (s : StatsT) (p : PlanT) (es : List Int) : Int :=
  if p.op = 1 then nodesS c s p.slot
  else if p.op = 2 ∨ p.op = 3 then stepS c s p (es.getD 0 0) (bndD c (rdI p.kids 0))
  else if p.op = 4 then joinE c s (bndD c (rdI p.kids 0)) (bndD c (rdI p.kids 1)) (mulS (es.getD 0 0) (es.getD 1 0)) c.nodes.length
  else if p.op = 5 then meetE c s p (es.getD 0 0) p.edges.length
  else filtE (es.getD 0 0) p.terms.length
mutual
def estT (c : CoreT) (s : StatsT) : PlanT → Int
  | .mk o k sl e b t => estOp c s (.mk o k sl e b t) (estL c s k)
def estL (c : CoreT) (s : StatsT) : List PlanT → List Int
  | [] => []
  | p :: r => estT c s p :: estL c s r
end
theorem estL_eq (c : CoreT) (s : StatsT) (l : List PlanT) : estL c s l = l.map (estT c s) := by
  induction l with
  | nil => rfl
  | cons p r ih => rw [estL, ih]; rfl
theorem estT_eq (c : CoreT) (s : StatsT) (p : PlanT) : estT c s p = estOp c s p (p.kids.map (estT c s)) := by cases p; rw [estT, estL_eq]; rfl
theorem getD_kids (c : CoreT) (s : StatsT) (p : PlanT) {i : Nat} (h : i < p.kids.length) : (p.kids.map (estT c s)).getD i 0 = estT c s (rdI p.kids (i : Int)) := by
  simp [List.getD_eq_getElem?_getD, rdI, h]
theorem meetL_all {c : CoreT} {sl : Int} {l : List Int} {b : List Bool} (h : (meetL c sl l b).1 = true) : ∀ x ∈ l, 0 ≤ x ∧ x < c.edges.length := by
  induction l generalizing b with
  | nil => intro x hx; cases hx
  | cons e r ih =>
    rw [meetL] at h
    split at h
    · cases h
    · rename_i hc
      simp only [Bool.or_eq_true, not_or, badM1, decide_eq_true_eq] at hc
      intro x hx
      rcases List.mem_cons.1 hx with rfl | hx
      · omega
      · exact ih h x hx
/-- a plan that is right: its kids are, and its parts lie where they must -/
theorem right_kids {c : CoreT} {p : PlanT} (h : (bndT c p).isSome = true) : ∀ q ∈ p.kids, (bndT c q).isSome = true := by
  rw [bndT_eq] at h
  split at h
  · obtain ⟨r, hr⟩ := Option.isSome_iff_exists.1 h
    obtain ⟨bs, hbs, _⟩ := Option.bind_eq_some_iff.1 hr
    have key : ∀ (l : List PlanT) (bs : List (List Bool)), bndL c l = some bs → ∀ q ∈ l, (bndT c q).isSome = true := by
      intro l
      induction l with
      | nil => intro _ _ q hq; cases hq
      | cons x t ih =>
        intro bs h q hq
        rw [bndL] at h
        obtain ⟨b, h1, h2⟩ := Option.bind_eq_some_iff.1 h
        obtain ⟨cs, h3, _⟩ := Option.map_eq_some_iff.1 h2
        rcases List.mem_cons.1 hq with rfl | hq
        · rw [h1]; rfl
        · exact ih cs h3 q hq
    exact key _ _ hbs
  · cases h
theorem right_wants {c : CoreT} {p : PlanT} (h : (bndT c p).isSome = true) : wants p.op = some p.kids.length := by
  rw [bndT_eq] at h
  split at h
  · assumption
  · cases h
theorem est_rng (c : CoreT) (s : StatsT) (p : PlanT) (hr : (bndT c p).isSome = true) : 0 ≤ estT c s p ∧ estT c s p ≤ 1099511627776 := by
  have hw := right_wants hr
  have hk : ∀ i : Nat, i < p.kids.length → 0 ≤ (p.kids.map (estT c s)).getD i 0 ∧ (p.kids.map (estT c s)).getD i 0 ≤ 1099511627776 := fun i hi => by
    rw [getD_kids c s p hi]
    have := kids_lt (kid_mem (p := p) hi)
    exact est_rng c s (rdI p.kids (i : Int)) (right_kids hr _ (kid_mem hi))
  rw [estT_eq]
  unfold estOp
  split
  · exact nodesS_rng _ _ _
  · rename_i n1
    have h0 := (wants_op hw).resolve_left n1
    have hl : 0 < p.kids.length := by
      rcases h0 with e | e | e | e | e <;> · rw [e] at hw; simp [wants] at hw; omega
    split
    · exact stepS_rng (hk 0 hl)
    · split
      · rename_i n3
        have hl2 : 1 < p.kids.length := by rw [n3] at hw; simp [wants] at hw; omega
        exact joinE_rng (mul_rng' (hk 0 hl) (hk 1 hl2)) _
      · split
        · exact meetE_rng (hk 0 hl) _
        · exact filtE_rng (hk 0 hl) _
termination_by SizeOf.sizeOf p
theorem boundD_some {c : CoreT} {p : PlanT} {b : List Bool} (hP : patS c.nodes c.edges = true) (hf : partsP p ≤ 1000000) (hb : bndT c p = some b) : Snd P 20 [.d (.ag (encP p)), .d (.ag (encC c))] (.tup [.d (.sl false (b.map encB)), .int 0]) [] := by
  have h := Bound_ok c p hf
  simp only [boundD, hP, hb, if_true] at h
  exact h
theorem est_ok (c : CoreT) (s : StatsT) (hP : patS c.nodes c.edges = true) (p : PlanT) (hf : partsP p ≤ 1000000) (hr : (bndT c p).isSome = true) : Snd P 32 [.d (.ag (encC c ++ encS s)), .d (.ag (encP p))] (.int (estT c s p)) [] := by
  have hw := right_wants hr
  have hk : ∀ i : Nat, i < p.kids.length → ∃ b, bndT c (rdI p.kids (i : Int)) = some b ∧ b.length = c.nodes.length + c.edges.length ∧ bndD c (rdI p.kids (i : Int)) = b ∧
      Snd P 32 [.d (.ag (encC c ++ encS s)), .d (.ag (encP (rdI p.kids (i : Int))))] (.int (estT c s (rdI p.kids (i : Int)))) [] ∧ (0 ≤ estT c s (rdI p.kids (i : Int)) ∧ estT c s (rdI p.kids (i : Int)) ≤ 1099511627776) ∧
      Snd P 20 [.d (.ag (encP (rdI p.kids (i : Int)))), .d (.ag (encC c))] (.tup [.d (.sl false (b.map encB)), .int 0]) [] := fun i hi => by
    have hq := right_kids hr _ (kid_mem hi)
    obtain ⟨b, hb⟩ := Option.isSome_iff_exists.1 hq
    have := kids_lt (kid_mem (p := p) hi)
    exact ⟨b, hb, bndT_len c _ _ hb, by simp [bndD, hb], est_ok c s hP (rdI p.kids (i : Int)) (kid_fine hf hi) hq, est_rng c s _ hq, boundD_some hP (kid_fine hf hi) hb⟩
  rw [estT_eq]
  unfold estOp
  rcases wants_op hw with e | e | e | e | e | e
  · have hl : p.kids.length = 0 := by rw [e] at hw; simp [wants] at hw; omega
    rw [if_pos e]
    have hsl : 0 ≤ p.slot ∧ p.slot < c.nodes.length := by
      rw [bndT_eq, if_pos hw, List.length_eq_zero_iff.1 hl, bndL] at hr
      simp only [Option.bind_some, opS, e, if_true] at hr
      split at hr
      · assumption
      · cases hr
    exact est1_ok c s p hP e hl hsl.1 hsl.2
  · have hl : p.kids.length = 1 := by rw [e] at hw; simp [wants] at hw; omega
    obtain ⟨b, h1, h2, h3, h4, h5, h6⟩ := hk 0 (by omega)
    rw [if_neg (by omega), if_pos (.inl e), getD_kids c s p (by omega)]
    simp only [Int.natCast_zero] at *
    rw [h3]
    rw [bnd_one hl (by rw [hw, hl]), h1] at hr
    have hE : edgeB c p b = true := by
      simp only [Option.bind_some, opS, e] at hr
      simp at hr
      exact hr
    simp [edgeB] at hE
    exact est2_ok c s p _ b hP e hl (by omega) (by omega) (by omega) h4 h5 h6 h2
  · have hl : p.kids.length = 1 := by rw [e] at hw; simp [wants] at hw; omega
    obtain ⟨b, h1, h2, h3, h4, h5, h6⟩ := hk 0 (by omega)
    rw [if_neg (by omega), if_pos (.inr e), getD_kids c s p (by omega)]
    simp only [Int.natCast_zero] at *
    rw [h3]
    rw [bnd_one hl (by rw [hw, hl]), h1] at hr
    have hE : edgeB c p b = true := by
      simp only [Option.bind_some, opS, e] at hr
      simp at hr
      exact hr
    simp [edgeB] at hE
    exact est3_ok c s p _ b hP e hl (by omega) (by omega) (by omega) h4 h5 h6 h2
  · have hl : p.kids.length = 2 := by rw [e] at hw; simp [wants] at hw; omega
    obtain ⟨b, h1, h2, h3, h4, h5, h6⟩ := hk 0 (by omega)
    obtain ⟨b', h1', h2', h3', h4', h5', h6'⟩ := hk 1 (by omega)
    rw [if_neg (by omega), if_neg (by omega), if_pos e, getD_kids c s p (by omega), getD_kids c s p (by omega)]
    simp only [Int.natCast_zero, Int.natCast_one] at *
    rw [h3, h3']
    exact est4_ok c s p _ _ b b' hP e hl h4 h5 h6 h2 h4' h5' h6' h2'
  · have hl : p.kids.length = 1 := by rw [e] at hw; simp [wants] at hw; omega
    obtain ⟨b, h1, h2, h3, h4, h5, h6⟩ := hk 0 (by omega)
    rw [if_neg (by omega), if_neg (by omega), if_neg (by omega), if_pos e, getD_kids c s p (by omega)]
    simp only [Int.natCast_zero] at *
    rw [bnd_one hl (by rw [hw, hl]), h1] at hr
    have hM : meetB c p b = true := by
      simp only [Option.bind_some, opS, e] at hr
      simp at hr
      exact hr
    simp only [meetB, Bool.and_eq_true, Bool.not_eq_true'] at hM
    have hs := hM.1
    simp [badSlot] at hs
    exact est5_ok c s p _ b hP e hl (by omega) (by omega) (fun i hi => meetL_all hM.2 _ (rdI_mem (by omega) (by omega))) h4 h5 h6 h2
  · have hl : p.kids.length = 1 := by rw [e] at hw; simp [wants] at hw; omega
    obtain ⟨b, h1, h2, h3, h4, h5, h6⟩ := hk 0 (by omega)
    rw [if_neg (by omega), if_neg (by omega), if_neg (by omega), if_neg (by omega), getD_kids c s p (by omega)]
    simp only [Int.natCast_zero] at *
    exact est6_ok c s p _ b hP e hl h4 h5 h6 h2
termination_by SizeOf.sizeOf p
/-- how many rows a plan may have -/
def estS (c : CoreT) (s : StatsT) (p : PlanT) : Int := if patS c.nodes c.edges = true ∧ (bndT c p).isSome = true then estT c s p else 0
theorem EstimateA_ok (c : CoreT) (s : StatsT) (p : PlanT) (b : List Bool) (hB : Snd P 20 [.d (.ag (encP p)), .d (.ag (encC c))] (.tup [.d (.sl false (b.map encB)), .int 0]) []) (hE : Snd P 32 [.d (.ag (encC c ++ encS s)), .d (.ag (encP p))] (.int (estT c s p)) []) : Snd P 15 [.d (.ag (encP p)), .d (.ag (encC c)), .d (.ag (encS s))] (.int (estT c s p)) [] := by
  rw [encP_cells] at hB hE
  refine snd_of [] Try.func15 rfl (by kernel_rfl) Try.ntmps15 (by simp) ?_
  unfold Try.f15
  simp only [List.cons_append, List.nil_append, List.length_cons, List.length_nil, Nat.reduceAdd, Nat.reduceSub, List.replicate]
  refine Run.seq ?_
  refine opsF oo45 fun K hK => ?_
  try simp
  repeat' first | ((refine evL_c ?_); simp) | (with_reducible refine And.intro ?_ ?_) | intro _ | (with_reducible assumption) | omega
  all_goals (refine Fin.go hK ?_; clear hK K)
  simp only [Then_normal]
  refine Run.seq ?_
  refine Run.seq ?_
  refine opsF oo88 fun K hK => ?_
  try simp
  repeat' first | (refine ecall (by exact hB) rfl ?_) | ((refine evL_c ?_); simp) | (with_reducible refine And.intro ?_ ?_) | intro _ | (with_reducible assumption) | omega
  all_goals (refine Fin.go hK ?_; clear hK K)
  simp only [Then_normal]
  refine Run.seq ?_
  refine opsF oo89 fun K hK => ?_
  try simp
  repeat' first | ((refine evL_c ?_); simp) | (with_reducible refine And.intro ?_ ?_) | intro _ | (with_reducible assumption) | omega
  all_goals (refine Fin.go hK ?_; clear hK K)
  simp only [Then_normal]
  refine Run.cond rfl (fun h16 => ?_) (fun h16 => ?_)
  · simp at h16
  · skip
    refine Run.skip ?_
    simp only [Then_normal]
    refine Run.seq ?_
    refine opsF [⟨Op.load 33 (Operand.tmp 4), some 17, none⟩, ⟨Op.load 53 (Operand.tmp 5), some 18, none⟩, ⟨Op.build 82 #[(0, Operand.tmp 17), (1, Operand.tmp 18)], some 19, none⟩, ⟨Op.load 27 (Operand.tmp 3), some 20, none⟩, ⟨Op.call { callee := Callee.value (Operand.func 32), args := #[Operand.tmp 19, Operand.tmp 20], argTypes := #[82, 27] }, some 21, none⟩, ⟨Op.assign (Operand.tmp 21), some 6, none⟩] fun K hK => ?_
    try simp
    repeat' first | (refine ecallD (by exact hE) ?_) | ((refine evL_c ?_); simp) | (with_reducible refine And.intro ?_ ?_) | intro _ | (with_reducible assumption) | omega
    all_goals (refine Fin.go hK ?_; clear hK K)
    simp only [Then_normal]
    refine Run.ret ?_
    try simp only [Then_ret, Blok_ret]
    simp

theorem EstimateB_ok (c : CoreT) (s : StatsT) (p : PlanT) (x : D) (n : Int) (hB : Snd P 20 [.d (.ag (encP p)), .d (.ag (encC c))] (.tup [.d x, .int n]) []) (hn : n ≠ 0) : Snd P 15 [.d (.ag (encP p)), .d (.ag (encC c)), .d (.ag (encS s))] (.int 0) [] := by
  rw [encP_cells] at hB
  refine snd_of [] Try.func15 rfl (by kernel_rfl) Try.ntmps15 (by simp) ?_
  unfold Try.f15
  simp only [List.cons_append, List.nil_append, List.length_cons, List.length_nil, Nat.reduceAdd, Nat.reduceSub, List.replicate]
  refine Run.seq ?_
  refine opsF oo45 fun K hK => ?_
  try simp
  repeat' first | ((refine evL_c ?_); simp [hn]) | (with_reducible refine And.intro ?_ ?_) | intro _ | (with_reducible assumption) | omega
  all_goals (refine Fin.go hK ?_; clear hK K)
  simp only [Then_normal]
  refine Run.seq ?_
  refine Run.seq ?_
  refine opsF oo88 fun K hK => ?_
  try simp
  repeat' first | (refine ecall (by exact hB) rfl ?_) | ((refine evL_c ?_); simp [hn]) | (with_reducible refine And.intro ?_ ?_) | intro _ | (with_reducible assumption) | omega
  all_goals (refine Fin.go hK ?_; clear hK K)
  simp only [Then_normal]
  refine Run.seq ?_
  refine opsF oo89 fun K hK => ?_
  try simp
  repeat' first | ((refine evL_c ?_); simp [hn]) | (with_reducible refine And.intro ?_ ?_) | intro _ | (with_reducible assumption) | omega
  all_goals (refine Fin.go hK ?_; clear hK K)
  simp only [Then_normal]
  refine Run.cond rfl (fun h16 => ?_) (fun h16 => ?_)
  · skip
    refine Run.seq ?_
    refine opsF oo42 fun K hK => ?_
    try simp
    repeat' first | ((refine evL_c ?_); simp [hn]) | (with_reducible refine And.intro ?_ ?_) | intro _ | (with_reducible assumption) | omega
    all_goals (refine Fin.go hK ?_; clear hK K)
    simp only [Then_normal]
    refine Run.ret ?_
    try simp only [Then_ret, Blok_ret]
    simp
  · simp at h16


theorem Estimate_ok (c : CoreT) (s : StatsT) (p : PlanT) (hf : partsP p ≤ 1000000) : Snd P 15 [.d (.ag (encP p)), .d (.ag (encC c)), .d (.ag (encS s))] (.int (estS c s p)) [] := by
  unfold estS
  by_cases h : patS c.nodes c.edges = true ∧ (bndT c p).isSome = true
  · rw [if_pos h]
    obtain ⟨b, hb⟩ := Option.isSome_iff_exists.1 h.2
    exact EstimateA_ok c s p b (boundD_some h.1 hf hb) (est_ok c s h.1 p hf h.2)
  · rw [if_neg h]
    refine EstimateB_ok c s p (.lit (.slice none 0 0)) (boundD c p).2 ?_ ?_
    · have hB := Bound_ok c p hf
      have e : (boundD c p).1 = .lit (.slice none 0 0) := by
        unfold boundD
        cases hP : patS c.nodes c.edges with
        | false => rfl
        | true =>
          cases hb : bndT c p with
          | none => rfl
          | some b => exact absurd ⟨hP, by rw [hb]; rfl⟩ h
      rw [e] at hB; exact hB
    · unfold boundD
      cases hP : patS c.nodes c.edges with
      | false => simp
      | true =>
        cases hb : bndT c p with
        | none => simp
        | some b => exact absurd ⟨hP, by rw [hb]; rfl⟩ h
end Go.Proofs.Ytihbejpkfifplaa.Z
end
section
set_option maxRecDepth 100000
namespace Go.Proofs.Ytihbejpkfifplaa.Z
open Go Go.Fw
/-! data that is read as other data -/
def DSub (x y : D) : Prop := ∀ (w : World) (L : Nat → Prop) (v : Value), DRel w L x v → DRel w L y v
def SubL : List D → List D → Prop
  | [], [] => True
  | x :: l, y :: r => DSub x y ∧ SubL l r
  | _, _ => False
theorem DSub.refl (x : D) : DSub x x := fun _ _ _ h => h
theorem DSub.nil : DSub (.lit (.slice none 0 0)) (.sl false []) := fun w L v h => by
  cases h with
  | lit _ h => exact .slE false none 0 (by simp)
theorem SubL.len {l r : List D} (h : SubL l r) : l.length = r.length := by
  induction l generalizing r with
  | nil => cases r <;> simp_all [SubL]
  | cons x l ih => cases r <;> simp_all [SubL]
                   exact ih h.2
theorem SubL.at_ {l r : List D} (h : SubL l r) {j : Nat} {x y : D} (hx : l[j]? = some x) (hy : r[j]? = some y) : DSub x y := by
  induction l generalizing r j with
  | nil => cases hx
  | cons a l ih =>
    cases r with
    | nil => cases hy
    | cons b r =>
      cases j with
      | zero => simp at hx hy; subst hx hy; exact h.1
      | succ j => simp at hx hy; exact ih h.2 hx hy
theorem DSub.ag {l r : List D} (h : SubL l r) : DSub (.ag l) (.ag r) := fun w L v hv => by
  cases hv with
  | ag _ vs hl ho hr => 
    refine .ag r vs (hl.trans h.len) ho fun j x v hx hv => ?_
    have hj : j < l.length := by rw [h.len]; exact (List.getElem?_eq_some_iff.1 hx).1
    exact h.at_ (List.getElem?_eq_getElem hj) hx _ _ _ (hr j _ v (List.getElem?_eq_getElem hj) hv)
def SubV : List V → List V → Prop
  | [], [] => True
  | .d x :: l, .d y :: r => DSub x y ∧ SubV l r
  | _, _ => False
theorem SubV.rel {w : World} {L : Nat → Prop} {m : Nat → Option Nat} {l r : List V} {vs : List Value} (h : SubV l r) (hv : All2 (VRel w L m) l vs) : All2 (VRel w L m) r vs := by
  induction l generalizing r vs with
  | nil =>
    cases r with
    | nil => exact hv
    | cons _ _ => exact h.elim
  | cons x l ih =>
    cases r with
    | nil => cases x <;> exact h.elim
    | cons y r =>
      cases x <;> cases y <;> first | exact h.elim | skip
      obtain ⟨v, tl, rfl, h1, h2⟩ := hv.head
      cases h1 with
      | d hd => exact All2.cons (.d (h.1 _ _ _ hd)) (ih h.2 h2)
theorem snd_sub {f : FuncId} {args args0 : List V} {r : V} {τ : Store} (h : Snd P f args0 r τ) (hs : SubV args args0) : Snd P f args r τ :=
  ⟨h.1, fun w X vs hX hargs => h.2 w X vs hX (hs.rel hargs)⟩
/-! parts, within a bound -/
mutual
theorem termsR_all : ∀ (t : TermT) (most : Int), termsR t most ≤ most → (cntT t : Int) = termsR t most
  | .mk o k s p v, most, h => by
    rw [termsR] at h ⊢
    have := goT_all k most 1 h
    rw [cntT, this]; omega
theorem goT_all : ∀ (l : List TermT) (most n : Int), goT l most n ≤ most → goT l most n = n + cntL l
  | [], most, n, h => by rw [goT, cntL]; omega
  | t :: r, most, n, h => by
    rw [goT] at h ⊢
    split at h
    · rename_i hn
      rw [if_pos hn]
      have h1 := goT_all r most (n + termsR t (most - n)) h
      have h2 := termsR_all t (most - n) (by omega)
      rw [h1, cntL]; omega
    · omega
end
mutual
theorem partsR_all : ∀ (p : PlanT) (most : Int), partsP p ≤ 2000000 → partsR p most ≤ most → (partsP p : Int) = partsR p most
  | .mk o k s e b t, most, hf, h => by
    rw [partsP] at hf
    rw [partsR] at h ⊢
    have h1 := goP_all k most _ (by omega) h
    have h0 := (goP_rng k most (goT t most (1 + t.length + e.length)) (by omega)).1
    have h2 := goT_all t most (1 + t.length + e.length) (by omega)
    rw [h1, h2, partsP]; omega
theorem goP_all : ∀ (l : List PlanT) (most n : Int), partsL l ≤ 2000000 → goP l most n ≤ most → goP l most n = n + partsL l
  | [], most, n, hf, h => by rw [goP, partsL]; omega
  | t :: r, most, n, hf, h => by
    rw [partsL] at hf
    rw [goP] at h ⊢
    split at h
    · rename_i hn
      rw [if_pos hn]
      have h1 := goP_all r most (n + partsR t (most - n)) (by omega) h
      have h2 := partsR_all t (most - n) (by omega) (by omega)
      rw [h1, partsL]; omega
    · omega
end
/-! a Join's sides -/
theorem mul_comm' {a b : Int} (ha : 0 ≤ a) (hb : 0 ≤ b) : mulS a b = mulS b a := by
  unfold mulS
  have h1 : 0 < a → (1099511627776 / a < b ↔ 1099511627776 < b * a) := fun h => Int.ediv_lt_iff_lt_mul h
  have h2 : 0 < b → (1099511627776 / b < a ↔ 1099511627776 < a * b) := fun h => Int.ediv_lt_iff_lt_mul h
  rw [Int.mul_comm b a] at h1 ⊢
  by_cases ea : 0 < a
  · by_cases eb : 0 < b
    · by_cases h : 1099511627776 < a * b
      · rw [if_pos ⟨ea, (h1 ea).2 h⟩, if_pos ⟨eb, (h2 eb).2 h⟩]
      · rw [if_neg (fun q => h ((h1 ea).1 q.2)), if_neg (fun q => h ((h2 eb).1 q.2))]
    · have : b = 0 := by omega
      subst this
      simp
      intro _
      exact Int.ediv_nonneg (by omega) ha
  · have : a = 0 := by omega
    subst this
    simp
    intro _
    exact Int.ediv_nonneg (by omega) hb
theorem rd_set_ne {l : List Bool} {i j : Nat} {x : Bool} (h : i ≠ j) : rdI (l.set i x) (j : Int) = rdI l j := by
  simp [rdI, List.getD_eq_getElem?_getD, List.getElem?_set_ne h]
theorem jn_tail (n : Int) (a b : List Bool) (i j : Nat) (h : i ≤ j) : rdI (jn n a b i).2 (j : Int) = rdI b j := by
  induction i with
  | zero => rfl
  | succ i ih => rw [jn]; simp only; rw [rd_set_ne (by omega), ih (by omega)]
theorem jn_one (n : Int) (a b : List Bool) (i : Nat) : (jn n a b i).1 = true ↔ ∀ j : Nat, j < i → ¬ (rdI a j = true ∧ rdI b j = true ∧ n ≤ j) := by
  induction i with
  | zero => simp [jn]
  | succ i ih =>
    rw [jn]
    simp only [Bool.and_eq_true, ih, Bool.not_eq_true', jn_tail n a b i i (Nat.le_refl _)]
    constructor
    · rintro ⟨h1, h2⟩ j hj
      by_cases e : j = i
      · subst e; rintro ⟨q1, q2, q3⟩; simp [q1, q2, q3] at h2
      · exact h1 j (by omega)
    · intro h
      refine ⟨fun j hj => h j (by omega), ?_⟩
      have := h i (by omega)
      by_cases q1 : rdI a (i : Int) = true
      · by_cases q2 : rdI b (i : Int) = true
        · have q3 : ¬ n ≤ (i : Int) := fun q3 => this ⟨q1, q2, q3⟩
          simp [q3]
        · simp [q2]
      · simp [q1]
theorem joinE_comm (c : CoreT) (s : StatsT) (a b : List Bool) (n : Int) (i : Nat) : joinE c s a b n i = joinE c s b a n i := by
  induction i with
  | zero => rfl
  | succ i ih => rw [joinE, joinE, ih, Bool.and_comm]
def joinP (p q : PlanT) : PlanT := .mk 4 [p, q] 0 [] false []
def filtP (p : PlanT) (l : List TermT) : PlanT := .mk 6 [p] 0 [] false l
theorem bnd_join (c : CoreT) (p q : PlanT) : (bndT c (joinP p q)).isSome = true ↔ ∃ a b, bndT c p = some a ∧ bndT c q = some b ∧ (jn c.nodes.length a b (c.nodes.length + c.edges.length)).1 = true := by
  rw [bnd_two (p := joinP p q) rfl rfl]
  show ((bndT c p).bind fun a => (bndT c q).bind fun b => opS c (joinP p q) [a, b]).isSome = true ↔ _
  cases bndT c p with
  | none => simp
  | some a =>
    cases bndT c q with
    | none => simp
    | some b =>
      simp only [Option.bind_some, Option.some.injEq, exists_and_left, exists_eq_left', opS, joinP, PlanT.op]
      simp
theorem est_join (c : CoreT) (s : StatsT) (p q : PlanT) : estS c s (joinP p q) = estS c s (joinP q p) := by
  have hb : (bndT c (joinP p q)).isSome = true ↔ (bndT c (joinP q p)).isSome = true := by
    rw [bnd_join, bnd_join]
    constructor
    · rintro ⟨a, b, h1, h2, h3⟩
      exact ⟨b, a, h2, h1, (jn_one _ _ _ _).2 fun j hj q => (jn_one _ _ _ _).1 h3 j hj ⟨q.2.1, q.1, q.2.2⟩⟩
    · rintro ⟨a, b, h1, h2, h3⟩
      exact ⟨b, a, h2, h1, (jn_one _ _ _ _).2 fun j hj q => (jn_one _ _ _ _).1 h3 j hj ⟨q.2.1, q.1, q.2.2⟩⟩
  unfold estS
  by_cases h : patS c.nodes c.edges = true ∧ (bndT c (joinP p q)).isSome = true
  · rw [if_pos h, if_pos ⟨h.1, hb.1 h.2⟩, estT_eq, estT_eq]
    obtain ⟨a, b, h1, h2, h3⟩ := (bnd_join c p q).1 h.2
    have e : ∀ p q, estOp c s (joinP p q) ((joinP p q).kids.map (estT c s)) = joinE c s (bndD c p) (bndD c q) (mulS (estT c s p) (estT c s q)) c.nodes.length := fun p q => by
      simp [estOp, joinP, PlanT.op, PlanT.kids, rdI]
    rw [e, e, joinE_comm, mul_comm' (est_rng c s p (by rw [h1]; rfl)).1 (est_rng c s q (by rw [h2]; rfl)).1]
  · rw [if_neg h, if_neg (fun q => h ⟨q.1, hb.2 q.2⟩)]
theorem bnd_filt (c : CoreT) (p : PlanT) (l : List TermT) : (bndT c (filtP p l)).isSome = true ↔ ∃ a, bndT c p = some a ∧ l.all (bindsS a) = true := by
  rw [bnd_one (p := filtP p l) rfl rfl]
  show ((bndT c p).bind fun a => opS c (filtP p l) [a]).isSome = true ↔ _
  cases bndT c p with
  | none => simp
  | some a => simp [opS, filtP, PlanT.op, PlanT.terms]
theorem estT_filt (c : CoreT) (s : StatsT) (p : PlanT) (l : List TermT) : estT c s (filtP p l) = filtE (estT c s p) l.length := by
  rw [estT_eq]
  simp [estOp, filtP, PlanT.op, PlanT.kids, PlanT.terms]
theorem estS_nn (c : CoreT) (s : StatsT) (p : PlanT) : 0 ≤ estS c s p ∧ estS c s p ≤ 1099511627776 := by
  unfold estS; split
  · rename_i h; exact est_rng c s p h.2
  · omega
theorem est_filt0 (c : CoreT) (s : StatsT) (p : PlanT) : estS c s (filtP p []) ≤ estS c s p := by
  have h0 := estS_nn c s p
  by_cases h : patS c.nodes c.edges = true ∧ (bndT c (filtP p [])).isSome = true
  · obtain ⟨a, h1, _⟩ := (bnd_filt c p []).1 h.2
    have e : estS c s p = estT c s p := by rw [estS, if_pos ⟨h.1, by rw [h1]; rfl⟩]
    rw [e, estS, if_pos h, estT_filt]
    exact Int.le_refl _
  · rw [estS, if_neg h]; exact h0.1
theorem est_filt (c : CoreT) (s : StatsT) (p : PlanT) (l : List TermT) (i : Nat) (hi : i < l.length) : estS c s (filtP p (l.take (i + 1))) ≤ estS c s (filtP p (l.take i)) := by
  have h0 := estS_nn c s (filtP p (l.take i))
  by_cases h : patS c.nodes c.edges = true ∧ (bndT c (filtP p (l.take (i + 1)))).isSome = true
  · obtain ⟨a, h1, h2⟩ := (bnd_filt c p _).1 h.2
    have h3 : (l.take i).all (bindsS a) = true := by
      rw [List.all_eq_true] at h2 ⊢
      exact fun t ht => h2 t (List.mem_of_mem_take (i := i) (by rw [List.take_take, Nat.min_eq_left (by omega)]; exact ht))
    have e : estS c s (filtP p (l.take i)) = estT c s (filtP p (l.take i)) := by rw [estS, if_pos ⟨h.1, (bnd_filt c p _).2 ⟨a, h1, h3⟩⟩]
    rw [e, estS, if_pos h, estT_filt, estT_filt, List.length_take, List.length_take, Nat.min_eq_left (by omega), Nat.min_eq_left (by omega)]
    have hr := filtE_rng (est_rng c s p (by rw [h1]; rfl)) i
    show shareS _ 3 ≤ _
    exact (share_rng hr.1 hr.2 (by omega)).2
  · rw [estS, if_neg h]; exact h0.1
end Go.Proofs.Ytihbejpkfifplaa.Z
end
