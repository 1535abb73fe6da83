/- Texts of this claim, put together: Pn, Pg, Ph, Ps, Pi. -/
import Derived.Test.YtimgbdkgjfbhkaaMc
set_option linter.unusedVariables false
set_option linter.unusedSimpArgs false
namespace Go.Proofs.Ytimgbdkgjfbhkaa.Z
open Go Go.Fw
abbrev oo3 : List LOp := [⟨Op.assign (Operand.const (Value.int IntKind.i64 0)), some 4, none⟩]
abbrev oo4 : List LOp := [⟨Op.move (Operand.tmp 0), some 6, none⟩, ⟨Op.call { callee := Callee.builtin Builtin.len, args := #[Operand.tmp 6], argTypes := #[28] }, some 7, none⟩, ⟨Op.move (Operand.const (Value.int IntKind.i64 0)), some 8, none⟩]
abbrev oo5 : List LOp := [⟨Op.binOp BinOp.lss 3 (Operand.tmp 8) (Operand.tmp 7) 3, some 9, none⟩]
abbrev oo6 : List LOp := [⟨Op.move (Operand.tmp 8), some 10, none⟩, ⟨Op.assign (Operand.tmp 10), some 5, none⟩]
abbrev oo7 : List LOp := [⟨Op.move (Operand.tmp 1), some 11, none⟩, ⟨Op.move (Operand.tmp 0), some 12, none⟩, ⟨Op.move (Operand.tmp 5), some 13, none⟩, ⟨Op.indexAddr 28 (Operand.tmp 12) (Operand.tmp 13), some 14, none⟩, ⟨Op.load 89 (Operand.tmp 14), some 15, none⟩, ⟨Op.call { callee := Callee.value (Operand.tmp 11), args := #[Operand.tmp 15], argTypes := #[89] }, some 16, none⟩]
abbrev oo8 : List LOp := [⟨Op.move (Operand.tmp 5), some 17, none⟩, ⟨Op.assign (Operand.tmp 17), some 4, none⟩]
abbrev oo9 : List LOp := [⟨Op.binOp BinOp.add 3 (Operand.tmp 8) (Operand.const (Value.int IntKind.i64 1)) 3, some 18, none⟩, ⟨Op.move (Operand.tmp 18), some 8, none⟩]
abbrev oo10 : List LOp := [⟨Op.assign (Operand.const (Value.int IntKind.i64 (-1))), some 4, none⟩]
abbrev oo11 : List LOp := [⟨Op.assign (Operand.const (Value.bool false)), some 4, none⟩]
abbrev oo12 : List LOp := [⟨Op.move (Operand.tmp 0), some 5, none⟩, ⟨Op.move (Operand.tmp 1), some 6, none⟩, ⟨Op.call { callee := Callee.value (Operand.func 95), args := #[Operand.tmp 5, Operand.tmp 6], argTypes := #[28, 131] }, some 7, none⟩, ⟨Op.binOp BinOp.geq 3 (Operand.tmp 7) (Operand.const (Value.int IntKind.i64 0)) 3, some 8, none⟩, ⟨Op.assign (Operand.tmp 8), some 4, none⟩]
abbrev oo13 : List LOp := [⟨Op.box 112 (Operand.tmp 0), some 2, none⟩, ⟨Op.box 48 (Operand.tmp 1), some 3, none⟩, ⟨Op.assign (Operand.const (Value.slice none 0 0)), some 4, none⟩]
abbrev oo14 : List LOp := [⟨Op.makeMap 140 none, some 16, none⟩, ⟨Op.insert 140 (Operand.tmp 16) (Operand.const (Value.int IntKind.i64 1)) (Operand.const (Value.int IntKind.i64 0)), none, none⟩, ⟨Op.insert 140 (Operand.tmp 16) (Operand.const (Value.int IntKind.i64 2)) (Operand.const (Value.int IntKind.i64 1)), none, none⟩, ⟨Op.insert 140 (Operand.tmp 16) (Operand.const (Value.int IntKind.i64 3)) (Operand.const (Value.int IntKind.i64 1)), none, none⟩, ⟨Op.insert 140 (Operand.tmp 16) (Operand.const (Value.int IntKind.i64 4)) (Operand.const (Value.int IntKind.i64 2)), none, none⟩, ⟨Op.insert 140 (Operand.tmp 16) (Operand.const (Value.int IntKind.i64 5)) (Operand.const (Value.int IntKind.i64 1)), none, none⟩, ⟨Op.insert 140 (Operand.tmp 16) (Operand.const (Value.int IntKind.i64 6)) (Operand.const (Value.int IntKind.i64 1)), none, none⟩, ⟨Op.move (Operand.tmp 16), some 17, none⟩, ⟨Op.assign (Operand.tmp 17), some 5, none⟩]
abbrev oo15 : List LOp := [⟨Op.move (Operand.tmp 5), some 19, none⟩, ⟨Op.fieldAddr 48 (Operand.tmp 3) 0, some 20, none⟩, ⟨Op.load 44 (Operand.tmp 20), some 21, none⟩, ⟨Op.lookup 140 (Operand.tmp 19) (Operand.tmp 21) true, some 22, none⟩, ⟨Op.move (Operand.tmp 22), some 18, none⟩, ⟨Op.extract (Operand.tmp 18) 0, some 23, none⟩, ⟨Op.extract (Operand.tmp 18) 1, some 24, none⟩, ⟨Op.assign (Operand.tmp 23), some 6, none⟩, ⟨Op.assign (Operand.tmp 24), some 7, none⟩]
abbrev oo16 : List LOp := [⟨Op.move (Operand.tmp 7), some 25, none⟩, ⟨Op.unOp UnOp.not 4 (Operand.tmp 25), some 26, none⟩, ⟨Op.move (Operand.tmp 26), some 27, none⟩, ⟨Op.move (Operand.tmp 6), some 28, some (some 27, false)⟩, ⟨Op.fieldAddr 48 (Operand.tmp 3) 1, some 29, some (some 27, false)⟩, ⟨Op.load 45 (Operand.tmp 29), some 30, some (some 27, false)⟩, ⟨Op.call { callee := Callee.builtin Builtin.len, args := #[Operand.tmp 30], argTypes := #[45] }, some 31, some (some 27, false)⟩, ⟨Op.binOp BinOp.neq 3 (Operand.tmp 28) (Operand.tmp 31) 3, some 32, some (some 27, false)⟩, ⟨Op.pick (Operand.tmp 27) (Operand.const (Value.bool true)) (Operand.tmp 32), some 33, none⟩]
abbrev oo17 : List LOp := [⟨Op.fieldAddr 112 (Operand.tmp 2) 1, some 34, none⟩, ⟨Op.load 3 (Operand.tmp 34), some 35, none⟩, ⟨Op.fieldAddr 112 (Operand.tmp 2) 0, some 36, none⟩, ⟨Op.fieldAddr 32 (Operand.tmp 36) 1, some 37, none⟩, ⟨Op.load 27 (Operand.tmp 37), some 38, none⟩, ⟨Op.call { callee := Callee.builtin Builtin.len, args := #[Operand.tmp 38], argTypes := #[27] }, some 39, none⟩, ⟨Op.binOp BinOp.add 3 (Operand.tmp 35) (Operand.tmp 39) 3, some 40, none⟩, ⟨Op.makeSlice 34 (Operand.tmp 40) (Operand.tmp 40), some 41, none⟩, ⟨Op.buildSlice 77 1 #[(0, Operand.tmp 41)], some 42, none⟩, ⟨Op.assign (Operand.tmp 42), some 8, none⟩]
abbrev oo18 : List LOp := [⟨Op.fieldAddr 48 (Operand.tmp 3) 1, some 43, none⟩, ⟨Op.load 45 (Operand.tmp 43), some 44, none⟩, ⟨Op.call { callee := Callee.builtin Builtin.len, args := #[Operand.tmp 44], argTypes := #[45] }, some 45, none⟩, ⟨Op.move (Operand.const (Value.int IntKind.i64 0)), some 46, none⟩]
abbrev oo19 : List LOp := [⟨Op.binOp BinOp.lss 3 (Operand.tmp 46) (Operand.tmp 45) 3, some 47, none⟩]
abbrev oo20 : List LOp := [⟨Op.indexAddr 45 (Operand.tmp 44) (Operand.tmp 46), some 48, none⟩, ⟨Op.load 48 (Operand.tmp 48), some 49, none⟩, ⟨Op.alloc 48, some 10, none⟩, ⟨Op.store 48 (Operand.tmp 10) (Operand.tmp 49), none, none⟩]
abbrev oo21 : List LOp := [⟨Op.load 112 (Operand.tmp 2), some 50, none⟩, ⟨Op.load 48 (Operand.tmp 10), some 51, none⟩, ⟨Op.call { callee := Callee.value (Operand.func 43), args := #[Operand.tmp 50, Operand.tmp 51], argTypes := #[112, 48] }, some 52, none⟩, ⟨Op.assign (Operand.tmp 52), some 11, none⟩]
abbrev oo22 : List LOp := [⟨Op.move (Operand.tmp 11), some 53, none⟩, ⟨Op.binOp BinOp.eql 34 (Operand.tmp 53) (Operand.const (Value.slice none 0 0)) 34, some 54, none⟩]
abbrev oo23 : List LOp := [⟨Op.move (Operand.tmp 8), some 55, none⟩, ⟨Op.move (Operand.tmp 11), some 56, none⟩, ⟨Op.buildSlice 77 1 #[(0, Operand.tmp 56)], some 57, none⟩, ⟨Op.call { callee := Callee.builtin Builtin.append, args := #[Operand.tmp 55, Operand.tmp 57], argTypes := #[77, 77] }, some 58, none⟩, ⟨Op.assign (Operand.tmp 58), some 8, none⟩]
abbrev oo24 : List LOp := [⟨Op.binOp BinOp.add 3 (Operand.tmp 46) (Operand.const (Value.int IntKind.i64 1)) 3, some 59, none⟩, ⟨Op.move (Operand.tmp 59), some 46, none⟩]
abbrev oo25 : List LOp := [⟨Op.move (Operand.tmp 8), some 60, none⟩, ⟨Op.fieldAddr 48 (Operand.tmp 3) 1, some 61, none⟩, ⟨Op.load 45 (Operand.tmp 61), some 62, none⟩, ⟨Op.call { callee := Callee.builtin Builtin.len, args := #[Operand.tmp 62], argTypes := #[45] }, some 63, none⟩, ⟨Op.indexAddr 77 (Operand.tmp 60) (Operand.tmp 63), some 64, none⟩, ⟨Op.load 34 (Operand.tmp 64), some 65, none⟩, ⟨Op.alloc 34, some 12, none⟩, ⟨Op.store 34 (Operand.tmp 12) (Operand.tmp 65), none, none⟩]
abbrev oo26 : List LOp := [⟨Op.assign (Operand.const (Value.bool true)), some 13, none⟩]
abbrev oo27 : List LOp := [⟨Op.fieldAddr 48 (Operand.tmp 3) 0, some 66, none⟩, ⟨Op.load 44 (Operand.tmp 66), some 67, none⟩]
abbrev oo28 : List LOp := [⟨Op.binOp BinOp.eql 44 (Operand.tmp 67) (Operand.const (Value.int IntKind.i64 1)) 44, some 69, none⟩, ⟨Op.assign (Operand.tmp 69), some 68, none⟩]
abbrev oo29 : List LOp := [⟨Op.binOp BinOp.eql 44 (Operand.tmp 67) (Operand.const (Value.int IntKind.i64 2)) 44, some 86, none⟩, ⟨Op.assign (Operand.tmp 86), some 85, none⟩]
abbrev oo30 : List LOp := [⟨Op.load 112 (Operand.tmp 2), some 88, none⟩, ⟨Op.load 48 (Operand.tmp 3), some 89, none⟩, ⟨Op.load 34 (Operand.tmp 12), some 90, none⟩, ⟨Op.call { callee := Callee.value (Operand.func 70), args := #[Operand.tmp 88, Operand.tmp 89, Operand.tmp 90], argTypes := #[112, 48, 34] }, some 91, none⟩, ⟨Op.assign (Operand.tmp 91), some 13, none⟩]
abbrev oo31 : List LOp := [⟨Op.move (Operand.tmp 13), some 144, none⟩, ⟨Op.unOp UnOp.not 4 (Operand.tmp 144), some 145, none⟩]
abbrev oo32 : List LOp := [⟨Op.assign (Operand.const (Value.slice none 0 0)), some 4, none⟩]
abbrev oo33 : List LOp := [⟨Op.load 34 (Operand.tmp 12), some 146, none⟩, ⟨Op.assign (Operand.tmp 146), some 4, none⟩]
abbrev oo34 : List LOp := [⟨Op.binOp BinOp.eql 44 (Operand.tmp 67) (Operand.const (Value.int IntKind.i64 3)) 44, some 87, none⟩, ⟨Op.assign (Operand.tmp 87), some 85, none⟩]
abbrev oo35 : List LOp := [⟨Op.binOp BinOp.eql 44 (Operand.tmp 67) (Operand.const (Value.int IntKind.i64 4)) 44, some 93, none⟩, ⟨Op.assign (Operand.tmp 93), some 92, none⟩]
abbrev oo36 : List LOp := [⟨Op.binOp BinOp.eql 44 (Operand.tmp 67) (Operand.const (Value.int IntKind.i64 5)) 44, some 132, none⟩, ⟨Op.assign (Operand.tmp 132), some 131, none⟩]
end Go.Proofs.Ytimgbdkgjfbhkaa.Z
section
set_option maxRecDepth 100000
namespace Go.Proofs.Ytimgbdkgjfbhkaa.Z
open Go Go.Fw
mutual
def slotsT : TermT → List Int
  | .mk op kids sl _ _ => Go.Lib.compact (((if op = 2 ∨ op = 3 then [sl] else []) ++ slotsL kids).mergeSort fun x y => decide (x ≤ y))
def slotsL : List TermT → List Int
  | [] => []
  | t :: r => slotsT t ++ slotsL r
end
mutual
def cntT : TermT → Nat
  | .mk _ kids _ _ _ => 1 + cntL kids
def cntL : List TermT → Nat
  | [] => 0
  | t :: r => cntT t + cntL r
end
def own1 (op sl : Int) : List Int := if op = 2 ∨ op = 3 then [sl] else []
theorem own1_len (op sl : Int) : (own1 op sl).length ≤ 1 := by unfold own1; split <;> simp
theorem slotsT_eq (t : TermT) : slotsT t = Go.Lib.compact ((own1 t.op t.slot ++ slotsL t.kids).mergeSort fun x y => decide (x ≤ y)) := by cases t; rw [slotsT]; rfl
theorem cntT_eq (t : TermT) : cntT t = 1 + cntL t.kids := by cases t; rw [cntT]; rfl
theorem slotsL_app (a b : List TermT) : slotsL (a ++ b) = slotsL a ++ slotsL b := by
  induction a with
  | nil => rfl
  | cons x r ih => rw [List.cons_append, slotsL, slotsL, ih, List.append_assoc]
theorem cntL_app (a b : List TermT) : cntL (a ++ b) = cntL a + cntL b := by
  induction a with
  | nil => simp [cntL]
  | cons x r ih => rw [List.cons_append, cntL, cntL, ih]; omega
mutual
theorem slotsT_len : ∀ t : TermT, (slotsT t).length ≤ cntT t
  | .mk op kids sl nm v => by
    have h := slotsL_len kids
    have h1 := own1_len op sl
    have h2 := Go.Lib.compact_length_le ((own1 op sl ++ slotsL kids).mergeSort fun x y => decide (x ≤ y))
    rw [slotsT_eq, cntT_eq]
    simp only [List.length_mergeSort, List.length_append] at h2
    exact Nat.le_trans h2 (by show _ ≤ 1 + cntL kids; omega)
theorem slotsL_len : ∀ l : List TermT, (slotsL l).length ≤ cntL l
  | [] => by simp [slotsL]
  | t :: r => by
    have h1 := slotsT_len t
    have h2 := slotsL_len r
    rw [slotsL, cntL, List.length_append]
    omega
end
theorem take_rd {α : Type} [Inhabited α] {l : List α} {k : Nat} (h : k < l.length) : l.take (k + 1) = l.take k ++ [rdI l k] := by
  rw [List.take_succ_eq_append_getElem h]
  simp [rdI, List.getD_eq_getElem?_getD, h]
theorem cntL_take (l : List TermT) (k : Nat) : cntL (l.take k) ≤ cntL l := by
  have h := cntL_app (l.take k) (l.drop k)
  rw [List.take_append_drop] at h
  omega
theorem cnt_kid {t : TermT} {i : Nat} (h : i < t.kids.length) : cntT (rdI t.kids i) + cntL (t.kids.take i) + 1 ≤ cntT t := by
  have h1 := cntL_take t.kids (i + 1)
  rw [take_rd h, cntL_app, cntL, cntL] at h1
  have := cntT_eq t; omega
/-- the slots ahead of a kid -/
def acc (t : TermT) (i : Nat) : List Int := own1 t.op t.slot ++ slotsL (t.kids.take i)
theorem acc_zero (t : TermT) : acc t 0 = own1 t.op t.slot := by simp [acc, slotsL]
theorem acc_succ {t : TermT} {i : Nat} (h : i < t.kids.length) : acc t (i + 1) = acc t i ++ slotsT (rdI t.kids i) := by
  unfold acc
  rw [take_rd h, slotsL_app, ← List.append_assoc, slotsL, slotsL, List.append_nil]
theorem acc_len (t : TermT) (i : Nat) : (acc t i).length ≤ 1 + cntL (t.kids.take i) := by
  have h1 := own1_len t.op t.slot
  have h2 := slotsL_len (t.kids.take i)
  unfold acc
  rw [List.length_append]; omega
theorem acc_all {t : TermT} {i : Nat} (h : t.kids.length ≤ i) : slotsT t = Go.Lib.compact ((acc t i).mergeSort fun x y => decide (x ≤ y)) := by
  rw [acc, List.take_of_length_le h, slotsT_eq]
theorem kidT_lt {p q : TermT} (h : q ∈ p.kids) : SizeOf.sizeOf q < SizeOf.sizeOf p := by
  cases p with
  | mk o k s e b =>
    have := List.sizeOf_lt_of_mem (show q ∈ k from h)
    simp only [TermT.mk.sizeOf_spec]
    omega
theorem encT_ok {p : TermT} (h : (D.ag (encT p)).ok) : p.kids.length ≤ 9223372036854775807 := by
  rw [encT_cells] at h
  simp only [D.ok, D.okL, List.length_map] at h
  exact h.2.1.1
set_option maxHeartbeats 4000000 in
theorem slots1_ok (t : TermT) (ht : cntT t ≤ 1100000) (IH : ∀ i : Nat, i < t.kids.length → Snd P 91 [.d (.ag (encT (rdI t.kids i)))] (.d (.sl false ((slotsT (rdI t.kids i)).map encI))) []) : Snd P 91 [.d (.ag (encT t))] (.d (.sl false ((slotsT t).map encI))) [] := by
  refine Snd.ok 0 rfl (by kernel_rfl) fun hok => ?_
  have hkm := encT_ok hok
  clear hok
  obtain ⟨m, hm⟩ : ∃ m, t.kids.length = m := ⟨_, rfl⟩
  rw [hm] at hkm
  obtain ⟨ow, how⟩ : ∃ o, own1 t.op t.slot = o := ⟨_, rfl⟩
  have how1 : ow.length ≤ 1 := by rw [← how]; exact own1_len _ _
  refine snd_of [] Try.func91 rfl (by kernel_rfl) Try.ntmps91 (by simp) ?_
  unfold Try.f91
  simp only [List.cons_append, List.nil_append, List.length_cons, List.length_nil, Nat.reduceAdd, Nat.reduceSub, List.replicate]
  refine Run.seq ?_
  refine opsF [⟨Op.box 89 (Operand.tmp 0), some 1, none⟩, ⟨Op.assign (Operand.const (Value.slice none 0 0)), some 2, none⟩] fun K hK => ?_
  try simp
  repeat' first | ((refine evL_c ?_); simp [hm]) | (with_reducible refine And.intro ?_ ?_) | intro _ | (with_reducible assumption) | omega
  all_goals (refine Fin.go hK ?_; clear hK K)
  simp only [Then_normal]
  refine Run.seq ?_
  refine opsF [⟨Op.assign (Operand.const (Value.slice none 0 0)), some 3, none⟩] fun K hK => ?_
  try simp
  repeat' first | ((refine evL_c ?_); simp [hm]) | (with_reducible refine And.intro ?_ ?_) | intro _ | (with_reducible assumption) | omega
  all_goals (refine Fin.go hK ?_; clear hK K)
  simp only [Then_normal]
  refine Run.cut [3, 6, 7, 8, 9, 10, 11, 12, 13, 14, 15, 16, 17, 18] [(3, .rs 1900 1 0 ow.length)] [(200, .vals ((encT t).map .d)), (1900, .data 1 (ow.map encI))] ?_ ?_
  · refine Run.cut [6, 7, 8, 9, 10, 11, 12, 13] [(13, .bool (decide (t.op = 2 ∨ t.op = 3)))] [(200, .vals ((encT t).map .d))] ?_ ?_
    · refine opsF [⟨Op.fieldAddr 89 (Operand.tmp 1) 0, some 6, none⟩, ⟨Op.load 84 (Operand.tmp 6), some 7, none⟩, ⟨Op.binOp BinOp.eql 84 (Operand.tmp 7) (Operand.const (Value.int IntKind.i64 2)) 84, some 8, none⟩, ⟨Op.move (Operand.tmp 8), some 9, none⟩, ⟨Op.fieldAddr 89 (Operand.tmp 1) 0, some 10, some (some 9, false)⟩, ⟨Op.load 84 (Operand.tmp 10), some 11, some (some 9, false)⟩, ⟨Op.binOp BinOp.eql 84 (Operand.tmp 11) (Operand.const (Value.int IntKind.i64 3)) 84, some 12, some (some 9, false)⟩, ⟨Op.pick (Operand.tmp 9) (Operand.const (Value.bool true)) (Operand.tmp 12), some 13, none⟩] fun K hK => ?_
      try simp
      repeat' first | ((first | refine evL_c ?_ | (refine evL_g rfl ?_; try simp only [gs_tt, gs_ff, gs_tf, gs_ft]) | refine evL_u rfl ?_ | (with_reducible refine gsplit (fun hg => ?_) (fun hg => ?_) <;> try simp at hg)) <;> try simp [hm]) | (with_reducible refine And.intro ?_ ?_) | intro _ | (with_reducible assumption) | omega
      all_goals (refine Fin.go hK ?_; clear hK K)
      all_goals
        (try simp [*]) <;> (first | omega | (simp; done) | grind)
    · simp only [over, List.foldl, List.set]
      refine Run.cond rfl (fun h13 => ?_) (fun h13 => ?_)
      · have ho : ow = [t.slot] := by rw [← how, own1, if_pos (of_decide_eq_true h13)]
        refine opsF [⟨Op.move (Operand.tmp 3), some 14, none⟩, ⟨Op.fieldAddr 89 (Operand.tmp 1) 2, some 15, none⟩, ⟨Op.load 3 (Operand.tmp 15), some 16, none⟩, ⟨Op.buildSlice 46 1 #[(0, Operand.tmp 16)], some 17, none⟩, ⟨Op.call { callee := Callee.builtin Builtin.append, args := #[Operand.tmp 14, Operand.tmp 17], argTypes := #[46, 46] }, some 18, none⟩, ⟨Op.assign (Operand.tmp 18), some 3, none⟩] fun K hK => ?_
        try simp
        repeat' first | ((refine evL_c ?_); simp [hm]) | (with_reducible refine And.intro ?_ ?_) | intro _ | (with_reducible assumption) | omega
        all_goals (refine Fin.go hK ?_; clear hK K)
        simp [ho]
      · have ho : ow = [] := by rw [← how, own1, if_neg (of_decide_eq_false h13)]
        refine Run.virt 3 1900 1 (by omega) (.inl rfl) ?_ rfl
        refine Run.skip ?_
        simp [ho]
  · simp only [over, List.foldl, List.set]
    refine Run.seq ?_
    refine Run.seq ?_
    refine opsF [⟨Op.fieldAddr 89 (Operand.tmp 1) 1, some 19, none⟩, ⟨Op.load 28 (Operand.tmp 19), some 20, none⟩, ⟨Op.call { callee := Callee.builtin Builtin.len, args := #[Operand.tmp 20], argTypes := #[28] }, some 21, none⟩, ⟨Op.move (Operand.const (Value.int IntKind.i64 0)), some 22, none⟩] fun K hK => ?_
    try simp
    repeat' first | ((refine evL_c ?_); simp [hm]) | (with_reducible refine And.intro ?_ ?_) | intro _ | (with_reducible assumption) | omega
    all_goals (refine Fin.go hK ?_; clear hK K)
    simp only [Then_normal]
    refine Run.block ?_
    refine Run.loopO [3, 5, 22, 23, 24, 25, 26, 27, 28, 29, 30] (fun (i : Nat) => [(22, .int i), (3, .rs 1900 1 0 (acc t i).length)]) (fun (i : Nat) => [(200, .vals ((encT t).map .d)), (1900, .data 1 ((acc t i).map encI))]) (fun (i : Nat) => i ≤ m) (fun (i : Nat) => m - i) 0 (by omega) (by simp [acc_zero, how]) fun i hi => ?_
    simp only [over, List.foldl, List.set]
    obtain ⟨ac, hac⟩ : ∃ o, acc t i = o := ⟨_, rfl⟩
    refine Run.seq ?_
    refine opsF [⟨Op.binOp BinOp.lss 3 (Operand.tmp 22) (Operand.tmp 21) 3, some 23, none⟩] fun K hK => ?_
    try simp
    repeat' first | ((refine evL_c ?_); simp [hm]) | (with_reducible refine And.intro ?_ ?_) | intro _ | (with_reducible assumption) | omega
    all_goals (refine Fin.go hK ?_; clear hK K)
    simp only [Then_normal]
    refine Run.seq ?_
    refine Run.cond rfl (fun h23 => ?_) (fun h23 => ?_)
    · try simp [hac] at h23
      have hi1 : i < m := by omega
      have hc := cnt_kid (t := t) (i := i) (by omega)
      have hl1 := slotsT_len (rdI t.kids i)
      have hl2 := acc_len t i
      rw [hac] at hl2
      obtain ⟨l1, hl1e⟩ : ∃ x, (slotsT (rdI t.kids i)).length = x := ⟨_, rfl⟩
      obtain ⟨l2, hl2e⟩ : ∃ x, ac.length = x := ⟨_, rfl⟩
      have hl3 : l2 ≤ 1100000 := by omega
      have hl4 : l1 ≤ 1100000 := by omega
      have htk : (ac.map encI).take l2 = ac.map encI := by rw [List.take_of_length_le]; simp [hl2e]
      refine Run.skip ?_
      simp only [Then_normal]
      refine Run.seq ?_
      refine Run.block ?_
      refine Run.seq ?_
      refine opsF [⟨Op.indexAddr 28 (Operand.tmp 20) (Operand.tmp 22), some 24, none⟩, ⟨Op.load 89 (Operand.tmp 24), some 25, none⟩, ⟨Op.alloc 89, some 5, none⟩, ⟨Op.store 89 (Operand.tmp 5) (Operand.tmp 25), none, none⟩] fun K hK => ?_
      try simp
      repeat' first | ((refine evL_c ?_); simp [hm, hac, hl1e, hl2e, hi1, htk]) | (with_reducible refine And.intro ?_ ?_) | intro _ | (with_reducible assumption) | omega
      all_goals (refine Fin.go hK ?_; clear hK K)
      simp only [Then_normal]
      refine opsF [⟨Op.move (Operand.tmp 3), some 26, none⟩, ⟨Op.load 89 (Operand.tmp 5), some 27, none⟩, ⟨Op.call { callee := Callee.value (Operand.func 91), args := #[Operand.tmp 27], argTypes := #[89] }, some 28, none⟩, ⟨Op.call { callee := Callee.builtin Builtin.append, args := #[Operand.tmp 26, Operand.tmp 28], argTypes := #[46, 46] }, some 29, none⟩, ⟨Op.assign (Operand.tmp 29), some 3, none⟩] fun K hK => ?_
      try simp
      repeat' first | (refine ecallD (by have h := IH i (by omega); rw [encT_cells] at h; exact h) ?_) | ((refine evL_c ?_); simp [hm, hac, hl1e, hl2e, hi1, htk]) | (with_reducible refine And.intro ?_ ?_) | intro _ | (with_reducible assumption) | omega
      all_goals (refine Fin.go hK ?_; clear hK K)
      simp only [Blok_normal]
      simp only [Then_normal]
      refine Run.ren 3000 1900 (by omega) (by omega) (by simp) (by simp) ?_
      refine opsF [⟨Op.binOp BinOp.add 3 (Operand.tmp 22) (Operand.const (Value.int IntKind.i64 1)) 3, some 30, none⟩, ⟨Op.move (Operand.tmp 30), some 22, none⟩] fun K hK => ?_
      try simp
      repeat' first | ((refine evL_c ?_); simp [hm, hac, hl1e, hl2e, hi1, htk]) | (with_reducible refine And.intro ?_ ?_) | intro _ | (with_reducible assumption) | omega
      all_goals (refine Fin.go hK ?_; clear hK K)
      have hs := acc_succ (t := t) (i := i) (by omega)
      rw [hac] at hs
      refine ⟨i + 1, by omega, by omega, ?_⟩
      simp (disch := omega) [hm, wrap_id, hs, hac, hl1e, hl2e, htk]
    · try simp [hac] at h23
      have hl2 := acc_len t i
      have hl5 := cntL_take t.kids i
      rw [cntT_eq] at ht
      rw [hac] at hl2
      have hl3 : ac.length ≤ 1100000 := by omega
      have hst := acc_all (t := t) (i := i) (by omega)
      rw [hac] at hst
      obtain ⟨so, hso⟩ : ∃ s, (ac.mergeSort fun x y => decide (x ≤ y)) = s := ⟨_, rfl⟩
      have hsl : so.length = ac.length := by rw [← hso]; simp
      rw [hso] at hst
      have hsc := Go.Lib.compact_length_le so
      have hS := sort_ok ac (by omega)
      rw [hso] at hS
      have hC := compact_ok so (by omega)
      rw [← hst] at hC hsc
      obtain ⟨l2, hl2e⟩ : ∃ x, ac.length = x := ⟨_, rfl⟩
      rw [hl2e] at hS hsl
      obtain ⟨sl, hsle⟩ : ∃ x, slotsT t = x := ⟨_, rfl⟩
      rw [hsle] at hC hsc
      obtain ⟨l3, hl3e⟩ : ∃ x, sl.length = x := ⟨_, rfl⟩
      rw [hl3e, hsl] at hC hsc
      refine Run.exit ?_
      simp (decide := true) only [Then_exit, Blok_exit, if_true, if_false]
      simp only [Then_normal]
      refine Run.seq ?_
      refine opsT [⟨Op.move (Operand.tmp 3), some 31, none⟩, ⟨Op.call { callee := Callee.value (Operand.func 103), args := #[Operand.tmp 31], argTypes := #[46] }, some 32, none⟩] fun K hK => ?_
      try simp
      repeat' first | (refine ecallW [1900] hS (by simp) (by simp) (by simp) ?_) | ((refine evL_c ?_); simp [hm, hac, hl2e, hsl, hl3e, hsc]) | (with_reducible refine And.intro ?_ ?_) | intro _ | (with_reducible assumption) | omega
      all_goals (refine Fin.go hK ?_; clear hK K)
      simp only [Then_normal]
      refine Run.seq ?_
      refine opsT [⟨Op.move (Operand.tmp 3), some 33, none⟩, ⟨Op.call { callee := Callee.value (Operand.func 104), args := #[Operand.tmp 33], argTypes := #[46] }, some 34, none⟩, ⟨Op.assign (Operand.tmp 34), some 2, none⟩] fun K hK => ?_
      try simp
      repeat' first | (refine ecallW [1900] hC (by simp) (by simp) (by simp) ?_) | ((refine evL_c ?_); simp [hm, hac, hl2e, hsl, hl3e, hsc]) | (with_reducible refine And.intro ?_ ?_) | intro _ | (with_reducible assumption) | omega
      all_goals (refine Fin.go hK ?_; clear hK K)
      simp only [Then_normal]
      refine Run.ret ?_
      try simp only [Then_ret, Blok_ret]
      have htk : ((sl.map encI) ++ List.replicate (l2 - l3) [D.int 0]).take l3 = sl.map encI := by rw [List.take_append_of_le_length (by simp [hl3e]), List.take_of_length_le (by simp [hl3e])]
      simp [hsle, hl3e, htk]


theorem slots_ok (t : TermT) (ht : cntT t ≤ 1100000) : Snd P 91 [.d (.ag (encT t))] (.d (.sl false ((slotsT t).map encI))) [] :=
  slots1_ok t ht fun i hi =>
    have := kidT_lt (rdI_mem (l := t.kids) (i := i) (by omega) (by omega))
    slots_ok (rdI t.kids i) (by have := cnt_kid hi; omega)
termination_by SizeOf.sizeOf t
end Go.Proofs.Ytimgbdkgjfbhkaa.Z
end
section
set_option maxRecDepth 100000
namespace Go.Proofs.Ytimgbdkgjfbhkaa.Z
open Go Go.Fw
def badS (b : List Bool) (s : Int) : Bool := decide (s < 0) || decide ((b.length : Int) ≤ s) || !rdI b s
def bindsS (b : List Bool) (t : TermT) : Bool := !(slotsT t).any (badS b)
@[simp] theorem forall_lt2 {p : Nat → Prop} : (∀ x, x < 2 → p x) ↔ p 0 ∧ p 1 := ⟨fun h => ⟨h 0 (by omega), h 1 (by omega)⟩, fun h x hx => by
  match x, hx with
  | 0, _ => exact h.1
  | 1, _ => exact h.2⟩
@[simp] theorem exists_lt2 {p : Nat → Prop} : (∃ x, x < 2 ∧ p x) ↔ p 0 ∨ p 1 := ⟨fun ⟨x, hx, h⟩ => by
  match x, hx with
  | 0, _ => exact .inl h
  | 1, _ => exact .inr h, fun h => by rcases h with h | h <;> exact ⟨_, by omega, h⟩⟩
@[simp] theorem idx_cons (a b : Nat) (l : List Nat) : (a :: l).idxOf? b = if a = b then some 0 else (l.idxOf? b).map (· + 1) := by
  rw [List.idxOf?_cons]; simp
theorem findT_ok (nn : Bool) (l : List TermT) (fn : FuncId) (b : List Bool) (p : TermT → Bool) (hp : ∀ e ∈ l, SndW P fn [.d (.ag (encT e)), .pt 0 0 0 0] [(0, .vals [.rs 1 1 0 b.length]), (1, .data 1 (b.map encB))] (.bool (p e)) [(0, .vals [.rs 1 1 0 b.length]), (1, .data 1 (b.map encB))]) :
    SndW P 95 [.d (.sl nn (l.map encT)), .fn fn [.pt 0 0 0 0]] [(0, .vals [.rs 1 1 0 b.length]), (1, .data 1 (b.map encB))] (.int (findS p l)) [(0, .vals [.rs 1 1 0 b.length]), (1, .data 1 (b.map encB))] := by
  refine SndW.ok 0 rfl (by kernel_rfl) fun hl => ?_
  simp only [D.ok, List.length_map] at hl
  obtain ⟨hl, -⟩ := hl
  refine sndW_of [0, 1] Try.func95 rfl (by kernel_rfl) Try.ntmps95 (by simp) (by simp) ?_
  unfold Try.f95
  simp only [List.cons_append, List.nil_append, List.length_cons, List.length_nil, Nat.reduceAdd, Nat.reduceSub, List.replicate]
  refine Run.seq ?_
  refine opsF oo3 fun K hK => ?_
  try simp
  repeat' first | ((refine evL_c ?_); simp) | (with_reducible refine And.intro ?_ ?_) | intro _ | (with_reducible assumption) | omega
  all_goals (refine Fin.go hK ?_; clear hK K)
  simp only [Then_normal]
  refine Run.seq ?_
  refine Run.seq ?_
  refine opsF oo4 fun K hK => ?_
  try simp
  repeat' first | ((refine evL_c ?_); simp) | (with_reducible refine And.intro ?_ ?_) | intro _ | (with_reducible assumption) | omega
  all_goals (refine Fin.go hK ?_; clear hK K)
  simp only [Then_normal]
  refine Run.block ?_
  refine Run.loopO [4, 5, 8, 9, 10, 11, 12, 13, 14, 15, 16, 17, 18] (fun (i : Nat) => [(8, .int i)]) (fun (i : Nat) => [(0, .vals [.rs 1 1 0 b.length]), (1, .data 1 (b.map encB))]) (fun (i : Nat) => i ≤ l.length ∧ ∀ j, j < i → p (rdI l (j : Nat)) = false) (fun (i : Nat) => l.length - i) 0 (by simp) (by simp) fun i ⟨hi, hz⟩ => ?_
  simp only [over, List.foldl, List.set]
  refine Run.seq ?_
  refine opsF oo5 fun K hK => ?_
  try simp
  repeat' first | ((refine evL_c ?_); simp) | (with_reducible refine And.intro ?_ ?_) | intro _ | (with_reducible assumption) | omega
  all_goals (refine Fin.go hK ?_; clear hK K)
  simp only [Then_normal]
  refine Run.seq ?_
  refine Run.cond rfl (fun h9 => ?_) (fun h9 => ?_)
  · try simp at h9
    refine Run.skip ?_
    simp only [Then_normal]
    refine Run.seq ?_
    refine Run.block ?_
    refine Run.seq ?_
    refine opsF oo6 fun K hK => ?_
    try simp
    repeat' first | ((refine evL_c ?_); simp [h9]) | (with_reducible refine And.intro ?_ ?_) | intro _ | (with_reducible assumption) | omega
    all_goals (refine Fin.go hK ?_; clear hK K)
    simp only [Then_normal]
    refine Run.seq ?_
    refine opsT oo7 fun K hK => ?_
    try simp
    repeat' first | (refine ecallW [0, 1] (hp _ (rdI_mem (l := l) (i := i) (by omega) (by omega))) (by simp) (by simp) (by simp) ?_) | ((refine evL_c ?_); simp [h9]) | (with_reducible refine And.intro ?_ ?_) | intro _ | (with_reducible assumption) | omega
    all_goals (refine Fin.go hK ?_; clear hK K)
    simp only [Then_normal]
    refine Run.cond rfl (fun h16 => ?_) (fun h16 => ?_)
    · try simp at h16
      refine Run.seq ?_
      refine opsF oo8 fun K hK => ?_
      try simp
      repeat' first | ((refine evL_c ?_); simp [h9, h16]) | (with_reducible refine And.intro ?_ ?_) | intro _ | (with_reducible assumption) | omega
      all_goals (refine Fin.go hK ?_; clear hK K)
      simp only [Then_normal]
      refine Run.ret ?_
      try simp only [Then_ret, Blok_ret]
      first
        | (have e := findS_some h9 hz h16; simp [e]; done)
        | (have e := findS_none (p := p) (l := l) (fun j hj => hz j (by omega)); simp [e])
    · try simp at h16
      refine Run.skip ?_
      simp only [Blok_normal]
      simp only [Then_normal]
      refine opsF oo9 fun K hK => ?_
      try simp
      repeat' first | ((refine evL_c ?_); simp [h9, h16]) | (with_reducible refine And.intro ?_ ?_) | intro _ | (with_reducible assumption) | omega
      all_goals (refine Fin.go hK ?_; clear hK K)
      refine ⟨i + 1, ⟨by omega, fun j hj => ?_⟩, by omega, ?_⟩
      · by_cases e : j = i
        · subst e; exact h16
        · exact hz j (by omega)
      · simp (disch := omega) [wrap_id]
  · try simp at h9
    refine Run.exit ?_
    simp (decide := true) only [Then_exit, Blok_exit, if_true, if_false]
    simp only [Then_normal]
    refine Run.seq ?_
    refine opsF oo10 fun K hK => ?_
    try simp
    repeat' first | ((refine evL_c ?_); simp [h9]) | (with_reducible refine And.intro ?_ ?_) | intro _ | (with_reducible assumption) | omega
    all_goals (refine Fin.go hK ?_; clear hK K)
    simp only [Then_normal]
    refine Run.ret ?_
    try simp only [Then_ret, Blok_ret]
    first
      | (have e := findS_some h9 hz h16; simp [e]; done)
      | (have e := findS_none (p := p) (l := l) (fun j hj => hz j (by omega)); simp [e])

theorem anyT_ok (nn : Bool) (l : List TermT) (fn : FuncId) (b : List Bool) (p : TermT → Bool) (hp : ∀ e ∈ l, SndW P fn [.d (.ag (encT e)), .pt 0 0 0 0] [(0, .vals [.rs 1 1 0 b.length]), (1, .data 1 (b.map encB))] (.bool (p e)) [(0, .vals [.rs 1 1 0 b.length]), (1, .data 1 (b.map encB))]) :
    SndW P 72 [.d (.sl nn (l.map encT)), .fn fn [.pt 0 0 0 0]] [(0, .vals [.rs 1 1 0 b.length]), (1, .data 1 (b.map encB))] (.bool (l.any p)) [(0, .vals [.rs 1 1 0 b.length]), (1, .data 1 (b.map encB))] := by
  refine sndW_of [0, 1] Try.func72 rfl (by kernel_rfl) Try.ntmps72 (by simp) (by simp) ?_
  unfold Try.f72
  simp only [List.cons_append, List.nil_append, List.length_cons, List.length_nil, Nat.reduceAdd, Nat.reduceSub, List.replicate]
  refine Run.seq ?_
  refine opsF oo11 fun K hK => ?_
  try simp
  repeat' first | ((refine evL_c ?_); simp) | (with_reducible refine And.intro ?_ ?_) | intro _ | (with_reducible assumption) | omega
  all_goals (refine Fin.go hK ?_; clear hK K)
  simp only [Then_normal]
  refine Run.seq ?_
  refine opsT oo12 fun K hK => ?_
  try simp
  repeat' first | (refine ecallW [0, 1] (findT_ok nn l fn b p hp) (by simp) (by simp) (by simp) ?_) | ((refine evL_c ?_); simp) | (with_reducible refine And.intro ?_ ?_) | intro _ | (with_reducible assumption) | omega
  all_goals (refine Fin.go hK ?_; clear hK K)
  simp only [Then_normal]
  refine Run.ret ?_
  try simp only [Then_ret, Blok_ret]
  simp [findS_any]

theorem findI_ok (nn : Bool) (l : List Int) (fn : FuncId) (b : List Bool) (p : Int → Bool) (hp : ∀ e ∈ l, SndW P fn [.int e, .pt 0 0 0 0] [(0, .vals [.rs 1 1 0 b.length]), (1, .data 1 (b.map encB))] (.bool (p e)) [(0, .vals [.rs 1 1 0 b.length]), (1, .data 1 (b.map encB))]) :
    SndW P 102 [.d (.sl nn (l.map encI)), .fn fn [.pt 0 0 0 0]] [(0, .vals [.rs 1 1 0 b.length]), (1, .data 1 (b.map encB))] (.int (findS p l)) [(0, .vals [.rs 1 1 0 b.length]), (1, .data 1 (b.map encB))] := by
  refine SndW.ok 0 rfl (by kernel_rfl) fun hl => ?_
  simp only [D.ok, List.length_map] at hl
  obtain ⟨hl, -⟩ := hl
  refine sndW_of [0, 1] Try.func102 rfl (by kernel_rfl) Try.ntmps102 (by simp) (by simp) ?_
  unfold Try.f102
  simp only [List.cons_append, List.nil_append, List.length_cons, List.length_nil, Nat.reduceAdd, Nat.reduceSub, List.replicate]
  refine Run.seq ?_
  refine opsF oo3 fun K hK => ?_
  try simp
  repeat' first | ((refine evL_c ?_); simp) | (with_reducible refine And.intro ?_ ?_) | intro _ | (with_reducible assumption) | omega
  all_goals (refine Fin.go hK ?_; clear hK K)
  simp only [Then_normal]
  refine Run.seq ?_
  refine Run.seq ?_
  refine opsF [⟨Op.move (Operand.tmp 0), some 6, none⟩, ⟨Op.call { callee := Callee.builtin Builtin.len, args := #[Operand.tmp 6], argTypes := #[46] }, some 7, none⟩, ⟨Op.move (Operand.const (Value.int IntKind.i64 0)), some 8, none⟩] fun K hK => ?_
  try simp
  repeat' first | ((refine evL_c ?_); simp) | (with_reducible refine And.intro ?_ ?_) | intro _ | (with_reducible assumption) | omega
  all_goals (refine Fin.go hK ?_; clear hK K)
  simp only [Then_normal]
  refine Run.block ?_
  refine Run.loopO [4, 5, 8, 9, 10, 11, 12, 13, 14, 15, 16, 17, 18] (fun (i : Nat) => [(8, .int i)]) (fun (i : Nat) => [(0, .vals [.rs 1 1 0 b.length]), (1, .data 1 (b.map encB))]) (fun (i : Nat) => i ≤ l.length ∧ ∀ j, j < i → p (rdI l (j : Nat)) = false) (fun (i : Nat) => l.length - i) 0 (by simp) (by simp) fun i ⟨hi, hz⟩ => ?_
  simp only [over, List.foldl, List.set]
  refine Run.seq ?_
  refine opsF oo5 fun K hK => ?_
  try simp
  repeat' first | ((refine evL_c ?_); simp) | (with_reducible refine And.intro ?_ ?_) | intro _ | (with_reducible assumption) | omega
  all_goals (refine Fin.go hK ?_; clear hK K)
  simp only [Then_normal]
  refine Run.seq ?_
  refine Run.cond rfl (fun h9 => ?_) (fun h9 => ?_)
  · try simp at h9
    refine Run.skip ?_
    simp only [Then_normal]
    refine Run.seq ?_
    refine Run.block ?_
    refine Run.seq ?_
    refine opsF oo6 fun K hK => ?_
    try simp
    repeat' first | ((refine evL_c ?_); simp [h9]) | (with_reducible refine And.intro ?_ ?_) | intro _ | (with_reducible assumption) | omega
    all_goals (refine Fin.go hK ?_; clear hK K)
    simp only [Then_normal]
    refine Run.seq ?_
    refine opsT [⟨Op.move (Operand.tmp 1), some 11, none⟩, ⟨Op.move (Operand.tmp 0), some 12, none⟩, ⟨Op.move (Operand.tmp 5), some 13, none⟩, ⟨Op.indexAddr 46 (Operand.tmp 12) (Operand.tmp 13), some 14, none⟩, ⟨Op.load 3 (Operand.tmp 14), some 15, none⟩, ⟨Op.call { callee := Callee.value (Operand.tmp 11), args := #[Operand.tmp 15], argTypes := #[3] }, some 16, none⟩] fun K hK => ?_
    try simp
    repeat' first | (refine ecallW [0, 1] (hp _ (rdI_mem (l := l) (i := i) (by omega) (by omega))) (by simp) (by simp) (by simp) ?_) | ((refine evL_c ?_); simp [h9]) | (with_reducible refine And.intro ?_ ?_) | intro _ | (with_reducible assumption) | omega
    all_goals (refine Fin.go hK ?_; clear hK K)
    simp only [Then_normal]
    refine Run.cond rfl (fun h16 => ?_) (fun h16 => ?_)
    · try simp at h16
      refine Run.seq ?_
      refine opsF oo8 fun K hK => ?_
      try simp
      repeat' first | ((refine evL_c ?_); simp [h9, h16]) | (with_reducible refine And.intro ?_ ?_) | intro _ | (with_reducible assumption) | omega
      all_goals (refine Fin.go hK ?_; clear hK K)
      simp only [Then_normal]
      refine Run.ret ?_
      try simp only [Then_ret, Blok_ret]
      first
        | (have e := findS_some h9 hz h16; simp [e]; done)
        | (have e := findS_none (p := p) (l := l) (fun j hj => hz j (by omega)); simp [e])
    · try simp at h16
      refine Run.skip ?_
      simp only [Blok_normal]
      simp only [Then_normal]
      refine opsF oo9 fun K hK => ?_
      try simp
      repeat' first | ((refine evL_c ?_); simp [h9, h16]) | (with_reducible refine And.intro ?_ ?_) | intro _ | (with_reducible assumption) | omega
      all_goals (refine Fin.go hK ?_; clear hK K)
      refine ⟨i + 1, ⟨by omega, fun j hj => ?_⟩, by omega, ?_⟩
      · by_cases e : j = i
        · subst e; exact h16
        · exact hz j (by omega)
      · simp (disch := omega) [wrap_id]
  · try simp at h9
    refine Run.exit ?_
    simp (decide := true) only [Then_exit, Blok_exit, if_true, if_false]
    simp only [Then_normal]
    refine Run.seq ?_
    refine opsF oo10 fun K hK => ?_
    try simp
    repeat' first | ((refine evL_c ?_); simp [h9]) | (with_reducible refine And.intro ?_ ?_) | intro _ | (with_reducible assumption) | omega
    all_goals (refine Fin.go hK ?_; clear hK K)
    simp only [Then_normal]
    refine Run.ret ?_
    try simp only [Then_ret, Blok_ret]
    first
      | (have e := findS_some h9 hz h16; simp [e]; done)
      | (have e := findS_none (p := p) (l := l) (fun j hj => hz j (by omega)); simp [e])

theorem anyI_ok (nn : Bool) (l : List Int) (fn : FuncId) (b : List Bool) (p : Int → Bool) (hp : ∀ e ∈ l, SndW P fn [.int e, .pt 0 0 0 0] [(0, .vals [.rs 1 1 0 b.length]), (1, .data 1 (b.map encB))] (.bool (p e)) [(0, .vals [.rs 1 1 0 b.length]), (1, .data 1 (b.map encB))]) :
    SndW P 90 [.d (.sl nn (l.map encI)), .fn fn [.pt 0 0 0 0]] [(0, .vals [.rs 1 1 0 b.length]), (1, .data 1 (b.map encB))] (.bool (l.any p)) [(0, .vals [.rs 1 1 0 b.length]), (1, .data 1 (b.map encB))] := by
  refine sndW_of [0, 1] Try.func90 rfl (by kernel_rfl) Try.ntmps90 (by simp) (by simp) ?_
  unfold Try.f90
  simp only [List.cons_append, List.nil_append, List.length_cons, List.length_nil, Nat.reduceAdd, Nat.reduceSub, List.replicate]
  refine Run.seq ?_
  refine opsF oo11 fun K hK => ?_
  try simp
  repeat' first | ((refine evL_c ?_); simp) | (with_reducible refine And.intro ?_ ?_) | intro _ | (with_reducible assumption) | omega
  all_goals (refine Fin.go hK ?_; clear hK K)
  simp only [Then_normal]
  refine Run.seq ?_
  refine opsT [⟨Op.move (Operand.tmp 0), some 5, none⟩, ⟨Op.move (Operand.tmp 1), some 6, none⟩, ⟨Op.call { callee := Callee.value (Operand.func 102), args := #[Operand.tmp 5, Operand.tmp 6], argTypes := #[46, 136] }, some 7, none⟩, ⟨Op.binOp BinOp.geq 3 (Operand.tmp 7) (Operand.const (Value.int IntKind.i64 0)) 3, some 8, none⟩, ⟨Op.assign (Operand.tmp 8), some 4, none⟩] fun K hK => ?_
  try simp
  repeat' first | (refine ecallW [0, 1] (findI_ok nn l fn b p hp) (by simp) (by simp) (by simp) ?_) | ((refine evL_c ?_); simp) | (with_reducible refine And.intro ?_ ?_) | intro _ | (with_reducible assumption) | omega
  all_goals (refine Fin.go hK ?_; clear hK K)
  simp only [Then_normal]
  refine Run.ret ?_
  try simp only [Then_ret, Blok_ret]
  simp [findS_any]

theorem badS_ok (b : List Bool) (s : Int) : SndW P 96 [.int s, .pt 0 0 0 0] [(0, .vals [.rs 1 1 0 b.length]), (1, .data 1 (b.map encB))] (.bool (badS b s)) [(0, .vals [.rs 1 1 0 b.length]), (1, .data 1 (b.map encB))] := by
  obtain ⟨n, hn⟩ : ∃ n, b.length = n := ⟨_, rfl⟩
  refine sndW_of [0, 1] Try.func96 rfl (by kernel_rfl) Try.ntmps96 (by simp) (by simp) ?_
  unfold Try.f96
  simp only [List.cons_append, List.nil_append, List.length_cons, List.length_nil, Nat.reduceAdd, Nat.reduceSub, List.replicate]
  refine Run.seq ?_
  refine opsF [⟨Op.assign (Operand.const (Value.bool false)), some 3, none⟩] fun K hK => ?_
  try simp
  repeat' first | ((refine evL_c ?_); simp [hn]) | (with_reducible refine And.intro ?_ ?_) | intro _ | (with_reducible assumption) | omega
  all_goals (refine Fin.go hK ?_; clear hK K)
  simp only [Then_normal]
  refine Run.seq ?_
  refine opsF [⟨Op.move (Operand.tmp 0), some 4, none⟩, ⟨Op.binOp BinOp.lss 3 (Operand.tmp 4) (Operand.const (Value.int IntKind.i64 0)) 3, some 5, none⟩, ⟨Op.move (Operand.tmp 5), some 6, none⟩, ⟨Op.move (Operand.tmp 0), some 7, some (some 6, false)⟩, ⟨Op.load 34 (Operand.tmp 1), some 8, some (some 6, false)⟩, ⟨Op.call { callee := Callee.builtin Builtin.len, args := #[Operand.tmp 8], argTypes := #[34] }, some 9, some (some 6, false)⟩, ⟨Op.binOp BinOp.geq 3 (Operand.tmp 7) (Operand.tmp 9) 3, some 10, some (some 6, false)⟩, ⟨Op.pick (Operand.tmp 6) (Operand.const (Value.bool true)) (Operand.tmp 10), some 11, none⟩, ⟨Op.move (Operand.tmp 11), some 12, none⟩, ⟨Op.load 34 (Operand.tmp 1), some 13, some (some 12, false)⟩, ⟨Op.move (Operand.tmp 0), some 14, some (some 12, false)⟩, ⟨Op.indexAddr 34 (Operand.tmp 13) (Operand.tmp 14), some 15, some (some 12, false)⟩, ⟨Op.load 4 (Operand.tmp 15), some 16, some (some 12, false)⟩, ⟨Op.unOp UnOp.not 4 (Operand.tmp 16), some 17, some (some 12, false)⟩, ⟨Op.pick (Operand.tmp 12) (Operand.const (Value.bool true)) (Operand.tmp 17), some 18, none⟩, ⟨Op.assign (Operand.tmp 18), some 3, none⟩] fun K hK => ?_
  try simp
  repeat' first | ((first | refine evL_c ?_ | (refine evL_g rfl ?_; try simp only [gs_tt, gs_ff, gs_tf, gs_ft]) | refine evL_u rfl ?_ | (with_reducible refine gsplit (fun hg => ?_) (fun hg => ?_) <;> try simp at hg)) <;> try simp [hn, *]) | (with_reducible refine And.intro ?_ ?_) | intro _ | (with_reducible assumption) | omega
  all_goals (refine Fin.go hK ?_; clear hK K)
  all_goals
    simp only [Then_normal]
    refine Run.ret ?_
    try simp only [Then_ret, Blok_ret]
    (try simp [badS, hn]) <;> (first | omega | (simp; done) | (rw [Bool.eq_iff_iff]; simp only [Bool.or_eq_true, Bool.and_eq_true, Bool.not_eq_true', decide_eq_true_eq, decide_eq_false_iff_not]; omega) | (simp_all; done) | (simp_all; omega) | grind)

theorem binds_ok (b : List Bool) (t : TermT) (ht : cntT t ≤ 1100000) : SndW P 74 [.rs 0 1 0 b.length, .d (.ag (encT t))] [(0, .data 1 (b.map encB))] (.bool (bindsS b t)) [(0, .data 1 (b.map encB))] := by
  refine sndW_of [0] Try.func74 rfl (by kernel_rfl) Try.ntmps74 (by simp) (by simp) ?_
  unfold Try.f74
  simp only [List.cons_append, List.nil_append, List.length_cons, List.length_nil, Nat.reduceAdd, Nat.reduceSub, List.replicate]
  refine Run.seq ?_
  refine opsF [⟨Op.box 34 (Operand.tmp 0), some 2, none⟩, ⟨Op.box 89 (Operand.tmp 1), some 3, none⟩, ⟨Op.assign (Operand.const (Value.bool false)), some 4, none⟩] fun K hK => ?_
  try simp
  repeat' first | ((refine evL_c ?_); simp) | (with_reducible refine And.intro ?_ ?_) | intro _ | (with_reducible assumption) | omega
  all_goals (refine Fin.go hK ?_; clear hK K)
  simp only [Then_normal]
  refine Run.seq ?_
  refine opsT [⟨Op.load 89 (Operand.tmp 3), some 5, none⟩, ⟨Op.call { callee := Callee.value (Operand.func 91), args := #[Operand.tmp 5], argTypes := #[89] }, some 6, none⟩, ⟨Op.makeFunc (Fn.func 96) #[] #[Operand.tmp 2], some 7, none⟩, ⟨Op.call { callee := Callee.value (Operand.func 90), args := #[Operand.tmp 6, Operand.tmp 7], argTypes := #[46, 136] }, some 8, none⟩, ⟨Op.unOp UnOp.not 4 (Operand.tmp 8), some 9, none⟩, ⟨Op.assign (Operand.tmp 9), some 4, none⟩] fun K hK => ?_
  try simp
  repeat' first | (refine ecallP (by simp) (by have h := slots_ok t ht; rw [encT_cells] at h; exact h) ?_) | (refine ecallW [300, 0] (anyI_ok false (slotsT t) 96 b (badS b) (fun s _ => badS_ok b s)) (by simp) (by simp) (by simp) ?_) | ((refine evL_c ?_); simp) | (with_reducible refine And.intro ?_ ?_) | intro _ | (with_reducible assumption) | omega
  all_goals (refine Fin.go hK ?_; clear hK K)
  simp only [Then_normal]
  refine Run.ret ?_
  try simp only [Then_ret, Blok_ret]
  simp [bindsS]

theorem bindsN_ok (b : List Bool) (t : TermT) (ht : cntT t ≤ 1100000) : SndW P 73 [.d (.ag (encT t)), .pt 0 0 0 0] [(0, .vals [.rs 1 1 0 b.length]), (1, .data 1 (b.map encB))] (.bool (!bindsS b t)) [(0, .vals [.rs 1 1 0 b.length]), (1, .data 1 (b.map encB))] := by
  refine sndW_of [0, 1] Try.func73 rfl (by kernel_rfl) Try.ntmps73 (by simp) (by simp) ?_
  unfold Try.f73
  simp only [List.cons_append, List.nil_append, List.length_cons, List.length_nil, Nat.reduceAdd, Nat.reduceSub, List.replicate]
  refine Run.seq ?_
  refine opsF [⟨Op.box 89 (Operand.tmp 0), some 2, none⟩, ⟨Op.assign (Operand.const (Value.bool false)), some 3, none⟩] fun K hK => ?_
  try simp
  repeat' first | ((refine evL_c ?_); simp) | (with_reducible refine And.intro ?_ ?_) | intro _ | (with_reducible assumption) | omega
  all_goals (refine Fin.go hK ?_; clear hK K)
  simp only [Then_normal]
  refine Run.seq ?_
  refine opsT [⟨Op.load 34 (Operand.tmp 1), some 4, none⟩, ⟨Op.load 89 (Operand.tmp 2), some 5, none⟩, ⟨Op.call { callee := Callee.value (Operand.func 74), args := #[Operand.tmp 4, Operand.tmp 5], argTypes := #[34, 89] }, some 6, none⟩, ⟨Op.unOp UnOp.not 4 (Operand.tmp 6), some 7, none⟩, ⟨Op.assign (Operand.tmp 7), some 3, none⟩] fun K hK => ?_
  try simp
  repeat' first | (refine ecallW [1] (by have h := binds_ok b t ht; rw [encT_cells] at h; exact h) (by simp) (by simp) (by simp) ?_) | ((refine evL_c ?_); simp) | (with_reducible refine And.intro ?_ ?_) | intro _ | (with_reducible assumption) | omega
  all_goals (refine Fin.go hK ?_; clear hK K)
  simp only [Then_normal]
  refine Run.ret ?_
  try simp only [Then_ret, Blok_ret]
  simp


end Go.Proofs.Ytimgbdkgjfbhkaa.Z
end
section
set_option maxRecDepth 100000
namespace Go.Proofs.Ytimgbdkgjfbhkaa.Z
open Go Go.Fw
def badM1 (c : CoreT) (e : Int) (b : List Bool) : Bool := decide (e < 0) || decide ((c.edges.length : Int) ≤ e) || rdI b (c.nodes.length + e)
def touchM (c : CoreT) (s e : Int) (b : List Bool) : Bool := (decide ((rdI c.edges e).src = s) && rdI b (rdI c.edges e).dst) || (decide ((rdI c.edges e).dst = s) && rdI b (rdI c.edges e).src)
def badM2 (c : CoreT) (s e : Int) (b : List Bool) : Bool := !touchM c s e b || !decide ((rdI c.edges e).mode = 0)
def meetL (c : CoreT) (s : Int) : List Int → List Bool → Bool × List Bool
  | [], b => (true, b)
  | e :: r, b => if badM1 c e b || badM2 c s e b then (false, b) else meetL c s r (b.set (c.nodes.length + e).toNat true)
def badSlot (c : CoreT) (p : PlanT) (b : List Bool) : Bool := decide (p.slot < 0) || decide ((c.nodes.length : Int) ≤ p.slot) || rdI b p.slot || decide (p.edges.length = 0)
def meetB (c : CoreT) (p : PlanT) (b : List Bool) : Bool := !badSlot c p b && (meetL c p.slot p.edges b).1
def meetR (c : CoreT) (p : PlanT) (b : List Bool) : List Bool := if badSlot c p b then b else if (meetL c p.slot p.edges b).1 then (meetL c p.slot p.edges b).2.set p.slot.toNat true else (meetL c p.slot p.edges b).2
theorem meetL_bad {c : CoreT} {s : Int} {l : List Int} {i : Nat} {b : List Bool} (hi : i < l.length) (h : badM1 c (rdI l i) b = true ∨ badM2 c s (rdI l i) b = true) : meetL c s (l.drop i) b = (false, b) := by
  rw [drop_rd hi, meetL, if_pos (by simpa using h)]
theorem meetL_step {c : CoreT} {s : Int} {l : List Int} {i : Nat} {b : List Bool} (hi : i < l.length) (h1 : badM1 c (rdI l i) b = false) (h2 : badM2 c s (rdI l i) b = false) : meetL c s (l.drop i) b = meetL c s (l.drop (i + 1)) (b.set (c.nodes.length + rdI l i).toNat true) := by
  rw [drop_rd hi, meetL, if_neg (by simp [h1, h2])]
theorem meetL_end {c : CoreT} {s : Int} {l : List Int} {i : Nat} {b : List Bool} (hi : l.length ≤ i) : meetL c s (l.drop i) b = (true, b) := by
  rw [List.drop_of_length_le hi, meetL]
set_option maxHeartbeats 4000000 in
theorem meet_ok (c : CoreT) (p : PlanT) (b : List Bool) (hb : b.length = c.nodes.length + c.edges.length) (hE : GoodE c) : SndW P 71 [.d (.ag (encC c ++ [D.int c.nodes.length])), .d (.ag (encP p)), .rs 0 1 0 b.length] [(0, .data 1 (b.map encB))] (.bool (meetB c p b)) [(0, .data 1 ((meetR c p b).map encB))] := by
  refine SndW.ok 1 rfl (by kernel_rfl) fun hp => ?_
  have hpm := (encP_ok hp).2.1
  clear hp
  obtain ⟨n, hn⟩ : ∃ k, c.nodes.length = k := ⟨_, rfl⟩
  obtain ⟨m, hm⟩ : ∃ m, p.edges.length = m := ⟨_, rfl⟩
  obtain ⟨k, hk⟩ : ∃ k, c.edges.length = k := ⟨_, rfl⟩
  rw [hn, hk] at hb
  rw [hm] at hpm
  refine sndW_of [0] Try.func71 rfl (by kernel_rfl) Try.ntmps71 (by simp) (by simp) ?_
  unfold Try.f71
  refine Run.okV 2 rfl fun hL => ?_
  have hs1 : 0 ≤ p.slot → p.slot < (n:Int) → p.slot.toNat < n + k := by omega
  have hs2 : 0 ≤ p.slot → p.slot < (n:Int) → p.slot < (n:Int) + k := by omega
  have hq1 : ∀ e : Int, 0 ≤ e → e < k → ((n:Int) + e).toNat < n + k := by omega
  have hq2 : ∀ e : Int, 0 ≤ e → e < k → 0 ≤ (n:Int) + e := by omega
  have hq3 : ∀ e : Int, 0 ≤ e → e < k → IntKind.i64.wrap ((n:Int) + e) = (n:Int) + e := fun e _ _ => wrap_id (by omega) (by omega)
  have hg0 : ∀ e : Int, 0 ≤ e → e < k → 0 ≤ (rdI c.edges e).src ∧ 0 ≤ (rdI c.edges e).dst ∧ (rdI c.edges e).src < (n : Int) + k ∧ (rdI c.edges e).dst < (n : Int) + k ∧ (rdI c.edges e).src.toNat < n + k ∧ (rdI c.edges e).dst.toNat < n + k := fun e h0 h1 => by
    have := hE (rdI c.edges e) (rdI_mem h0 (by omega)); rw [hn] at this; omega
  simp only [List.cons_append, List.nil_append, List.length_cons, List.length_nil, Nat.reduceAdd, Nat.reduceSub, List.replicate]
  refine Run.seq ?_
  refine opsF oo0 fun K hK => ?_
  try simp
  repeat' first | ((refine evL_c ?_); simp [-List.map_set, hm, hk, hn, hb, hs1, hs2, hq1, hq2, hq3, hg0]) | (with_reducible refine And.intro ?_ ?_) | intro _ | (with_reducible assumption) | omega
  all_goals (refine Fin.go hK ?_; clear hK K)
  simp only [Then_normal]
  refine Run.seq ?_
  refine Run.cut [11, 12, 13, 14, 15, 16, 17, 18, 19, 20, 21, 22, 23, 24, 25, 26, 27, 28, 29, 30, 31, 32, 33] [(33, .bool (badSlot c p b))] [(0, .data 1 (b.map encB)), (400, .vals ((encC c ++ [D.int c.nodes.length]).map .d)), (500, .vals ((encP p).map .d))] ?_ ?_
  · refine opsF [⟨Op.fieldAddr 48 (Operand.tmp 4) 2, some 11, none⟩, ⟨Op.load 3 (Operand.tmp 11), some 12, none⟩, ⟨Op.binOp BinOp.lss 3 (Operand.tmp 12) (Operand.const (Value.int IntKind.i64 0)) 3, some 13, none⟩, ⟨Op.move (Operand.tmp 13), some 14, none⟩, ⟨Op.fieldAddr 48 (Operand.tmp 4) 2, some 15, some (some 14, false)⟩, ⟨Op.load 3 (Operand.tmp 15), some 16, some (some 14, false)⟩, ⟨Op.fieldAddr 112 (Operand.tmp 3) 1, some 17, some (some 14, false)⟩, ⟨Op.load 3 (Operand.tmp 17), some 18, some (some 14, false)⟩, ⟨Op.binOp BinOp.geq 3 (Operand.tmp 16) (Operand.tmp 18) 3, some 19, some (some 14, false)⟩, ⟨Op.pick (Operand.tmp 14) (Operand.const (Value.bool true)) (Operand.tmp 19), some 20, none⟩, ⟨Op.move (Operand.tmp 20), some 21, none⟩, ⟨Op.move (Operand.tmp 2), some 22, some (some 21, false)⟩, ⟨Op.fieldAddr 48 (Operand.tmp 4) 2, some 23, some (some 21, false)⟩, ⟨Op.load 3 (Operand.tmp 23), some 24, some (some 21, false)⟩, ⟨Op.indexAddr 34 (Operand.tmp 22) (Operand.tmp 24), some 25, some (some 21, false)⟩, ⟨Op.load 4 (Operand.tmp 25), some 26, some (some 21, false)⟩, ⟨Op.pick (Operand.tmp 21) (Operand.const (Value.bool true)) (Operand.tmp 26), some 27, none⟩, ⟨Op.move (Operand.tmp 27), some 28, none⟩, ⟨Op.fieldAddr 48 (Operand.tmp 4) 3, some 29, some (some 28, false)⟩, ⟨Op.load 46 (Operand.tmp 29), some 30, some (some 28, false)⟩, ⟨Op.call { callee := Callee.builtin Builtin.len, args := #[Operand.tmp 30], argTypes := #[46] }, some 31, some (some 28, false)⟩, ⟨Op.binOp BinOp.eql 3 (Operand.tmp 31) (Operand.const (Value.int IntKind.i64 0)) 3, some 32, some (some 28, false)⟩, ⟨Op.pick (Operand.tmp 28) (Operand.const (Value.bool true)) (Operand.tmp 32), some 33, none⟩] fun K hK => ?_
    try simp
    repeat' first | ((first | refine evL_c ?_ | (refine evL_g rfl ?_; try simp only [gs_tt, gs_ff, gs_tf, gs_ft]) | refine evL_u rfl ?_ | (with_reducible refine gsplit (fun hg => ?_) (fun hg => ?_) <;> try simp at hg)) <;> try simp [-List.map_set, hm, hk, hn, hb, hs1, hs2, hq1, hq2, hq3, hg0, *]) | (with_reducible refine And.intro ?_ ?_) | intro _ | (with_reducible assumption) | omega
    all_goals (refine Fin.go hK ?_; clear hK K)
    all_goals
      (try simp [hm, hk, hn, hb, badSlot, *]) <;> (first | omega | (simp; done) | (rw [Bool.eq_iff_iff]; simp only [Bool.or_eq_true, Bool.and_eq_true, Bool.not_eq_true', decide_eq_true_eq, decide_eq_false_iff_not]; omega) | (clear hq1 hq2 hq3 hs1 hs2 hg0 hE; grind) | (simp_all; done) | (simp_all; omega))
  · simp only [over, List.foldl, List.set]
    refine Run.cond rfl (fun h33 => ?_) (fun h33 => ?_)
    · try simp at h33
      refine Run.seq ?_
      refine opsF oo1 fun K hK => ?_
      try simp
      repeat' first | ((refine evL_c ?_); simp [-List.map_set, hm, hk, hn, hb, hs1, hs2, hq1, hq2, hq3, hg0]) | (with_reducible refine And.intro ?_ ?_) | intro _ | (with_reducible assumption) | omega
      all_goals (refine Fin.go hK ?_; clear hK K)
      simp only [Then_normal]
      refine Run.ret ?_
      try simp only [Then_ret, Blok_ret]
      first
        | (have e : meetB c p b = false := by simp [meetB, h33]
           simp [meetR, e, h33, hn]; done)
        | (have e1 : meetL c p.slot p.edges b = (false, bi) := by rw [hml, meetL_bad (by omega) (.inl h59)]
           simp [meetR, meetB, e1, h33, hn]; done)
        | (have e1 : meetL c p.slot p.edges b = (false, bi) := by rw [hml, meetL_bad (by omega) (.inr h98)]
           simp [meetR, meetB, e1, h33, hn]; done)
        | (have e1 : meetL c p.slot p.edges b = (true, bi) := by rw [hml, meetL_end (by omega)]
           simp [-List.map_set, meetR, meetB, e1, h33, hn]; done)
    · try simp at h33
      have h33' := h33
      simp [badSlot, hk, hn, hm] at h33'
      obtain ⟨⟨⟨hp0, hp1⟩, hp2⟩, hp3⟩ := h33'
      refine Run.skip ?_
      simp only [Then_normal]
      refine Run.seq ?_
      refine Run.seq ?_
      refine opsF [⟨Op.fieldAddr 48 (Operand.tmp 4) 3, some 34, none⟩, ⟨Op.load 46 (Operand.tmp 34), some 35, none⟩, ⟨Op.call { callee := Callee.builtin Builtin.len, args := #[Operand.tmp 35], argTypes := #[46] }, some 36, none⟩, ⟨Op.move (Operand.const (Value.int IntKind.i64 0)), some 37, none⟩] fun K hK => ?_
      try simp
      repeat' first | ((refine evL_c ?_); simp [-List.map_set, hm, hk, hn, hb, hs1, hs2, hq1, hq2, hq3, hg0, hp0, hp1]) | (with_reducible refine And.intro ?_ ?_) | intro _ | (with_reducible assumption) | omega
      all_goals (refine Fin.go hK ?_; clear hK K)
      simp only [Then_normal]
      refine Run.block ?_
      refine Run.loopO [6, 8, 9, 10, 37, 38, 39, 40, 41, 42, 43, 44, 45, 46, 47, 48, 49, 50, 51, 52, 53, 54, 55, 56, 57, 58, 59, 60, 61, 62, 63, 64, 65, 66, 67, 68, 69, 70, 71, 72, 73, 74, 75, 76, 77, 78, 79, 80, 81, 82, 83, 84, 85, 86, 87, 88, 89, 90, 91, 92, 93, 94, 95, 96, 97, 98, 99, 100, 101, 102, 103, 104, 105] (fun (x : Nat × List Bool) => [(37, .int x.1)]) (fun (x : Nat × List Bool) => [(0, .data 1 (x.2.map encB)), (400, .vals ((encC c ++ [D.int c.nodes.length]).map .d)), (500, .vals ((encP p).map .d))]) (fun (x : Nat × List Bool) => x.1 ≤ m ∧ x.2.length = n + k ∧ meetL c p.slot p.edges b = meetL c p.slot (p.edges.drop x.1) x.2) (fun (x : Nat × List Bool) => m - x.1) (0, b) (by simp [hb]) (by simp [hb, hn]) fun ⟨i, bi⟩ ⟨hi, hbi, hml⟩ => ?_
      simp only at hi hbi hml
      simp only [over, List.foldl, List.set]
      refine Run.seq ?_
      refine opsF [⟨Op.binOp BinOp.lss 3 (Operand.tmp 37) (Operand.tmp 36) 3, some 38, none⟩] fun K hK => ?_
      try simp
      repeat' first | ((refine evL_c ?_); simp [-List.map_set, hm, hk, hn, hb, hs1, hs2, hq1, hq2, hq3, hg0, hp0, hp1]) | (with_reducible refine And.intro ?_ ?_) | intro _ | (with_reducible assumption) | omega
      all_goals (refine Fin.go hK ?_; clear hK K)
      simp only [Then_normal]
      refine Run.seq ?_
      refine Run.cond rfl (fun h38 => ?_) (fun h38 => ?_)
      · try simp at h38
        have hi1 : i < m := by omega
        refine Run.skip ?_
        simp only [Then_normal]
        refine Run.seq ?_
        refine Run.block ?_
        refine Run.seq ?_
        refine opsF [⟨Op.indexAddr 46 (Operand.tmp 35) (Operand.tmp 37), some 39, none⟩, ⟨Op.load 3 (Operand.tmp 39), some 40, none⟩, ⟨Op.assign (Operand.tmp 40), some 8, none⟩] fun K hK => ?_
        try simp
        repeat' first | ((refine evL_c ?_); simp [-List.map_set, hm, hk, hn, hb, hs1, hs2, hq1, hq2, hq3, hg0, hp0, hp1, hi1, hbi]) | (with_reducible refine And.intro ?_ ?_) | intro _ | (with_reducible assumption) | omega
        all_goals (refine Fin.go hK ?_; clear hK K)
        simp only [Then_normal]
        refine Run.seq ?_
        refine Run.cut [41, 42, 43, 44, 45, 46, 47, 48, 49, 50, 51, 52, 53, 54, 55, 56, 57, 58, 59] [(59, .bool (badM1 c (rdI p.edges i) bi))] [(0, .data 1 (bi.map encB)), (400, .vals ((encC c ++ [D.int c.nodes.length]).map .d)), (500, .vals ((encP p).map .d))] ?_ ?_
        · refine opsF [⟨Op.move (Operand.tmp 8), some 41, none⟩, ⟨Op.binOp BinOp.lss 3 (Operand.tmp 41) (Operand.const (Value.int IntKind.i64 0)) 3, some 42, none⟩, ⟨Op.move (Operand.tmp 42), some 43, none⟩, ⟨Op.move (Operand.tmp 8), some 44, some (some 43, false)⟩, ⟨Op.fieldAddr 112 (Operand.tmp 3) 0, some 45, some (some 43, false)⟩, ⟨Op.fieldAddr 32 (Operand.tmp 45) 1, some 46, some (some 43, false)⟩, ⟨Op.load 27 (Operand.tmp 46), some 47, some (some 43, false)⟩, ⟨Op.call { callee := Callee.builtin Builtin.len, args := #[Operand.tmp 47], argTypes := #[27] }, some 48, some (some 43, false)⟩, ⟨Op.binOp BinOp.geq 3 (Operand.tmp 44) (Operand.tmp 48) 3, some 49, some (some 43, false)⟩, ⟨Op.pick (Operand.tmp 43) (Operand.const (Value.bool true)) (Operand.tmp 49), some 50, none⟩, ⟨Op.move (Operand.tmp 50), some 51, none⟩, ⟨Op.move (Operand.tmp 2), some 52, some (some 51, false)⟩, ⟨Op.fieldAddr 112 (Operand.tmp 3) 1, some 53, some (some 51, false)⟩, ⟨Op.load 3 (Operand.tmp 53), some 54, some (some 51, false)⟩, ⟨Op.move (Operand.tmp 8), some 55, some (some 51, false)⟩, ⟨Op.binOp BinOp.add 3 (Operand.tmp 54) (Operand.tmp 55) 3, some 56, some (some 51, false)⟩, ⟨Op.indexAddr 34 (Operand.tmp 52) (Operand.tmp 56), some 57, some (some 51, false)⟩, ⟨Op.load 4 (Operand.tmp 57), some 58, some (some 51, false)⟩, ⟨Op.pick (Operand.tmp 51) (Operand.const (Value.bool true)) (Operand.tmp 58), some 59, none⟩] fun K hK => ?_
          try simp
          repeat' first | ((first | refine evL_c ?_ | (refine evL_g rfl ?_; try simp only [gs_tt, gs_ff, gs_tf, gs_ft]) | refine evL_u rfl ?_ | (with_reducible refine gsplit (fun hg => ?_) (fun hg => ?_) <;> try simp at hg)) <;> try simp [-List.map_set, hm, hk, hn, hb, hs1, hs2, hq1, hq2, hq3, hg0, hp0, hp1, hi1, hbi, *]) | (with_reducible refine And.intro ?_ ?_) | intro _ | (with_reducible assumption) | omega
          all_goals (refine Fin.go hK ?_; clear hK K)
          all_goals
            (try simp [hm, hk, hn, hb, badM1, *]) <;> (first | omega | (simp; done) | (rw [Bool.eq_iff_iff]; simp only [Bool.or_eq_true, Bool.and_eq_true, Bool.not_eq_true', decide_eq_true_eq, decide_eq_false_iff_not]; omega) | (clear hq1 hq2 hq3 hs1 hs2 hg0 hE; grind) | (simp_all; done) | (simp_all; omega))
        · simp only [over, List.foldl, List.set]
          refine Run.cond rfl (fun h59 => ?_) (fun h59 => ?_)
          · try simp at h59
            refine Run.seq ?_
            refine opsF oo1 fun K hK => ?_
            try simp
            repeat' first | ((refine evL_c ?_); simp [-List.map_set, hm, hk, hn, hb, hs1, hs2, hq1, hq2, hq3, hg0, hp0, hp1, hi1, hbi]) | (with_reducible refine And.intro ?_ ?_) | intro _ | (with_reducible assumption) | omega
            all_goals (refine Fin.go hK ?_; clear hK K)
            simp only [Then_normal]
            refine Run.ret ?_
            try simp only [Then_ret, Blok_ret]
            first
              | (have e : meetB c p b = false := by simp [meetB, h33]
                 simp [meetR, e, h33, hn]; done)
              | (have e1 : meetL c p.slot p.edges b = (false, bi) := by rw [hml, meetL_bad (by omega) (.inl h59)]
                 simp [meetR, meetB, e1, h33, hn]; done)
              | (have e1 : meetL c p.slot p.edges b = (false, bi) := by rw [hml, meetL_bad (by omega) (.inr h98)]
                 simp [meetR, meetB, e1, h33, hn]; done)
              | (have e1 : meetL c p.slot p.edges b = (true, bi) := by rw [hml, meetL_end (by omega)]
                 simp [-List.map_set, meetR, meetB, e1, h33, hn]; done)
          · try simp at h59
            have h59' := h59
            simp [badM1, hk, hn] at h59'
            obtain ⟨⟨he0, he1⟩, he2⟩ := h59'
            refine Run.skip ?_
            simp only [Then_normal]
            refine Run.cut [9, 60, 61, 62, 63, 64, 65] [(9, .pt 1000 0 0 0)] [(0, .data 1 (bi.map encB)), (400, .vals ((encC c ++ [D.int c.nodes.length]).map .d)), (500, .vals ((encP p).map .d)), (1000, .vals ((encE (rdI c.edges (rdI p.edges i))).map .d))] ?_ ?_
            · refine opsF [⟨Op.fieldAddr 112 (Operand.tmp 3) 0, some 60, none⟩, ⟨Op.fieldAddr 32 (Operand.tmp 60) 1, some 61, none⟩, ⟨Op.load 27 (Operand.tmp 61), some 62, none⟩, ⟨Op.move (Operand.tmp 8), some 63, none⟩, ⟨Op.indexAddr 27 (Operand.tmp 62) (Operand.tmp 63), some 64, none⟩, ⟨Op.load 98 (Operand.tmp 64), some 65, none⟩, ⟨Op.alloc 98, some 9, none⟩, ⟨Op.store 98 (Operand.tmp 9) (Operand.tmp 65), none, none⟩] fun K hK => ?_
              try simp
              repeat' first | ((refine evL_c ?_); simp [-List.map_set, hm, hk, hn, hb, hs1, hs2, hq1, hq2, hq3, hg0, hp0, hp1, hi1, hbi, he0, he1]) | (with_reducible refine And.intro ?_ ?_) | intro _ | (with_reducible assumption) | omega
              all_goals (refine Fin.go hK ?_; clear hK K)
              (try simp [hm, hk, hn, hb]) <;> (first | omega | (simp; done) | (rw [Bool.eq_iff_iff]; simp only [Bool.or_eq_true, Bool.and_eq_true, Bool.not_eq_true', decide_eq_true_eq, decide_eq_false_iff_not]; omega) | (clear hq1 hq2 hq3 hs1 hs2 hg0 hE; grind) | (simp_all; done) | (simp_all; omega))
            · simp only [over, List.foldl, List.set]
              refine Run.cut [10, 66, 67, 68, 69, 70, 71, 72, 73, 74, 75, 76, 77, 78, 79, 80, 81, 82, 83, 84, 85, 86, 87, 88, 89, 90, 91] [(10, .bool (touchM c p.slot (rdI p.edges i) bi))] [(0, .data 1 (bi.map encB)), (400, .vals ((encC c ++ [D.int c.nodes.length]).map .d)), (500, .vals ((encP p).map .d)), (1000, .vals ((encE (rdI c.edges (rdI p.edges i))).map .d))] ?_ ?_
              · refine opsF [⟨Op.fieldAddr 98 (Operand.tmp 9) 2, some 66, none⟩, ⟨Op.load 3 (Operand.tmp 66), some 67, none⟩, ⟨Op.fieldAddr 48 (Operand.tmp 4) 2, some 68, none⟩, ⟨Op.load 3 (Operand.tmp 68), some 69, none⟩, ⟨Op.binOp BinOp.eql 3 (Operand.tmp 67) (Operand.tmp 69) 3, some 70, none⟩, ⟨Op.move (Operand.tmp 70), some 71, none⟩, ⟨Op.move (Operand.tmp 2), some 72, some (some 71, true)⟩, ⟨Op.fieldAddr 98 (Operand.tmp 9) 3, some 73, some (some 71, true)⟩, ⟨Op.load 3 (Operand.tmp 73), some 74, some (some 71, true)⟩, ⟨Op.indexAddr 34 (Operand.tmp 72) (Operand.tmp 74), some 75, some (some 71, true)⟩, ⟨Op.load 4 (Operand.tmp 75), some 76, some (some 71, true)⟩, ⟨Op.pick (Operand.tmp 71) (Operand.tmp 76) (Operand.const (Value.bool false)), some 77, none⟩, ⟨Op.move (Operand.tmp 77), some 78, none⟩, ⟨Op.fieldAddr 98 (Operand.tmp 9) 3, some 79, some (some 78, false)⟩, ⟨Op.load 3 (Operand.tmp 79), some 80, some (some 78, false)⟩, ⟨Op.fieldAddr 48 (Operand.tmp 4) 2, some 81, some (some 78, false)⟩, ⟨Op.load 3 (Operand.tmp 81), some 82, some (some 78, false)⟩, ⟨Op.binOp BinOp.eql 3 (Operand.tmp 80) (Operand.tmp 82) 3, some 83, some (some 78, false)⟩, ⟨Op.move (Operand.tmp 83), some 84, some (some 78, false)⟩, ⟨Op.move (Operand.tmp 2), some 85, some (some 84, true)⟩, ⟨Op.fieldAddr 98 (Operand.tmp 9) 2, some 86, some (some 84, true)⟩, ⟨Op.load 3 (Operand.tmp 86), some 87, some (some 84, true)⟩, ⟨Op.indexAddr 34 (Operand.tmp 85) (Operand.tmp 87), some 88, some (some 84, true)⟩, ⟨Op.load 4 (Operand.tmp 88), some 89, some (some 84, true)⟩, ⟨Op.pick (Operand.tmp 84) (Operand.tmp 89) (Operand.const (Value.bool false)), some 90, some (some 78, false)⟩, ⟨Op.pick (Operand.tmp 78) (Operand.const (Value.bool true)) (Operand.tmp 90), some 91, none⟩, ⟨Op.assign (Operand.tmp 91), some 10, none⟩] fun K hK => ?_
                try simp
                repeat' first | ((first | refine evL_c ?_ | (refine evL_g rfl ?_; try simp only [gs_tt, gs_ff, gs_tf, gs_ft]) | refine evL_u rfl ?_ | (with_reducible refine gsplit (fun hg => ?_) (fun hg => ?_) <;> try simp at hg)) <;> try simp [-List.map_set, hm, hk, hn, hb, hs1, hs2, hq1, hq2, hq3, hg0, hp0, hp1, hi1, hbi, he0, he1]) | (with_reducible refine And.intro ?_ ?_) | intro _ | (with_reducible assumption) | omega
                all_goals (refine Fin.go hK ?_; clear hK K)
                all_goals
                  (try simp [hm, hk, hn, hb, touchM, *]) <;> (first | omega | (simp; done) | (rw [Bool.eq_iff_iff]; simp only [Bool.or_eq_true, Bool.and_eq_true, Bool.not_eq_true', decide_eq_true_eq, decide_eq_false_iff_not]; omega) | (clear hq1 hq2 hq3 hs1 hs2 hg0 hE; grind) | (simp_all; done) | (simp_all; omega))
              · simp only [over, List.foldl, List.set]
                refine Run.seq ?_
                refine Run.cut [92, 93, 94, 95, 96, 97, 98] [(98, .bool (badM2 c p.slot (rdI p.edges i) bi))] [(0, .data 1 (bi.map encB)), (400, .vals ((encC c ++ [D.int c.nodes.length]).map .d)), (500, .vals ((encP p).map .d)), (1000, .vals ((encE (rdI c.edges (rdI p.edges i))).map .d))] ?_ ?_
                · refine opsF [⟨Op.move (Operand.tmp 10), some 92, none⟩, ⟨Op.unOp UnOp.not 4 (Operand.tmp 92), some 93, none⟩, ⟨Op.move (Operand.tmp 93), some 94, none⟩, ⟨Op.fieldAddr 98 (Operand.tmp 9) 4, some 95, some (some 94, false)⟩, ⟨Op.load 96 (Operand.tmp 95), some 96, some (some 94, false)⟩, ⟨Op.binOp BinOp.neq 96 (Operand.tmp 96) (Operand.const (Value.int IntKind.i64 0)) 96, some 97, some (some 94, false)⟩, ⟨Op.pick (Operand.tmp 94) (Operand.const (Value.bool true)) (Operand.tmp 97), some 98, none⟩] fun K hK => ?_
                  try simp
                  repeat' first | ((first | refine evL_c ?_ | (refine evL_g rfl ?_; try simp only [gs_tt, gs_ff, gs_tf, gs_ft]) | refine evL_u rfl ?_ | (with_reducible refine gsplit (fun hg => ?_) (fun hg => ?_) <;> try simp at hg)) <;> try simp [-List.map_set, hm, hk, hn, hb, hs1, hs2, hq1, hq2, hq3, hg0, hp0, hp1, hi1, hbi, he0, he1]) | (with_reducible refine And.intro ?_ ?_) | intro _ | (with_reducible assumption) | omega
                  all_goals (refine Fin.go hK ?_; clear hK K)
                  all_goals
                    (try simp [hm, hk, hn, hb, badM2, *]) <;> (first | omega | (simp; done) | (rw [Bool.eq_iff_iff]; simp only [Bool.or_eq_true, Bool.and_eq_true, Bool.not_eq_true', decide_eq_true_eq, decide_eq_false_iff_not]; omega) | (clear hq1 hq2 hq3 hs1 hs2 hg0 hE; grind) | (simp_all; done) | (simp_all; omega))
                · simp only [over, List.foldl, List.set]
                  refine Run.cond rfl (fun h98 => ?_) (fun h98 => ?_)
                  · try simp at h98
                    refine Run.seq ?_
                    refine opsF oo1 fun K hK => ?_
                    try simp
                    repeat' first | ((refine evL_c ?_); simp [-List.map_set, hm, hk, hn, hb, hs1, hs2, hq1, hq2, hq3, hg0, hp0, hp1, hi1, hbi, he0, he1]) | (with_reducible refine And.intro ?_ ?_) | intro _ | (with_reducible assumption) | omega
                    all_goals (refine Fin.go hK ?_; clear hK K)
                    simp only [Then_normal]
                    refine Run.ret ?_
                    try simp only [Then_ret, Blok_ret]
                    first
                      | (have e : meetB c p b = false := by simp [meetB, h33]
                         simp [meetR, e, h33, hn]; done)
                      | (have e1 : meetL c p.slot p.edges b = (false, bi) := by rw [hml, meetL_bad (by omega) (.inl h59)]
                         simp [meetR, meetB, e1, h33, hn]; done)
                      | (have e1 : meetL c p.slot p.edges b = (false, bi) := by rw [hml, meetL_bad (by omega) (.inr h98)]
                         simp [meetR, meetB, e1, h33, hn]; done)
                      | (have e1 : meetL c p.slot p.edges b = (true, bi) := by rw [hml, meetL_end (by omega)]
                         simp [-List.map_set, meetR, meetB, e1, h33, hn]; done)
                  · try simp at h98
                    refine Run.skip ?_
                    simp only [Then_normal]
                    refine opsF [⟨Op.move (Operand.tmp 2), some 99, none⟩, ⟨Op.fieldAddr 112 (Operand.tmp 3) 1, some 100, none⟩, ⟨Op.load 3 (Operand.tmp 100), some 101, none⟩, ⟨Op.move (Operand.tmp 8), some 102, none⟩, ⟨Op.binOp BinOp.add 3 (Operand.tmp 101) (Operand.tmp 102) 3, some 103, none⟩, ⟨Op.indexAddr 34 (Operand.tmp 99) (Operand.tmp 103), some 104, none⟩, ⟨Op.store 4 (Operand.tmp 104) (Operand.const (Value.bool true)), none, none⟩] fun K hK => ?_
                    try simp
                    repeat' first | ((refine evL_c ?_); simp [-List.map_set, hm, hk, hn, hb, hs1, hs2, hq1, hq2, hq3, hg0, hp0, hp1, hi1, hbi, he0, he1]) | (with_reducible refine And.intro ?_ ?_) | intro _ | (with_reducible assumption) | omega
                    all_goals (refine Fin.go hK ?_; clear hK K)
                    simp only [Blok_normal]
                    simp only [Then_normal]
                    refine opsF [⟨Op.binOp BinOp.add 3 (Operand.tmp 37) (Operand.const (Value.int IntKind.i64 1)) 3, some 105, none⟩, ⟨Op.move (Operand.tmp 105), some 37, none⟩] fun K hK => ?_
                    try simp
                    repeat' first | ((refine evL_c ?_); simp [-List.map_set, hm, hk, hn, hb, hs1, hs2, hq1, hq2, hq3, hg0, hp0, hp1, hi1, hbi, he0, he1]) | (with_reducible refine And.intro ?_ ?_) | intro _ | (with_reducible assumption) | omega
                    all_goals (refine Fin.go hK ?_; clear hK K)
                    refine ⟨(i + 1, bi.set ((n:Int) + rdI p.edges i).toNat true), ⟨by simp; omega, by simp [hbi], ?_⟩, by simp; omega, ?_⟩
                    · rw [hml, meetL_step (by omega) h59 h98, hn]
                    · simp (disch := omega) [wrap_id, -List.map_set, hn]
      · try simp at h38
        refine Run.exit ?_
        simp (decide := true) only [Then_exit, Blok_exit, if_true, if_false]
        simp only [Then_normal]
        refine Run.seq ?_
        refine opsF [⟨Op.move (Operand.tmp 2), some 106, none⟩, ⟨Op.fieldAddr 48 (Operand.tmp 4) 2, some 107, none⟩, ⟨Op.load 3 (Operand.tmp 107), some 108, none⟩, ⟨Op.indexAddr 34 (Operand.tmp 106) (Operand.tmp 108), some 109, none⟩, ⟨Op.store 4 (Operand.tmp 109) (Operand.const (Value.bool true)), none, none⟩] fun K hK => ?_
        try simp
        repeat' first | ((refine evL_c ?_); simp [-List.map_set, hm, hk, hn, hb, hs1, hs2, hq1, hq2, hq3, hg0, hp0, hp1, hbi]) | (with_reducible refine And.intro ?_ ?_) | intro _ | (with_reducible assumption) | omega
        all_goals (refine Fin.go hK ?_; clear hK K)
        simp only [Then_normal]
        refine Run.seq ?_
        refine opsF oo2 fun K hK => ?_
        try simp
        repeat' first | ((refine evL_c ?_); simp [-List.map_set, hm, hk, hn, hb, hs1, hs2, hq1, hq2, hq3, hg0, hp0, hp1, hbi]) | (with_reducible refine And.intro ?_ ?_) | intro _ | (with_reducible assumption) | omega
        all_goals (refine Fin.go hK ?_; clear hK K)
        simp only [Then_normal]
        refine Run.ret ?_
        try simp only [Then_ret, Blok_ret]
        first
          | (have e : meetB c p b = false := by simp [meetB, h33]
             simp [meetR, e, h33, hn]; done)
          | (have e1 : meetL c p.slot p.edges b = (false, bi) := by rw [hml, meetL_bad (by omega) (.inl h59)]
             simp [meetR, meetB, e1, h33, hn]; done)
          | (have e1 : meetL c p.slot p.edges b = (false, bi) := by rw [hml, meetL_bad (by omega) (.inr h98)]
             simp [meetR, meetB, e1, h33, hn]; done)
          | (have e1 : meetL c p.slot p.edges b = (true, bi) := by rw [hml, meetL_end (by omega)]
             simp [-List.map_set, meetR, meetB, e1, h33, hn]; done)


end Go.Proofs.Ytimgbdkgjfbhkaa.Z
end
section
set_option maxRecDepth 100000
namespace Go.Proofs.Ytimgbdkgjfbhkaa.Z
open Go Go.Fw
def wants (op : Int) : Option Nat := if op = 1 then some 0 else if op = 2 then some 1 else if op = 3 then some 1 else if op = 4 then some 2 else if op = 5 then some 1 else if op = 6 then some 1 else none
/-- a Join's second kid's, behind so many slots of the first one's -/
def jn (n : Int) (a b : List Bool) : Nat → Bool × List Bool
  | 0 => (true, b)
  | i + 1 => ((jn n a b i).1 && !(rdI a i && (rdI (jn n a b i).2 i && decide (n ≤ i))), (jn n a b i).2.set i (rdI (jn n a b i).2 i || rdI a i))
def opS (c : CoreT) (p : PlanT) (bs : List (List Bool)) : Option (List Bool) :=
  if p.op = 1 then (if 0 ≤ p.slot ∧ p.slot < c.nodes.length then some ((List.replicate (c.nodes.length + c.edges.length) false).set p.slot.toNat true) else none)
  else if p.op = 2 ∨ p.op = 3 then (if edgeB c p (bs.getD 0 []) then some (edgeL c p (bs.getD 0 [])) else none)
  else if p.op = 4 then (if (jn c.nodes.length (bs.getD 0 []) (bs.getD 1 []) (c.nodes.length + c.edges.length)).1 then some (jn c.nodes.length (bs.getD 0 []) (bs.getD 1 []) (c.nodes.length + c.edges.length)).2 else none)
  else if p.op = 5 then (if meetB c p (bs.getD 0 []) then some (meetR c p (bs.getD 0 [])) else none)
  else if p.terms.all (bindsS (bs.getD 0 [])) then some (bs.getD 0 []) else none
mutual
def bndT (c : CoreT) : PlanT → Option (List Bool)
  | .mk o k s e b t => if wants o = some k.length then (bndL c k).bind (opS c (.mk o k s e b t)) else none
def bndL (c : CoreT) : List PlanT → Option (List (List Bool))
  | [] => some []
  | p :: r => (bndT c p).bind fun b => (bndL c r).map fun bs => b :: bs
end
theorem bndT_eq (c : CoreT) (p : PlanT) : bndT c p = if wants p.op = some p.kids.length then (bndL c p.kids).bind (opS c p) else none := by cases p; rw [bndT]; rfl
def resB : Option (List Bool) → V
  | none => vnil
  | some b => .rs 0 1 0 b.length
def stoB : Option (List Bool) → Store
  | none => []
  | some b => [(0, .data 1 (b.map encB))]
theorem pat_rng {c : CoreT} (h : patS c.nodes c.edges = true) : 1 ≤ c.nodes.length ∧ c.nodes.length ≤ 8 ∧ c.edges.length ≤ 8 := by
  simp [patS] at h; omega
theorem edgeL_len (c : CoreT) (p : PlanT) (b : List Bool) : (edgeL c p b).length = b.length := by unfold edgeL; split <;> simp
theorem meetL_len (c : CoreT) (s : Int) (l : List Int) (b : List Bool) : (meetL c s l b).2.length = b.length := by
  induction l generalizing b with
  | nil => rfl
  | cons e r ih => rw [meetL]; split <;> simp [ih]
theorem meetR_len (c : CoreT) (p : PlanT) (b : List Bool) : (meetR c p b).length = b.length := by
  unfold meetR; split
  · rfl
  · split <;> simp [meetL_len]
theorem jn_len (n : Int) (a b : List Bool) (i : Nat) : (jn n a b i).2.length = b.length := by
  induction i with
  | zero => rfl
  | succ i ih => simp [jn, ih]
end Go.Proofs.Ytimgbdkgjfbhkaa.Z
end
section
set_option maxRecDepth 100000
namespace Go.Proofs.Ytimgbdkgjfbhkaa.Z
open Go Go.Fw
set_option maxHeartbeats 4000000 in
theorem bound2_ok (c : CoreT) (p : PlanT) (hP : patS c.nodes c.edges = true) (hop : p.op = 2) (hkl : p.kids.length = 1) (IH : Snd P 43 [.d (.ag (encC c ++ [D.int c.nodes.length])), .d (.ag (encP (rdI p.kids 0)))] (resB (bndT c (rdI p.kids 0))) (stoB (bndT c (rdI p.kids 0)))) (b0 : List Bool) (hq : bndT c (rdI p.kids 0) = some b0) (hb0 : b0.length = c.nodes.length + c.edges.length) : Snd P 43 [.d (.ag (encC c ++ [D.int c.nodes.length])), .d (.ag (encP p))] (resB (opS c p [b0])) (stoB (opS c p [b0])) := by
  obtain ⟨hn1, hn8, hk8⟩ := pat_rng hP
  have hE := goodE_of hP
  obtain ⟨n, hn⟩ : ∃ k, c.nodes.length = k := ⟨_, rfl⟩
  obtain ⟨k, hk⟩ : ∃ k, c.edges.length = k := ⟨_, rfl⟩
  rw [hn] at hn1 hn8
  rw [hk] at hk8
  obtain ⟨fb, hfb⟩ : ∃ fb, List.replicate (n + k) false = fb := ⟨_, rfl⟩
  have hfl : fb.length = n + k := by rw [← hfb]; simp
  have hwd : ((n:Int) + k).toNat = n + k := by omega
  have hw : IntKind.i64.wrap ((n:Int) + k) = (n:Int) + k := wrap_id (by omega) (by omega)
  have hw1 : 0 < n + k := by omega
  have hw2 : (n:Int) + k ≤ 140737488355328 := by omega
  have hw3 : (0:Int) ≤ (n:Int) + k := by omega
  have hb0n : b0.length = n + k := by rw [hb0, hn, hk]
  simp only [hq, resB, stoB, encP_cells, hn, hb0n] at IH
  refine snd_of [5300] Try.func43 rfl (by kernel_rfl) Try.ntmps43 (by simp) ?_
  unfold Try.f43
  simp only [List.cons_append, List.nil_append, List.length_cons, List.length_nil, Nat.reduceAdd, Nat.reduceSub, List.replicate]
  refine Run.seq ?_
  refine opsF oo13 fun K hK => ?_
  try simp
  repeat' first | ((refine evL_c ?_); simp [-List.map_set, hn, hk, hop, hkl, hw, hwd, hfl, hw1, hw2, hw3]) | (with_reducible refine And.intro ?_ ?_) | intro _ | (with_reducible assumption) | omega
  all_goals (refine Fin.go hK ?_; clear hK K)
  simp only [Then_normal]
  refine Run.seq ?_
  refine opsF oo14 fun K hK => ?_
  try simp
  repeat' first | ((refine evL_c ?_); simp [-List.map_set, hn, hk, hop, hkl, hw, hwd, hfl, hw1, hw2, hw3]) | (with_reducible refine And.intro ?_ ?_) | intro _ | (with_reducible assumption) | omega
  all_goals (refine Fin.go hK ?_; clear hK K)
  simp only [Then_normal]
  refine Run.seq ?_
  refine Run.seq ?_
  refine opsF oo15 fun K hK => ?_
  try simp
  repeat' first | ((refine evL_c ?_); simp [-List.map_set, hn, hk, hop, hkl, hw, hwd, hfl, hw1, hw2, hw3]) | (with_reducible refine And.intro ?_ ?_) | intro _ | (with_reducible assumption) | omega
  all_goals (refine Fin.go hK ?_; clear hK K)
  simp only [Then_normal]
  refine Run.seq ?_
  refine opsF oo16 fun K hK => ?_
  try simp
  repeat' first | ((first | refine evL_c ?_ | (refine evL_g rfl ?_; try simp only [gs_tt, gs_ff, gs_tf, gs_ft]) | refine evL_u rfl ?_ | (with_reducible refine gsplit (fun hg => ?_) (fun hg => ?_) <;> try simp at hg)) <;> try simp [-List.map_set, hn, hk, hop, hkl, hw, hwd, hfl, hw1, hw2, hw3]) | (with_reducible refine And.intro ?_ ?_) | intro _ | (with_reducible assumption) | omega
  all_goals (refine Fin.go hK ?_; clear hK K)
  all_goals
    simp only [Then_normal]
    refine Run.cond rfl (fun h33 => ?_) (fun h33 => ?_)
    · simp at h33
    · skip
      refine Run.skip ?_
      simp only [Then_normal]
      refine Run.cut [8, 34, 35, 36, 37, 38, 39, 40, 41, 42] [(8, .rs 4300 1 0 1)] [(300, .vals ((encC c ++ [D.int c.nodes.length]).map .d)), (400, .vals ((encP p).map .d)), (4200, .data 1 (fb.map encB)), (4300, .vals [.rs 4200 1 0 (n + k)])] ?_ ?_
      · refine opsF oo17 fun K hK => ?_
        try simp
        repeat' first | ((refine evL_c ?_); simp [-List.map_set, hn, hk, hop, hkl, hw, hwd, hfl, hw1, hw2, hw3]) | (with_reducible refine And.intro ?_ ?_) | intro _ | (with_reducible assumption) | omega
        all_goals (refine Fin.go hK ?_; clear hK K)
        first | (simp [-List.map_set, hn, hk, hop, hkl, hw, hwd, hfl, hw1, hw2, hw3, ← hfb]; done)
      · simp only [over, List.foldl, List.set]
        refine Run.seq ?_
        refine Run.seq ?_
        refine opsF oo18 fun K hK => ?_
        try simp
        repeat' first | ((refine evL_c ?_); simp [-List.map_set, hn, hk, hop, hkl, hw, hwd, hfl, hw1, hw2, hw3]) | (with_reducible refine And.intro ?_ ?_) | intro _ | (with_reducible assumption) | omega
        all_goals (refine Fin.go hK ?_; clear hK K)
        simp only [Then_normal]
        refine Run.block ?_
        refine Run.loopO [4, 8, 10, 11, 46, 47, 48, 49, 50, 51, 52, 53, 54, 55, 56, 57, 58, 59] (fun (x : Nat) => [(46, .int x), (8, match x with | 0 => .rs 4300 1 0 1 | _ => .rs 5900 1 0 2)]) (fun (x : Nat) => match x with | 0 => [(300, .vals ((encC c ++ [D.int c.nodes.length]).map .d)), (400, .vals ((encP p).map .d)), (4200, .data 1 (fb.map encB)), (4300, .vals [.rs 4200 1 0 (n + k)])] | _ => [(300, .vals ((encC c ++ [D.int c.nodes.length]).map .d)), (400, .vals ((encP p).map .d)), (4200, .data 1 (fb.map encB)), (5300, .data 1 (b0.map encB)), (5900, .vals [.rs 4200 1 0 (n + k), .rs 5300 1 0 (n + k)])]) (fun (x : Nat) => x = 0 ∨ x = 1) (fun (x : Nat) => 1 - x) 0 (by simp) (by simp [-List.map_set, hn, hk, hop, hkl, hw, hwd, hfl, hw1, hw2, hw3]) fun x hx => ?_
        rcases hx with rfl | rfl
        · simp only [over, List.foldl, List.set]
          refine Run.seq ?_
          refine opsF oo19 fun K hK => ?_
          try simp
          repeat' first | ((refine evL_c ?_); simp [-List.map_set, hn, hk, hop, hkl, hw, hwd, hfl, hw1, hw2, hw3]) | (with_reducible refine And.intro ?_ ?_) | intro _ | (with_reducible assumption) | omega
          all_goals (refine Fin.go hK ?_; clear hK K)
          simp only [Then_normal]
          refine Run.seq ?_
          refine Run.cond rfl (fun h47 => ?_) (fun h47 => ?_)
          · skip
            refine Run.skip ?_
            simp only [Then_normal]
            refine Run.seq ?_
            refine Run.block ?_
            refine Run.seq ?_
            refine opsF oo20 fun K hK => ?_
            try simp
            repeat' first | ((refine evL_c ?_); simp [-List.map_set, hn, hk, hop, hkl, hw, hwd, hfl, hw1, hw2, hw3]) | (with_reducible refine And.intro ?_ ?_) | intro _ | (with_reducible assumption) | omega
            all_goals (refine Fin.go hK ?_; clear hK K)
            simp only [Then_normal]
            refine Run.seq ?_
            refine opsF oo21 fun K hK => ?_
            try simp
            repeat' first | (refine ecall (by have h := IH; exact h) rfl ?_) | ((refine evL_c ?_); simp [-List.map_set, hn, hk, hop, hkl, hw, hwd, hfl, hw1, hw2, hw3]) | (with_reducible refine And.intro ?_ ?_) | intro _ | (with_reducible assumption) | omega
            all_goals (refine Fin.go hK ?_; clear hK K)
            simp only [Then_normal]
            refine Run.seq ?_
            refine Run.seq ?_
            refine opsF oo22 fun K hK => ?_
            try simp
            repeat' first | ((refine evL_c ?_); simp [-List.map_set, hn, hk, hop, hkl, hw, hwd, hfl, hw1, hw2, hw3]) | (with_reducible refine And.intro ?_ ?_) | intro _ | (with_reducible assumption) | omega
            all_goals (refine Fin.go hK ?_; clear hK K)
            simp only [Then_normal]
            refine Run.cond rfl (fun h54 => ?_) (fun h54 => ?_)
            · simp at h54
            · skip
              refine Run.skip ?_
              simp only [Then_normal]
              refine opsF oo23 fun K hK => ?_
              try simp
              repeat' first | ((refine evL_c ?_); simp [-List.map_set, hn, hk, hop, hkl, hw, hwd, hfl, hw1, hw2, hw3]) | (with_reducible refine And.intro ?_ ?_) | intro _ | (with_reducible assumption) | omega
              all_goals (refine Fin.go hK ?_; clear hK K)
              simp only [Blok_normal]
              simp only [Then_normal]
              refine opsF oo24 fun K hK => ?_
              try simp
              repeat' first | ((refine evL_c ?_); simp [-List.map_set, hn, hk, hop, hkl, hw, hwd, hfl, hw1, hw2, hw3]) | (with_reducible refine And.intro ?_ ?_) | intro _ | (with_reducible assumption) | omega
              all_goals (refine Fin.go hK ?_; clear hK K)
              refine ⟨1, .inr rfl, by omega, ?_⟩
              simp (disch := omega) [-List.map_set, hn, hk, hop, hkl, hw, hwd, hfl, hw1, hw2, hw3, hb0, wrap_id]
          · simp at h47
        · simp only [over, List.foldl, List.set]
          refine Run.seq ?_
          refine opsF oo19 fun K hK => ?_
          try simp
          repeat' first | ((refine evL_c ?_); simp [-List.map_set, hn, hk, hop, hkl, hw, hwd, hfl, hw1, hw2, hw3]) | (with_reducible refine And.intro ?_ ?_) | intro _ | (with_reducible assumption) | omega
          all_goals (refine Fin.go hK ?_; clear hK K)
          simp only [Then_normal]
          refine Run.seq ?_
          refine Run.cond rfl (fun h47 => ?_) (fun h47 => ?_)
          · simp at h47
          · skip
            refine Run.exit ?_
            simp (decide := true) only [Then_exit, Blok_exit, if_true, if_false]
            simp only [Then_normal]
            refine Run.seq ?_
            refine opsF oo25 fun K hK => ?_
            try simp
            repeat' first | ((refine evL_c ?_); simp [-List.map_set, hn, hk, hop, hkl, hw, hwd, hfl, hw1, hw2, hw3]) | (with_reducible refine And.intro ?_ ?_) | intro _ | (with_reducible assumption) | omega
            all_goals (refine Fin.go hK ?_; clear hK K)
            simp only [Then_normal]
            refine Run.seq ?_
            refine opsF oo26 fun K hK => ?_
            try simp
            repeat' first | ((refine evL_c ?_); simp [-List.map_set, hn, hk, hop, hkl, hw, hwd, hfl, hw1, hw2, hw3]) | (with_reducible refine And.intro ?_ ?_) | intro _ | (with_reducible assumption) | omega
            all_goals (refine Fin.go hK ?_; clear hK K)
            simp only [Then_normal]
            refine Run.seq ?_
            refine Run.seq ?_
            refine opsF oo27 fun K hK => ?_
            try simp
            repeat' first | ((refine evL_c ?_); simp [-List.map_set, hn, hk, hop, hkl, hw, hwd, hfl, hw1, hw2, hw3]) | (with_reducible refine And.intro ?_ ?_) | intro _ | (with_reducible assumption) | omega
            all_goals (refine Fin.go hK ?_; clear hK K)
            simp only [Then_normal]
            refine Run.block ?_
            refine Run.seq ?_
            refine opsF oo28 fun K hK => ?_
            try simp
            repeat' first | ((refine evL_c ?_); simp [-List.map_set, hn, hk, hop, hkl, hw, hwd, hfl, hw1, hw2, hw3]) | (with_reducible refine And.intro ?_ ?_) | intro _ | (with_reducible assumption) | omega
            all_goals (refine Fin.go hK ?_; clear hK K)
            simp only [Then_normal]
            refine Run.cond rfl (fun h68 => ?_) (fun h68 => ?_)
            · simp at h68
            · skip
              refine Run.seq ?_
              refine Run.seq ?_
              refine opsF oo29 fun K hK => ?_
              try simp
              repeat' first | ((refine evL_c ?_); simp [-List.map_set, hn, hk, hop, hkl, hw, hwd, hfl, hw1, hw2, hw3]) | (with_reducible refine And.intro ?_ ?_) | intro _ | (with_reducible assumption) | omega
              all_goals (refine Fin.go hK ?_; clear hK K)
              simp only [Then_normal]
              refine Run.cond rfl (fun h85 => ?_) (fun h85 => ?_)
              · skip
                refine Run.skip ?_
                simp only [Then_normal]
                refine Run.cond rfl (fun h85 => ?_) (fun h85 => ?_)
                · skip
                  refine opsT oo30 fun K hK => ?_
                  try simp
                  repeat' first | (refine ecallW [5300] (by have h := edge_ok c p b0 hb0 hE; simp only [encP_cells, hop, hb0n, hn] at h; exact h) (by simp) (by simp) (by simp) ?_) | ((refine evL_c ?_); simp [-List.map_set, hn, hk, hop, hkl, hw, hwd, hfl, hw1, hw2, hw3]) | (with_reducible refine And.intro ?_ ?_) | intro _ | (with_reducible assumption) | omega
                  all_goals (refine Fin.go hK ?_; clear hK K)
                  simp only [Blok_normal]
                  simp only [Then_normal]
                  refine Run.seq ?_
                  refine Run.seq ?_
                  refine opsF oo31 fun K hK => ?_
                  try simp
                  repeat' first | ((refine evL_c ?_); simp [-List.map_set, hn, hk, hop, hkl, hw, hwd, hfl, hw1, hw2, hw3]) | (with_reducible refine And.intro ?_ ?_) | intro _ | (with_reducible assumption) | omega
                  all_goals (refine Fin.go hK ?_; clear hK K)
                  simp only [Then_normal]
                  refine Run.cond rfl (fun h145 => ?_) (fun h145 => ?_)
                  · try simp at h145
                    refine Run.seq ?_
                    refine opsF oo32 fun K hK => ?_
                    try simp
                    repeat' first | ((refine evL_c ?_); simp [-List.map_set, hn, hk, hop, hkl, hw, hwd, hfl, hw1, hw2, hw3]) | (with_reducible refine And.intro ?_ ?_) | intro _ | (with_reducible assumption) | omega
                    all_goals (refine Fin.go hK ?_; clear hK K)
                    simp only [Then_normal]
                    refine Run.drop [] (by simp) ?_
                    refine Run.ret ?_
                    try simp only [Then_ret, Blok_ret]
                    first
                      | (have e : opS c p [b0] = none := by simp [opS, hop, h145]
                         rw [e]
                         simp [resB, stoB, hn]; done)
                      | (have e : opS c p [b0] = some (edgeL c p b0) := by simp [opS, hop, h145]
                         rw [e]
                         simp [-List.map_set, resB, stoB, hn, hb0n, edgeL_len]; done)
                  · try simp at h145
                    refine Run.skip ?_
                    simp only [Then_normal]
                    refine Run.seq ?_
                    refine opsF oo33 fun K hK => ?_
                    try simp
                    repeat' first | ((refine evL_c ?_); simp [-List.map_set, hn, hk, hop, hkl, hw, hwd, hfl, hw1, hw2, hw3]) | (with_reducible refine And.intro ?_ ?_) | intro _ | (with_reducible assumption) | omega
                    all_goals (refine Fin.go hK ?_; clear hK K)
                    simp only [Then_normal]
                    refine Run.ret ?_
                    try simp only [Then_ret, Blok_ret]
                    first
                      | (have e : opS c p [b0] = none := by simp [opS, hop, h145]
                         rw [e]
                         simp [resB, stoB, hn]; done)
                      | (have e : opS c p [b0] = some (edgeL c p b0) := by simp [opS, hop, h145]
                         rw [e]
                         simp [-List.map_set, resB, stoB, hn, hb0n, edgeL_len]; done)
                · simp at h85
              · simp at h85

set_option maxHeartbeats 4000000 in
theorem bound3_ok (c : CoreT) (p : PlanT) (hP : patS c.nodes c.edges = true) (hop : p.op = 3) (hkl : p.kids.length = 1) (IH : Snd P 43 [.d (.ag (encC c ++ [D.int c.nodes.length])), .d (.ag (encP (rdI p.kids 0)))] (resB (bndT c (rdI p.kids 0))) (stoB (bndT c (rdI p.kids 0)))) (b0 : List Bool) (hq : bndT c (rdI p.kids 0) = some b0) (hb0 : b0.length = c.nodes.length + c.edges.length) : Snd P 43 [.d (.ag (encC c ++ [D.int c.nodes.length])), .d (.ag (encP p))] (resB (opS c p [b0])) (stoB (opS c p [b0])) := by
  obtain ⟨hn1, hn8, hk8⟩ := pat_rng hP
  have hE := goodE_of hP
  obtain ⟨n, hn⟩ : ∃ k, c.nodes.length = k := ⟨_, rfl⟩
  obtain ⟨k, hk⟩ : ∃ k, c.edges.length = k := ⟨_, rfl⟩
  rw [hn] at hn1 hn8
  rw [hk] at hk8
  obtain ⟨fb, hfb⟩ : ∃ fb, List.replicate (n + k) false = fb := ⟨_, rfl⟩
  have hfl : fb.length = n + k := by rw [← hfb]; simp
  have hwd : ((n:Int) + k).toNat = n + k := by omega
  have hw : IntKind.i64.wrap ((n:Int) + k) = (n:Int) + k := wrap_id (by omega) (by omega)
  have hw1 : 0 < n + k := by omega
  have hw2 : (n:Int) + k ≤ 140737488355328 := by omega
  have hw3 : (0:Int) ≤ (n:Int) + k := by omega
  have hb0n : b0.length = n + k := by rw [hb0, hn, hk]
  simp only [hq, resB, stoB, encP_cells, hn, hb0n] at IH
  refine snd_of [5300] Try.func43 rfl (by kernel_rfl) Try.ntmps43 (by simp) ?_
  unfold Try.f43
  simp only [List.cons_append, List.nil_append, List.length_cons, List.length_nil, Nat.reduceAdd, Nat.reduceSub, List.replicate]
  refine Run.seq ?_
  refine opsF oo13 fun K hK => ?_
  try simp
  repeat' first | ((refine evL_c ?_); simp [-List.map_set, hn, hk, hop, hkl, hw, hwd, hfl, hw1, hw2, hw3]) | (with_reducible refine And.intro ?_ ?_) | intro _ | (with_reducible assumption) | omega
  all_goals (refine Fin.go hK ?_; clear hK K)
  simp only [Then_normal]
  refine Run.seq ?_
  refine opsF oo14 fun K hK => ?_
  try simp
  repeat' first | ((refine evL_c ?_); simp [-List.map_set, hn, hk, hop, hkl, hw, hwd, hfl, hw1, hw2, hw3]) | (with_reducible refine And.intro ?_ ?_) | intro _ | (with_reducible assumption) | omega
  all_goals (refine Fin.go hK ?_; clear hK K)
  simp only [Then_normal]
  refine Run.seq ?_
  refine Run.seq ?_
  refine opsF oo15 fun K hK => ?_
  try simp
  repeat' first | ((refine evL_c ?_); simp [-List.map_set, hn, hk, hop, hkl, hw, hwd, hfl, hw1, hw2, hw3]) | (with_reducible refine And.intro ?_ ?_) | intro _ | (with_reducible assumption) | omega
  all_goals (refine Fin.go hK ?_; clear hK K)
  simp only [Then_normal]
  refine Run.seq ?_
  refine opsF oo16 fun K hK => ?_
  try simp
  repeat' first | ((first | refine evL_c ?_ | (refine evL_g rfl ?_; try simp only [gs_tt, gs_ff, gs_tf, gs_ft]) | refine evL_u rfl ?_ | (with_reducible refine gsplit (fun hg => ?_) (fun hg => ?_) <;> try simp at hg)) <;> try simp [-List.map_set, hn, hk, hop, hkl, hw, hwd, hfl, hw1, hw2, hw3]) | (with_reducible refine And.intro ?_ ?_) | intro _ | (with_reducible assumption) | omega
  all_goals (refine Fin.go hK ?_; clear hK K)
  all_goals
    simp only [Then_normal]
    refine Run.cond rfl (fun h33 => ?_) (fun h33 => ?_)
    · simp at h33
    · skip
      refine Run.skip ?_
      simp only [Then_normal]
      refine Run.cut [8, 34, 35, 36, 37, 38, 39, 40, 41, 42] [(8, .rs 4300 1 0 1)] [(300, .vals ((encC c ++ [D.int c.nodes.length]).map .d)), (400, .vals ((encP p).map .d)), (4200, .data 1 (fb.map encB)), (4300, .vals [.rs 4200 1 0 (n + k)])] ?_ ?_
      · refine opsF oo17 fun K hK => ?_
        try simp
        repeat' first | ((refine evL_c ?_); simp [-List.map_set, hn, hk, hop, hkl, hw, hwd, hfl, hw1, hw2, hw3]) | (with_reducible refine And.intro ?_ ?_) | intro _ | (with_reducible assumption) | omega
        all_goals (refine Fin.go hK ?_; clear hK K)
        first | (simp [-List.map_set, hn, hk, hop, hkl, hw, hwd, hfl, hw1, hw2, hw3, ← hfb]; done)
      · simp only [over, List.foldl, List.set]
        refine Run.seq ?_
        refine Run.seq ?_
        refine opsF oo18 fun K hK => ?_
        try simp
        repeat' first | ((refine evL_c ?_); simp [-List.map_set, hn, hk, hop, hkl, hw, hwd, hfl, hw1, hw2, hw3]) | (with_reducible refine And.intro ?_ ?_) | intro _ | (with_reducible assumption) | omega
        all_goals (refine Fin.go hK ?_; clear hK K)
        simp only [Then_normal]
        refine Run.block ?_
        refine Run.loopO [4, 8, 10, 11, 46, 47, 48, 49, 50, 51, 52, 53, 54, 55, 56, 57, 58, 59] (fun (x : Nat) => [(46, .int x), (8, match x with | 0 => .rs 4300 1 0 1 | _ => .rs 5900 1 0 2)]) (fun (x : Nat) => match x with | 0 => [(300, .vals ((encC c ++ [D.int c.nodes.length]).map .d)), (400, .vals ((encP p).map .d)), (4200, .data 1 (fb.map encB)), (4300, .vals [.rs 4200 1 0 (n + k)])] | _ => [(300, .vals ((encC c ++ [D.int c.nodes.length]).map .d)), (400, .vals ((encP p).map .d)), (4200, .data 1 (fb.map encB)), (5300, .data 1 (b0.map encB)), (5900, .vals [.rs 4200 1 0 (n + k), .rs 5300 1 0 (n + k)])]) (fun (x : Nat) => x = 0 ∨ x = 1) (fun (x : Nat) => 1 - x) 0 (by simp) (by simp [-List.map_set, hn, hk, hop, hkl, hw, hwd, hfl, hw1, hw2, hw3]) fun x hx => ?_
        rcases hx with rfl | rfl
        · simp only [over, List.foldl, List.set]
          refine Run.seq ?_
          refine opsF oo19 fun K hK => ?_
          try simp
          repeat' first | ((refine evL_c ?_); simp [-List.map_set, hn, hk, hop, hkl, hw, hwd, hfl, hw1, hw2, hw3]) | (with_reducible refine And.intro ?_ ?_) | intro _ | (with_reducible assumption) | omega
          all_goals (refine Fin.go hK ?_; clear hK K)
          simp only [Then_normal]
          refine Run.seq ?_
          refine Run.cond rfl (fun h47 => ?_) (fun h47 => ?_)
          · skip
            refine Run.skip ?_
            simp only [Then_normal]
            refine Run.seq ?_
            refine Run.block ?_
            refine Run.seq ?_
            refine opsF oo20 fun K hK => ?_
            try simp
            repeat' first | ((refine evL_c ?_); simp [-List.map_set, hn, hk, hop, hkl, hw, hwd, hfl, hw1, hw2, hw3]) | (with_reducible refine And.intro ?_ ?_) | intro _ | (with_reducible assumption) | omega
            all_goals (refine Fin.go hK ?_; clear hK K)
            simp only [Then_normal]
            refine Run.seq ?_
            refine opsF oo21 fun K hK => ?_
            try simp
            repeat' first | (refine ecall (by have h := IH; exact h) rfl ?_) | ((refine evL_c ?_); simp [-List.map_set, hn, hk, hop, hkl, hw, hwd, hfl, hw1, hw2, hw3]) | (with_reducible refine And.intro ?_ ?_) | intro _ | (with_reducible assumption) | omega
            all_goals (refine Fin.go hK ?_; clear hK K)
            simp only [Then_normal]
            refine Run.seq ?_
            refine Run.seq ?_
            refine opsF oo22 fun K hK => ?_
            try simp
            repeat' first | ((refine evL_c ?_); simp [-List.map_set, hn, hk, hop, hkl, hw, hwd, hfl, hw1, hw2, hw3]) | (with_reducible refine And.intro ?_ ?_) | intro _ | (with_reducible assumption) | omega
            all_goals (refine Fin.go hK ?_; clear hK K)
            simp only [Then_normal]
            refine Run.cond rfl (fun h54 => ?_) (fun h54 => ?_)
            · simp at h54
            · skip
              refine Run.skip ?_
              simp only [Then_normal]
              refine opsF oo23 fun K hK => ?_
              try simp
              repeat' first | ((refine evL_c ?_); simp [-List.map_set, hn, hk, hop, hkl, hw, hwd, hfl, hw1, hw2, hw3]) | (with_reducible refine And.intro ?_ ?_) | intro _ | (with_reducible assumption) | omega
              all_goals (refine Fin.go hK ?_; clear hK K)
              simp only [Blok_normal]
              simp only [Then_normal]
              refine opsF oo24 fun K hK => ?_
              try simp
              repeat' first | ((refine evL_c ?_); simp [-List.map_set, hn, hk, hop, hkl, hw, hwd, hfl, hw1, hw2, hw3]) | (with_reducible refine And.intro ?_ ?_) | intro _ | (with_reducible assumption) | omega
              all_goals (refine Fin.go hK ?_; clear hK K)
              refine ⟨1, .inr rfl, by omega, ?_⟩
              simp (disch := omega) [-List.map_set, hn, hk, hop, hkl, hw, hwd, hfl, hw1, hw2, hw3, hb0, wrap_id]
          · simp at h47
        · simp only [over, List.foldl, List.set]
          refine Run.seq ?_
          refine opsF oo19 fun K hK => ?_
          try simp
          repeat' first | ((refine evL_c ?_); simp [-List.map_set, hn, hk, hop, hkl, hw, hwd, hfl, hw1, hw2, hw3]) | (with_reducible refine And.intro ?_ ?_) | intro _ | (with_reducible assumption) | omega
          all_goals (refine Fin.go hK ?_; clear hK K)
          simp only [Then_normal]
          refine Run.seq ?_
          refine Run.cond rfl (fun h47 => ?_) (fun h47 => ?_)
          · simp at h47
          · skip
            refine Run.exit ?_
            simp (decide := true) only [Then_exit, Blok_exit, if_true, if_false]
            simp only [Then_normal]
            refine Run.seq ?_
            refine opsF oo25 fun K hK => ?_
            try simp
            repeat' first | ((refine evL_c ?_); simp [-List.map_set, hn, hk, hop, hkl, hw, hwd, hfl, hw1, hw2, hw3]) | (with_reducible refine And.intro ?_ ?_) | intro _ | (with_reducible assumption) | omega
            all_goals (refine Fin.go hK ?_; clear hK K)
            simp only [Then_normal]
            refine Run.seq ?_
            refine opsF oo26 fun K hK => ?_
            try simp
            repeat' first | ((refine evL_c ?_); simp [-List.map_set, hn, hk, hop, hkl, hw, hwd, hfl, hw1, hw2, hw3]) | (with_reducible refine And.intro ?_ ?_) | intro _ | (with_reducible assumption) | omega
            all_goals (refine Fin.go hK ?_; clear hK K)
            simp only [Then_normal]
            refine Run.seq ?_
            refine Run.seq ?_
            refine opsF oo27 fun K hK => ?_
            try simp
            repeat' first | ((refine evL_c ?_); simp [-List.map_set, hn, hk, hop, hkl, hw, hwd, hfl, hw1, hw2, hw3]) | (with_reducible refine And.intro ?_ ?_) | intro _ | (with_reducible assumption) | omega
            all_goals (refine Fin.go hK ?_; clear hK K)
            simp only [Then_normal]
            refine Run.block ?_
            refine Run.seq ?_
            refine opsF oo28 fun K hK => ?_
            try simp
            repeat' first | ((refine evL_c ?_); simp [-List.map_set, hn, hk, hop, hkl, hw, hwd, hfl, hw1, hw2, hw3]) | (with_reducible refine And.intro ?_ ?_) | intro _ | (with_reducible assumption) | omega
            all_goals (refine Fin.go hK ?_; clear hK K)
            simp only [Then_normal]
            refine Run.cond rfl (fun h68 => ?_) (fun h68 => ?_)
            · simp at h68
            · skip
              refine Run.seq ?_
              refine Run.seq ?_
              refine opsF oo29 fun K hK => ?_
              try simp
              repeat' first | ((refine evL_c ?_); simp [-List.map_set, hn, hk, hop, hkl, hw, hwd, hfl, hw1, hw2, hw3]) | (with_reducible refine And.intro ?_ ?_) | intro _ | (with_reducible assumption) | omega
              all_goals (refine Fin.go hK ?_; clear hK K)
              simp only [Then_normal]
              refine Run.cond rfl (fun h85 => ?_) (fun h85 => ?_)
              · simp at h85
              · skip
                refine opsF oo34 fun K hK => ?_
                try simp
                repeat' first | ((refine evL_c ?_); simp [-List.map_set, hn, hk, hop, hkl, hw, hwd, hfl, hw1, hw2, hw3]) | (with_reducible refine And.intro ?_ ?_) | intro _ | (with_reducible assumption) | omega
                all_goals (refine Fin.go hK ?_; clear hK K)
                simp only [Then_normal]
                refine Run.cond rfl (fun h85 => ?_) (fun h85 => ?_)
                · skip
                  refine opsT oo30 fun K hK => ?_
                  try simp
                  repeat' first | (refine ecallW [5300] (by have h := edge_ok c p b0 hb0 hE; simp only [encP_cells, hop, hb0n, hn] at h; exact h) (by simp) (by simp) (by simp) ?_) | ((refine evL_c ?_); simp [-List.map_set, hn, hk, hop, hkl, hw, hwd, hfl, hw1, hw2, hw3]) | (with_reducible refine And.intro ?_ ?_) | intro _ | (with_reducible assumption) | omega
                  all_goals (refine Fin.go hK ?_; clear hK K)
                  simp only [Blok_normal]
                  simp only [Then_normal]
                  refine Run.seq ?_
                  refine Run.seq ?_
                  refine opsF oo31 fun K hK => ?_
                  try simp
                  repeat' first | ((refine evL_c ?_); simp [-List.map_set, hn, hk, hop, hkl, hw, hwd, hfl, hw1, hw2, hw3]) | (with_reducible refine And.intro ?_ ?_) | intro _ | (with_reducible assumption) | omega
                  all_goals (refine Fin.go hK ?_; clear hK K)
                  simp only [Then_normal]
                  refine Run.cond rfl (fun h145 => ?_) (fun h145 => ?_)
                  · try simp at h145
                    refine Run.seq ?_
                    refine opsF oo32 fun K hK => ?_
                    try simp
                    repeat' first | ((refine evL_c ?_); simp [-List.map_set, hn, hk, hop, hkl, hw, hwd, hfl, hw1, hw2, hw3]) | (with_reducible refine And.intro ?_ ?_) | intro _ | (with_reducible assumption) | omega
                    all_goals (refine Fin.go hK ?_; clear hK K)
                    simp only [Then_normal]
                    refine Run.drop [] (by simp) ?_
                    refine Run.ret ?_
                    try simp only [Then_ret, Blok_ret]
                    first
                      | (have e : opS c p [b0] = none := by simp [opS, hop, h145]
                         rw [e]
                         simp [resB, stoB, hn]; done)
                      | (have e : opS c p [b0] = some (edgeL c p b0) := by simp [opS, hop, h145]
                         rw [e]
                         simp [-List.map_set, resB, stoB, hn, hb0n, edgeL_len]; done)
                  · try simp at h145
                    refine Run.skip ?_
                    simp only [Then_normal]
                    refine Run.seq ?_
                    refine opsF oo33 fun K hK => ?_
                    try simp
                    repeat' first | ((refine evL_c ?_); simp [-List.map_set, hn, hk, hop, hkl, hw, hwd, hfl, hw1, hw2, hw3]) | (with_reducible refine And.intro ?_ ?_) | intro _ | (with_reducible assumption) | omega
                    all_goals (refine Fin.go hK ?_; clear hK K)
                    simp only [Then_normal]
                    refine Run.ret ?_
                    try simp only [Then_ret, Blok_ret]
                    first
                      | (have e : opS c p [b0] = none := by simp [opS, hop, h145]
                         rw [e]
                         simp [resB, stoB, hn]; done)
                      | (have e : opS c p [b0] = some (edgeL c p b0) := by simp [opS, hop, h145]
                         rw [e]
                         simp [-List.map_set, resB, stoB, hn, hb0n, edgeL_len]; done)
                · simp at h85

set_option maxHeartbeats 4000000 in
theorem bound5_ok (c : CoreT) (p : PlanT) (hP : patS c.nodes c.edges = true) (hop : p.op = 5) (hkl : p.kids.length = 1) (IH : Snd P 43 [.d (.ag (encC c ++ [D.int c.nodes.length])), .d (.ag (encP (rdI p.kids 0)))] (resB (bndT c (rdI p.kids 0))) (stoB (bndT c (rdI p.kids 0)))) (b0 : List Bool) (hq : bndT c (rdI p.kids 0) = some b0) (hb0 : b0.length = c.nodes.length + c.edges.length) : Snd P 43 [.d (.ag (encC c ++ [D.int c.nodes.length])), .d (.ag (encP p))] (resB (opS c p [b0])) (stoB (opS c p [b0])) := by
  obtain ⟨hn1, hn8, hk8⟩ := pat_rng hP
  have hE := goodE_of hP
  obtain ⟨n, hn⟩ : ∃ k, c.nodes.length = k := ⟨_, rfl⟩
  obtain ⟨k, hk⟩ : ∃ k, c.edges.length = k := ⟨_, rfl⟩
  rw [hn] at hn1 hn8
  rw [hk] at hk8
  obtain ⟨fb, hfb⟩ : ∃ fb, List.replicate (n + k) false = fb := ⟨_, rfl⟩
  have hfl : fb.length = n + k := by rw [← hfb]; simp
  have hwd : ((n:Int) + k).toNat = n + k := by omega
  have hw : IntKind.i64.wrap ((n:Int) + k) = (n:Int) + k := wrap_id (by omega) (by omega)
  have hw1 : 0 < n + k := by omega
  have hw2 : (n:Int) + k ≤ 140737488355328 := by omega
  have hw3 : (0:Int) ≤ (n:Int) + k := by omega
  have hb0n : b0.length = n + k := by rw [hb0, hn, hk]
  simp only [hq, resB, stoB, encP_cells, hn, hb0n] at IH
  refine snd_of [5300] Try.func43 rfl (by kernel_rfl) Try.ntmps43 (by simp) ?_
  unfold Try.f43
  simp only [List.cons_append, List.nil_append, List.length_cons, List.length_nil, Nat.reduceAdd, Nat.reduceSub, List.replicate]
  refine Run.seq ?_
  refine opsF oo13 fun K hK => ?_
  try simp
  repeat' first | ((refine evL_c ?_); simp [-List.map_set, hn, hk, hop, hkl, hw, hwd, hfl, hw1, hw2, hw3]) | (with_reducible refine And.intro ?_ ?_) | intro _ | (with_reducible assumption) | omega
  all_goals (refine Fin.go hK ?_; clear hK K)
  simp only [Then_normal]
  refine Run.seq ?_
  refine opsF oo14 fun K hK => ?_
  try simp
  repeat' first | ((refine evL_c ?_); simp [-List.map_set, hn, hk, hop, hkl, hw, hwd, hfl, hw1, hw2, hw3]) | (with_reducible refine And.intro ?_ ?_) | intro _ | (with_reducible assumption) | omega
  all_goals (refine Fin.go hK ?_; clear hK K)
  simp only [Then_normal]
  refine Run.seq ?_
  refine Run.seq ?_
  refine opsF oo15 fun K hK => ?_
  try simp
  repeat' first | ((refine evL_c ?_); simp [-List.map_set, hn, hk, hop, hkl, hw, hwd, hfl, hw1, hw2, hw3]) | (with_reducible refine And.intro ?_ ?_) | intro _ | (with_reducible assumption) | omega
  all_goals (refine Fin.go hK ?_; clear hK K)
  simp only [Then_normal]
  refine Run.seq ?_
  refine opsF oo16 fun K hK => ?_
  try simp
  repeat' first | ((first | refine evL_c ?_ | (refine evL_g rfl ?_; try simp only [gs_tt, gs_ff, gs_tf, gs_ft]) | refine evL_u rfl ?_ | (with_reducible refine gsplit (fun hg => ?_) (fun hg => ?_) <;> try simp at hg)) <;> try simp [-List.map_set, hn, hk, hop, hkl, hw, hwd, hfl, hw1, hw2, hw3]) | (with_reducible refine And.intro ?_ ?_) | intro _ | (with_reducible assumption) | omega
  all_goals (refine Fin.go hK ?_; clear hK K)
  all_goals
    simp only [Then_normal]
    refine Run.cond rfl (fun h33 => ?_) (fun h33 => ?_)
    · simp at h33
    · skip
      refine Run.skip ?_
      simp only [Then_normal]
      refine Run.cut [8, 34, 35, 36, 37, 38, 39, 40, 41, 42] [(8, .rs 4300 1 0 1)] [(300, .vals ((encC c ++ [D.int c.nodes.length]).map .d)), (400, .vals ((encP p).map .d)), (4200, .data 1 (fb.map encB)), (4300, .vals [.rs 4200 1 0 (n + k)])] ?_ ?_
      · refine opsF oo17 fun K hK => ?_
        try simp
        repeat' first | ((refine evL_c ?_); simp [-List.map_set, hn, hk, hop, hkl, hw, hwd, hfl, hw1, hw2, hw3]) | (with_reducible refine And.intro ?_ ?_) | intro _ | (with_reducible assumption) | omega
        all_goals (refine Fin.go hK ?_; clear hK K)
        first | (simp [-List.map_set, hn, hk, hop, hkl, hw, hwd, hfl, hw1, hw2, hw3, ← hfb]; done)
      · simp only [over, List.foldl, List.set]
        refine Run.seq ?_
        refine Run.seq ?_
        refine opsF oo18 fun K hK => ?_
        try simp
        repeat' first | ((refine evL_c ?_); simp [-List.map_set, hn, hk, hop, hkl, hw, hwd, hfl, hw1, hw2, hw3]) | (with_reducible refine And.intro ?_ ?_) | intro _ | (with_reducible assumption) | omega
        all_goals (refine Fin.go hK ?_; clear hK K)
        simp only [Then_normal]
        refine Run.block ?_
        refine Run.loopO [4, 8, 10, 11, 46, 47, 48, 49, 50, 51, 52, 53, 54, 55, 56, 57, 58, 59] (fun (x : Nat) => [(46, .int x), (8, match x with | 0 => .rs 4300 1 0 1 | _ => .rs 5900 1 0 2)]) (fun (x : Nat) => match x with | 0 => [(300, .vals ((encC c ++ [D.int c.nodes.length]).map .d)), (400, .vals ((encP p).map .d)), (4200, .data 1 (fb.map encB)), (4300, .vals [.rs 4200 1 0 (n + k)])] | _ => [(300, .vals ((encC c ++ [D.int c.nodes.length]).map .d)), (400, .vals ((encP p).map .d)), (4200, .data 1 (fb.map encB)), (5300, .data 1 (b0.map encB)), (5900, .vals [.rs 4200 1 0 (n + k), .rs 5300 1 0 (n + k)])]) (fun (x : Nat) => x = 0 ∨ x = 1) (fun (x : Nat) => 1 - x) 0 (by simp) (by simp [-List.map_set, hn, hk, hop, hkl, hw, hwd, hfl, hw1, hw2, hw3]) fun x hx => ?_
        rcases hx with rfl | rfl
        · simp only [over, List.foldl, List.set]
          refine Run.seq ?_
          refine opsF oo19 fun K hK => ?_
          try simp
          repeat' first | ((refine evL_c ?_); simp [-List.map_set, hn, hk, hop, hkl, hw, hwd, hfl, hw1, hw2, hw3]) | (with_reducible refine And.intro ?_ ?_) | intro _ | (with_reducible assumption) | omega
          all_goals (refine Fin.go hK ?_; clear hK K)
          simp only [Then_normal]
          refine Run.seq ?_
          refine Run.cond rfl (fun h47 => ?_) (fun h47 => ?_)
          · skip
            refine Run.skip ?_
            simp only [Then_normal]
            refine Run.seq ?_
            refine Run.block ?_
            refine Run.seq ?_
            refine opsF oo20 fun K hK => ?_
            try simp
            repeat' first | ((refine evL_c ?_); simp [-List.map_set, hn, hk, hop, hkl, hw, hwd, hfl, hw1, hw2, hw3]) | (with_reducible refine And.intro ?_ ?_) | intro _ | (with_reducible assumption) | omega
            all_goals (refine Fin.go hK ?_; clear hK K)
            simp only [Then_normal]
            refine Run.seq ?_
            refine opsF oo21 fun K hK => ?_
            try simp
            repeat' first | (refine ecall (by have h := IH; exact h) rfl ?_) | ((refine evL_c ?_); simp [-List.map_set, hn, hk, hop, hkl, hw, hwd, hfl, hw1, hw2, hw3]) | (with_reducible refine And.intro ?_ ?_) | intro _ | (with_reducible assumption) | omega
            all_goals (refine Fin.go hK ?_; clear hK K)
            simp only [Then_normal]
            refine Run.seq ?_
            refine Run.seq ?_
            refine opsF oo22 fun K hK => ?_
            try simp
            repeat' first | ((refine evL_c ?_); simp [-List.map_set, hn, hk, hop, hkl, hw, hwd, hfl, hw1, hw2, hw3]) | (with_reducible refine And.intro ?_ ?_) | intro _ | (with_reducible assumption) | omega
            all_goals (refine Fin.go hK ?_; clear hK K)
            simp only [Then_normal]
            refine Run.cond rfl (fun h54 => ?_) (fun h54 => ?_)
            · simp at h54
            · skip
              refine Run.skip ?_
              simp only [Then_normal]
              refine opsF oo23 fun K hK => ?_
              try simp
              repeat' first | ((refine evL_c ?_); simp [-List.map_set, hn, hk, hop, hkl, hw, hwd, hfl, hw1, hw2, hw3]) | (with_reducible refine And.intro ?_ ?_) | intro _ | (with_reducible assumption) | omega
              all_goals (refine Fin.go hK ?_; clear hK K)
              simp only [Blok_normal]
              simp only [Then_normal]
              refine opsF oo24 fun K hK => ?_
              try simp
              repeat' first | ((refine evL_c ?_); simp [-List.map_set, hn, hk, hop, hkl, hw, hwd, hfl, hw1, hw2, hw3]) | (with_reducible refine And.intro ?_ ?_) | intro _ | (with_reducible assumption) | omega
              all_goals (refine Fin.go hK ?_; clear hK K)
              refine ⟨1, .inr rfl, by omega, ?_⟩
              simp (disch := omega) [-List.map_set, hn, hk, hop, hkl, hw, hwd, hfl, hw1, hw2, hw3, hb0, wrap_id]
          · simp at h47
        · simp only [over, List.foldl, List.set]
          refine Run.seq ?_
          refine opsF oo19 fun K hK => ?_
          try simp
          repeat' first | ((refine evL_c ?_); simp [-List.map_set, hn, hk, hop, hkl, hw, hwd, hfl, hw1, hw2, hw3]) | (with_reducible refine And.intro ?_ ?_) | intro _ | (with_reducible assumption) | omega
          all_goals (refine Fin.go hK ?_; clear hK K)
          simp only [Then_normal]
          refine Run.seq ?_
          refine Run.cond rfl (fun h47 => ?_) (fun h47 => ?_)
          · simp at h47
          · skip
            refine Run.exit ?_
            simp (decide := true) only [Then_exit, Blok_exit, if_true, if_false]
            simp only [Then_normal]
            refine Run.seq ?_
            refine opsF oo25 fun K hK => ?_
            try simp
            repeat' first | ((refine evL_c ?_); simp [-List.map_set, hn, hk, hop, hkl, hw, hwd, hfl, hw1, hw2, hw3]) | (with_reducible refine And.intro ?_ ?_) | intro _ | (with_reducible assumption) | omega
            all_goals (refine Fin.go hK ?_; clear hK K)
            simp only [Then_normal]
            refine Run.seq ?_
            refine opsF oo26 fun K hK => ?_
            try simp
            repeat' first | ((refine evL_c ?_); simp [-List.map_set, hn, hk, hop, hkl, hw, hwd, hfl, hw1, hw2, hw3]) | (with_reducible refine And.intro ?_ ?_) | intro _ | (with_reducible assumption) | omega
            all_goals (refine Fin.go hK ?_; clear hK K)
            simp only [Then_normal]
            refine Run.seq ?_
            refine Run.seq ?_
            refine opsF oo27 fun K hK => ?_
            try simp
            repeat' first | ((refine evL_c ?_); simp [-List.map_set, hn, hk, hop, hkl, hw, hwd, hfl, hw1, hw2, hw3]) | (with_reducible refine And.intro ?_ ?_) | intro _ | (with_reducible assumption) | omega
            all_goals (refine Fin.go hK ?_; clear hK K)
            simp only [Then_normal]
            refine Run.block ?_
            refine Run.seq ?_
            refine opsF oo28 fun K hK => ?_
            try simp
            repeat' first | ((refine evL_c ?_); simp [-List.map_set, hn, hk, hop, hkl, hw, hwd, hfl, hw1, hw2, hw3]) | (with_reducible refine And.intro ?_ ?_) | intro _ | (with_reducible assumption) | omega
            all_goals (refine Fin.go hK ?_; clear hK K)
            simp only [Then_normal]
            refine Run.cond rfl (fun h68 => ?_) (fun h68 => ?_)
            · simp at h68
            · skip
              refine Run.seq ?_
              refine Run.seq ?_
              refine opsF oo29 fun K hK => ?_
              try simp
              repeat' first | ((refine evL_c ?_); simp [-List.map_set, hn, hk, hop, hkl, hw, hwd, hfl, hw1, hw2, hw3]) | (with_reducible refine And.intro ?_ ?_) | intro _ | (with_reducible assumption) | omega
              all_goals (refine Fin.go hK ?_; clear hK K)
              simp only [Then_normal]
              refine Run.cond rfl (fun h85 => ?_) (fun h85 => ?_)
              · simp at h85
              · skip
                refine opsF oo34 fun K hK => ?_
                try simp
                repeat' first | ((refine evL_c ?_); simp [-List.map_set, hn, hk, hop, hkl, hw, hwd, hfl, hw1, hw2, hw3]) | (with_reducible refine And.intro ?_ ?_) | intro _ | (with_reducible assumption) | omega
                all_goals (refine Fin.go hK ?_; clear hK K)
                simp only [Then_normal]
                refine Run.cond rfl (fun h85 => ?_) (fun h85 => ?_)
                · simp at h85
                · skip
                  refine Run.seq ?_
                  refine opsF oo35 fun K hK => ?_
                  try simp
                  repeat' first | ((refine evL_c ?_); simp [-List.map_set, hn, hk, hop, hkl, hw, hwd, hfl, hw1, hw2, hw3]) | (with_reducible refine And.intro ?_ ?_) | intro _ | (with_reducible assumption) | omega
                  all_goals (refine Fin.go hK ?_; clear hK K)
                  simp only [Then_normal]
                  refine Run.cond rfl (fun h92 => ?_) (fun h92 => ?_)
                  · simp at h92
                  · skip
                    refine Run.seq ?_
                    refine opsF oo36 fun K hK => ?_
                    try simp
                    repeat' first | ((refine evL_c ?_); simp [-List.map_set, hn, hk, hop, hkl, hw, hwd, hfl, hw1, hw2, hw3]) | (with_reducible refine And.intro ?_ ?_) | intro _ | (with_reducible assumption) | omega
                    all_goals (refine Fin.go hK ?_; clear hK K)
                    simp only [Then_normal]
                    refine Run.cond rfl (fun h131 => ?_) (fun h131 => ?_)
                    · skip
                      refine opsT [⟨Op.load 112 (Operand.tmp 2), some 133, none⟩, ⟨Op.load 48 (Operand.tmp 3), some 134, none⟩, ⟨Op.load 34 (Operand.tmp 12), some 135, none⟩, ⟨Op.call { callee := Callee.value (Operand.func 71), args := #[Operand.tmp 133, Operand.tmp 134, Operand.tmp 135], argTypes := #[112, 48, 34] }, some 136, none⟩, ⟨Op.assign (Operand.tmp 136), some 13, none⟩] fun K hK => ?_
                      try simp
                      repeat' first | (refine ecallW [5300] (by have h := meet_ok c p b0 hb0 hE; simp only [encP_cells, hop, hb0n, hn] at h; exact h) (by simp) (by simp) (by simp) ?_) | ((refine evL_c ?_); simp [-List.map_set, hn, hk, hop, hkl, hw, hwd, hfl, hw1, hw2, hw3]) | (with_reducible refine And.intro ?_ ?_) | intro _ | (with_reducible assumption) | omega
                      all_goals (refine Fin.go hK ?_; clear hK K)
                      simp only [Blok_normal]
                      simp only [Then_normal]
                      refine Run.seq ?_
                      refine Run.seq ?_
                      refine opsF oo31 fun K hK => ?_
                      try simp
                      repeat' first | ((refine evL_c ?_); simp [-List.map_set, hn, hk, hop, hkl, hw, hwd, hfl, hw1, hw2, hw3]) | (with_reducible refine And.intro ?_ ?_) | intro _ | (with_reducible assumption) | omega
                      all_goals (refine Fin.go hK ?_; clear hK K)
                      simp only [Then_normal]
                      refine Run.cond rfl (fun h145 => ?_) (fun h145 => ?_)
                      · try simp at h145
                        refine Run.seq ?_
                        refine opsF oo32 fun K hK => ?_
                        try simp
                        repeat' first | ((refine evL_c ?_); simp [-List.map_set, hn, hk, hop, hkl, hw, hwd, hfl, hw1, hw2, hw3]) | (with_reducible refine And.intro ?_ ?_) | intro _ | (with_reducible assumption) | omega
                        all_goals (refine Fin.go hK ?_; clear hK K)
                        simp only [Then_normal]
                        refine Run.drop [] (by simp) ?_
                        refine Run.ret ?_
                        try simp only [Then_ret, Blok_ret]
                        first
                          | (have e : opS c p [b0] = none := by simp [opS, hop, h145]
                             rw [e]
                             simp [resB, stoB, hn]; done)
                          | (have e : opS c p [b0] = some (meetR c p b0) := by simp [opS, hop, h145]
                             rw [e]
                             simp [-List.map_set, resB, stoB, hn, hb0n, meetR_len]; done)
                      · try simp at h145
                        refine Run.skip ?_
                        simp only [Then_normal]
                        refine Run.seq ?_
                        refine opsF oo33 fun K hK => ?_
                        try simp
                        repeat' first | ((refine evL_c ?_); simp [-List.map_set, hn, hk, hop, hkl, hw, hwd, hfl, hw1, hw2, hw3]) | (with_reducible refine And.intro ?_ ?_) | intro _ | (with_reducible assumption) | omega
                        all_goals (refine Fin.go hK ?_; clear hK K)
                        simp only [Then_normal]
                        refine Run.ret ?_
                        try simp only [Then_ret, Blok_ret]
                        first
                          | (have e : opS c p [b0] = none := by simp [opS, hop, h145]
                             rw [e]
                             simp [resB, stoB, hn]; done)
                          | (have e : opS c p [b0] = some (meetR c p b0) := by simp [opS, hop, h145]
                             rw [e]
                             simp [-List.map_set, resB, stoB, hn, hb0n, meetR_len]; done)
                    · simp at h131

set_option maxHeartbeats 4000000 in
theorem bound6_ok (c : CoreT) (p : PlanT) (hP : patS c.nodes c.edges = true) (hop : p.op = 6) (hkl : p.kids.length = 1) (IH : Snd P 43 [.d (.ag (encC c ++ [D.int c.nodes.length])), .d (.ag (encP (rdI p.kids 0)))] (resB (bndT c (rdI p.kids 0))) (stoB (bndT c (rdI p.kids 0)))) (b0 : List Bool) (hq : bndT c (rdI p.kids 0) = some b0) (hb0 : b0.length = c.nodes.length + c.edges.length) (hT : ∀ t ∈ p.terms, cntT t ≤ 1100000) : Snd P 43 [.d (.ag (encC c ++ [D.int c.nodes.length])), .d (.ag (encP p))] (resB (opS c p [b0])) (stoB (opS c p [b0])) := by
  obtain ⟨hn1, hn8, hk8⟩ := pat_rng hP
  have hE := goodE_of hP
  obtain ⟨n, hn⟩ : ∃ k, c.nodes.length = k := ⟨_, rfl⟩
  obtain ⟨k, hk⟩ : ∃ k, c.edges.length = k := ⟨_, rfl⟩
  rw [hn] at hn1 hn8
  rw [hk] at hk8
  obtain ⟨fb, hfb⟩ : ∃ fb, List.replicate (n + k) false = fb := ⟨_, rfl⟩
  have hfl : fb.length = n + k := by rw [← hfb]; simp
  have hwd : ((n:Int) + k).toNat = n + k := by omega
  have hw : IntKind.i64.wrap ((n:Int) + k) = (n:Int) + k := wrap_id (by omega) (by omega)
  have hw1 : 0 < n + k := by omega
  have hw2 : (n:Int) + k ≤ 140737488355328 := by omega
  have hw3 : (0:Int) ≤ (n:Int) + k := by omega
  have hb0n : b0.length = n + k := by rw [hb0, hn, hk]
  simp only [hq, resB, stoB, encP_cells, hn, hb0n] at IH
  refine snd_of [5300] Try.func43 rfl (by kernel_rfl) Try.ntmps43 (by simp) ?_
  unfold Try.f43
  simp only [List.cons_append, List.nil_append, List.length_cons, List.length_nil, Nat.reduceAdd, Nat.reduceSub, List.replicate]
  refine Run.seq ?_
  refine opsF oo13 fun K hK => ?_
  try simp
  repeat' first | ((refine evL_c ?_); simp [-List.map_set, hn, hk, hop, hkl, hw, hwd, hfl, hw1, hw2, hw3]) | (with_reducible refine And.intro ?_ ?_) | intro _ | (with_reducible assumption) | omega
  all_goals (refine Fin.go hK ?_; clear hK K)
  simp only [Then_normal]
  refine Run.seq ?_
  refine opsF oo14 fun K hK => ?_
  try simp
  repeat' first | ((refine evL_c ?_); simp [-List.map_set, hn, hk, hop, hkl, hw, hwd, hfl, hw1, hw2, hw3]) | (with_reducible refine And.intro ?_ ?_) | intro _ | (with_reducible assumption) | omega
  all_goals (refine Fin.go hK ?_; clear hK K)
  simp only [Then_normal]
  refine Run.seq ?_
  refine Run.seq ?_
  refine opsF oo15 fun K hK => ?_
  try simp
  repeat' first | ((refine evL_c ?_); simp [-List.map_set, hn, hk, hop, hkl, hw, hwd, hfl, hw1, hw2, hw3]) | (with_reducible refine And.intro ?_ ?_) | intro _ | (with_reducible assumption) | omega
  all_goals (refine Fin.go hK ?_; clear hK K)
  simp only [Then_normal]
  refine Run.seq ?_
  refine opsF oo16 fun K hK => ?_
  try simp
  repeat' first | ((first | refine evL_c ?_ | (refine evL_g rfl ?_; try simp only [gs_tt, gs_ff, gs_tf, gs_ft]) | refine evL_u rfl ?_ | (with_reducible refine gsplit (fun hg => ?_) (fun hg => ?_) <;> try simp at hg)) <;> try simp [-List.map_set, hn, hk, hop, hkl, hw, hwd, hfl, hw1, hw2, hw3]) | (with_reducible refine And.intro ?_ ?_) | intro _ | (with_reducible assumption) | omega
  all_goals (refine Fin.go hK ?_; clear hK K)
  all_goals
    simp only [Then_normal]
    refine Run.cond rfl (fun h33 => ?_) (fun h33 => ?_)
    · simp at h33
    · skip
      refine Run.skip ?_
      simp only [Then_normal]
      refine Run.cut [8, 34, 35, 36, 37, 38, 39, 40, 41, 42] [(8, .rs 4300 1 0 1)] [(300, .vals ((encC c ++ [D.int c.nodes.length]).map .d)), (400, .vals ((encP p).map .d)), (4200, .data 1 (fb.map encB)), (4300, .vals [.rs 4200 1 0 (n + k)])] ?_ ?_
      · refine opsF oo17 fun K hK => ?_
        try simp
        repeat' first | ((refine evL_c ?_); simp [-List.map_set, hn, hk, hop, hkl, hw, hwd, hfl, hw1, hw2, hw3]) | (with_reducible refine And.intro ?_ ?_) | intro _ | (with_reducible assumption) | omega
        all_goals (refine Fin.go hK ?_; clear hK K)
        first | (simp [-List.map_set, hn, hk, hop, hkl, hw, hwd, hfl, hw1, hw2, hw3, ← hfb]; done)
      · simp only [over, List.foldl, List.set]
        refine Run.seq ?_
        refine Run.seq ?_
        refine opsF oo18 fun K hK => ?_
        try simp
        repeat' first | ((refine evL_c ?_); simp [-List.map_set, hn, hk, hop, hkl, hw, hwd, hfl, hw1, hw2, hw3]) | (with_reducible refine And.intro ?_ ?_) | intro _ | (with_reducible assumption) | omega
        all_goals (refine Fin.go hK ?_; clear hK K)
        simp only [Then_normal]
        refine Run.block ?_
        refine Run.loopO [4, 8, 10, 11, 46, 47, 48, 49, 50, 51, 52, 53, 54, 55, 56, 57, 58, 59] (fun (x : Nat) => [(46, .int x), (8, match x with | 0 => .rs 4300 1 0 1 | _ => .rs 5900 1 0 2)]) (fun (x : Nat) => match x with | 0 => [(300, .vals ((encC c ++ [D.int c.nodes.length]).map .d)), (400, .vals ((encP p).map .d)), (4200, .data 1 (fb.map encB)), (4300, .vals [.rs 4200 1 0 (n + k)])] | _ => [(300, .vals ((encC c ++ [D.int c.nodes.length]).map .d)), (400, .vals ((encP p).map .d)), (4200, .data 1 (fb.map encB)), (5300, .data 1 (b0.map encB)), (5900, .vals [.rs 4200 1 0 (n + k), .rs 5300 1 0 (n + k)])]) (fun (x : Nat) => x = 0 ∨ x = 1) (fun (x : Nat) => 1 - x) 0 (by simp) (by simp [-List.map_set, hn, hk, hop, hkl, hw, hwd, hfl, hw1, hw2, hw3]) fun x hx => ?_
        rcases hx with rfl | rfl
        · simp only [over, List.foldl, List.set]
          refine Run.seq ?_
          refine opsF oo19 fun K hK => ?_
          try simp
          repeat' first | ((refine evL_c ?_); simp [-List.map_set, hn, hk, hop, hkl, hw, hwd, hfl, hw1, hw2, hw3]) | (with_reducible refine And.intro ?_ ?_) | intro _ | (with_reducible assumption) | omega
          all_goals (refine Fin.go hK ?_; clear hK K)
          simp only [Then_normal]
          refine Run.seq ?_
          refine Run.cond rfl (fun h47 => ?_) (fun h47 => ?_)
          · skip
            refine Run.skip ?_
            simp only [Then_normal]
            refine Run.seq ?_
            refine Run.block ?_
            refine Run.seq ?_
            refine opsF oo20 fun K hK => ?_
            try simp
            repeat' first | ((refine evL_c ?_); simp [-List.map_set, hn, hk, hop, hkl, hw, hwd, hfl, hw1, hw2, hw3]) | (with_reducible refine And.intro ?_ ?_) | intro _ | (with_reducible assumption) | omega
            all_goals (refine Fin.go hK ?_; clear hK K)
            simp only [Then_normal]
            refine Run.seq ?_
            refine opsF oo21 fun K hK => ?_
            try simp
            repeat' first | (refine ecall (by have h := IH; exact h) rfl ?_) | ((refine evL_c ?_); simp [-List.map_set, hn, hk, hop, hkl, hw, hwd, hfl, hw1, hw2, hw3]) | (with_reducible refine And.intro ?_ ?_) | intro _ | (with_reducible assumption) | omega
            all_goals (refine Fin.go hK ?_; clear hK K)
            simp only [Then_normal]
            refine Run.seq ?_
            refine Run.seq ?_
            refine opsF oo22 fun K hK => ?_
            try simp
            repeat' first | ((refine evL_c ?_); simp [-List.map_set, hn, hk, hop, hkl, hw, hwd, hfl, hw1, hw2, hw3]) | (with_reducible refine And.intro ?_ ?_) | intro _ | (with_reducible assumption) | omega
            all_goals (refine Fin.go hK ?_; clear hK K)
            simp only [Then_normal]
            refine Run.cond rfl (fun h54 => ?_) (fun h54 => ?_)
            · simp at h54
            · skip
              refine Run.skip ?_
              simp only [Then_normal]
              refine opsF oo23 fun K hK => ?_
              try simp
              repeat' first | ((refine evL_c ?_); simp [-List.map_set, hn, hk, hop, hkl, hw, hwd, hfl, hw1, hw2, hw3]) | (with_reducible refine And.intro ?_ ?_) | intro _ | (with_reducible assumption) | omega
              all_goals (refine Fin.go hK ?_; clear hK K)
              simp only [Blok_normal]
              simp only [Then_normal]
              refine opsF oo24 fun K hK => ?_
              try simp
              repeat' first | ((refine evL_c ?_); simp [-List.map_set, hn, hk, hop, hkl, hw, hwd, hfl, hw1, hw2, hw3]) | (with_reducible refine And.intro ?_ ?_) | intro _ | (with_reducible assumption) | omega
              all_goals (refine Fin.go hK ?_; clear hK K)
              refine ⟨1, .inr rfl, by omega, ?_⟩
              simp (disch := omega) [-List.map_set, hn, hk, hop, hkl, hw, hwd, hfl, hw1, hw2, hw3, hb0, wrap_id]
          · simp at h47
        · simp only [over, List.foldl, List.set]
          refine Run.seq ?_
          refine opsF oo19 fun K hK => ?_
          try simp
          repeat' first | ((refine evL_c ?_); simp [-List.map_set, hn, hk, hop, hkl, hw, hwd, hfl, hw1, hw2, hw3]) | (with_reducible refine And.intro ?_ ?_) | intro _ | (with_reducible assumption) | omega
          all_goals (refine Fin.go hK ?_; clear hK K)
          simp only [Then_normal]
          refine Run.seq ?_
          refine Run.cond rfl (fun h47 => ?_) (fun h47 => ?_)
          · simp at h47
          · skip
            refine Run.exit ?_
            simp (decide := true) only [Then_exit, Blok_exit, if_true, if_false]
            simp only [Then_normal]
            refine Run.seq ?_
            refine opsF oo25 fun K hK => ?_
            try simp
            repeat' first | ((refine evL_c ?_); simp [-List.map_set, hn, hk, hop, hkl, hw, hwd, hfl, hw1, hw2, hw3]) | (with_reducible refine And.intro ?_ ?_) | intro _ | (with_reducible assumption) | omega
            all_goals (refine Fin.go hK ?_; clear hK K)
            simp only [Then_normal]
            refine Run.seq ?_
            refine opsF oo26 fun K hK => ?_
            try simp
            repeat' first | ((refine evL_c ?_); simp [-List.map_set, hn, hk, hop, hkl, hw, hwd, hfl, hw1, hw2, hw3]) | (with_reducible refine And.intro ?_ ?_) | intro _ | (with_reducible assumption) | omega
            all_goals (refine Fin.go hK ?_; clear hK K)
            simp only [Then_normal]
            refine Run.seq ?_
            refine Run.seq ?_
            refine opsF oo27 fun K hK => ?_
            try simp
            repeat' first | ((refine evL_c ?_); simp [-List.map_set, hn, hk, hop, hkl, hw, hwd, hfl, hw1, hw2, hw3]) | (with_reducible refine And.intro ?_ ?_) | intro _ | (with_reducible assumption) | omega
            all_goals (refine Fin.go hK ?_; clear hK K)
            simp only [Then_normal]
            refine Run.block ?_
            refine Run.seq ?_
            refine opsF oo28 fun K hK => ?_
            try simp
            repeat' first | ((refine evL_c ?_); simp [-List.map_set, hn, hk, hop, hkl, hw, hwd, hfl, hw1, hw2, hw3]) | (with_reducible refine And.intro ?_ ?_) | intro _ | (with_reducible assumption) | omega
            all_goals (refine Fin.go hK ?_; clear hK K)
            simp only [Then_normal]
            refine Run.cond rfl (fun h68 => ?_) (fun h68 => ?_)
            · simp at h68
            · skip
              refine Run.seq ?_
              refine Run.seq ?_
              refine opsF oo29 fun K hK => ?_
              try simp
              repeat' first | ((refine evL_c ?_); simp [-List.map_set, hn, hk, hop, hkl, hw, hwd, hfl, hw1, hw2, hw3]) | (with_reducible refine And.intro ?_ ?_) | intro _ | (with_reducible assumption) | omega
              all_goals (refine Fin.go hK ?_; clear hK K)
              simp only [Then_normal]
              refine Run.cond rfl (fun h85 => ?_) (fun h85 => ?_)
              · simp at h85
              · skip
                refine opsF oo34 fun K hK => ?_
                try simp
                repeat' first | ((refine evL_c ?_); simp [-List.map_set, hn, hk, hop, hkl, hw, hwd, hfl, hw1, hw2, hw3]) | (with_reducible refine And.intro ?_ ?_) | intro _ | (with_reducible assumption) | omega
                all_goals (refine Fin.go hK ?_; clear hK K)
                simp only [Then_normal]
                refine Run.cond rfl (fun h85 => ?_) (fun h85 => ?_)
                · simp at h85
                · skip
                  refine Run.seq ?_
                  refine opsF oo35 fun K hK => ?_
                  try simp
                  repeat' first | ((refine evL_c ?_); simp [-List.map_set, hn, hk, hop, hkl, hw, hwd, hfl, hw1, hw2, hw3]) | (with_reducible refine And.intro ?_ ?_) | intro _ | (with_reducible assumption) | omega
                  all_goals (refine Fin.go hK ?_; clear hK K)
                  simp only [Then_normal]
                  refine Run.cond rfl (fun h92 => ?_) (fun h92 => ?_)
                  · simp at h92
                  · skip
                    refine Run.seq ?_
                    refine opsF oo36 fun K hK => ?_
                    try simp
                    repeat' first | ((refine evL_c ?_); simp [-List.map_set, hn, hk, hop, hkl, hw, hwd, hfl, hw1, hw2, hw3]) | (with_reducible refine And.intro ?_ ?_) | intro _ | (with_reducible assumption) | omega
                    all_goals (refine Fin.go hK ?_; clear hK K)
                    simp only [Then_normal]
                    refine Run.cond rfl (fun h131 => ?_) (fun h131 => ?_)
                    · simp at h131
                    · skip
                      refine Run.seq ?_
                      refine opsF [⟨Op.binOp BinOp.eql 44 (Operand.tmp 67) (Operand.const (Value.int IntKind.i64 6)) 44, some 138, none⟩, ⟨Op.assign (Operand.tmp 138), some 137, none⟩] fun K hK => ?_
                      try simp
                      repeat' first | ((refine evL_c ?_); simp [-List.map_set, hn, hk, hop, hkl, hw, hwd, hfl, hw1, hw2, hw3]) | (with_reducible refine And.intro ?_ ?_) | intro _ | (with_reducible assumption) | omega
                      all_goals (refine Fin.go hK ?_; clear hK K)
                      simp only [Then_normal]
                      refine Run.cond rfl (fun h137 => ?_) (fun h137 => ?_)
                      · skip
                        refine opsT [⟨Op.fieldAddr 48 (Operand.tmp 3) 5, some 139, none⟩, ⟨Op.load 28 (Operand.tmp 139), some 140, none⟩, ⟨Op.makeFunc (Fn.func 73) #[] #[Operand.tmp 12], some 141, none⟩, ⟨Op.call { callee := Callee.value (Operand.func 72), args := #[Operand.tmp 140, Operand.tmp 141], argTypes := #[28, 131] }, some 142, none⟩, ⟨Op.unOp UnOp.not 4 (Operand.tmp 142), some 143, none⟩, ⟨Op.assign (Operand.tmp 143), some 13, none⟩] fun K hK => ?_
                        try simp
                        repeat' first | (refine ecallW [1300, 5300] (by have h := anyT_ok false p.terms 73 b0 (fun t => !bindsS b0 t) (fun t ht => bindsN_ok b0 t (hT t ht)); simp only [hb0n] at h; exact h) (by simp) (by simp) (by simp) ?_) | ((refine evL_c ?_); simp [-List.map_set, hn, hk, hop, hkl, hw, hwd, hfl, hw1, hw2, hw3]) | (with_reducible refine And.intro ?_ ?_) | intro _ | (with_reducible assumption) | omega
                        all_goals (refine Fin.go hK ?_; clear hK K)
                        simp only [Blok_normal]
                        simp only [Then_normal]
                        refine Run.seq ?_
                        refine Run.seq ?_
                        refine opsF oo31 fun K hK => ?_
                        try simp
                        repeat' first | ((refine evL_c ?_); simp [-List.map_set, hn, hk, hop, hkl, hw, hwd, hfl, hw1, hw2, hw3]) | (with_reducible refine And.intro ?_ ?_) | intro _ | (with_reducible assumption) | omega
                        all_goals (refine Fin.go hK ?_; clear hK K)
                        simp only [Then_normal]
                        refine Run.cond rfl (fun h145 => ?_) (fun h145 => ?_)
                        · try simp at h145
                          refine Run.seq ?_
                          refine opsF oo32 fun K hK => ?_
                          try simp
                          repeat' first | ((refine evL_c ?_); simp [-List.map_set, hn, hk, hop, hkl, hw, hwd, hfl, hw1, hw2, hw3]) | (with_reducible refine And.intro ?_ ?_) | intro _ | (with_reducible assumption) | omega
                          all_goals (refine Fin.go hK ?_; clear hK K)
                          simp only [Then_normal]
                          refine Run.drop [] (by simp) ?_
                          refine Run.ret ?_
                          try simp only [Then_ret, Blok_ret]
                          first
                            | (have e : opS c p [b0] = none := by simp [opS, hop]; simpa using h145
                               rw [e]
                               simp [resB, stoB, hn]; done)
                            | (have e : opS c p [b0] = some b0 := by simp [opS, hop]; simpa using h145
                               rw [e]
                               simp [-List.map_set, resB, stoB, hn, hb0n]; done)
                        · try simp at h145
                          refine Run.skip ?_
                          simp only [Then_normal]
                          refine Run.seq ?_
                          refine opsF oo33 fun K hK => ?_
                          try simp
                          repeat' first | ((refine evL_c ?_); simp [-List.map_set, hn, hk, hop, hkl, hw, hwd, hfl, hw1, hw2, hw3]) | (with_reducible refine And.intro ?_ ?_) | intro _ | (with_reducible assumption) | omega
                          all_goals (refine Fin.go hK ?_; clear hK K)
                          simp only [Then_normal]
                          refine Run.ret ?_
                          try simp only [Then_ret, Blok_ret]
                          first
                            | (have e : opS c p [b0] = none := by simp [opS, hop]; simpa using h145
                               rw [e]
                               simp [resB, stoB, hn]; done)
                            | (have e : opS c p [b0] = some b0 := by simp [opS, hop]; simpa using h145
                               rw [e]
                               simp [-List.map_set, resB, stoB, hn, hb0n]; done)
                      · simp at h137


end Go.Proofs.Ytimgbdkgjfbhkaa.Z
end
