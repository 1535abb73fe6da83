/- A term's slots. -/
import Derived.Test.YtihbejpkfifplaaPf
import Derived.Test.YtihbejpkfifplaaPq
set_option linter.unusedVariables false
set_option linter.unusedSimpArgs false
set_option maxRecDepth 100000
namespace Go.Proofs.Ytihbejpkfifplaa.Z
open Go Go.Fw
mutual
def slotsT : TermT → List Int
  | .mk op kids sl _ _ => Go.Lib.compact (((if op = 2 ∨ op = 3 then [sl] else []) ++ slotsL kids).mergeSort fun x y => decide (x ≤ y))
def slotsL : List TermT → List Int
  | [] => []
  | t :: r => slotsT t ++ slotsL r
end
mutual
def cntT : TermT → Nat
  | .mk _ kids _ _ _ => 1 + cntL kids
def cntL : List TermT → Nat
  | [] => 0
  | t :: r => cntT t + cntL r
end
def own1 (op sl : Int) : List Int := if op = 2 ∨ op = 3 then [sl] else []
theorem own1_len (op sl : Int) : (own1 op sl).length ≤ 1 := by unfold own1; split <;> simp
theorem slotsT_eq (t : TermT) : slotsT t = Go.Lib.compact ((own1 t.op t.slot ++ slotsL t.kids).mergeSort fun x y => decide (x ≤ y)) := by cases t; rw [slotsT]; rfl
theorem cntT_eq (t : TermT) : cntT t = 1 + cntL t.kids := by cases t; rw [cntT]; rfl
theorem slotsL_app (a b : List TermT) : slotsL (a ++ b) = slotsL a ++ slotsL b := by
  induction a with
  | nil => rfl
  | cons x r ih => rw [List.cons_append, slotsL, slotsL, ih, List.append_assoc]
theorem cntL_app (a b : List TermT) : cntL (a ++ b) = cntL a + cntL b := by
  induction a with
  | nil => simp [cntL]
  | cons x r ih => rw [List.cons_append, cntL, cntL, ih]; omega
mutual
theorem slotsT_len : ∀ t : TermT, (slotsT t).length ≤ cntT t
  | .mk op kids sl nm v => by
    have h := slotsL_len kids
    have h1 := own1_len op sl
    have h2 := Go.Lib.compact_length_le ((own1 op sl ++ slotsL kids).mergeSort fun x y => decide (x ≤ y))
    rw [slotsT_eq, cntT_eq]
    simp only [List.length_mergeSort, List.length_append] at h2
    exact Nat.le_trans h2 (by show _ ≤ 1 + cntL kids; omega)
theorem slotsL_len : ∀ l : List TermT, (slotsL l).length ≤ cntL l
  | [] => by simp [slotsL]
  | t :: r => by
    have h1 := slotsT_len t
    have h2 := slotsL_len r
    rw [slotsL, cntL, List.length_append]
    omega
end
theorem take_rd {α : Type} [Inhabited α] {l : List α} {k : Nat} (h : k < l.length) : l.take (k + 1) = l.take k ++ [rdI l k] := by
  rw [List.take_succ_eq_append_getElem h]
  simp [rdI, List.getD_eq_getElem?_getD, h]
theorem cntL_take (l : List TermT) (k : Nat) : cntL (l.take k) ≤ cntL l := by
  have h := cntL_app (l.take k) (l.drop k)
  rw [List.take_append_drop] at h
  omega
theorem cnt_kid {t : TermT} {i : Nat} (h : i < t.kids.length) : cntT (rdI t.kids i) + cntL (t.kids.take i) + 1 ≤ cntT t := by
  have h1 := cntL_take t.kids (i + 1)
  rw [take_rd h, cntL_app, cntL, cntL] at h1
  have := cntT_eq t; omega
/-- the slots ahead of a kid -/
def acc (t : TermT) (i : Nat) : List Int := own1 t.op t.slot ++ slotsL (t.kids.take i)
theorem acc_zero (t : TermT) : acc t 0 = own1 t.op t.slot := by simp [acc, slotsL]
theorem acc_succ {t : TermT} {i : Nat} (h : i < t.kids.length) : acc t (i + 1) = acc t i ++ slotsT (rdI t.kids i) := by
  unfold acc
  rw [take_rd h, slotsL_app, ← List.append_assoc, slotsL, slotsL, List.append_nil]
theorem acc_len (t : TermT) (i : Nat) : (acc t i).length ≤ 1 + cntL (t.kids.take i) := by
  have h1 := own1_len t.op t.slot
  have h2 := slotsL_len (t.kids.take i)
  unfold acc
  rw [List.length_append]; omega
theorem acc_all {t : TermT} {i : Nat} (h : t.kids.length ≤ i) : slotsT t = Go.Lib.compact ((acc t i).mergeSort fun x y => decide (x ≤ y)) := by
  rw [acc, List.take_of_length_le h, slotsT_eq]
theorem kidT_lt {p q : TermT} (h : q ∈ p.kids) : SizeOf.sizeOf q < SizeOf.sizeOf p := by
  cases p with
  | mk o k s e b =>
    have := List.sizeOf_lt_of_mem (show q ∈ k from h)
    simp only [TermT.mk.sizeOf_spec]
    omega
theorem encT_ok {p : TermT} (h : (D.ag (encT p)).ok) : p.kids.length ≤ 9223372036854775807 := by
  rw [encT_cells] at h
  simp only [D.ok, D.okL, List.length_map] at h
  exact h.2.1.1
set_option maxHeartbeats 4000000 in
theorem slots1_ok (t : TermT) (ht : cntT t ≤ 1000000) (IH : ∀ i : Nat, i < t.kids.length → Snd P 94 [.d (.ag (encT (rdI t.kids i)))] (.d (.sl false ((slotsT (rdI t.kids i)).map encI))) []) : Snd P 94 [.d (.ag (encT t))] (.d (.sl false ((slotsT t).map encI))) [] := by
  refine Snd.ok 0 rfl (by kernel_rfl) fun hok => ?_
  have hkm := encT_ok hok
  clear hok
  obtain ⟨m, hm⟩ : ∃ m, t.kids.length = m := ⟨_, rfl⟩
  rw [hm] at hkm
  obtain ⟨ow, how⟩ : ∃ o, own1 t.op t.slot = o := ⟨_, rfl⟩
  have how1 : ow.length ≤ 1 := by rw [← how]; exact own1_len _ _
  refine snd_of [] Try.func94 rfl (by kernel_rfl) Try.ntmps94 (by simp) ?_
  unfold Try.f94
  simp only [List.cons_append, List.nil_append, List.length_cons, List.length_nil, Nat.reduceAdd, Nat.reduceSub, List.replicate]
  refine Run.seq ?_
  refine Run.opsM false [⟨Op.box 70 (Operand.tmp 0), some 1, none⟩, ⟨Op.assign (Operand.const (Value.slice none 0 0)), some 2, none⟩] mixed (by decide) rfl fun K hK => ?_
  try simp
  repeat' first | ((refine evL_c ?_); simp [hm]) | (with_reducible refine And.intro ?_ ?_) | intro _ | (with_reducible assumption) | omega
  all_goals (refine Fin.go hK ?_; clear hK K)
  simp only [Then_normal]
  refine Run.seq ?_
  refine Run.opsM false [⟨Op.assign (Operand.const (Value.slice none 0 0)), some 3, none⟩] mixed (by decide) rfl fun K hK => ?_
  try simp
  repeat' first | ((refine evL_c ?_); simp [hm]) | (with_reducible refine And.intro ?_ ?_) | intro _ | (with_reducible assumption) | omega
  all_goals (refine Fin.go hK ?_; clear hK K)
  simp only [Then_normal]
  refine Run.cut [3, 6, 7, 8, 9, 10, 11, 12, 13, 14, 15, 16, 17, 18] [(3, .rs 1900 1 0 ow.length)] [(200, .vals ((encT t).map .d)), (1900, .data 1 (ow.map encI))] ?_ ?_
  · refine Run.cut [6, 7, 8, 9, 10, 11, 12, 13] [(13, .bool (decide (t.op = 2 ∨ t.op = 3)))] [(200, .vals ((encT t).map .d))] ?_ ?_
    · refine Run.opsM false [⟨Op.fieldAddr 70 (Operand.tmp 1) 0, some 6, none⟩, ⟨Op.load 65 (Operand.tmp 6), some 7, none⟩, ⟨Op.binOp BinOp.eql 65 (Operand.tmp 7) (Operand.const (Value.int IntKind.i64 2)) 65, some 8, none⟩, ⟨Op.move (Operand.tmp 8), some 9, none⟩, ⟨Op.fieldAddr 70 (Operand.tmp 1) 0, some 10, some (some 9, false)⟩, ⟨Op.load 65 (Operand.tmp 10), some 11, some (some 9, false)⟩, ⟨Op.binOp BinOp.eql 65 (Operand.tmp 11) (Operand.const (Value.int IntKind.i64 3)) 65, some 12, some (some 9, false)⟩, ⟨Op.pick (Operand.tmp 9) (Operand.const (Value.bool true)) (Operand.tmp 12), some 13, none⟩] mixed (by decide) rfl fun K hK => ?_
      try simp
      repeat' first | ((refine evL_c ?_); simp [hm]) | ((refine evL_g rfl ?_); (try simp only [gs_tt, gs_ff, gs_tf, gs_ft]); (try simp [hm])) | (refine evL_u rfl ?_) | ((with_reducible refine gsplit (fun hg => ?_) (fun hg => ?_)) <;> (try simp at hg) <;> (try simp [hm])) | (with_reducible refine And.intro ?_ ?_) | intro _ | (with_reducible assumption) | omega
      all_goals (refine Fin.go hK ?_; clear hK K)
      all_goals
        (try simp [*]) <;> (first | omega | (simp; done) | grind)
    · simp only [over, List.foldl, List.set]
      refine Run.cond rfl (fun h13 => ?_) (fun h13 => ?_)
      · have ho : ow = [t.slot] := by rw [← how, own1, if_pos (of_decide_eq_true h13)]
        refine Run.opsM false [⟨Op.move (Operand.tmp 3), some 14, none⟩, ⟨Op.fieldAddr 70 (Operand.tmp 1) 2, some 15, none⟩, ⟨Op.load 3 (Operand.tmp 15), some 16, none⟩, ⟨Op.buildSlice 24 1 #[(0, Operand.tmp 16)], some 17, none⟩, ⟨Op.call { callee := Callee.builtin Builtin.append, args := #[Operand.tmp 14, Operand.tmp 17], argTypes := #[24, 24] }, some 18, none⟩, ⟨Op.assign (Operand.tmp 18), some 3, none⟩] mixed (by decide) rfl fun K hK => ?_
        try simp
        repeat' first | ((refine evL_c ?_); simp [hm]) | (with_reducible refine And.intro ?_ ?_) | intro _ | (with_reducible assumption) | omega
        all_goals (refine Fin.go hK ?_; clear hK K)
        simp [ho]
      · have ho : ow = [] := by rw [← how, own1, if_neg (of_decide_eq_false h13)]
        refine Run.virt 3 1900 1 (by omega) (.inl rfl) ?_ rfl
        refine Run.skip ?_
        simp [ho]
  · simp only [over, List.foldl, List.set]
    refine Run.seq ?_
    refine Run.seq ?_
    refine Run.opsM false [⟨Op.fieldAddr 70 (Operand.tmp 1) 1, some 19, none⟩, ⟨Op.load 25 (Operand.tmp 19), some 20, none⟩, ⟨Op.call { callee := Callee.builtin Builtin.len, args := #[Operand.tmp 20], argTypes := #[25] }, some 21, none⟩, ⟨Op.move (Operand.const (Value.int IntKind.i64 0)), some 22, none⟩] mixed (by decide) rfl fun K hK => ?_
    try simp
    repeat' first | ((refine evL_c ?_); simp [hm]) | (with_reducible refine And.intro ?_ ?_) | intro _ | (with_reducible assumption) | omega
    all_goals (refine Fin.go hK ?_; clear hK K)
    simp only [Then_normal]
    refine Run.block ?_
    refine Run.loopO [3, 5, 22, 23, 24, 25, 26, 27, 28, 29, 30] (fun (i : Nat) => [(22, .int i), (3, .rs 1900 1 0 (acc t i).length)]) (fun (i : Nat) => [(200, .vals ((encT t).map .d)), (1900, .data 1 ((acc t i).map encI))]) (fun (i : Nat) => i ≤ m) (fun (i : Nat) => m - i) 0 (by omega) (by simp [acc_zero, how]) fun i hi => ?_
    simp only [over, List.foldl, List.set]
    obtain ⟨ac, hac⟩ : ∃ o, acc t i = o := ⟨_, rfl⟩
    refine Run.seq ?_
    refine Run.opsM false [⟨Op.binOp BinOp.lss 3 (Operand.tmp 22) (Operand.tmp 21) 3, some 23, none⟩] mixed (by decide) rfl fun K hK => ?_
    try simp
    repeat' first | ((refine evL_c ?_); simp [hm]) | (with_reducible refine And.intro ?_ ?_) | intro _ | (with_reducible assumption) | omega
    all_goals (refine Fin.go hK ?_; clear hK K)
    simp only [Then_normal]
    refine Run.seq ?_
    refine Run.cond rfl (fun h23 => ?_) (fun h23 => ?_)
    · try simp [hac] at h23
      have hi1 : i < m := by omega
      have hc := cnt_kid (t := t) (i := i) (by omega)
      have hl1 := slotsT_len (rdI t.kids i)
      have hl2 := acc_len t i
      rw [hac] at hl2
      obtain ⟨l1, hl1e⟩ : ∃ x, (slotsT (rdI t.kids i)).length = x := ⟨_, rfl⟩
      obtain ⟨l2, hl2e⟩ : ∃ x, ac.length = x := ⟨_, rfl⟩
      have hl3 : l2 ≤ 1000000 := by omega
      have hl4 : l1 ≤ 1000000 := by omega
      have htk : (ac.map encI).take l2 = ac.map encI := by rw [List.take_of_length_le]; simp [hl2e]
      refine Run.skip ?_
      simp only [Then_normal]
      refine Run.seq ?_
      refine Run.block ?_
      refine Run.seq ?_
      refine Run.opsM false [⟨Op.indexAddr 25 (Operand.tmp 20) (Operand.tmp 22), some 24, none⟩, ⟨Op.load 70 (Operand.tmp 24), some 25, none⟩, ⟨Op.alloc 70, some 5, none⟩, ⟨Op.store 70 (Operand.tmp 5) (Operand.tmp 25), none, none⟩] mixed (by decide) rfl fun K hK => ?_
      try simp
      repeat' first | ((refine evL_c ?_); simp [hm, hac, hl1e, hl2e, hi1, htk]) | (with_reducible refine And.intro ?_ ?_) | intro _ | (with_reducible assumption) | omega
      all_goals (refine Fin.go hK ?_; clear hK K)
      simp only [Then_normal]
      refine Run.opsM false [⟨Op.move (Operand.tmp 3), some 26, none⟩, ⟨Op.load 70 (Operand.tmp 5), some 27, none⟩, ⟨Op.call { callee := Callee.value (Operand.func 94), args := #[Operand.tmp 27], argTypes := #[70] }, some 28, none⟩, ⟨Op.call { callee := Callee.builtin Builtin.append, args := #[Operand.tmp 26, Operand.tmp 28], argTypes := #[24, 24] }, some 29, none⟩, ⟨Op.assign (Operand.tmp 29), some 3, none⟩] mixed (by decide) rfl fun K hK => ?_
      try simp
      repeat' first | (refine ecallD (by have h := IH i (by omega); rw [encT_cells] at h; exact h) ?_) | ((refine evL_c ?_); simp [hm, hac, hl1e, hl2e, hi1, htk]) | (with_reducible refine And.intro ?_ ?_) | intro _ | (with_reducible assumption) | omega
      all_goals (refine Fin.go hK ?_; clear hK K)
      simp only [Blok_normal]
      simp only [Then_normal]
      refine Run.ren 3000 1900 (by omega) (by omega) (by simp) (by simp) ?_
      refine Run.opsM false [⟨Op.binOp BinOp.add 3 (Operand.tmp 22) (Operand.const (Value.int IntKind.i64 1)) 3, some 30, none⟩, ⟨Op.move (Operand.tmp 30), some 22, none⟩] mixed (by decide) rfl fun K hK => ?_
      try simp
      repeat' first | ((refine evL_c ?_); simp [hm, hac, hl1e, hl2e, hi1, htk]) | (with_reducible refine And.intro ?_ ?_) | intro _ | (with_reducible assumption) | omega
      all_goals (refine Fin.go hK ?_; clear hK K)
      have hs := acc_succ (t := t) (i := i) (by omega)
      rw [hac] at hs
      refine ⟨i + 1, by omega, by omega, ?_⟩
      simp (disch := omega) [hm, wrap_id, hs, hac, hl1e, hl2e, htk]
    · try simp [hac] at h23
      have hl2 := acc_len t i
      have hl5 := cntL_take t.kids i
      rw [cntT_eq] at ht
      rw [hac] at hl2
      have hl3 : ac.length ≤ 1000000 := by omega
      have hst := acc_all (t := t) (i := i) (by omega)
      rw [hac] at hst
      obtain ⟨so, hso⟩ : ∃ s, (ac.mergeSort fun x y => decide (x ≤ y)) = s := ⟨_, rfl⟩
      have hsl : so.length = ac.length := by rw [← hso]; simp
      rw [hso] at hst
      have hsc := Go.Lib.compact_length_le so
      have hS := sort_ok ac (by omega)
      rw [hso] at hS
      have hC := compact_ok so (by omega)
      rw [← hst] at hC hsc
      obtain ⟨l2, hl2e⟩ : ∃ x, ac.length = x := ⟨_, rfl⟩
      rw [hl2e] at hS hsl
      obtain ⟨sl, hsle⟩ : ∃ x, slotsT t = x := ⟨_, rfl⟩
      rw [hsle] at hC hsc
      obtain ⟨l3, hl3e⟩ : ∃ x, sl.length = x := ⟨_, rfl⟩
      rw [hl3e, hsl] at hC hsc
      refine Run.exit ?_
      simp (decide := true) only [Then_exit, Blok_exit, if_true, if_false]
      simp only [Then_normal]
      refine Run.seq ?_
      refine Run.opsM true [⟨Op.move (Operand.tmp 3), some 31, none⟩, ⟨Op.call { callee := Callee.value (Operand.func 98), args := #[Operand.tmp 31], argTypes := #[24] }, some 32, none⟩] mixed (by decide) rfl fun K hK => ?_
      try simp
      repeat' first | (refine ecallW [1900] hS (by simp) (by simp) (by simp) ?_) | ((refine evL_c ?_); simp [hm, hac, hl2e, hsl, hl3e, hsc]) | (with_reducible refine And.intro ?_ ?_) | intro _ | (with_reducible assumption) | omega
      all_goals (refine Fin.go hK ?_; clear hK K)
      simp only [Then_normal]
      refine Run.seq ?_
      refine Run.opsM true [⟨Op.move (Operand.tmp 3), some 33, none⟩, ⟨Op.call { callee := Callee.value (Operand.func 99), args := #[Operand.tmp 33], argTypes := #[24] }, some 34, none⟩, ⟨Op.assign (Operand.tmp 34), some 2, none⟩] mixed (by decide) rfl fun K hK => ?_
      try simp
      repeat' first | (refine ecallW [1900] hC (by simp) (by simp) (by simp) ?_) | ((refine evL_c ?_); simp [hm, hac, hl2e, hsl, hl3e, hsc]) | (with_reducible refine And.intro ?_ ?_) | intro _ | (with_reducible assumption) | omega
      all_goals (refine Fin.go hK ?_; clear hK K)
      simp only [Then_normal]
      refine Run.ret ?_
      try simp only [Then_ret, Blok_ret]
      have htk : ((sl.map encI) ++ List.replicate (l2 - l3) [D.int 0]).take l3 = sl.map encI := by rw [List.take_append_of_le_length (by simp [hl3e]), List.take_of_length_le (by simp [hl3e])]
      simp [hsle, hl3e, htk]


theorem slots_ok (t : TermT) (ht : cntT t ≤ 1000000) : Snd P 94 [.d (.ag (encT t))] (.d (.sl false ((slotsT t).map encI))) [] :=
  slots1_ok t ht fun i hi =>
    have := kidT_lt (rdI_mem (l := t.kids) (i := i) (by omega) (by omega))
    slots_ok (rdI t.kids i) (by have := cnt_kid hi; omega)
termination_by SizeOf.sizeOf t
end Go.Proofs.Ytihbejpkfifplaa.Z
