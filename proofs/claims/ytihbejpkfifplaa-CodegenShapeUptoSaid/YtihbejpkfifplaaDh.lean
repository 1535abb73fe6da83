/- Texts of this claim, put together: Si, Sj, Sl. -/
import Derived.Test.YtihbejpkfifplaaDg
set_option linter.unusedVariables false
set_option linter.unusedSimpArgs false
section
namespace Go.Proofs.Ytihbejpkfifplaa.Z
open Go Go.Fw
/-- how often a table is asked: by steps, by pipes -/
def askK (j : Int) : List StepC → Nat
  | [] => 0
  | s :: r => (if s.op = 5 ∧ s.table = j then 1 else 0) + askK j r
def askW (j : Int) : List PipeC → Nat
  | [] => 0
  | x :: r => askK j x.steps + askW j r
theorem askK_app (j : Int) (a b : List StepC) : askK j (a ++ b) = askK j a + askK j b := by
  induction a with
  | nil => simp [askK]
  | cons x r ih => rw [List.cons_append, askK, askK, ih]; omega
theorem askW_app (j : Int) (a b : List PipeC) : askW j (a ++ b) = askW j a + askW j b := by
  induction a with
  | nil => simp [askW]
  | cons x r ih => rw [List.cons_append, askW, askW, ih]; omega
theorem askK_pos {j : Int} {l : List StepC} {s : StepC} (hs : s ∈ l) (h5 : s.op = 5) (ht : s.table = j) : 0 < askK j l := by
  induction l with
  | nil => cases hs
  | cons x r ih =>
    rw [askK]
    rcases List.mem_cons.1 hs with rfl | hs
    · rw [if_pos ⟨h5, ht⟩]; omega
    · have := ih hs; omega
/-- pipes from a number on: each goes into its own table, and asks earlier ones -/
def RightW (n0 : Nat) (l : List PipeC) : Prop := ∀ i : Nat, (h : i < l.length) → l[i].sink = (n0 + i : Nat) ∧ ∀ s ∈ l[i].steps, s.op = 5 → 0 ≤ s.table ∧ s.table < (n0 + i : Nat)
theorem rightW_app {n0 : Nat} {a b : List PipeC} (ha : RightW n0 a) (hb : RightW (n0 + a.length) b) : RightW n0 (a ++ b) := by
  intro i h
  by_cases q : i < a.length
  · rw [List.getElem_append_left q]; exact ha i q
  · rw [List.getElem_append_right (by omega)]
    have h2 : i - a.length < b.length := by rw [List.length_append] at h; omega
    have := hb (i - a.length) h2
    rw [show n0 + a.length + (i - a.length) = n0 + i by omega] at this
    exact this
def inR (a b : Nat) (j : Int) : Nat := if (a : Int) ≤ j ∧ j < b then 1 else 0
theorem pipe_shape (c : CoreT) (p : PlanT) (hr : (bndT c p).isSome = true) (st : StC) (he : st.1.length = st.2.length) :
    ∃ new : List PipeC, (pipeT c p st).2.2 = st.2 ++ new ∧ (pipeT c p st).2.1.length = (pipeT c p st).2.2.length ∧ (pipeT c p st).1.sink = -1 ∧ RightW st.2.length new ∧
      (∀ s ∈ (pipeT c p st).1.steps, s.op = 5 → (st.2.length : Int) ≤ s.table ∧ s.table < ((st.2.length + new.length : Nat) : Int)) ∧
      ∀ j, askW j new + askK j (pipeT c p st).1.steps = inR st.2.length (st.2.length + new.length) j := by
  have hw := bnd_wants hr
  have one : p.op ≠ 1 → p.op ≠ 4 → p.kids.length = 1 → ∃ new : List PipeC, (pipeT c p st).2.2 = st.2 ++ new ∧ (pipeT c p st).2.1.length = (pipeT c p st).2.2.length ∧ (pipeT c p st).1.sink = -1 ∧ RightW st.2.length new ∧
      (∀ s ∈ (pipeT c p st).1.steps, s.op = 5 → (st.2.length : Int) ≤ s.table ∧ s.table < ((st.2.length + new.length : Nat) : Int)) ∧
      ∀ j, askW j new + askK j (pipeT c p st).1.steps = inR st.2.length (st.2.length + new.length) j := fun n1 n4 hl => by
    have hq := bnd_kids hr _ (kid_mem (p := p) (i := 0) (by omega))
    have hsz := kids_lt (kid_mem (p := p) (i := 0) (by omega))
    obtain ⟨new, g1, g2, g3, g4, g5, g6⟩ := pipe_shape c (rdI p.kids 0) hq st he
    have hs5 : (stepO p).op ≠ 5 := by
      rw [stepO]; split
      · simp
      · split
        · simp
        · split <;> simp
    rw [pipe_one hl, pipeO, if_neg n1, if_neg n4]
    refine ⟨new, g1, g2, g3, g4, ?_, ?_⟩
    · intro s hs h5
      rcases List.mem_append.1 (show s ∈ (pipeT c (rdI p.kids 0) st).1.steps ++ [stepO p] from hs) with hs | hs
      · exact g5 s hs h5
      · rw [List.mem_singleton.1 hs] at h5; exact absurd h5 hs5
    · intro j
      show askW j new + askK j ((pipeT c (rdI p.kids 0) st).1.steps ++ [stepO p]) = _
      rw [askK_app, ← g6 j]
      simp [askK, hs5]
  rcases wants_op hw with e | e | e | e | e | e
  · have hl : p.kids = [] := List.length_eq_zero_iff.1 (by rw [e] at hw; simp [wants] at hw; omega)
    rw [pipeT_eq, pipeO, if_pos e, hl, pipeL]
    refine ⟨[], by simp, he, rfl, (fun i h => absurd h (by simp)), (fun s hs => absurd hs (by simp)), fun j => ?_⟩
    simp only [askW, askK, inR, List.length_nil]
    rw [if_neg (by omega)]
  · exact one (by omega) (by omega) (by rw [e] at hw; simp [wants] at hw; omega)
  · exact one (by omega) (by omega) (by rw [e] at hw; simp [wants] at hw; omega)
  · have hl : p.kids.length = 2 := by rw [e] at hw; simp [wants] at hw; omega
    have hq0 := bnd_kids hr _ (kid_mem (p := p) (i := 0) (by omega))
    have hq1 := bnd_kids hr _ (kid_mem (p := p) (i := 1) (by omega))
    have hsz0 := kids_lt (kid_mem (p := p) (i := 0) (by omega))
    have hsz1 := kids_lt (kid_mem (p := p) (i := 1) (by omega))
    simp only [Int.natCast_zero, Int.natCast_one] at *
    obtain ⟨n0, g1, g2, g3, g4, g5, g6⟩ := pipe_shape c (rdI p.kids 0) hq0 st he
    obtain ⟨x, st1, hx⟩ : ∃ x st1, pipeT c (rdI p.kids 0) st = (x, st1) := ⟨_, _, rfl⟩
    rw [hx] at g1 g2 g3 g5 g6
    simp only at g1 g2 g3 g5 g6
    obtain ⟨n1, k1, k2, k3, k4, k5, k6⟩ := pipe_shape c (rdI p.kids 1) hq1 st1 g2
    obtain ⟨y, st2, hy⟩ : ∃ y st2, pipeT c (rdI p.kids 1) st1 = (y, st2) := ⟨_, _, rfl⟩
    rw [hy] at k1 k2 k3 k5 k6
    simp only at k1 k2 k3 k5 k6
    rw [pipe_two hl, pipeO, if_neg (by omega), if_pos e, hx]
    simp only []
    rw [hy]
    simp only [List.getD_cons_zero, List.getD_cons_succ]
    have l1 : st1.2.length = st.2.length + n0.length := by rw [g1, List.length_append]
    have l2 : st2.2.length = st.2.length + n0.length + n1.length := by rw [k1, List.length_append, l1]
    rw [l1] at k4 k5 k6
    refine ⟨n0 ++ n1 ++ [⟨y.scan, y.steps, st2.1.length⟩], ?_, ?_, g3, ?_, ?_, ?_⟩
    · rw [k1, g1]; simp
    · simp [k2]
    · refine rightW_app (rightW_app g4 k4) ?_
      intro i h
      have hi : i = 0 := by simp at h; omega
      subst hi
      refine ⟨?_, fun s hs h5 => ?_⟩
      · show (st2.1.length : Int) = _
        rw [k2, l2, List.length_append]; omega
      · have := k5 s hs h5
        rw [List.length_append]; omega
    · intro s hs h5
      rcases List.mem_append.1 (show s ∈ x.steps ++ [_] from hs) with hs | hs
      · have := g5 s hs h5
        simp only [List.length_append, List.length_singleton]; omega
      · rw [List.mem_singleton.1 hs]
        simp only [List.length_append, List.length_singleton]; omega
    · intro j
      show askW j (n0 ++ n1 ++ [⟨y.scan, y.steps, st2.1.length⟩]) + askK j (x.steps ++ [_]) = _
      have a := g6 j
      have b := k6 j
      simp only [askW_app, askK_app, askW, askK, List.length_append, List.length_singleton, inR, k2, l2] at a b ⊢
      simp only [true_and]
      split at a <;> split at b <;> split <;> split <;> omega
  · exact one (by omega) (by omega) (by rw [e] at hw; simp [wants] at hw; omega)
  · exact one (by omega) (by omega) (by rw [e] at hw; simp [wants] at hw; omega)
termination_by SizeOf.sizeOf p
/-- a program's shape -/
structure ShapeC (nT : Nat) (Ps : List PipeC) : Prop where
  len : Ps.length = nT + 1
  sink : ∀ i : Nat, i < Ps.length → (rdI Ps i).sink = if i = nT then -1 else (i : Int)
  tab : ∀ i : Nat, i < Ps.length → ∀ s ∈ (rdI Ps i).steps, s.op = 5 → 0 ≤ s.table ∧ s.table < i
  ask : ∀ j : Nat, j < nT → askW j Ps = 1
theorem rdI_get {l : List PipeC} {i : Nat} (h : i < l.length) : rdI l i = l[i] := by
  simp [rdI, List.getD_eq_getElem?_getD, h]
theorem comp_shape (c : CoreT) (p : PlanT) (hr : (bndT c p).isSome = true) : ShapeC (compT c p).1.length (compT c p).2 := by
  obtain ⟨new, g1, g2, g3, g4, g5, g6⟩ := pipe_shape c p hr ([], []) rfl
  simp only [List.nil_append, List.length_nil, Nat.zero_add] at g1 g4 g5 g6
  have e1 : (compT c p).1.length = new.length := by show (pipeT c p ([], [])).2.1.length = _; rw [g2, g1]
  have e2 : (compT c p).2 = new ++ [(pipeT c p ([], [])).1] := by show (pipeT c p ([], [])).2.2 ++ _ = _; rw [g1]
  rw [e1, e2]
  refine ⟨by simp, fun i hi => ?_, fun i hi s hs h5 => ?_, fun j hj => ?_⟩
  · rw [rdI_get hi]
    by_cases q : i < new.length
    · rw [List.getElem_append_left q, if_neg (by omega), (g4 i q).1]; simp
    · have : i = new.length := by simp at hi; omega
      subst this
      simp [g3]
  · rw [rdI_get hi] at hs
    by_cases q : i < new.length
    · rw [List.getElem_append_left q] at hs
      have := (g4 i q).2 s hs h5
      simpa using this
    · have e : i = new.length := by simp at hi; omega
      subst e
      have hs : s ∈ (pipeT c p ([], [])).1.steps := by simpa using hs
      have := g5 s hs h5
      omega
  · have := g6 j
    rw [askW_app]
    simp only [askW, Nat.add_zero]
    rw [this, inR, if_pos (by omega)]
/-! the law's counts -/
def addK (a : List Int) (s : StepC) : List Int := if s.op = 5 then a.set s.table.toNat (rdI a s.table + 1) else a
theorem addK_len (a : List Int) (s : StepC) : (addK a s).length = a.length := by unfold addK; split <;> simp
def cntK (a : List Int) (l : List StepC) : List Int := l.foldl addK a
def cntW (a : List Int) (l : List PipeC) : List Int := l.foldl (fun a x => cntK a x.steps) a
theorem cntK_len (a : List Int) (l : List StepC) : (cntK a l).length = a.length := by
  induction l generalizing a with
  | nil => rfl
  | cons s r ih => show (cntK (addK a s) r).length = _; rw [ih, addK_len]
theorem cntW_len (a : List Int) (l : List PipeC) : (cntW a l).length = a.length := by
  induction l generalizing a with
  | nil => rfl
  | cons s r ih => show (cntW (cntK a s.steps) r).length = _; rw [ih, cntK_len]
theorem rd_setI {a : List Int} {k j v : Int} (hk : 0 ≤ k) (hj : 0 ≤ j) (hl : j < a.length) : rdI (a.set k.toNat v) j = if k = j then v else rdI a j := by
  have h1 : j.toNat < a.length := by omega
  by_cases e : k = j
  · subst e; simp [rdI, List.getD_eq_getElem?_getD, h1]
  · have : k.toNat ≠ j.toNat := by omega
    simp [rdI, List.getD_eq_getElem?_getD, List.getElem?_set_ne this, e]
theorem rd_addK {a : List Int} {s : StepC} {j : Int} (ht : s.op = 5 → 0 ≤ s.table) (hj : 0 ≤ j) (hl : j < a.length) : rdI (addK a s) j = rdI a j + (if s.op = 5 ∧ s.table = j then 1 else 0 : Nat) := by
  unfold addK
  by_cases h5 : s.op = 5
  · rw [if_pos h5, rd_setI (ht h5) hj hl]
    by_cases e : s.table = j
    · rw [if_pos e, if_pos ⟨h5, e⟩, e]; rfl
    · rw [if_neg e, if_neg (fun q => e q.2)]; simp
  · rw [if_neg h5, if_neg (fun q => h5 q.1)]; simp
theorem rd_cntK {l : List StepC} {j : Int} (hj : 0 ≤ j) : ∀ {a : List Int}, (∀ s ∈ l, s.op = 5 → 0 ≤ s.table) → j < a.length → rdI (cntK a l) j = rdI a j + askK j l := by
  induction l with
  | nil => intro a _ _; simp [cntK, askK]
  | cons s r ih =>
    intro a hs hl
    show rdI (cntK (addK a s) r) j = _
    rw [ih (fun x hx => hs x (by simp [hx])) (by rw [addK_len]; exact hl), rd_addK (hs s (by simp)) hj hl, askK]
    omega
theorem rd_cntW {l : List PipeC} {j : Int} (hj : 0 ≤ j) : ∀ {a : List Int}, (∀ x ∈ l, ∀ s ∈ x.steps, s.op = 5 → 0 ≤ s.table) → j < a.length → rdI (cntW a l) j = rdI a j + askW j l := by
  induction l with
  | nil => intro a _ _; simp [cntW, askW]
  | cons x r ih =>
    intro a hs hl
    show rdI (cntW (cntK a x.steps) r) j = _
    rw [ih (fun y hy => hs y (by simp [hy])) (by rw [cntK_len]; exact hl), rd_cntK hj (hs x (by simp)) hl, askW]
    omega
theorem cntW_app (a : List Int) (l r : List PipeC) : cntW a (l ++ r) = cntW (cntW a l) r := by rw [cntW, List.foldl_append]; rfl
theorem cntK_app (a : List Int) (l r : List StepC) : cntK a (l ++ r) = cntK (cntK a l) r := by rw [cntK, List.foldl_append]; rfl
theorem cntW_step {a : List Int} {l : List PipeC} {i : Nat} (hi : i < l.length) : cntW a (l.take (i + 1)) = cntK (cntW a (l.take i)) (rdI l i).steps := by
  rw [take_rd hi, cntW_app]; rfl
theorem cntK_step {a : List Int} {l : List StepC} {i : Nat} (hi : i < l.length) : cntK a (l.take (i + 1)) = addK (cntK a (l.take i)) (rdI l i) := by
  rw [take_rd hi, cntK_app]; rfl
theorem askW_take (j : Int) (l : List PipeC) {i : Nat} (hi : i < l.length) (k : Nat) : askW j (l.take i) + askK j ((rdI l i).steps.take k) ≤ askW j l := by
  have h1 := askW_app j (l.take (i + 1)) (l.drop (i + 1))
  rw [List.take_append_drop, take_rd hi, askW_app] at h1
  have h2 := askK_app j ((rdI l i).steps.take k) ((rdI l i).steps.drop k)
  rw [List.take_append_drop] at h2
  simp only [askW] at h1
  omega
end Go.Proofs.Ytihbejpkfifplaa.Z
end
section
set_option maxRecDepth 100000
namespace Go.Proofs.Ytihbejpkfifplaa.Z
open Go Go.Fw
theorem shapeN_ok (p : PlanT) (c : CoreT) (hp : partsP p ≤ 2000000) (n : Int) (hn : n ≠ 0) (hC : partsP p ≤ 1000 → Snd P 12 [.d (.ag (encP p)), .d (.ag (encC c))] (.tup [.d (.ag [nilD, nilD]), .int n]) []) : Snd P 3 [.d (.ag (encP p)), .d (.ag (encC c))] (.bool true) [] := by
  have hA := parts_ok p hp 1000 (by omega) (by omega)
  obtain ⟨pa, hpa⟩ : ∃ x, partsR p 1000 = x := ⟨_, rfl⟩
  rw [hpa, encP_cells] at hA
  rw [encP_cells] at hC
  have hw0 : IntKind.i64.wrap 0 = 0 := by decide
  refine snd_of [] Try.func3 rfl (by kernel_rfl) Try.ntmps3 (by simp) ?_
  unfold Try.f3
  simp only [List.cons_append, List.nil_append, List.length_cons, List.length_nil, Nat.reduceAdd, Nat.reduceSub, List.replicate]
  refine Run.seq ?_
  refine Run.opsM false [⟨Op.box 27 (Operand.tmp 0), some 2, none⟩, ⟨Op.box 33 (Operand.tmp 1), some 3, none⟩, ⟨Op.assign (Operand.const (Value.bool false)), some 4, none⟩] mixed (by decide) rfl fun K hK => ?_
  try simp
  repeat' first | ((refine evL_c ?_); simp [hn, hw0]) | (with_reducible refine And.intro ?_ ?_) | intro _ | (with_reducible assumption) | omega
  all_goals (refine Fin.go hK ?_; clear hK K)
  simp only [Then_normal]
  refine Run.seq ?_
  refine Run.opsM false [⟨Op.call { callee := Callee.value (Operand.func 10), args := #[], argTypes := #[] }, some 14, none⟩, ⟨Op.assign (Operand.tmp 14), some 5, none⟩] mixed (by decide) rfl fun K hK => ?_
  try simp
  repeat' first | (refine ecallD head17_ok ?_) | ((refine evL_c ?_); simp [hn, hw0]) | (with_reducible refine And.intro ?_ ?_) | intro _ | (with_reducible assumption) | omega
  all_goals (refine Fin.go hK ?_; clear hK K)
  simp only [Then_normal]
  refine Run.seq ?_
  refine Run.seq ?_
  refine Run.opsM false [⟨Op.load 27 (Operand.tmp 2), some 15, none⟩, ⟨Op.call { callee := Callee.value (Operand.func 11), args := #[Operand.tmp 15, Operand.const (Value.int IntKind.i64 1000)], argTypes := #[27, 3] }, some 16, none⟩, ⟨Op.binOp BinOp.gtr 3 (Operand.tmp 16) (Operand.const (Value.int IntKind.i64 1000)) 3, some 17, none⟩] mixed (by decide) rfl fun K hK => ?_
  try simp
  repeat' first | (refine ecallD (by exact hA) ?_) | ((refine evL_c ?_); simp [hn, hw0]) | (with_reducible refine And.intro ?_ ?_) | intro _ | (with_reducible assumption) | omega
  all_goals (refine Fin.go hK ?_; clear hK K)
  simp only [Then_normal]
  refine Run.cond rfl (fun h17 => ?_) (fun h17 => ?_)
  · try simp at h17
    refine Run.seq ?_
    refine Run.opsM false [⟨Op.move (Operand.tmp 5), some 18, none⟩, ⟨Op.assign (Operand.tmp 18), some 4, none⟩] mixed (by decide) rfl fun K hK => ?_
    try simp
    repeat' first | ((refine evL_c ?_); simp [hn, hw0]) | (with_reducible refine And.intro ?_ ?_) | intro _ | (with_reducible assumption) | omega
    all_goals (refine Fin.go hK ?_; clear hK K)
    simp only [Then_normal]
    refine Run.ret ?_
    try simp only [Then_ret, Blok_ret]
    simp [hw0]
  · try simp at h17
    have e1 := partsR_all p 1000 hp (by omega)
    have hC := hC (by omega)
    refine Run.skip ?_
    simp only [Then_normal]
    refine Run.seq ?_
    refine Run.opsM false [⟨Op.load 27 (Operand.tmp 2), some 20, none⟩, ⟨Op.load 33 (Operand.tmp 3), some 21, none⟩, ⟨Op.call { callee := Callee.value (Operand.func 12), args := #[Operand.tmp 20, Operand.tmp 21], argTypes := #[27, 33] }, some 22, none⟩, ⟨Op.move (Operand.tmp 22), some 19, none⟩, ⟨Op.extract (Operand.tmp 19) 0, some 23, none⟩, ⟨Op.extract (Operand.tmp 19) 1, some 24, none⟩, ⟨Op.alloc 39, some 6, none⟩, ⟨Op.store 39 (Operand.tmp 6) (Operand.tmp 23), none, none⟩, ⟨Op.assign (Operand.tmp 24), some 7, none⟩] mixed (by decide) rfl fun K hK => ?_
    try simp
    repeat' first | (refine ecall (by exact hC) rfl ?_) | ((refine evL_c ?_); simp [hn, hw0]) | (with_reducible refine And.intro ?_ ?_) | intro _ | (with_reducible assumption) | omega
    all_goals (refine Fin.go hK ?_; clear hK K)
    simp only [Then_normal]
    refine Run.seq ?_
    refine Run.seq ?_
    refine Run.opsM false [⟨Op.move (Operand.tmp 5), some 25, none⟩, ⟨Op.unOp UnOp.not 4 (Operand.tmp 25), some 26, none⟩, ⟨Op.move (Operand.tmp 26), some 27, none⟩, ⟨Op.move (Operand.tmp 7), some 28, some (some 27, false)⟩, ⟨Op.binOp BinOp.neq 40 (Operand.tmp 28) (Operand.const (Value.int IntKind.i64 0)) 40, some 29, some (some 27, false)⟩, ⟨Op.pick (Operand.tmp 27) (Operand.const (Value.bool true)) (Operand.tmp 29), some 30, none⟩] mixed (by decide) rfl fun K hK => ?_
    try simp
    repeat' first | ((refine evL_c ?_); simp [hn, hw0]) | ((refine evL_g rfl ?_); (try simp only [gs_tt, gs_ff, gs_tf, gs_ft]); (try simp [hn, hw0])) | (refine evL_u rfl ?_) | ((with_reducible refine gsplit (fun hg => ?_) (fun hg => ?_)) <;> (try simp at hg) <;> (try simp [hn, hw0])) | (with_reducible refine And.intro ?_ ?_) | intro _ | (with_reducible assumption) | omega
    all_goals (refine Fin.go hK ?_; clear hK K)
    all_goals
      simp only [Then_normal]
      refine Run.cond rfl (fun h30 => ?_) (fun h30 => ?_)
      · skip
        refine Run.seq ?_
        refine Run.opsM false [⟨Op.move (Operand.tmp 5), some 31, none⟩, ⟨Op.move (Operand.tmp 31), some 32, none⟩, ⟨Op.fieldAddr 39 (Operand.tmp 6) 1, some 33, some (some 32, true)⟩, ⟨Op.load 37 (Operand.tmp 33), some 34, some (some 32, true)⟩, ⟨Op.call { callee := Callee.builtin Builtin.len, args := #[Operand.tmp 34], argTypes := #[37] }, some 35, some (some 32, true)⟩, ⟨Op.fieldAddr 39 (Operand.tmp 6) 0, some 36, some (some 32, true)⟩, ⟨Op.load 36 (Operand.tmp 36), some 37, some (some 32, true)⟩, ⟨Op.call { callee := Callee.builtin Builtin.len, args := #[Operand.tmp 37], argTypes := #[36] }, some 38, some (some 32, true)⟩, ⟨Op.binOp BinOp.add 3 (Operand.tmp 35) (Operand.tmp 38) 3, some 39, some (some 32, true)⟩, ⟨Op.binOp BinOp.eql 3 (Operand.tmp 39) (Operand.const (Value.int IntKind.i64 0)) 3, some 40, some (some 32, true)⟩, ⟨Op.pick (Operand.tmp 32) (Operand.tmp 40) (Operand.const (Value.bool false)), some 41, none⟩, ⟨Op.assign (Operand.tmp 41), some 4, none⟩] mixed (by decide) rfl fun K hK => ?_
        try simp
        repeat' first | ((refine evL_c ?_); simp [hn, hw0]) | ((refine evL_g rfl ?_); (try simp only [gs_tt, gs_ff, gs_tf, gs_ft]); (try simp [hn, hw0])) | (refine evL_u rfl ?_) | ((with_reducible refine gsplit (fun hg => ?_) (fun hg => ?_)) <;> (try simp at hg) <;> (try simp [hn, hw0])) | (with_reducible refine And.intro ?_ ?_) | intro _ | (with_reducible assumption) | omega
        all_goals (refine Fin.go hK ?_; clear hK K)
        all_goals
          simp only [Then_normal]
          refine Run.ret ?_
          try simp only [Then_ret, Blok_ret]
          simp [hw0]
      · simp at h30

set_option maxHeartbeats 8000000 in
theorem shapeA_ok (p : PlanT) (c : CoreT) (T : List (List Int)) (Ps : List PipeC) (hp : partsP p ≤ 2000000) (hS : ShapeC T.length Ps) (hTl : T.length ≤ 1000000) (hsum : sumS Ps ≤ 2000000) (hC : partsP p ≤ 1000 → Snd P 12 [.d (.ag (encP p)), .d (.ag (encC c))] (.tup [.d (.ag [.sl false (T.map encTb), .sl false (Ps.map encW)]), .int 0]) []) : Snd P 3 [.d (.ag (encP p)), .d (.ag (encC c))] (.bool true) [] := by
  have hA := parts_ok p hp 1000 (by omega) (by omega)
  obtain ⟨pa, hpa⟩ : ∃ x, partsR p 1000 = x := ⟨_, rfl⟩
  rw [hpa, encP_cells] at hA
  rw [encP_cells] at hC
  obtain ⟨hSl, hSs, hSt, hSa⟩ := hS
  obtain ⟨m, hm⟩ : ∃ x, Ps.length = x := ⟨_, rfl⟩
  obtain ⟨nT, hnT⟩ : ∃ x, T.length = x := ⟨_, rfl⟩
  rw [hm, hnT] at hSl
  rw [hnT] at hSs hSa hTl
  rw [hm] at hSs hSt
  subst hSl
  have hwT : IntKind.i64.wrap ((nT : Int) + 1) = (nT : Int) + 1 := wrap_id (by omega) (by omega)
  obtain ⟨z, hz⟩ : ∃ x, List.replicate nT (0 : Int) = x := ⟨_, rfl⟩
  have hz1 : List.replicate nT [D.lit (.int .i64 0)] = z.map encI := by rw [← hz, List.map_replicate]; rfl
  have hzl : z.length = nT := by rw [← hz]; simp
  have hz0 : ∀ j : Int, rdI z j = 0 := fun j => by
    rw [← hz, rdI, List.getD_eq_getElem?_getD, List.getElem?_replicate]; split <;> rfl
  have hnn : ∀ x ∈ Ps, ∀ s ∈ x.steps, s.op = 5 → 0 ≤ s.table := fun x hx s hs h5 => by
    obtain ⟨q, hq⟩ := List.getElem?_of_mem hx
    obtain ⟨q1, q2⟩ := List.getElem?_eq_some_iff.1 hq
    have := hSt q (by omega) s (by rw [rdI_get q1, q2]; exact hs) h5
    exact this.1
  refine snd_of [] Try.func3 rfl (by kernel_rfl) Try.ntmps3 (by simp) ?_
  unfold Try.f3
  simp only [List.cons_append, List.nil_append, List.length_cons, List.length_nil, Nat.reduceAdd, Nat.reduceSub, List.replicate]
  refine Run.seq ?_
  refine Run.opsM false [⟨Op.box 27 (Operand.tmp 0), some 2, none⟩, ⟨Op.box 33 (Operand.tmp 1), some 3, none⟩, ⟨Op.assign (Operand.const (Value.bool false)), some 4, none⟩] mixed (by decide) rfl fun K hK => ?_
  try simp
  repeat' first | ((refine evL_c ?_); simp [-List.map_set, hm, hnT, hwT]) | (with_reducible refine And.intro ?_ ?_) | intro _ | (with_reducible assumption) | omega
  all_goals (refine Fin.go hK ?_; clear hK K)
  simp only [Then_normal]
  refine Run.seq ?_
  refine Run.opsM false [⟨Op.call { callee := Callee.value (Operand.func 10), args := #[], argTypes := #[] }, some 14, none⟩, ⟨Op.assign (Operand.tmp 14), some 5, none⟩] mixed (by decide) rfl fun K hK => ?_
  try simp
  repeat' first | (refine ecallD head17_ok ?_) | ((refine evL_c ?_); simp [-List.map_set, hm, hnT, hwT]) | (with_reducible refine And.intro ?_ ?_) | intro _ | (with_reducible assumption) | omega
  all_goals (refine Fin.go hK ?_; clear hK K)
  simp only [Then_normal]
  refine Run.seq ?_
  refine Run.seq ?_
  refine Run.opsM false [⟨Op.load 27 (Operand.tmp 2), some 15, none⟩, ⟨Op.call { callee := Callee.value (Operand.func 11), args := #[Operand.tmp 15, Operand.const (Value.int IntKind.i64 1000)], argTypes := #[27, 3] }, some 16, none⟩, ⟨Op.binOp BinOp.gtr 3 (Operand.tmp 16) (Operand.const (Value.int IntKind.i64 1000)) 3, some 17, none⟩] mixed (by decide) rfl fun K hK => ?_
  try simp
  repeat' first | (refine ecallD (by exact hA) ?_) | ((refine evL_c ?_); simp [-List.map_set, hm, hnT, hwT]) | (with_reducible refine And.intro ?_ ?_) | intro _ | (with_reducible assumption) | omega
  all_goals (refine Fin.go hK ?_; clear hK K)
  simp only [Then_normal]
  refine Run.cond rfl (fun h17 => ?_) (fun h17 => ?_)
  · try simp at h17
    refine Run.seq ?_
    refine Run.opsM false [⟨Op.move (Operand.tmp 5), some 18, none⟩, ⟨Op.assign (Operand.tmp 18), some 4, none⟩] mixed (by decide) rfl fun K hK => ?_
    try simp
    repeat' first | ((refine evL_c ?_); simp [-List.map_set, hm, hnT, hwT]) | (with_reducible refine And.intro ?_ ?_) | intro _ | (with_reducible assumption) | omega
    all_goals (refine Fin.go hK ?_; clear hK K)
    simp only [Then_normal]
    refine Run.ret ?_
    try simp only [Then_ret, Blok_ret]
    simp
  · try simp at h17
    have e1 := partsR_all p 1000 hp (by omega)
    have hC := hC (by omega)
    refine Run.skip ?_
    simp only [Then_normal]
    refine Run.seq ?_
    refine Run.opsM false [⟨Op.load 27 (Operand.tmp 2), some 20, none⟩, ⟨Op.load 33 (Operand.tmp 3), some 21, none⟩, ⟨Op.call { callee := Callee.value (Operand.func 12), args := #[Operand.tmp 20, Operand.tmp 21], argTypes := #[27, 33] }, some 22, none⟩, ⟨Op.move (Operand.tmp 22), some 19, none⟩, ⟨Op.extract (Operand.tmp 19) 0, some 23, none⟩, ⟨Op.extract (Operand.tmp 19) 1, some 24, none⟩, ⟨Op.alloc 39, some 6, none⟩, ⟨Op.store 39 (Operand.tmp 6) (Operand.tmp 23), none, none⟩, ⟨Op.assign (Operand.tmp 24), some 7, none⟩] mixed (by decide) rfl fun K hK => ?_
    try simp
    repeat' first | (refine ecall (by exact hC) rfl ?_) | ((refine evL_c ?_); simp [-List.map_set, hm, hnT, hwT]) | (with_reducible refine And.intro ?_ ?_) | intro _ | (with_reducible assumption) | omega
    all_goals (refine Fin.go hK ?_; clear hK K)
    simp only [Then_normal]
    refine Run.seq ?_
    refine Run.seq ?_
    refine Run.opsM false [⟨Op.move (Operand.tmp 5), some 25, none⟩, ⟨Op.unOp UnOp.not 4 (Operand.tmp 25), some 26, none⟩, ⟨Op.move (Operand.tmp 26), some 27, none⟩, ⟨Op.move (Operand.tmp 7), some 28, some (some 27, false)⟩, ⟨Op.binOp BinOp.neq 40 (Operand.tmp 28) (Operand.const (Value.int IntKind.i64 0)) 40, some 29, some (some 27, false)⟩, ⟨Op.pick (Operand.tmp 27) (Operand.const (Value.bool true)) (Operand.tmp 29), some 30, none⟩] mixed (by decide) rfl fun K hK => ?_
    try simp
    repeat' first | ((refine evL_c ?_); simp [-List.map_set, hm, hnT, hwT]) | ((refine evL_g rfl ?_); (try simp only [gs_tt, gs_ff, gs_tf, gs_ft]); (try simp [-List.map_set, hm, hnT, hwT])) | (refine evL_u rfl ?_) | ((with_reducible refine gsplit (fun hg => ?_) (fun hg => ?_)) <;> (try simp at hg) <;> (try simp [-List.map_set, hm, hnT, hwT])) | (with_reducible refine And.intro ?_ ?_) | intro _ | (with_reducible assumption) | omega
    all_goals (refine Fin.go hK ?_; clear hK K)
    all_goals
      simp only [Then_normal]
      refine Run.cond rfl (fun h30 => ?_) (fun h30 => ?_)
      · simp at h30
      · skip
        refine Run.skip ?_
        simp only [Then_normal]
        refine Run.seq ?_
        refine Run.seq ?_
        refine Run.opsM false [⟨Op.fieldAddr 39 (Operand.tmp 6) 1, some 42, none⟩, ⟨Op.load 37 (Operand.tmp 42), some 43, none⟩, ⟨Op.call { callee := Callee.builtin Builtin.len, args := #[Operand.tmp 43], argTypes := #[37] }, some 44, none⟩, ⟨Op.fieldAddr 39 (Operand.tmp 6) 0, some 45, none⟩, ⟨Op.load 36 (Operand.tmp 45), some 46, none⟩, ⟨Op.call { callee := Callee.builtin Builtin.len, args := #[Operand.tmp 46], argTypes := #[36] }, some 47, none⟩, ⟨Op.binOp BinOp.add 3 (Operand.tmp 47) (Operand.const (Value.int IntKind.i64 1)) 3, some 48, none⟩, ⟨Op.binOp BinOp.neq 3 (Operand.tmp 44) (Operand.tmp 48) 3, some 49, none⟩] mixed (by decide) rfl fun K hK => ?_
        try simp
        repeat' first | ((refine evL_c ?_); simp [-List.map_set, hm, hnT, hwT]) | (with_reducible refine And.intro ?_ ?_) | intro _ | (with_reducible assumption) | omega
        all_goals (refine Fin.go hK ?_; clear hK K)
        simp only [Then_normal]
        refine Run.cond rfl (fun h49 => ?_) (fun h49 => ?_)
        · simp at h49
        · skip
          refine Run.skip ?_
          simp only [Then_normal]
          refine Run.seq ?_
          refine Run.opsM false [⟨Op.fieldAddr 39 (Operand.tmp 6) 0, some 50, none⟩, ⟨Op.load 36 (Operand.tmp 50), some 51, none⟩, ⟨Op.call { callee := Callee.builtin Builtin.len, args := #[Operand.tmp 51], argTypes := #[36] }, some 52, none⟩, ⟨Op.makeSlice 24 (Operand.tmp 52) (Operand.tmp 52), some 53, none⟩, ⟨Op.assign (Operand.tmp 53), some 8, none⟩] mixed (by decide) rfl fun K hK => ?_
          try simp
          repeat' first | ((refine evL_c ?_); simp [-List.map_set, hm, hnT, hwT]) | (with_reducible refine And.intro ?_ ?_) | intro _ | (with_reducible assumption) | omega
          all_goals (refine Fin.go hK ?_; clear hK K)
          simp only [Then_normal]
          refine Run.seq ?_
          refine Run.seq ?_
          refine Run.opsM false [⟨Op.assign (Operand.const (Value.int IntKind.i64 0)), some 9, none⟩] mixed (by decide) rfl fun K hK => ?_
          try simp
          repeat' first | ((refine evL_c ?_); simp [-List.map_set, hm, hnT, hwT]) | (with_reducible refine And.intro ?_ ?_) | intro _ | (with_reducible assumption) | omega
          all_goals (refine Fin.go hK ?_; clear hK K)
          simp only [Then_normal]
          refine Run.block ?_
          refine Run.loopO [4, 9, 10, 11, 12, 54, 55, 56, 57, 58, 59, 60, 61, 62, 63, 64, 65, 66, 67, 68, 69, 70, 71, 72, 73, 74, 75, 76, 77, 78, 79, 80, 81, 82, 83, 84, 85, 86, 87, 88, 89, 90, 91, 92, 93, 94, 95, 96, 97, 98, 99, 100, 101, 102, 103, 104, 105, 106, 107, 108, 109, 110, 111, 112, 113] (fun (i : Nat) => [(9, .int i)]) (fun (i : Nat) => [(300, .vals ((encP p).map .d)), (400, .vals ((encC c).map .d)), (700, .vals [.d (.sl false (T.map encTb)), .d (.sl false (Ps.map encW))]), (5400, .data 1 ((cntW z (Ps.take i)).map encI))]) (fun (i : Nat) => i ≤ nT + 1) (fun (i : Nat) => nT + 1 - i) 0 (by omega) (by simp [cntW, hz1, hm, hnT]) fun i hi => ?_
          simp only [over, List.foldl, List.set]
          have hau : i < nT + 1 → cntW z (Ps.take (i + 1)) = cntK (cntW z (Ps.take i)) (rdI Ps i).steps := fun h => cntW_step (by omega)
          have hav : ∀ (k : Nat) (j : Int), i < nT + 1 → 0 ≤ j → j < nT → 0 ≤ rdI (cntK (cntW z (Ps.take i)) ((rdI Ps i).steps.take k)) j ∧ rdI (cntK (cntW z (Ps.take i)) ((rdI Ps i).steps.take k)) j ≤ 1 := fun k j h h0 h1 => by
            have a1 := rd_cntK (l := (rdI Ps i).steps.take k) h0 (a := cntW z (Ps.take i)) (fun s hs => hnn _ (rdI_mem (by omega) (by omega)) s (List.mem_of_mem_take hs)) (by rw [cntW_len, hzl]; exact h1)
            have a2 := rd_cntW (l := Ps.take i) h0 (a := z) (fun x hx => hnn x (List.mem_of_mem_take hx)) (by rw [hzl]; exact h1)
            have a3 := askW_take j Ps (i := i) (by omega) k
            have a4 := hSa j.toNat (by omega)
            rw [show ((j.toNat : Nat) : Int) = j by omega] at a4
            rw [a1, a2, hz0]; omega
          have hal := cntW_len z (Ps.take i)
          rw [hzl] at hal
          obtain ⟨ai, hai⟩ : ∃ x, cntW z (Ps.take i) = x := ⟨_, rfl⟩
          rw [hai] at hau hav hal
          rw [hai]
          refine Run.seq ?_
          refine Run.seq ?_
          refine Run.opsM false [⟨Op.move (Operand.tmp 9), some 54, none⟩, ⟨Op.fieldAddr 39 (Operand.tmp 6) 1, some 55, none⟩, ⟨Op.load 37 (Operand.tmp 55), some 56, none⟩, ⟨Op.call { callee := Callee.builtin Builtin.len, args := #[Operand.tmp 56], argTypes := #[37] }, some 57, none⟩, ⟨Op.binOp BinOp.lss 3 (Operand.tmp 54) (Operand.tmp 57) 3, some 58, none⟩] mixed (by decide) rfl fun K hK => ?_
          try simp
          repeat' first | ((refine evL_c ?_); simp [-List.map_set, hm, hnT, hwT]) | (with_reducible refine And.intro ?_ ?_) | intro _ | (with_reducible assumption) | omega
          all_goals (refine Fin.go hK ?_; clear hK K)
          simp only [Then_normal]
          refine Run.cond rfl (fun h58 => ?_) (fun h58 => ?_)
          · try simp at h58
            have hi1 : i < nT + 1 := by omega
            have hi4 : (i : Int) < (nT : Int) + 1 := by omega
            have hau := hau hi1
            have hsk := hSs i hi1
            obtain ⟨wt, hwt⟩ : ∃ x, (if i = nT then -1 else (i : Int)) = x := ⟨_, rfl⟩
            rw [hwt] at hsk
            obtain ⟨ns, hsn⟩ : ∃ x, (rdI Ps i).steps.length = x := ⟨_, rfl⟩
            have hns : ns ≤ 2000000 := by
              have a1 := sumS_step (l := Ps) (i := i) (by omega)
              have a2 := sumS_take Ps (i + 1)
              omega
            refine Run.skip ?_
            simp only [Then_normal]
            refine Run.seq ?_
            refine Run.block ?_
            refine Run.seq ?_
            refine Run.opsM false [⟨Op.move (Operand.tmp 9), some 61, none⟩, ⟨Op.assign (Operand.tmp 61), some 10, none⟩] mixed (by decide) rfl fun K hK => ?_
            try simp
            repeat' first | ((refine evL_c ?_); simp [-List.map_set, hm, hnT, hwT, hi1, hi4, hsk, hal]) | (with_reducible refine And.intro ?_ ?_) | intro _ | (with_reducible assumption) | omega
            all_goals (refine Fin.go hK ?_; clear hK K)
            simp only [Then_normal]
            refine Run.cut [10, 62, 63, 64, 65, 66] [(10, .int wt)] [(300, .vals ((encP p).map .d)), (400, .vals ((encC c).map .d)), (700, .vals [.d (.sl false (T.map encTb)), .d (.sl false (Ps.map encW))]), (5400, .data 1 (ai.map encI))] ?_ ?_
            · refine Run.seq ?_
              refine Run.opsM false [⟨Op.move (Operand.tmp 9), some 62, none⟩, ⟨Op.fieldAddr 39 (Operand.tmp 6) 0, some 63, none⟩, ⟨Op.load 36 (Operand.tmp 63), some 64, none⟩, ⟨Op.call { callee := Callee.builtin Builtin.len, args := #[Operand.tmp 64], argTypes := #[36] }, some 65, none⟩, ⟨Op.binOp BinOp.eql 3 (Operand.tmp 62) (Operand.tmp 65) 3, some 66, none⟩] mixed (by decide) rfl fun K hK => ?_
              try simp
              repeat' first | ((refine evL_c ?_); simp [-List.map_set, hm, hnT, hwT, hi1, hi4, hsk, hal]) | (with_reducible refine And.intro ?_ ?_) | intro _ | (with_reducible assumption) | omega
              all_goals (refine Fin.go hK ?_; clear hK K)
              simp only [Then_normal]
              refine Run.cond rfl (fun h66 => ?_) (fun h66 => ?_)
              · try simp at h66
                refine Run.opsM false [⟨Op.assign (Operand.const (Value.int IntKind.i64 (-1))), some 10, none⟩] mixed (by decide) rfl fun K hK => ?_
                try simp
                repeat' first | ((refine evL_c ?_); simp [-List.map_set, hm, hnT, hwT, hi1, hi4, hsk, hal]) | (with_reducible refine And.intro ?_ ?_) | intro _ | (with_reducible assumption) | omega
                all_goals (refine Fin.go hK ?_; clear hK K)
                (try simp at h66)
                simp [-List.map_set, hm, hnT, ← hwt]
                omega
              · try simp at h66
                refine Run.skip ?_
                (try simp at h66)
                simp [-List.map_set, hm, hnT, ← hwt]
                omega
            · simp only [over, List.foldl, List.set]
              refine Run.seq ?_
              refine Run.seq ?_
              refine Run.opsM false [⟨Op.fieldAddr 39 (Operand.tmp 6) 1, some 67, none⟩, ⟨Op.load 37 (Operand.tmp 67), some 68, none⟩, ⟨Op.move (Operand.tmp 9), some 69, none⟩, ⟨Op.indexAddr 37 (Operand.tmp 68) (Operand.tmp 69), some 70, none⟩, ⟨Op.fieldAddr 45 (Operand.tmp 70) 2, some 71, none⟩, ⟨Op.load 3 (Operand.tmp 71), some 72, none⟩, ⟨Op.move (Operand.tmp 10), some 73, none⟩, ⟨Op.binOp BinOp.neq 3 (Operand.tmp 72) (Operand.tmp 73) 3, some 74, none⟩] mixed (by decide) rfl fun K hK => ?_
              try simp
              repeat' first | ((refine evL_c ?_); simp [-List.map_set, hm, hnT, hwT, hi1, hi4, hsk, hal]) | (with_reducible refine And.intro ?_ ?_) | intro _ | (with_reducible assumption) | omega
              all_goals (refine Fin.go hK ?_; clear hK K)
              simp only [Then_normal]
              refine Run.cond rfl (fun h74 => ?_) (fun h74 => ?_)
              · simp at h74
              · skip
                refine Run.skip ?_
                simp only [Then_normal]
                refine Run.seq ?_
                refine Run.opsM false [⟨Op.assign (Operand.const (Value.int IntKind.i64 0)), some 11, none⟩] mixed (by decide) rfl fun K hK => ?_
                try simp
                repeat' first | ((refine evL_c ?_); simp [-List.map_set, hm, hnT, hwT, hi1, hi4, hsk, hal]) | (with_reducible refine And.intro ?_ ?_) | intro _ | (with_reducible assumption) | omega
                all_goals (refine Fin.go hK ?_; clear hK K)
                simp only [Then_normal]
                refine Run.block ?_
                refine Run.loopO [4, 11, 12, 75, 76, 77, 78, 79, 80, 81, 82, 83, 84, 85, 86, 87, 88, 89, 90, 91, 92, 93, 94, 95, 96, 97, 98, 99, 100, 101, 102, 103, 104, 105, 106, 107, 108, 109, 110, 111, 112, 113] (fun (k : Nat) => [(11, .int k)]) (fun (k : Nat) => [(300, .vals ((encP p).map .d)), (400, .vals ((encC c).map .d)), (700, .vals [.d (.sl false (T.map encTb)), .d (.sl false (Ps.map encW))]), (5400, .data 1 ((cntK ai ((rdI Ps i).steps.take k)).map encI))]) (fun (k : Nat) => k ≤ ns) (fun (k : Nat) => ns - k) 0 (by omega) (by simp [cntK, hm, hnT]) fun k hk => ?_
                simp only [over, List.foldl, List.set]
                have hju : k < ns → cntK ai ((rdI Ps i).steps.take (k + 1)) = addK (cntK ai ((rdI Ps i).steps.take k)) (rdI (rdI Ps i).steps k) := fun h => cntK_step (by omega)
                have hakl := cntK_len ai ((rdI Ps i).steps.take k)
                have hakv := fun j => hav k j hi1
                rw [hal] at hakl
                obtain ⟨ak, hak⟩ : ∃ x, cntK ai ((rdI Ps i).steps.take k) = x := ⟨_, rfl⟩
                rw [hak] at hju hakl hakv
                rw [hak]
                refine Run.seq ?_
                refine Run.seq ?_
                refine Run.opsM false [⟨Op.move (Operand.tmp 11), some 75, none⟩, ⟨Op.fieldAddr 39 (Operand.tmp 6) 1, some 76, none⟩, ⟨Op.load 37 (Operand.tmp 76), some 77, none⟩, ⟨Op.move (Operand.tmp 9), some 78, none⟩, ⟨Op.indexAddr 37 (Operand.tmp 77) (Operand.tmp 78), some 79, none⟩, ⟨Op.fieldAddr 45 (Operand.tmp 79) 1, some 80, none⟩, ⟨Op.load 43 (Operand.tmp 80), some 81, none⟩, ⟨Op.call { callee := Callee.builtin Builtin.len, args := #[Operand.tmp 81], argTypes := #[43] }, some 82, none⟩, ⟨Op.binOp BinOp.lss 3 (Operand.tmp 75) (Operand.tmp 82) 3, some 83, none⟩] mixed (by decide) rfl fun K hK => ?_
                try simp
                repeat' first | ((refine evL_c ?_); simp [-List.map_set, hm, hnT, hwT, hi1, hi4, hsk, hal]) | (with_reducible refine And.intro ?_ ?_) | intro _ | (with_reducible assumption) | omega
                all_goals (refine Fin.go hK ?_; clear hK K)
                simp only [Then_normal]
                refine Run.cond rfl (fun h83 => ?_) (fun h83 => ?_)
                · try simp [hsn] at h83
                  have hk1 : k < ns := by omega
                  have hst := hSt i hi1 (rdI (rdI Ps i).steps k) (rdI_mem (by omega) (by omega))
                  obtain ⟨tb, htb⟩ : ∃ x, (rdI (rdI Ps i).steps k).table = x := ⟨_, rfl⟩
                  rw [htb] at hst
                  refine Run.skip ?_
                  simp only [Then_normal]
                  refine Run.seq ?_
                  refine Run.block ?_
                  refine Run.cut [12, 86, 87, 88, 89, 90, 91, 92, 93, 94] [(12, .pt 1300 0 0 0)] [(300, .vals ((encP p).map .d)), (400, .vals ((encC c).map .d)), (700, .vals [.d (.sl false (T.map encTb)), .d (.sl false (Ps.map encW))]), (1300, .vals ((encK (rdI (rdI Ps i).steps k)).map .d)), (5400, .data 1 (ak.map encI))] ?_ ?_
                  · refine Run.opsM false [⟨Op.fieldAddr 39 (Operand.tmp 6) 1, some 86, none⟩, ⟨Op.load 37 (Operand.tmp 86), some 87, none⟩, ⟨Op.move (Operand.tmp 9), some 88, none⟩, ⟨Op.indexAddr 37 (Operand.tmp 87) (Operand.tmp 88), some 89, none⟩, ⟨Op.fieldAddr 45 (Operand.tmp 89) 1, some 90, none⟩, ⟨Op.load 43 (Operand.tmp 90), some 91, none⟩, ⟨Op.move (Operand.tmp 11), some 92, none⟩, ⟨Op.indexAddr 43 (Operand.tmp 91) (Operand.tmp 92), some 93, none⟩, ⟨Op.load 48 (Operand.tmp 93), some 94, none⟩, ⟨Op.alloc 48, some 12, none⟩, ⟨Op.store 48 (Operand.tmp 12) (Operand.tmp 94), none, none⟩] mixed (by decide) rfl fun K hK => ?_
                    try simp
                    repeat' first | ((refine evL_c ?_); simp [-List.map_set, hm, hnT, hwT, hi1, hi4, hsk, hal, hsn, hk1, hakl, htb]) | (with_reducible refine And.intro ?_ ?_) | intro _ | (with_reducible assumption) | omega
                    all_goals (refine Fin.go hK ?_; clear hK K)
                    (try simp [-List.map_set, hm, hnT, hwT, hi1, hi4, hsk, hal, hsn, hk1, hakl]) <;> (first | omega | (simp; done) | grind)
                  · simp only [over, List.foldl, List.set]
                    refine Run.seq ?_
                    refine Run.seq ?_
                    refine Run.opsM false [⟨Op.fieldAddr 48 (Operand.tmp 12) 0, some 95, none⟩, ⟨Op.load 46 (Operand.tmp 95), some 96, none⟩, ⟨Op.binOp BinOp.neq 46 (Operand.tmp 96) (Operand.const (Value.int IntKind.i64 5)) 46, some 97, none⟩] mixed (by decide) rfl fun K hK => ?_
                    try simp
                    repeat' first | ((refine evL_c ?_); simp [-List.map_set, hm, hnT, hwT, hi1, hi4, hsk, hal, hsn, hk1, hakl, htb]) | (with_reducible refine And.intro ?_ ?_) | intro _ | (with_reducible assumption) | omega
                    all_goals (refine Fin.go hK ?_; clear hK K)
                    simp only [Then_normal]
                    refine Run.cond rfl (fun h97 => ?_) (fun h97 => ?_)
                    · try simp at h97
                      refine Run.exit ?_
                      simp (decide := true) only [Then_exit, Blok_exit, if_true, if_false]
                      simp only [Then_normal]
                      refine Run.opsM false [⟨Op.move (Operand.tmp 11), some 84, none⟩, ⟨Op.binOp BinOp.add 3 (Operand.tmp 84) (Operand.const (Value.int IntKind.i64 1)) 3, some 85, none⟩, ⟨Op.assign (Operand.tmp 85), some 11, none⟩] mixed (by decide) rfl fun K hK => ?_
                      try simp
                      repeat' first | ((refine evL_c ?_); simp [-List.map_set, hm, hnT, hwT, hi1, hi4, hsk, hal, hsn, hk1, hakl, htb]) | (with_reducible refine And.intro ?_ ?_) | intro _ | (with_reducible assumption) | omega
                      all_goals (refine Fin.go hK ?_; clear hK K)
                      refine ⟨k + 1, by omega, by omega, ?_⟩
                      first
                        | (have hju := hju hk1; rw [addK, if_pos h97, htb, hv] at hju; simp (disch := omega) [-List.map_set, hm, hnT, hwT, hi1, hi4, hsk, hal, hsn, hak, hju, wrap_id]; done)
                        | (have hju := hju hk1; rw [addK, if_neg h97] at hju; simp (disch := omega) [-List.map_set, hm, hnT, hwT, hi1, hi4, hsk, hal, hsn, hak, hju, wrap_id]; done)
                    · try simp at h97
                      obtain ⟨t1, t2⟩ := hst h97
                      have t3 : tb < (nT : Int) := by omega
                      have t4 : tb.toNat < nT := by omega
                      obtain ⟨v1, v2⟩ := hakv tb t1 t3
                      obtain ⟨v, hv⟩ : ∃ x, rdI ak tb = x := ⟨_, rfl⟩
                      rw [hv] at v1 v2
                      have hw : IntKind.i64.wrap (v + 1) = v + 1 := wrap_id (by omega) (by omega)
                      refine Run.skip ?_
                      simp only [Then_normal]
                      refine Run.seq ?_
                      refine Run.cut [98, 99, 100, 101, 102, 103, 104, 105, 106] [(106, .bool false)] [(300, .vals ((encP p).map .d)), (400, .vals ((encC c).map .d)), (700, .vals [.d (.sl false (T.map encTb)), .d (.sl false (Ps.map encW))]), (1300, .vals ((encK (rdI (rdI Ps i).steps k)).map .d)), (5400, .data 1 (ak.map encI))] ?_ ?_
                      · refine Run.opsM false [⟨Op.fieldAddr 48 (Operand.tmp 12) 5, some 98, none⟩, ⟨Op.load 3 (Operand.tmp 98), some 99, none⟩, ⟨Op.binOp BinOp.lss 3 (Operand.tmp 99) (Operand.const (Value.int IntKind.i64 0)) 3, some 100, none⟩, ⟨Op.move (Operand.tmp 100), some 101, none⟩, ⟨Op.fieldAddr 48 (Operand.tmp 12) 5, some 102, some (some 101, false)⟩, ⟨Op.load 3 (Operand.tmp 102), some 103, some (some 101, false)⟩, ⟨Op.move (Operand.tmp 9), some 104, some (some 101, false)⟩, ⟨Op.binOp BinOp.geq 3 (Operand.tmp 103) (Operand.tmp 104) 3, some 105, some (some 101, false)⟩, ⟨Op.pick (Operand.tmp 101) (Operand.const (Value.bool true)) (Operand.tmp 105), some 106, none⟩] mixed (by decide) rfl fun K hK => ?_
                        try simp
                        repeat' first | ((refine evL_c ?_); simp [-List.map_set, hm, hnT, hwT, hi1, hi4, hsk, hal, hsn, hk1, hakl, htb, t1, t2, t3, t4, hv, hw, *]) | ((refine evL_g rfl ?_); (try simp only [gs_tt, gs_ff, gs_tf, gs_ft]); (try simp [-List.map_set, hm, hnT, hwT, hi1, hi4, hsk, hal, hsn, hk1, hakl, htb, t1, t2, t3, t4, hv, hw, *])) | (refine evL_u rfl ?_) | ((with_reducible refine gsplit (fun hg => ?_) (fun hg => ?_)) <;> (try simp at hg) <;> (try simp [-List.map_set, hm, hnT, hwT, hi1, hi4, hsk, hal, hsn, hk1, hakl, htb, t1, t2, t3, t4, hv, hw, *])) | (with_reducible refine And.intro ?_ ?_) | intro _ | (with_reducible assumption) | omega
                        all_goals (refine Fin.go hK ?_; clear hK K)
                        all_goals
                          (try simp [*]) <;> (first | omega | (simp; done) | grind)
                      · simp only [over, List.foldl, List.set]
                        refine Run.cond rfl (fun h106 => ?_) (fun h106 => ?_)
                        · simp at h106
                        · skip
                          refine Run.skip ?_
                          simp only [Then_normal]
                          refine Run.opsM false [⟨Op.move (Operand.tmp 8), some 107, none⟩, ⟨Op.fieldAddr 48 (Operand.tmp 12) 5, some 108, none⟩, ⟨Op.load 3 (Operand.tmp 108), some 109, none⟩, ⟨Op.indexAddr 24 (Operand.tmp 107) (Operand.tmp 109), some 110, none⟩, ⟨Op.load 3 (Operand.tmp 110), some 111, none⟩, ⟨Op.binOp BinOp.add 3 (Operand.tmp 111) (Operand.const (Value.int IntKind.i64 1)) 3, some 112, none⟩, ⟨Op.indexAddr 24 (Operand.tmp 107) (Operand.tmp 109), some 113, none⟩, ⟨Op.store 3 (Operand.tmp 113) (Operand.tmp 112), none, none⟩] mixed (by decide) rfl fun K hK => ?_
                          try simp
                          repeat' first | ((refine evL_c ?_); simp [-List.map_set, hm, hnT, hwT, hi1, hi4, hsk, hal, hsn, hk1, hakl, htb, t1, t2, t3, t4, hv, hw]) | (with_reducible refine And.intro ?_ ?_) | intro _ | (with_reducible assumption) | omega
                          all_goals (refine Fin.go hK ?_; clear hK K)
                          simp only [Blok_normal]
                          simp only [Then_normal]
                          refine Run.opsM false [⟨Op.move (Operand.tmp 11), some 84, none⟩, ⟨Op.binOp BinOp.add 3 (Operand.tmp 84) (Operand.const (Value.int IntKind.i64 1)) 3, some 85, none⟩, ⟨Op.assign (Operand.tmp 85), some 11, none⟩] mixed (by decide) rfl fun K hK => ?_
                          try simp
                          repeat' first | ((refine evL_c ?_); simp [-List.map_set, hm, hnT, hwT, hi1, hi4, hsk, hal, hsn, hk1, hakl, htb, t1, t2, t3, t4, hv, hw]) | (with_reducible refine And.intro ?_ ?_) | intro _ | (with_reducible assumption) | omega
                          all_goals (refine Fin.go hK ?_; clear hK K)
                          refine ⟨k + 1, by omega, by omega, ?_⟩
                          first
                            | (have hju := hju hk1; rw [addK, if_pos h97, htb, hv] at hju; simp (disch := omega) [-List.map_set, hm, hnT, hwT, hi1, hi4, hsk, hal, hsn, hak, hju, wrap_id]; done)
                            | (have hju := hju hk1; rw [addK, if_neg h97] at hju; simp (disch := omega) [-List.map_set, hm, hnT, hwT, hi1, hi4, hsk, hal, hsn, hak, hju, wrap_id]; done)
                · try simp [hsn] at h83
                  have hk3 : k = ns := by omega
                  have hau2 : cntW z (Ps.take (i + 1)) = ak := by
                    rw [hau, ← hak, List.take_of_length_le (by omega)]
                  refine Run.exit ?_
                  simp (decide := true) only [Then_exit, Blok_exit, if_true, if_false]
                  simp only [Blok_normal]
                  simp only [Then_normal]
                  refine Run.opsM false [⟨Op.move (Operand.tmp 9), some 59, none⟩, ⟨Op.binOp BinOp.add 3 (Operand.tmp 59) (Operand.const (Value.int IntKind.i64 1)) 3, some 60, none⟩, ⟨Op.assign (Operand.tmp 60), some 9, none⟩] mixed (by decide) rfl fun K hK => ?_
                  try simp
                  repeat' first | ((refine evL_c ?_); simp [-List.map_set, hm, hnT, hwT, hi1, hi4, hsk, hal, hsn]) | (with_reducible refine And.intro ?_ ?_) | intro _ | (with_reducible assumption) | omega
                  all_goals (refine Fin.go hK ?_; clear hK K)
                  refine ⟨i + 1, by omega, by omega, ?_⟩
                  simp (disch := omega) [-List.map_set, hm, hnT, wrap_id, hau2]
          · try simp at h58
            have hi3 : i = nT + 1 := by omega
            have hfin : ∀ j : Nat, j < nT → rdI ai j = 1 := fun j hj => by
              have a2 := rd_cntW (l := Ps) (j := j) (by omega) (a := z) hnn (by rw [hzl]; omega)
              rw [← hai, show Ps.take i = Ps from List.take_of_length_le (by omega), a2, hz0, hSa j hj]; rfl
            refine Run.exit ?_
            simp (decide := true) only [Then_exit, Blok_exit, if_true, if_false]
            simp only [Then_normal]
            refine Run.seq ?_
            refine Run.seq ?_
            refine Run.opsM false [⟨Op.assign (Operand.const (Value.int IntKind.i64 0)), some 13, none⟩] mixed (by decide) rfl fun K hK => ?_
            try simp
            repeat' first | ((refine evL_c ?_); simp [-List.map_set, hm, hnT, hwT, hal]) | (with_reducible refine And.intro ?_ ?_) | intro _ | (with_reducible assumption) | omega
            all_goals (refine Fin.go hK ?_; clear hK K)
            simp only [Then_normal]
            refine Run.block ?_
            refine Run.loopO [4, 13, 114, 115, 116, 117, 118, 119, 120, 121, 122, 123, 124] (fun (j : Nat) => [(13, .int j)]) (fun (j : Nat) => [(300, .vals ((encP p).map .d)), (400, .vals ((encC c).map .d)), (700, .vals [.d (.sl false (T.map encTb)), .d (.sl false (Ps.map encW))]), (5400, .data 1 (ai.map encI))]) (fun (j : Nat) => j ≤ nT) (fun (j : Nat) => nT - j) 0 (by omega) (by simp [hm, hnT]) fun j hj => ?_
            simp only [over, List.foldl, List.set]
            refine Run.seq ?_
            refine Run.seq ?_
            refine Run.opsM false [⟨Op.move (Operand.tmp 13), some 114, none⟩, ⟨Op.move (Operand.tmp 8), some 115, none⟩, ⟨Op.call { callee := Callee.builtin Builtin.len, args := #[Operand.tmp 115], argTypes := #[24] }, some 116, none⟩, ⟨Op.binOp BinOp.lss 3 (Operand.tmp 114) (Operand.tmp 116) 3, some 117, none⟩] mixed (by decide) rfl fun K hK => ?_
            try simp
            repeat' first | ((refine evL_c ?_); simp [-List.map_set, hm, hnT, hwT, hal]) | (with_reducible refine And.intro ?_ ?_) | intro _ | (with_reducible assumption) | omega
            all_goals (refine Fin.go hK ?_; clear hK K)
            simp only [Then_normal]
            refine Run.cond rfl (fun h117 => ?_) (fun h117 => ?_)
            · try simp [hal] at h117
              have hj1 : j < nT := by omega
              have hj2 := hfin j hj1
              refine Run.skip ?_
              simp only [Then_normal]
              refine Run.seq ?_
              refine Run.block ?_
              refine Run.seq ?_
              refine Run.opsM false [⟨Op.move (Operand.tmp 8), some 120, none⟩, ⟨Op.move (Operand.tmp 13), some 121, none⟩, ⟨Op.indexAddr 24 (Operand.tmp 120) (Operand.tmp 121), some 122, none⟩, ⟨Op.load 3 (Operand.tmp 122), some 123, none⟩, ⟨Op.binOp BinOp.neq 3 (Operand.tmp 123) (Operand.const (Value.int IntKind.i64 1)) 3, some 124, none⟩] mixed (by decide) rfl fun K hK => ?_
              try simp
              repeat' first | ((refine evL_c ?_); simp [-List.map_set, hm, hnT, hwT, hal, hj1, hj2]) | (with_reducible refine And.intro ?_ ?_) | intro _ | (with_reducible assumption) | omega
              all_goals (refine Fin.go hK ?_; clear hK K)
              simp only [Then_normal]
              refine Run.cond rfl (fun h124 => ?_) (fun h124 => ?_)
              · simp at h124
              · skip
                refine Run.skip ?_
                simp only [Blok_normal]
                simp only [Then_normal]
                refine Run.opsM false [⟨Op.move (Operand.tmp 13), some 118, none⟩, ⟨Op.binOp BinOp.add 3 (Operand.tmp 118) (Operand.const (Value.int IntKind.i64 1)) 3, some 119, none⟩, ⟨Op.assign (Operand.tmp 119), some 13, none⟩] mixed (by decide) rfl fun K hK => ?_
                try simp
                repeat' first | ((refine evL_c ?_); simp [-List.map_set, hm, hnT, hwT, hal, hj1, hj2]) | (with_reducible refine And.intro ?_ ?_) | intro _ | (with_reducible assumption) | omega
                all_goals (refine Fin.go hK ?_; clear hK K)
                refine ⟨j + 1, by omega, by omega, ?_⟩
                simp (disch := omega) [-List.map_set, hm, hnT, wrap_id]
            · try simp [hal] at h117
              refine Run.exit ?_
              simp (decide := true) only [Then_exit, Blok_exit, if_true, if_false]
              simp only [Then_normal]
              refine Run.seq ?_
              refine Run.opsM false [⟨Op.assign (Operand.const (Value.bool true)), some 4, none⟩] mixed (by decide) rfl fun K hK => ?_
              try simp
              repeat' first | ((refine evL_c ?_); simp [-List.map_set, hm, hnT, hwT, hal]) | (with_reducible refine And.intro ?_ ?_) | intro _ | (with_reducible assumption) | omega
              all_goals (refine Fin.go hK ?_; clear hK K)
              simp only [Then_normal]
              refine Run.ret ?_
              try simp only [Then_ret, Blok_ret]
              simp


theorem shape_ok (p : PlanT) (c : CoreT) (hp : partsP p ≤ 2000000) : Snd P 3 [.d (.ag (encP p)), .d (.ag (encC c))] (.bool true) [] := by
  by_cases h : patS c.nodes c.edges = true ∧ (bndT c p).isSome = true
  · by_cases hs : partsP p ≤ 1000
    · have hl := (pipeT_len c p ([], [])).2.1
      simp only [List.length_nil] at hl
      exact shapeA_ok p c (compT c p).1 (compT c p).2 hp (comp_shape c p h.2) (by show (pipeT c p ([], [])).2.1.length ≤ _; omega) (by
        have h1 := (pipe_cnt c p h.2 ([], [])).1
        have h2 := numS_le false p
        simp only [compT, sumS_app, sumS] at h1 ⊢
        omega) fun _ => Compile_ok c p h.1 (by omega) h.2
    · exact shapeN_ok p c hp 1 (by decide) fun q => absurd q hs
  · obtain ⟨n, hn, hN⟩ : ∃ n : Int, n ≠ 0 ∧ (partsP p ≤ 1000 → Snd P 12 [.d (.ag (encP p)), .d (.ag (encC c))] (.tup [.d (.ag [nilD, nilD]), .int n]) []) := by
      by_cases hs : partsP p ≤ 1000
      · obtain ⟨n, h1, _, h2⟩ := CompileN_ok c p (by omega) h
        exact ⟨n, h1, fun _ => h2⟩
      · exact ⟨1, by decide, fun q => absurd q hs⟩
    exact shapeN_ok p c hp n hn hN
end Go.Proofs.Ytihbejpkfifplaa.Z
end
section
namespace Go.Proofs.Ytihbejpkfifplaa.lawCodegenShape
open Go Go.Fw Go.ChangeShapes Go.WideShapes Go.ChangeAt Go.RowKit Go.Joins Go.Deep Go.Proofs.Ytihbejpkfifplaa.Z
theorem own : ownKnob Try.prog.godebug = none := by kernel_rfl
theorem laidOut : laidOutB Try.prog = true := by kernel_rfl
theorem under_lay {P : Program} {t : TypeId} {l : List (Nat × TypeId)} (hl : lay P t = l) (h0 : l ≠ []) : ∃ fs, P.underlying t = some (.struct fs) := by
  unfold lay at hl
  split at hl
  · exact ⟨_, ‹_›⟩
  · exact absurd hl.symm h0
theorem vrel_ag {w : World} {m : Nat → Option Nat} {ds : List D} {cs : Array Value} (h : CR w ds cs.toList) : VRel w (fun _ => False) m (.d (.ag ds)) (.agg cs) := by
  have := DRel.ag (w := w) (L := fun _ => False) ds cs.toList h.len (fun v hv => by
    obtain ⟨j, hj⟩ := List.getElem?_of_mem hv
    have hlt : j < ds.length := by rw [← h.len]; exact (List.getElem?_eq_some_iff.1 hj).1
    exact (h.at_ j _ v (List.getElem?_eq_getElem hlt) hj).1) (fun j x v hx hv => (h.at_ j x v hx hv).2)
  rw [Array.toArray_toList] at this
  exact .d this
set_option maxRecDepth 100000 in
theorem contract (H : Type) (enc : TypeId × Value → H) (W : World) (base : Nat) (args : Array Value) (ds gs : List (DataW H)) (before : List MemPlace)
    (hval : ∀ (j : Nat) t v, Try.f3.params[j]? = some t → args[j]? = some v → Value.okWide Try.prog W .any base t v)
    (hW : DataW.Whole enc Try.prog Try.f3.params.toList Rows.codegenShapeSpec.vars false W args.toList ds gs before) (hk : Rows.uptoSmall H (ds ++ gs) = true) :
    Calls Try.prog 3 args W fun e W' => ∃ v, e = .returned v ∧ Rows.codegenShapeSpec.post enc Try.prog Try.f3 false true false false W args v W' := by
  have hW' := hW
  obtain ⟨p, q, hA0, hV, rfl, hfz, hnd⟩ := hW
  have hA : DataW.TrodAll enc Try.prog W 0 (fun _ => true) true Try.f3.params.toList args.toList ds p := hA0
  rw [show Try.f3.params = #[27, 33] from by kernel_rfl] at hA hval
  obtain ⟨v0, vs0, d0, ds0, p0, q0, hargs, rfl, rfl, h0, r0⟩ := trodAll_cons hA
  obtain ⟨v1, vs1, d1, ds1, p1, q1, rfl, rfl, rfl, h1, r1⟩ := trodAll_cons r0
  obtain ⟨rfl, rfl, rfl⟩ := trodAll_nil r1
  obtain rfl : args = #[v0, v1] := by cases args; simp_all
  obtain ⟨rfl, rfl⟩ := trodVars_none hV
  have k0 := h0
  have k1 := h1
  have lt : ∀ {t v d ps}, DataW.Trod enc Try.prog W 0 (fun _ => true) true t v d ps → ∀ x ∈ ps, x.block < W.heap.size := fun h => by obtain ⟨m, hm⟩ := h; exact DataW.trod_lt m _ _ _ hm
  obtain ⟨fs0, u0⟩ := under_lay lay_P (by simp)
  obtain ⟨fs1, u1⟩ := under_lay lay_C (by simp)
  obtain ⟨c0, rfl, -⟩ := okWide_struct u0 (hval 0 _ v0 rfl rfl)
  obtain ⟨c1, rfl, -⟩ := okWide_struct u1 (hval 1 _ v1 rfl rfl)
  obtain ⟨f0, g0⟩ := h0
  obtain ⟨f1, g1⟩ := h1
  simp only [Value.cells] at g0 g1
  obtain ⟨pa, ra, ba⟩ := rd_P f0 g0
  obtain ⟨co, rc, -⟩ := rd_C g1
  have hb : Rows.uptoBulkAll [d0, d1] ≤ 1048576 := by
    have := of_decide_eq_true hk
    simpa using this
  simp only [Rows.uptoBulkAll] at hb
  simp only at ba
  have hS := shape_ok pa co (by omega)
  have hC := hS.2 W (fun _ => False) [.agg c0, .agg c1] (fun _ h => h.elim)
    (All2.cons (vrel_ag ra) (All2.cons (vrel_ag rc) All2.nil))
  refine hC.mono fun e W' hx => ?_
  obtain ⟨v, m', rfl, hx, hv, -⟩ := hx
  have hv := hv.lit_inv
  subst hv
  have bel : Below W.heap.size W W' := ⟨hx.os, hx.tape, hx.output, hx.size, fun k hk => hx.block k hk fun f => f⟩
  exact ⟨_, rfl, _, _, _, [], _, [], hW', trodAll_mk1 (shut_bool (show Try.prog.underlying 4 = some .bool from by kernel_rfl) _),
    (trodAll_cons_mk (Below.trod laidOut (by kernel_rfl) (of_decide_eq_true (by kernel_rfl)) k0 bel (lt k0))
      (trodAll_cons_mk (Below.trod laidOut (by kernel_rfl) (of_decide_eq_true (by kernel_rfl)) k1 bel (lt k1))
        trodAll_mk0)), rfl, bel.frame _, fun h => by cases h⟩
set_option maxRecDepth 100000 in
theorem lifted (os : Os) (started : os.Started) (H : Type) (enc : TypeId × Value → H) (F : Stop.Interp) :
    ReturnsInHanded {} Try.checked os 3 .any ((Rows.OpenSpec.upto Rows.codegenShapeSpec).pre6 enc Try.prog Try.f3 Rows.codegenShapeUptoRow.domain false) (((Rows.OpenSpec.upto Rows.codegenShapeSpec).at F).post enc Try.prog Try.f3 false true false false) := by
  refine returnsInHanded_of_cond (C := Try.checked) (s := Rows.OpenSpec.upto Rows.codegenShapeSpec) (k := Rows.uptoSmall) rfl own started (by kernel_rfl) Try.func3
    (OpenSpec.witness (enc := enc) (C := Try.checked) (s := Rows.OpenSpec.upto Rows.codegenShapeSpec) (k := Rows.uptoSmall) rfl false ⟨#[], #[.agg #[.int .i64 0, .slice none 0 0, .int .i64 0, .slice none 0 0, .bool false, .slice none 0 0], .agg #[.slice none 0 0, .slice none 0 0, .slice none 0 0, .slice none 0 0, .bool false, .slice none 0 0, .int .i64 0]], []⟩ 8 (by kernel_rfl) (by kernel_rfl) (by kernel_rfl)
      (x := ([.agg [.lit (.int .i64 0), .nil, .lit (.int .i64 0), .nil, .lit (.bool false), .nil], .agg [.nil, .nil, .nil, .nil, .lit (.bool false), .nil, .lit (.int .i64 0)]], [], [])) (by kernel_rfl) rfl (by kernel_rfl)) ?_
  intro W base args ds gs before hval hW _ hk _
  exact contract H enc W base args ds gs before hval hW hk
theorem proved : Rows.CodegenShapeUptoSaid :=
  OpenClaim.holds_of_cond 3 Try.f3 rfl rfl rfl rfl rfl rfl rfl ⟨rfl, rfl, rfl, rfl, rfl⟩ rfl rfl rfl rfl rfl (by kernel_rfl) Try.func3 (by kernel_rfl)
    (of_decide_eq_true (by kernel_rfl)) (by unfold Func.isWrapper; first | (rw [if_pos (by decide +kernel)]; kernel_rfl) | (rw [if_neg (by decide +kernel)]; exact ⟨rfl, rfl⟩))
    (fun os started H enc _ F => lifted os started H enc F)
#print axioms proved
end Go.Proofs.Ytihbejpkfifplaa.lawCodegenShape
end
