/- What any plan binds. -/
import Derived.Test.YtihbejpkfifplaaPi
import Derived.Test.YtihbejpkfifplaaPj
import Derived.Test.YtihbejpkfifplaaPk
set_option linter.unusedVariables false
set_option linter.unusedSimpArgs false
set_option maxRecDepth 100000
namespace Go.Proofs.Ytihbejpkfifplaa.Z
open Go Go.Fw
theorem len_two {α : Type} {l : List α} (h : l.length = 2) : ∃ q r, l = [q, r] := by
  match l, h with
  | [q, r], _ => exact ⟨q, r, rfl⟩
theorem wants_op {o : Int} {w : Nat} (h : wants o = some w) : o = 1 ∨ o = 2 ∨ o = 3 ∨ o = 4 ∨ o = 5 ∨ o = 6 := by
  unfold wants at h
  split at h; · exact .inl ‹_›
  split at h; · exact .inr (.inl ‹_›)
  split at h; · exact .inr (.inr (.inl ‹_›))
  split at h; · exact .inr (.inr (.inr (.inl ‹_›)))
  split at h; · exact .inr (.inr (.inr (.inr (.inl ‹_›))))
  split at h; · exact .inr (.inr (.inr (.inr (.inr ‹_›))))
  cases h
theorem kids_lt {p q : PlanT} (h : q ∈ p.kids) : SizeOf.sizeOf q < SizeOf.sizeOf p := by
  cases p with
  | mk o k s e b t =>
    have := List.sizeOf_lt_of_mem (show q ∈ k from h)
    simp only [PlanT.mk.sizeOf_spec]
    omega
theorem opS_len {c : CoreT} {p : PlanT} {bs : List (List Bool)} {b : List Bool} (hw : wants p.op = some bs.length) (hb : ∀ x ∈ bs, x.length = c.nodes.length + c.edges.length) (h : opS c p bs = some b) : b.length = c.nodes.length + c.edges.length := by
  have g : ∀ i, i < bs.length → (bs.getD i []).length = c.nodes.length + c.edges.length := fun i hl => by
    rw [List.getD_eq_getElem?_getD, List.getElem?_eq_getElem hl]
    exact hb _ (List.getElem_mem hl)
  unfold opS at h
  split at h
  · split at h
    · obtain rfl := Option.some.inj h; simp
    · cases h
  · rename_i n1
    have h0 : p.op = 2 ∨ p.op = 3 ∨ p.op = 4 ∨ p.op = 5 ∨ p.op = 6 := (wants_op hw).resolve_left n1
    have hl : 0 < bs.length := by
      rcases h0 with e | e | e | e | e <;> · rw [e] at hw; simp [wants] at hw; omega
    split at h
    · split at h
      · obtain rfl := Option.some.inj h; rw [edgeL_len, g 0 hl]
      · cases h
    · split at h
      · rename_i n3
        have hl2 : 1 < bs.length := by rw [n3] at hw; simp [wants] at hw; omega
        split at h
        · obtain rfl := Option.some.inj h; rw [jn_len, g 1 hl2]
        · cases h
      · split at h
        · split at h
          · obtain rfl := Option.some.inj h; rw [meetR_len, g 0 hl]
          · cases h
        · split at h
          · obtain rfl := Option.some.inj h; exact g 0 hl
          · cases h
mutual
theorem bndT_len (c : CoreT) : ∀ (p : PlanT) (b : List Bool), bndT c p = some b → b.length = c.nodes.length + c.edges.length
  | .mk o k s e bk t, b, h => by
    rw [bndT] at h
    split at h
    · rename_i hw
      obtain ⟨bs, h1, h2⟩ := Option.bind_eq_some_iff.1 h
      obtain ⟨h3, h4⟩ := bndL_len c k bs h1
      exact opS_len (p := .mk o k s e bk t) (by show wants o = _; rw [hw, h4]) h3 h2
    · cases h
theorem bndL_len (c : CoreT) : ∀ (l : List PlanT) (bs : List (List Bool)), bndL c l = some bs → (∀ x ∈ bs, x.length = c.nodes.length + c.edges.length) ∧ bs.length = l.length
  | [], bs, h => by
    rw [bndL] at h
    obtain rfl := Option.some.inj h
    simp
  | p :: r, bs, h => by
    rw [bndL] at h
    obtain ⟨b, h1, h2⟩ := Option.bind_eq_some_iff.1 h
    obtain ⟨cs, h3, rfl⟩ := Option.map_eq_some_iff.1 h2
    have e1 := bndT_len c p b h1
    obtain ⟨e2, e3⟩ := bndL_len c r cs h3
    refine ⟨fun x hx => ?_, by simp [e3]⟩
    rcases List.mem_cons.1 hx with rfl | hx
    · exact e1
    · exact e2 x hx
end
theorem bnd_one {c : CoreT} {p : PlanT} (hl : p.kids.length = 1) (hw : wants p.op = some 1) : bndT c p = (bndT c (rdI p.kids 0)).bind fun b => opS c p [b] := by
  obtain ⟨q, hq⟩ := List.length_eq_one_iff.1 hl
  rw [bndT_eq, hl, if_pos hw, hq]
  show (bndL c [q]).bind _ = (bndT c q).bind _
  rw [bndL, bndL]
  cases bndT c q <;> rfl
theorem bnd_two {c : CoreT} {p : PlanT} (hl : p.kids.length = 2) (hw : wants p.op = some 2) : bndT c p = (bndT c (rdI p.kids 0)).bind fun a => (bndT c (rdI p.kids 1)).bind fun b => opS c p [a, b] := by
  obtain ⟨q, r, hq⟩ := len_two hl
  rw [bndT_eq, hl, if_pos hw, hq]
  show (bndL c [q, r]).bind _ = (bndT c q).bind fun a => (bndT c r).bind fun b => _
  rw [bndL, bndL, bndL]
  cases bndT c q <;> cases bndT c r <;> rfl
theorem kid_mem {p : PlanT} {i : Nat} (h : i < p.kids.length) : rdI p.kids (i : Int) ∈ p.kids := rdI_mem (by omega) (by omega)
mutual
def partsP : PlanT → Nat
  | .mk _ k _ e _ t => 1 + t.length + e.length + cntL t + partsL k
def partsL : List PlanT → Nat
  | [] => 0
  | p :: r => partsP p + partsL r
end
theorem partsP_eq (p : PlanT) : partsP p = 1 + p.terms.length + p.edges.length + cntL p.terms + partsL p.kids := by cases p; rw [partsP]; rfl
theorem cntL_mem {l : List TermT} {t : TermT} (h : t ∈ l) : cntT t ≤ cntL l := by
  induction l with
  | nil => cases h
  | cons x r ih =>
    rw [cntL]
    rcases List.mem_cons.1 h with rfl | h
    · omega
    · have := ih h; omega
theorem partsL_mem {l : List PlanT} {p : PlanT} (h : p ∈ l) : partsP p ≤ partsL l := by
  induction l with
  | nil => cases h
  | cons x r ih =>
    rw [partsL]
    rcases List.mem_cons.1 h with rfl | h
    · omega
    · have := ih h; omega
theorem term_fine {p : PlanT} {M : Nat} (hf : partsP p ≤ M) : ∀ t ∈ p.terms, cntT t ≤ M := fun t ht => by
  have := cntL_mem ht; rw [partsP_eq] at hf; omega
theorem kid_fine {p : PlanT} {M : Nat} (hf : partsP p ≤ M) {i : Nat} (hi : i < p.kids.length) : partsP (rdI p.kids (i : Int)) ≤ M := by
  have := partsL_mem (kid_mem hi); rw [partsP_eq] at hf; omega
theorem bound_ok (c : CoreT) (hP : patS c.nodes c.edges = true) (p : PlanT) (hf : partsP p ≤ 1000000) : Snd P 37 [.d (.ag (encC c ++ [D.int c.nodes.length])), .d (.ag (encP p))] (resB (bndT c p)) (stoB (bndT c p)) := by
  by_cases hw : wants p.op = some p.kids.length
  · have h0 := wants_op hw
    have one : wants p.op = some 1 → p.kids.length = 1 → (∀ hq : bndT c (rdI p.kids 0) = none, Snd P 37 [.d (.ag (encC c ++ [D.int c.nodes.length])), .d (.ag (encP p))] vnil []) →
        (∀ b0, bndT c (rdI p.kids 0) = some b0 → b0.length = c.nodes.length + c.edges.length → Snd P 37 [.d (.ag (encC c ++ [D.int c.nodes.length])), .d (.ag (encP p))] (resB (opS c p [b0])) (stoB (opS c p [b0]))) → Snd P 37 [.d (.ag (encC c ++ [D.int c.nodes.length])), .d (.ag (encP p))] (resB (bndT c p)) (stoB (bndT c p)) := fun h1 h2 hn hs => by
      rw [bnd_one h2 h1]
      cases hq : bndT c (rdI p.kids 0) with
      | none => exact hn hq
      | some b0 => exact hs b0 hq (bndT_len c _ _ hq)
    have IH0 : 0 < p.kids.length → Snd P 37 [.d (.ag (encC c ++ [D.int c.nodes.length])), .d (.ag (encP (rdI p.kids 0)))] (resB (bndT c (rdI p.kids 0))) (stoB (bndT c (rdI p.kids 0))) := fun h =>
      have := kids_lt (kid_mem (i := 0) h)
      bound_ok c hP (rdI p.kids 0) (kid_fine (i := 0) hf h)
    have IH1 : 1 < p.kids.length → Snd P 37 [.d (.ag (encC c ++ [D.int c.nodes.length])), .d (.ag (encP (rdI p.kids 1)))] (resB (bndT c (rdI p.kids 1))) (stoB (bndT c (rdI p.kids 1))) := fun h =>
      have := kids_lt (kid_mem (i := 1) h)
      bound_ok c hP (rdI p.kids 1) (kid_fine (i := 1) hf h)
    rcases h0 with e | e | e | e | e | e
    · have hl : p.kids.length = 0 := by rw [e] at hw; simp [wants] at hw; omega
      have h := bound1_ok c p hP e hl
      have e2 : bndT c p = opS c p [] := by
        rw [bndT_eq, if_pos hw, List.length_eq_zero_iff.1 hl, bndL]; rfl
      rw [e2]; exact h
    · have hl : p.kids.length = 1 := by rw [e] at hw; simp [wants] at hw; omega
      exact one (by rw [hw, hl]) hl (fun hq => boundN2_ok c p hP e hl (IH0 (by omega)) hq) fun b0 hq hb => bound2_ok c p hP e hl (IH0 (by omega)) b0 hq hb
    · have hl : p.kids.length = 1 := by rw [e] at hw; simp [wants] at hw; omega
      exact one (by rw [hw, hl]) hl (fun hq => boundN3_ok c p hP e hl (IH0 (by omega)) hq) fun b0 hq hb => bound3_ok c p hP e hl (IH0 (by omega)) b0 hq hb
    · have hl : p.kids.length = 2 := by rw [e] at hw; simp [wants] at hw; omega
      rw [bnd_two hl (by rw [hw, hl])]
      cases hq : bndT c (rdI p.kids 0) with
      | none => exact boundN4_ok c p hP e hl (IH0 (by omega)) hq
      | some b0 =>
        have hb0 := bndT_len c _ _ hq
        cases hr : bndT c (rdI p.kids 1) with
        | none => exact boundN4b_ok c p hP e hl (IH0 (by omega)) (IH1 (by omega)) b0 hq hb0 hr
        | some b1 => exact bound4_ok c p hP e hl (IH0 (by omega)) (IH1 (by omega)) b0 b1 hq hb0 hr (bndT_len c _ _ hr)
    · have hl : p.kids.length = 1 := by rw [e] at hw; simp [wants] at hw; omega
      exact one (by rw [hw, hl]) hl (fun hq => boundN5_ok c p hP e hl (IH0 (by omega)) hq) fun b0 hq hb => bound5_ok c p hP e hl (IH0 (by omega)) b0 hq hb
    · have hl : p.kids.length = 1 := by rw [e] at hw; simp [wants] at hw; omega
      exact one (by rw [hw, hl]) hl (fun hq => boundN6_ok c p hP e hl (IH0 (by omega)) hq) fun b0 hq hb => bound6_ok c p hP e hl (IH0 (by omega)) b0 hq hb (term_fine hf)
  · have e2 : bndT c p = none := by rw [bndT_eq, if_neg hw]
    rw [e2]
    show Snd P 37 _ vnil []
    by_cases e1 : p.op = 1
    · exact boundX1_ok c p hP e1 (fun hl => hw (by rw [e1, hl]; rfl))
    by_cases e2 : p.op = 2
    · exact boundX2_ok c p hP e2 (fun hl => hw (by rw [e2, hl]; rfl))
    by_cases e3 : p.op = 3
    · exact boundX3_ok c p hP e3 (fun hl => hw (by rw [e3, hl]; rfl))
    by_cases e4 : p.op = 4
    · exact boundX4_ok c p hP e4 (fun hl => hw (by rw [e4, hl]; rfl))
    by_cases e5 : p.op = 5
    · exact boundX5_ok c p hP e5 (fun hl => hw (by rw [e5, hl]; rfl))
    by_cases e6 : p.op = 6
    · exact boundX6_ok c p hP e6 (fun hl => hw (by rw [e6, hl]; rfl))
    exact boundX0_ok c p hP e1 e2 e3 e4 e5 e6
termination_by SizeOf.sizeOf p
/-- what Bound answers -/
def boundD (c : CoreT) (p : PlanT) : D × Int := if patS c.nodes c.edges then match bndT c p with
  | some b => (.sl false (b.map encB), 0)
  | none => (.lit (.slice none 0 0), 131) else (.lit (.slice none 0 0), 1)
theorem BoundA_ok (c : CoreT) (p : PlanT) (hf : partsP p ≤ 1000000) (hP : patS c.nodes c.edges = false) : Snd P 20 [.d (.ag (encP p)), .d (.ag (encC c))] (.tup [.d (.lit (.slice none 0 0)), .int 1]) [] := by
  have hP1 : Snd P 36 [.d (.ag (encC c))] (.bool false) [] := by rw [← hP]; exact pattern_ok c
  refine snd_of [] Try.func20 rfl (by kernel_rfl) Try.ntmps20 (by simp) ?_
  unfold Try.f20
  simp only [List.cons_append, List.nil_append, List.length_cons, List.length_nil, Nat.reduceAdd, Nat.reduceSub, List.replicate]
  refine Run.seq ?_
  refine Run.opsM false [⟨Op.box 27 (Operand.tmp 0), some 2, none⟩, ⟨Op.box 33 (Operand.tmp 1), some 3, none⟩, ⟨Op.assign (Operand.const (Value.slice none 0 0)), some 4, none⟩, ⟨Op.assign (Operand.const (Value.int IntKind.i64 0)), some 5, none⟩] mixed (by decide) rfl fun K hK => ?_
  try simp
  repeat' first | ((refine evL_c ?_); simp) | (with_reducible refine And.intro ?_ ?_) | intro _ | (with_reducible assumption) | omega
  all_goals (refine Fin.go hK ?_; clear hK K)
  simp only [Then_normal]
  refine Run.seq ?_
  refine Run.seq ?_
  refine Run.opsM false [⟨Op.load 33 (Operand.tmp 3), some 7, none⟩, ⟨Op.call { callee := Callee.value (Operand.func 36), args := #[Operand.tmp 7], argTypes := #[33] }, some 8, none⟩, ⟨Op.unOp UnOp.not 4 (Operand.tmp 8), some 9, none⟩] mixed (by decide) rfl fun K hK => ?_
  try simp
  repeat' first | (refine ecallD (by exact hP1) ?_) | ((refine evL_c ?_); simp) | (with_reducible refine And.intro ?_ ?_) | intro _ | (with_reducible assumption) | omega
  all_goals (refine Fin.go hK ?_; clear hK K)
  simp only [Then_normal]
  refine Run.cond rfl (fun h9 => ?_) (fun h9 => ?_)
  · skip
    refine Run.seq ?_
    refine Run.opsM false [⟨Op.assign (Operand.const (Value.slice none 0 0)), some 4, none⟩, ⟨Op.assign (Operand.const (Value.int IntKind.i64 1)), some 5, none⟩] mixed (by decide) rfl fun K hK => ?_
    try simp
    repeat' first | ((refine evL_c ?_); simp) | (with_reducible refine And.intro ?_ ?_) | intro _ | (with_reducible assumption) | omega
    all_goals (refine Fin.go hK ?_; clear hK K)
    simp only [Then_normal]
    refine Run.ret ?_
    try simp only [Then_ret, Blok_ret]
    simp
  · simp at h9

theorem BoundB_ok (c : CoreT) (p : PlanT) (hf : partsP p ≤ 1000000) (hP : patS c.nodes c.edges = true) (hb : bndT c p = none) : Snd P 20 [.d (.ag (encP p)), .d (.ag (encC c))] (.tup [.d (.lit (.slice none 0 0)), .int 131]) [] := by
  obtain ⟨hn1, hn8, hk8⟩ := pat_rng hP
  obtain ⟨n, hn⟩ : ∃ k, c.nodes.length = k := ⟨_, rfl⟩
  have hP1 : Snd P 36 [.d (.ag (encC c))] (.bool true) [] := by rw [← hP]; exact pattern_ok c
  have hB := bound_ok c hP p hf
  simp only [hb, resB, stoB, encP_cells, hn] at hB
  refine snd_of [] Try.func20 rfl (by kernel_rfl) Try.ntmps20 (by simp) ?_
  unfold Try.f20
  simp only [List.cons_append, List.nil_append, List.length_cons, List.length_nil, Nat.reduceAdd, Nat.reduceSub, List.replicate]
  refine Run.seq ?_
  refine Run.opsM false [⟨Op.box 27 (Operand.tmp 0), some 2, none⟩, ⟨Op.box 33 (Operand.tmp 1), some 3, none⟩, ⟨Op.assign (Operand.const (Value.slice none 0 0)), some 4, none⟩, ⟨Op.assign (Operand.const (Value.int IntKind.i64 0)), some 5, none⟩] mixed (by decide) rfl fun K hK => ?_
  try simp
  repeat' first | ((refine evL_c ?_); simp [hn]) | (with_reducible refine And.intro ?_ ?_) | intro _ | (with_reducible assumption) | omega
  all_goals (refine Fin.go hK ?_; clear hK K)
  simp only [Then_normal]
  refine Run.seq ?_
  refine Run.seq ?_
  refine Run.opsM false [⟨Op.load 33 (Operand.tmp 3), some 7, none⟩, ⟨Op.call { callee := Callee.value (Operand.func 36), args := #[Operand.tmp 7], argTypes := #[33] }, some 8, none⟩, ⟨Op.unOp UnOp.not 4 (Operand.tmp 8), some 9, none⟩] mixed (by decide) rfl fun K hK => ?_
  try simp
  repeat' first | (refine ecallD (by exact hP1) ?_) | ((refine evL_c ?_); simp [hn]) | (with_reducible refine And.intro ?_ ?_) | intro _ | (with_reducible assumption) | omega
  all_goals (refine Fin.go hK ?_; clear hK K)
  simp only [Then_normal]
  refine Run.cond rfl (fun h9 => ?_) (fun h9 => ?_)
  · simp at h9
  · skip
    refine Run.skip ?_
    simp only [Then_normal]
    refine Run.seq ?_
    refine Run.seq ?_
    refine Run.opsM false [⟨Op.load 33 (Operand.tmp 3), some 10, none⟩, ⟨Op.fieldAddr 33 (Operand.tmp 3) 0, some 11, none⟩, ⟨Op.load 28 (Operand.tmp 11), some 12, none⟩, ⟨Op.call { callee := Callee.builtin Builtin.len, args := #[Operand.tmp 12], argTypes := #[28] }, some 13, none⟩, ⟨Op.build 86 #[(0, Operand.tmp 10), (1, Operand.tmp 13)], some 14, none⟩, ⟨Op.load 27 (Operand.tmp 2), some 15, none⟩, ⟨Op.call { callee := Callee.value (Operand.func 37), args := #[Operand.tmp 14, Operand.tmp 15], argTypes := #[86, 27] }, some 16, none⟩, ⟨Op.assign (Operand.tmp 16), some 6, none⟩] mixed (by decide) rfl fun K hK => ?_
    try simp
    repeat' first | (refine ecall (by exact hB) rfl ?_) | ((refine evL_c ?_); simp [hn]) | (with_reducible refine And.intro ?_ ?_) | intro _ | (with_reducible assumption) | omega
    all_goals (refine Fin.go hK ?_; clear hK K)
    simp only [Then_normal]
    refine Run.seq ?_
    refine Run.opsM false [⟨Op.move (Operand.tmp 6), some 17, none⟩, ⟨Op.binOp BinOp.neq 60 (Operand.tmp 17) (Operand.const (Value.slice none 0 0)) 60, some 18, none⟩] mixed (by decide) rfl fun K hK => ?_
    try simp
    repeat' first | ((refine evL_c ?_); simp [hn]) | (with_reducible refine And.intro ?_ ?_) | intro _ | (with_reducible assumption) | omega
    all_goals (refine Fin.go hK ?_; clear hK K)
    simp only [Then_normal]
    refine Run.cond rfl (fun h18 => ?_) (fun h18 => ?_)
    · simp at h18
    · skip
      refine Run.skip ?_
      simp only [Then_normal]
      refine Run.seq ?_
      refine Run.opsM false [⟨Op.assign (Operand.const (Value.slice none 0 0)), some 4, none⟩, ⟨Op.assign (Operand.const (Value.int IntKind.i64 131)), some 5, none⟩] mixed (by decide) rfl fun K hK => ?_
      try simp
      repeat' first | ((refine evL_c ?_); simp [hn]) | (with_reducible refine And.intro ?_ ?_) | intro _ | (with_reducible assumption) | omega
      all_goals (refine Fin.go hK ?_; clear hK K)
      simp only [Then_normal]
      refine Run.ret ?_
      try simp only [Then_ret, Blok_ret]
      simp

theorem BoundC_ok (c : CoreT) (p : PlanT) (hf : partsP p ≤ 1000000) (hP : patS c.nodes c.edges = true) (b : List Bool) (hb : bndT c p = some b) : Snd P 20 [.d (.ag (encP p)), .d (.ag (encC c))] (.tup [.d (.sl false (b.map encB)), .int 0]) [] := by
  obtain ⟨hn1, hn8, hk8⟩ := pat_rng hP
  obtain ⟨n, hn⟩ : ∃ k, c.nodes.length = k := ⟨_, rfl⟩
  have hP1 : Snd P 36 [.d (.ag (encC c))] (.bool true) [] := by rw [← hP]; exact pattern_ok c
  have hB := bound_ok c hP p hf
  have hl := bndT_len c p b hb
  have hl0 : 0 < b.length := by omega
  obtain ⟨m, hm⟩ : ∃ m, b.length = m := ⟨_, rfl⟩
  rw [hm] at hl0
  simp only [hb, resB, stoB, encP_cells, hn, hm] at hB
  refine snd_of [] Try.func20 rfl (by kernel_rfl) Try.ntmps20 (by simp) ?_
  unfold Try.f20
  simp only [List.cons_append, List.nil_append, List.length_cons, List.length_nil, Nat.reduceAdd, Nat.reduceSub, List.replicate]
  refine Run.seq ?_
  refine Run.opsM false [⟨Op.box 27 (Operand.tmp 0), some 2, none⟩, ⟨Op.box 33 (Operand.tmp 1), some 3, none⟩, ⟨Op.assign (Operand.const (Value.slice none 0 0)), some 4, none⟩, ⟨Op.assign (Operand.const (Value.int IntKind.i64 0)), some 5, none⟩] mixed (by decide) rfl fun K hK => ?_
  try simp
  repeat' first | ((refine evL_c ?_); simp [hn, hm, hl0]) | (with_reducible refine And.intro ?_ ?_) | intro _ | (with_reducible assumption) | omega
  all_goals (refine Fin.go hK ?_; clear hK K)
  simp only [Then_normal]
  refine Run.seq ?_
  refine Run.seq ?_
  refine Run.opsM false [⟨Op.load 33 (Operand.tmp 3), some 7, none⟩, ⟨Op.call { callee := Callee.value (Operand.func 36), args := #[Operand.tmp 7], argTypes := #[33] }, some 8, none⟩, ⟨Op.unOp UnOp.not 4 (Operand.tmp 8), some 9, none⟩] mixed (by decide) rfl fun K hK => ?_
  try simp
  repeat' first | (refine ecallD (by exact hP1) ?_) | ((refine evL_c ?_); simp [hn, hm, hl0]) | (with_reducible refine And.intro ?_ ?_) | intro _ | (with_reducible assumption) | omega
  all_goals (refine Fin.go hK ?_; clear hK K)
  simp only [Then_normal]
  refine Run.cond rfl (fun h9 => ?_) (fun h9 => ?_)
  · simp at h9
  · skip
    refine Run.skip ?_
    simp only [Then_normal]
    refine Run.seq ?_
    refine Run.seq ?_
    refine Run.opsM false [⟨Op.load 33 (Operand.tmp 3), some 10, none⟩, ⟨Op.fieldAddr 33 (Operand.tmp 3) 0, some 11, none⟩, ⟨Op.load 28 (Operand.tmp 11), some 12, none⟩, ⟨Op.call { callee := Callee.builtin Builtin.len, args := #[Operand.tmp 12], argTypes := #[28] }, some 13, none⟩, ⟨Op.build 86 #[(0, Operand.tmp 10), (1, Operand.tmp 13)], some 14, none⟩, ⟨Op.load 27 (Operand.tmp 2), some 15, none⟩, ⟨Op.call { callee := Callee.value (Operand.func 37), args := #[Operand.tmp 14, Operand.tmp 15], argTypes := #[86, 27] }, some 16, none⟩, ⟨Op.assign (Operand.tmp 16), some 6, none⟩] mixed (by decide) rfl fun K hK => ?_
    try simp
    repeat' first | (refine ecall (by exact hB) rfl ?_) | ((refine evL_c ?_); simp [hn, hm, hl0]) | (with_reducible refine And.intro ?_ ?_) | intro _ | (with_reducible assumption) | omega
    all_goals (refine Fin.go hK ?_; clear hK K)
    simp only [Then_normal]
    refine Run.seq ?_
    refine Run.opsM false [⟨Op.move (Operand.tmp 6), some 17, none⟩, ⟨Op.binOp BinOp.neq 60 (Operand.tmp 17) (Operand.const (Value.slice none 0 0)) 60, some 18, none⟩] mixed (by decide) rfl fun K hK => ?_
    try simp
    repeat' first | ((refine evL_c ?_); simp [hn, hm, hl0]) | (with_reducible refine And.intro ?_ ?_) | intro _ | (with_reducible assumption) | omega
    all_goals (refine Fin.go hK ?_; clear hK K)
    simp only [Then_normal]
    refine Run.cond rfl (fun h18 => ?_) (fun h18 => ?_)
    · skip
      refine Run.seq ?_
      refine Run.opsM false [⟨Op.move (Operand.tmp 6), some 19, none⟩, ⟨Op.assign (Operand.tmp 19), some 4, none⟩, ⟨Op.assign (Operand.const (Value.int IntKind.i64 0)), some 5, none⟩] mixed (by decide) rfl fun K hK => ?_
      try simp
      repeat' first | ((refine evL_c ?_); simp [hn, hm, hl0]) | (with_reducible refine And.intro ?_ ?_) | intro _ | (with_reducible assumption) | omega
      all_goals (refine Fin.go hK ?_; clear hK K)
      simp only [Then_normal]
      refine Run.ret ?_
      try simp only [Then_ret, Blok_ret]
      simp [hm, List.take_of_length_le]
    · simp at h18

theorem Bound_ok (c : CoreT) (p : PlanT) (hf : partsP p ≤ 1000000) : Snd P 20 [.d (.ag (encP p)), .d (.ag (encC c))] (.tup [.d (boundD c p).1, .int (boundD c p).2]) [] := by
  unfold boundD
  cases hP : patS c.nodes c.edges with
  | false => exact BoundA_ok c p hf hP
  | true =>
    cases hb : bndT c p with
    | none => exact BoundB_ok c p hf hP hb
    | some b => exact BoundC_ok c p hf hP b hb


end Go.Proofs.Ytihbejpkfifplaa.Z
