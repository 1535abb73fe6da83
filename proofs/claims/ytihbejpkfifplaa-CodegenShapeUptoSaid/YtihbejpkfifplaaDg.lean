/- Texts of this claim, put together: Sf, Po, Pza, Sg, Sh, Qc, Sk. -/
import Derived.Test.YtihbejpkfifplaaDf
import Derived.Test.YtihbejpkfifplaaRows
import Derived.WalkKit
import Derived.ProofKit
import Derived.OpenShut
import Derived.ShutString
import Derived.ChangeOld
import Derived.Below
import Derived.Lib.SmallJoins
import Derived.Deep.Fields
import Derived.Deep.Slices
set_option linter.unusedVariables false
set_option linter.unusedSimpArgs false
namespace Go.Proofs.Ytihbejpkfifplaa.Z
open Go Go.Fw
abbrev oo51 : List LOp := [⟨Op.box 27 (Operand.tmp 0), some 2, none⟩, ⟨Op.box 33 (Operand.tmp 1), some 3, none⟩, ⟨Op.alloc 39, some 4, none⟩, ⟨Op.assign (Operand.const (Value.int IntKind.i64 0)), some 5, none⟩]
abbrev oo52 : List LOp := [⟨Op.load 27 (Operand.tmp 2), some 11, none⟩, ⟨Op.load 33 (Operand.tmp 3), some 12, none⟩, ⟨Op.call { callee := Callee.value (Operand.func 20), args := #[Operand.tmp 11, Operand.tmp 12], argTypes := #[27, 33] }, some 13, none⟩, ⟨Op.move (Operand.tmp 13), some 10, none⟩, ⟨Op.extract (Operand.tmp 10) 0, some 14, none⟩, ⟨Op.extract (Operand.tmp 10) 1, some 15, none⟩, ⟨Op.assign (Operand.tmp 14), some 6, none⟩, ⟨Op.assign (Operand.tmp 15), some 7, none⟩]
abbrev oo53 : List LOp := [⟨Op.move (Operand.tmp 7), some 16, none⟩, ⟨Op.binOp BinOp.neq 40 (Operand.tmp 16) (Operand.const (Value.int IntKind.i64 0)) 40, some 17, none⟩]
abbrev oo54 : List LOp := [⟨Op.assign (Operand.const (Value.int IntKind.i64 1)), some 5, none⟩]
abbrev oo55 : List LOp := [⟨Op.assign (Operand.const (Value.int IntKind.i64 0)), some 6, none⟩]
abbrev oo56 : List LOp := [⟨Op.move (Operand.tmp 6), some 17, none⟩, ⟨Op.binOp BinOp.add 3 (Operand.tmp 17) (Operand.const (Value.int IntKind.i64 1)) 3, some 18, none⟩, ⟨Op.assign (Operand.tmp 18), some 6, none⟩]
abbrev oo57 : List LOp := [⟨Op.box 27 (Operand.tmp 0), some 2, none⟩, ⟨Op.assign (Operand.const (Value.int IntKind.i64 0)), some 4, none⟩]
abbrev oo58 : List LOp := [⟨Op.box 27 (Operand.tmp 0), some 2, none⟩, ⟨Op.box 33 (Operand.tmp 1), some 3, none⟩, ⟨Op.assign (Operand.const (Value.bool false)), some 4, none⟩]
abbrev oo59 : List LOp := [⟨Op.call { callee := Callee.value (Operand.func 10), args := #[], argTypes := #[] }, some 10, none⟩, ⟨Op.assign (Operand.tmp 10), some 5, none⟩]
abbrev oo60 : List LOp := [⟨Op.load 27 (Operand.tmp 2), some 11, none⟩, ⟨Op.call { callee := Callee.value (Operand.func 11), args := #[Operand.tmp 11, Operand.const (Value.int IntKind.i64 1000)], argTypes := #[27, 3] }, some 12, none⟩, ⟨Op.binOp BinOp.gtr 3 (Operand.tmp 12) (Operand.const (Value.int IntKind.i64 1000)) 3, some 13, none⟩]
abbrev oo61 : List LOp := [⟨Op.move (Operand.tmp 5), some 14, none⟩, ⟨Op.assign (Operand.tmp 14), some 4, none⟩]
abbrev oo62 : List LOp := [⟨Op.load 27 (Operand.tmp 2), some 16, none⟩, ⟨Op.load 33 (Operand.tmp 3), some 17, none⟩, ⟨Op.call { callee := Callee.value (Operand.func 12), args := #[Operand.tmp 16, Operand.tmp 17], argTypes := #[27, 33] }, some 18, none⟩, ⟨Op.move (Operand.tmp 18), some 15, none⟩, ⟨Op.extract (Operand.tmp 15) 0, some 19, none⟩, ⟨Op.extract (Operand.tmp 15) 1, some 20, none⟩, ⟨Op.alloc 39, some 6, none⟩, ⟨Op.store 39 (Operand.tmp 6) (Operand.tmp 19), none, none⟩, ⟨Op.assign (Operand.tmp 20), some 7, none⟩]
abbrev oo63 : List LOp := [⟨Op.move (Operand.tmp 5), some 21, none⟩, ⟨Op.unOp UnOp.not 4 (Operand.tmp 21), some 22, none⟩, ⟨Op.move (Operand.tmp 22), some 23, none⟩, ⟨Op.move (Operand.tmp 7), some 24, some (some 23, false)⟩, ⟨Op.binOp BinOp.neq 40 (Operand.tmp 24) (Operand.const (Value.int IntKind.i64 0)) 40, some 25, some (some 23, false)⟩, ⟨Op.pick (Operand.tmp 23) (Operand.const (Value.bool true)) (Operand.tmp 25), some 26, none⟩]
end Go.Proofs.Ytihbejpkfifplaa.Z
section
set_option maxRecDepth 100000
namespace Go.Proofs.Ytihbejpkfifplaa.Z
open Go Go.Fw
attribute [-simp] lost
theorem bnd_wants {c : CoreT} {p : PlanT} (h : (bndT c p).isSome = true) : wants p.op = some p.kids.length := by
  rw [bndT_eq] at h
  split at h
  · assumption
  · cases h
theorem bnd_kids {c : CoreT} {p : PlanT} (h : (bndT c p).isSome = true) : ∀ q ∈ p.kids, (bndT c q).isSome = true := by
  rw [bndT_eq] at h
  split at h
  · obtain ⟨r, hr⟩ := Option.isSome_iff_exists.1 h
    obtain ⟨bs, hbs, _⟩ := Option.bind_eq_some_iff.1 hr
    have key : ∀ (l : List PlanT) (bs : List (List Bool)), bndL c l = some bs → ∀ q ∈ l, (bndT c q).isSome = true := by
      intro l
      induction l with
      | nil => intro _ _ q hq; cases hq
      | cons x t ih =>
        intro bs h q hq
        rw [bndL] at h
        obtain ⟨b, h1, h2⟩ := Option.bind_eq_some_iff.1 h
        obtain ⟨cs, h3, _⟩ := Option.map_eq_some_iff.1 h2
        rcases List.mem_cons.1 hq with rfl | hq
        · rw [h1]; rfl
        · exact ih cs h3 q hq
    exact key _ _ hbs
  · cases h
theorem bound_some {c : CoreT} {p : PlanT} {b : List Bool} (hP : patS c.nodes c.edges = true) (hf : partsP p ≤ 1000000) (hb : bndT c p = some b) : Snd P 20 [.d (.ag (encP p)), .d (.ag (encC c))] (.tup [.d (.sl false (b.map encB)), .int 0]) [] := by
  have h := Bound_ok c p hf
  simp only [boundD, hP, hb, if_true] at h
  exact h
theorem pipe_one {c : CoreT} {p : PlanT} (h : p.kids.length = 1) (st : StC) : pipeT c p st = pipeO c p [(pipeT c (rdI p.kids 0) st).1] (pipeT c (rdI p.kids 0) st).2 := by
  obtain ⟨q, hq⟩ := List.length_eq_one_iff.1 h
  rw [pipeT_eq, hq]; rfl
theorem pipe_two {c : CoreT} {p : PlanT} (h : p.kids.length = 2) (st : StC) : pipeT c p st = pipeO c p [(pipeT c (rdI p.kids 0) st).1, (pipeT c (rdI p.kids 1) (pipeT c (rdI p.kids 0) st).2).1] (pipeT c (rdI p.kids 1) (pipeT c (rdI p.kids 0) st).2).2 := by
  obtain ⟨q, r, hq⟩ := len_two h
  rw [pipeT_eq, hq]; rfl
mutual
theorem pipeT_len (c : CoreT) : ∀ (p : PlanT) (st : StC), (pipeT c p st).1.steps.length ≤ partsP p ∧ (pipeT c p st).2.1.length ≤ st.1.length + partsP p ∧ (pipeT c p st).2.2.length ≤ st.2.length + partsP p
  | .mk o k s e b t, st => by
    obtain ⟨h1, h2, h3⟩ := pipeL_len c k st
    have hp : 1 + partsL k ≤ partsP (.mk o k s e b t) := by rw [partsP]; omega
    have g : ∀ i, ((pipeL c k st).1.getD i default).steps.length ≤ partsL k := fun i => by
      rw [List.getD_eq_getElem?_getD]
      cases hi : (pipeL c k st).1[i]? with
      | none => exact Nat.zero_le _
      | some x => exact h1 x (List.mem_of_getElem? hi)
    have g0 := g 0
    rw [pipeT, pipeO]
    split
    · exact ⟨by simp, by dsimp only; omega, by dsimp only; omega⟩
    · split
      · exact ⟨by simp only [onC, List.length_append, List.length_cons, List.length_nil]; omega, by simp only [List.length_append, List.length_cons, List.length_nil]; omega, by simp only [List.length_append, List.length_cons, List.length_nil]; omega⟩
      · exact ⟨by simp only [onC, List.length_append, List.length_cons, List.length_nil]; omega, by dsimp only; omega, by dsimp only; omega⟩
theorem pipeL_len (c : CoreT) : ∀ (l : List PlanT) (st : StC), (∀ x ∈ (pipeL c l st).1, x.steps.length ≤ partsL l) ∧ (pipeL c l st).2.1.length ≤ st.1.length + partsL l ∧ (pipeL c l st).2.2.length ≤ st.2.length + partsL l
  | [], st => by rw [pipeL]; exact ⟨by simp, by simp, by simp⟩
  | p :: r, st => by
    obtain ⟨h1, h2, h3⟩ := pipeT_len c p st
    obtain ⟨g1, g2, g3⟩ := pipeL_len c r (pipeT c p st).2
    rw [pipeL, partsL]
    refine ⟨fun x hx => ?_, by simp only []; omega, by simp only []; omega⟩
    rcases List.mem_cons.1 hx with rfl | hx
    · omega
    · have := g1 x hx; omega
end
theorem parts_kid {p : PlanT} {i : Nat} (hi : i < p.kids.length) : partsP (rdI p.kids (i : Int)) < partsP p := by
  have := partsL_mem (kid_mem hi); rw [partsP_eq p]; omega
theorem parts_two {p : PlanT} (h : p.kids.length = 2) : partsP (rdI p.kids 0) + partsP (rdI p.kids 1) < partsP p := by
  obtain ⟨q, r, hq⟩ := len_two h
  rw [partsP_eq p, hq]
  have e0 : rdI [q, r] 0 = q := rfl
  have e1 : rdI [q, r] 1 = r := rfl
  rw [e0, e1]; simp only [partsL]; omega
theorem pipe_ok (c : CoreT) (hP : patS c.nodes c.edges = true) (p : PlanT) (hf : partsP p ≤ 1000000) (hr : (bndT c p).isSome = true) (st : StC) (h1 : st.1.length + partsP p ≤ 1000000) (h2 : st.2.length + partsP p ≤ 1000000) :
    SndW P 31 [.pt 0 0 0 0, .d (.ag (encP p))] (s0C c st) (resC (pipeT c p st).1) (s1C c (pipeT c p st).2 (pipeT c p st).1) := by
  have hw := bnd_wants hr
  have hrg := pat_rng hP
  have hee : p.edges.length + p.terms.length ≤ partsP p := by rw [partsP_eq]; omega
  rcases wants_op hw with e | e | e | e | e | e
  · have hl : p.kids = [] := List.length_eq_zero_iff.1 (by rw [e] at hw; simp [wants] at hw; omega)
    have := pipe1_ok c p st e
    rw [pipeT_eq, pipeO, if_pos e, hl, pipeL]
    exact this
  · have hl : p.kids.length = 1 := by rw [e] at hw; simp [wants] at hw; omega
    have hk := parts_kid (p := p) (i := 0) (by omega)
    simp only [Int.natCast_zero] at hk
    have hq := bnd_kids hr _ (kid_mem (p := p) (i := 0) (by omega))
    have hlen := pipeT_len c (rdI p.kids 0) st
    have hsz := kids_lt (kid_mem (p := p) (i := 0) (by omega))
    have IH := pipe_ok c hP (rdI p.kids 0) (by omega) hq st (by omega) (by omega)
    rw [pipe_one hl, pipeO, if_neg (by omega), if_neg (by omega)]
    show SndW P 31 _ (s0C c st) (resC (onC (pipeT c (rdI p.kids 0) st).1 (stepO p))) (s1C c (pipeT c (rdI p.kids 0) st).2 (onC (pipeT c (rdI p.kids 0) st).1 (stepO p)))
    exact pipe2_ok c p st _ _ e (expand_ok c p st _ _ e (by omega) (by omega) (by omega) IH)
  · have hl : p.kids.length = 1 := by rw [e] at hw; simp [wants] at hw; omega
    have hk := parts_kid (p := p) (i := 0) (by omega)
    simp only [Int.natCast_zero] at hk
    have hq := bnd_kids hr _ (kid_mem (p := p) (i := 0) (by omega))
    have hlen := pipeT_len c (rdI p.kids 0) st
    have hsz := kids_lt (kid_mem (p := p) (i := 0) (by omega))
    have IH := pipe_ok c hP (rdI p.kids 0) (by omega) hq st (by omega) (by omega)
    rw [pipe_one hl, pipeO, if_neg (by omega), if_neg (by omega)]
    show SndW P 31 _ (s0C c st) (resC (onC (pipeT c (rdI p.kids 0) st).1 (stepO p))) (s1C c (pipeT c (rdI p.kids 0) st).2 (onC (pipeT c (rdI p.kids 0) st).1 (stepO p)))
    exact pipe3_ok c p st _ _ e (path_ok c p st _ _ e (by omega) (by omega) (by omega) IH)
  · have hl : p.kids.length = 2 := by rw [e] at hw; simp [wants] at hw; omega
    have hk := parts_two hl
    have hq0 := bnd_kids hr _ (kid_mem (p := p) (i := 0) (by omega))
    have hq1 := bnd_kids hr _ (kid_mem (p := p) (i := 1) (by omega))
    have hsz0 := kids_lt (kid_mem (p := p) (i := 0) (by omega))
    have hsz1 := kids_lt (kid_mem (p := p) (i := 1) (by omega))
    simp only [Int.natCast_zero, Int.natCast_one] at *
    have hlen0 := pipeT_len c (rdI p.kids 0) st
    have hlen1 := pipeT_len c (rdI p.kids 1) (pipeT c (rdI p.kids 0) st).2
    have IH0 := pipe_ok c hP (rdI p.kids 0) (by omega) hq0 st (by omega) (by omega)
    have IH1 := pipe_ok c hP (rdI p.kids 1) (by omega) hq1 (pipeT c (rdI p.kids 0) st).2 (by omega) (by omega)
    obtain ⟨b0, hb0⟩ := Option.isSome_iff_exists.1 hq0
    obtain ⟨b1, hb1⟩ := Option.isSome_iff_exists.1 hq1
    rw [pipe_two hl, pipeO, if_neg (by omega), if_pos e, hb0, hb1]
    show SndW P 31 _ (s0C c st) (resC (onC (pipeT c (rdI p.kids 0) st).1 ⟨5, 0, nilD, false, nilD, (pipeT c (rdI p.kids 1) (pipeT c (rdI p.kids 0) st).2).2.1.length⟩)) (s1C c ((pipeT c (rdI p.kids 1) (pipeT c (rdI p.kids 0) st).2).2.1 ++ [keyN b0 b1 (c.nodes.length + c.edges.length)], (pipeT c (rdI p.kids 1) (pipeT c (rdI p.kids 0) st).2).2.2 ++ [⟨(pipeT c (rdI p.kids 1) (pipeT c (rdI p.kids 0) st).2).1.scan, (pipeT c (rdI p.kids 1) (pipeT c (rdI p.kids 0) st).2).1.steps, (pipeT c (rdI p.kids 1) (pipeT c (rdI p.kids 0) st).2).2.1.length⟩]) (onC (pipeT c (rdI p.kids 0) st).1 ⟨5, 0, nilD, false, nilD, (pipeT c (rdI p.kids 1) (pipeT c (rdI p.kids 0) st).2).2.1.length⟩))
    exact pipe4_ok c p st _ _ e (join_ok c p st _ _ _ _ b0 b1 e hl (by omega) IH0 IH1 (bound_some hP (by omega) hb0) (bndT_len c _ _ hb0) (bound_some hP (by omega) hb1) (bndT_len c _ _ hb1) (by omega) (by omega) (by omega))
  · have hl : p.kids.length = 1 := by rw [e] at hw; simp [wants] at hw; omega
    have hk := parts_kid (p := p) (i := 0) (by omega)
    simp only [Int.natCast_zero] at hk
    have hq := bnd_kids hr _ (kid_mem (p := p) (i := 0) (by omega))
    have hlen := pipeT_len c (rdI p.kids 0) st
    have hsz := kids_lt (kid_mem (p := p) (i := 0) (by omega))
    have IH := pipe_ok c hP (rdI p.kids 0) (by omega) hq st (by omega) (by omega)
    rw [pipe_one hl, pipeO, if_neg (by omega), if_neg (by omega)]
    show SndW P 31 _ (s0C c st) (resC (onC (pipeT c (rdI p.kids 0) st).1 (stepO p))) (s1C c (pipeT c (rdI p.kids 0) st).2 (onC (pipeT c (rdI p.kids 0) st).1 (stepO p)))
    exact pipe5_ok c p st _ _ e (meetC_ok c p st _ _ e (by omega) (by omega) (by omega) IH)
  · have hl : p.kids.length = 1 := by rw [e] at hw; simp [wants] at hw; omega
    have hk := parts_kid (p := p) (i := 0) (by omega)
    simp only [Int.natCast_zero] at hk
    have hq := bnd_kids hr _ (kid_mem (p := p) (i := 0) (by omega))
    have hlen := pipeT_len c (rdI p.kids 0) st
    have hsz := kids_lt (kid_mem (p := p) (i := 0) (by omega))
    have IH := pipe_ok c hP (rdI p.kids 0) (by omega) hq st (by omega) (by omega)
    rw [pipe_one hl, pipeO, if_neg (by omega), if_neg (by omega)]
    show SndW P 31 _ (s0C c st) (resC (onC (pipeT c (rdI p.kids 0) st).1 (stepO p))) (s1C c (pipeT c (rdI p.kids 0) st).2 (onC (pipeT c (rdI p.kids 0) st).1 (stepO p)))
    exact pipe6_ok c p st _ _ e (filter_ok c p st _ _ e (by omega) (by omega) (by omega) IH)
termination_by SizeOf.sizeOf p
theorem compN_ok (c : CoreT) (p : PlanT) (x : D) (n : Int) (hB : Snd P 20 [.d (.ag (encP p)), .d (.ag (encC c))] (.tup [.d x, .int n]) []) (hn : n ≠ 0) : Snd P 12 [.d (.ag (encP p)), .d (.ag (encC c))] (.tup [.d (.ag [nilD, nilD]), .int n]) [] := by
  rw [encP_cells] at hB
  refine snd_of [] Try.func12 rfl (by kernel_rfl) Try.ntmps12 (by simp) ?_
  unfold Try.f12
  simp only [List.cons_append, List.nil_append, List.length_cons, List.length_nil, Nat.reduceAdd, Nat.reduceSub, List.replicate]
  refine Run.seq ?_
  refine opsF oo51 fun K hK => ?_
  try simp
  repeat' first | ((refine evL_c ?_); simp [hn]) | (with_reducible refine And.intro ?_ ?_) | intro _ | (with_reducible assumption) | omega
  all_goals (refine Fin.go hK ?_; clear hK K)
  simp only [Then_normal]
  refine Run.seq ?_
  refine Run.seq ?_
  refine opsF oo52 fun K hK => ?_
  try simp
  repeat' first | (refine ecall (by exact hB) rfl ?_) | ((refine evL_c ?_); simp [hn]) | (with_reducible refine And.intro ?_ ?_) | intro _ | (with_reducible assumption) | omega
  all_goals (refine Fin.go hK ?_; clear hK K)
  simp only [Then_normal]
  refine Run.seq ?_
  refine opsF oo53 fun K hK => ?_
  try simp
  repeat' first | ((refine evL_c ?_); simp [hn]) | (with_reducible refine And.intro ?_ ?_) | intro _ | (with_reducible assumption) | omega
  all_goals (refine Fin.go hK ?_; clear hK K)
  simp only [Then_normal]
  refine Run.cond rfl (fun h17 => ?_) (fun h17 => ?_)
  · skip
    refine Run.seq ?_
    refine opsF [⟨Op.build 39 #[], some 18, none⟩, ⟨Op.move (Operand.tmp 7), some 19, none⟩, ⟨Op.store 39 (Operand.tmp 4) (Operand.tmp 18), none, none⟩, ⟨Op.assign (Operand.tmp 19), some 5, none⟩] fun K hK => ?_
    try simp
    repeat' first | ((refine evL_c ?_); simp [hn]) | (with_reducible refine And.intro ?_ ?_) | intro _ | (with_reducible assumption) | omega
    all_goals (refine Fin.go hK ?_; clear hK K)
    simp only [Then_normal]
    refine Run.ret ?_
    try simp only [Then_ret, Blok_ret]
    simp
  · simp at h17

set_option maxHeartbeats 4000000 in
theorem compA_ok (c : CoreT) (p : PlanT) (z : D) (st : StC) (x : PipeC) (hB : Snd P 20 [.d (.ag (encP p)), .d (.ag (encC c))] (.tup [.d z, .int 0]) []) (H : SndW P 31 [.pt 0 0 0 0, .d (.ag (encP p))] (s0C c ([], [])) (resC x) (s1C c st x)) (l1 : st.1.length ≤ 1000000) (l2 : st.2.length ≤ 1000000) : Snd P 12 [.d (.ag (encP p)), .d (.ag (encC c))] (.tup [.d (.ag [.sl false (st.1.map encTb), .sl false ((st.2 ++ [x]).map encW)]), .int 0]) [] := by
  rw [encP_cells] at hB
  obtain ⟨nx, hnx⟩ : ∃ z, x.steps.length = z := ⟨_, rfl⟩
  obtain ⟨m2, hm2⟩ : ∃ z, st.1.length = z := ⟨_, rfl⟩
  obtain ⟨q2, hq2⟩ : ∃ z, st.2.length = z := ⟨_, rfl⟩
  rw [hm2] at l1
  rw [hq2] at l2
  simp only [encP_cells, s0C, s1C, resC, hnx, hm2, hq2] at H
  simp at H
  refine snd_of [] Try.func12 rfl (by kernel_rfl) Try.ntmps12 (by simp) ?_
  unfold Try.f12
  simp only [List.cons_append, List.nil_append, List.length_cons, List.length_nil, Nat.reduceAdd, Nat.reduceSub, List.replicate]
  refine Run.seq ?_
  refine opsF oo51 fun K hK => ?_
  try simp
  repeat' first | ((refine evL_c ?_); simp [hnx, hm2, hq2]) | (with_reducible refine And.intro ?_ ?_) | intro _ | (with_reducible assumption) | omega
  all_goals (refine Fin.go hK ?_; clear hK K)
  simp only [Then_normal]
  refine Run.seq ?_
  refine Run.seq ?_
  refine opsF oo52 fun K hK => ?_
  try simp
  repeat' first | (refine ecall (by exact hB) rfl ?_) | ((refine evL_c ?_); simp [hnx, hm2, hq2]) | (with_reducible refine And.intro ?_ ?_) | intro _ | (with_reducible assumption) | omega
  all_goals (refine Fin.go hK ?_; clear hK K)
  simp only [Then_normal]
  refine Run.seq ?_
  refine opsF oo53 fun K hK => ?_
  try simp
  repeat' first | ((refine evL_c ?_); simp [hnx, hm2, hq2]) | (with_reducible refine And.intro ?_ ?_) | intro _ | (with_reducible assumption) | omega
  all_goals (refine Fin.go hK ?_; clear hK K)
  simp only [Then_normal]
  refine Run.cond rfl (fun h17 => ?_) (fun h17 => ?_)
  · simp at h17
  · skip
    refine Run.skip ?_
    simp only [Then_normal]
    refine Run.seq ?_
    refine opsF [⟨Op.load 33 (Operand.tmp 3), some 20, none⟩, ⟨Op.build 79 #[(0, Operand.tmp 20)], some 21, none⟩, ⟨Op.box 79 (Operand.tmp 21), some 22, none⟩, ⟨Op.assign (Operand.tmp 22), some 8, none⟩] fun K hK => ?_
    try simp
    repeat' first | ((refine evL_c ?_); simp [hnx, hm2, hq2]) | (with_reducible refine And.intro ?_ ?_) | intro _ | (with_reducible assumption) | omega
    all_goals (refine Fin.go hK ?_; clear hK K)
    simp only [Then_normal]
    refine Run.vir 901 1 (by omega) ?_
    simp
    refine Run.vir 902 3 (by omega) ?_
    simp
    refine Run.subB 2300 7 (.rs 901 1 0 0) rfl rfl (nil_rs 901 1) ?_
    simp
    refine Run.subB 2300 8 (.rs 902 3 0 0) rfl rfl (nil_rs 902 3) ?_
    simp
    refine Run.seq ?_
    refine opsT [⟨Op.move (Operand.tmp 8), some 23, none⟩, ⟨Op.load 27 (Operand.tmp 2), some 24, none⟩, ⟨Op.call { callee := Callee.value (Operand.func 31), args := #[Operand.tmp 23, Operand.tmp 24], argTypes := #[77, 27] }, some 25, none⟩, ⟨Op.alloc 45, some 9, none⟩, ⟨Op.store 45 (Operand.tmp 9) (Operand.tmp 25), none, none⟩] fun K hK => ?_
    try simp
    repeat' first | (refine ecallW [2300, 901, 902] (by exact H) (by simp) (by simp) rfl ?_) | ((refine evL_c ?_); simp [hnx, hm2, hq2]) | (with_reducible refine And.intro ?_ ?_) | intro _ | (with_reducible assumption) | omega
    all_goals (refine Fin.go hK ?_; clear hK K)
    simp only [Then_normal]
    refine Run.fra 2605 ?_
    simp [V.fra, V.fraL, Blk.fra, fraS, frz, List.take_of_length_le, hnx]
    refine Run.seq ?_
    refine opsF [⟨Op.move (Operand.tmp 8), some 26, none⟩, ⟨Op.move (Operand.tmp 8), some 27, none⟩, ⟨Op.nilCheck (Operand.tmp 27), some 28, none⟩, ⟨Op.fieldAddr 79 (Operand.tmp 28) 1, some 29, none⟩, ⟨Op.fieldAddr 39 (Operand.tmp 29) 1, some 30, none⟩, ⟨Op.load 37 (Operand.tmp 30), some 31, none⟩, ⟨Op.load 45 (Operand.tmp 9), some 32, none⟩, ⟨Op.buildSlice 37 1 #[(0, Operand.tmp 32)], some 33, none⟩, ⟨Op.call { callee := Callee.builtin Builtin.append, args := #[Operand.tmp 31, Operand.tmp 33], argTypes := #[37, 37] }, some 34, none⟩, ⟨Op.nilCheck (Operand.tmp 26), some 35, none⟩, ⟨Op.fieldAddr 79 (Operand.tmp 35) 1, some 36, none⟩, ⟨Op.fieldAddr 39 (Operand.tmp 36) 1, some 37, none⟩, ⟨Op.store 37 (Operand.tmp 37) (Operand.tmp 34), none, none⟩] fun K hK => ?_
    try simp
    repeat' first | ((refine evL_c ?_); simp [hnx, hm2, hq2]) | (with_reducible refine And.intro ?_ ?_) | intro _ | (with_reducible assumption) | omega
    all_goals (refine Fin.go hK ?_; clear hK K)
    simp only [Then_normal]
    refine Run.seq ?_
    refine opsF [⟨Op.move (Operand.tmp 8), some 38, none⟩, ⟨Op.nilCheck (Operand.tmp 38), some 39, none⟩, ⟨Op.fieldAddr 79 (Operand.tmp 39) 1, some 40, none⟩, ⟨Op.load 39 (Operand.tmp 40), some 41, none⟩, ⟨Op.store 39 (Operand.tmp 4) (Operand.tmp 41), none, none⟩, ⟨Op.assign (Operand.const (Value.int IntKind.i64 0)), some 5, none⟩] fun K hK => ?_
    try simp
    repeat' first | ((refine evL_c ?_); simp [hnx, hm2, hq2]) | (with_reducible refine And.intro ?_ ?_) | intro _ | (with_reducible assumption) | omega
    all_goals (refine Fin.go hK ?_; clear hK K)
    simp only [Then_normal]
    refine Run.ret ?_
    try simp only [Then_ret, Blok_ret]
    simp [encW, hnx, hm2, hq2, List.take_of_length_le]


/-- what Compile answers -/
def compT (c : CoreT) (p : PlanT) : List (List Int) × List PipeC := ((pipeT c p ([], [])).2.1, (pipeT c p ([], [])).2.2 ++ [(pipeT c p ([], [])).1])
theorem Compile_ok (c : CoreT) (p : PlanT) (hP : patS c.nodes c.edges = true) (hf : partsP p ≤ 500000) (hr : (bndT c p).isSome = true) : Snd P 12 [.d (.ag (encP p)), .d (.ag (encC c))] (.tup [.d (.ag [.sl false ((compT c p).1.map encTb), .sl false ((compT c p).2.map encW)]), .int 0]) [] := by
  obtain ⟨b, hb⟩ := Option.isSome_iff_exists.1 hr
  have h := pipeT_len c p ([], [])
  simp only [List.length_nil] at h
  exact compA_ok c p _ _ _ (bound_some hP (by omega) hb) (pipe_ok c hP p (by omega) hr ([], []) (by simp; omega) (by simp; omega)) (by omega) (by omega)
theorem CompileN_ok (c : CoreT) (p : PlanT) (hf : partsP p ≤ 1000000) (h : ¬ (patS c.nodes c.edges = true ∧ (bndT c p).isSome = true)) : ∃ n : Int, n ≠ 0 ∧ (patS c.nodes c.edges = true → n = 131) ∧ Snd P 12 [.d (.ag (encP p)), .d (.ag (encC c))] (.tup [.d (.ag [nilD, nilD]), .int n]) [] := by
  refine ⟨(boundD c p).2, ?_, fun hP => ?_, compN_ok c p _ _ (Bound_ok c p hf) ?_⟩
  · unfold boundD
    cases hP : patS c.nodes c.edges with
    | false => simp
    | true =>
      cases hb : bndT c p with
      | none => simp
      | some b => exact absurd ⟨hP, by rw [hb]; rfl⟩ h
  · unfold boundD
    rw [if_pos hP]
    cases hb : bndT c p with
    | none => rfl
    | some b => exact absurd ⟨hP, by rw [hb]; rfl⟩ h
  · unfold boundD
    cases hP : patS c.nodes c.edges with
    | false => simp
    | true =>
      cases hb : bndT c p with
      | none => simp
      | some b => exact absurd ⟨hP, by rw [hb]; rfl⟩ h
end Go.Proofs.Ytihbejpkfifplaa.Z
end
section
set_option maxRecDepth 100000
namespace Go.Proofs.Ytihbejpkfifplaa.Z
open Go Go.Fw
mutual
def termsR : TermT → Int → Int
  | .mk _ k _ _ _, most => goT k most 1
def goT : List TermT → Int → Int → Int
  | [], _, n => n
  | t :: r, most, n => if n ≤ most then goT r most (n + termsR t (most - n)) else n
end
theorem termsR_eq (t : TermT) (most : Int) : termsR t most = goT t.kids most 1 := by cases t; rw [termsR]; rfl
mutual
theorem termsR_rng : ∀ (t : TermT) (most : Int), 0 ≤ most → 1 ≤ termsR t most ∧ termsR t most ≤ most + 1
  | .mk o k s p v, most, h => by
    rw [termsR]
    have := goT_rng k most 1
    omega
theorem goT_rng : ∀ (l : List TermT) (most n : Int), n ≤ goT l most n ∧ (goT l most n ≤ most + 1 ∨ goT l most n = n)
  | [], most, n => by rw [goT]; omega
  | t :: r, most, n => by
    rw [goT]
    split
    · have h1 := termsR_rng t (most - n) (by omega)
      have h2 := goT_rng r most (n + termsR t (most - n))
      omega
    · omega
end
theorem goT_end {l : List TermT} {most n : Int} {i : Nat} (h : l.length ≤ i ∨ most < n) : goT (l.drop i) most n = n := by
  rcases h with h | h
  · rw [List.drop_of_length_le h, goT]
  · cases l.drop i with
    | nil => rw [goT]
    | cons t r => rw [goT, if_neg (by omega)]
theorem goT_step {l : List TermT} {most n : Int} {i : Nat} (hi : i < l.length) (h : n ≤ most) : goT (l.drop i) most n = goT (l.drop (i + 1)) most (n + termsR (rdI l i) (most - n)) := by
  rw [drop_rd hi, goT, if_pos h]
mutual
def partsR : PlanT → Int → Int
  | .mk _ k _ e _ t, most => goP k most (goT t most (1 + t.length + e.length))
def goP : List PlanT → Int → Int → Int
  | [], _, n => n
  | t :: r, most, n => if n ≤ most then goP r most (n + partsR t (most - n)) else n
end
theorem partsR_eq (p : PlanT) (most : Int) : partsR p most = goP p.kids most (goT p.terms most (1 + p.terms.length + p.edges.length)) := by cases p; rw [partsR]; rfl
mutual
theorem partsR_rng : ∀ (p : PlanT) (most : Int), 0 ≤ most → partsP p ≤ 2000000 → 1 ≤ partsR p most ∧ partsR p most ≤ most + 2000001
  | .mk o k s e b t, most, h, hf => by
    rw [partsR]
    rw [partsP] at hf
    have h1 := goT_rng t most (1 + t.length + e.length)
    have h2 := goP_rng k most (goT t most (1 + t.length + e.length)) (by omega)
    omega
theorem goP_rng : ∀ (l : List PlanT) (most n : Int), partsL l ≤ 2000000 → n ≤ goP l most n ∧ (goP l most n ≤ most + 2000001 ∨ goP l most n = n)
  | [], most, n, _ => by rw [goP]; omega
  | t :: r, most, n, hf => by
    rw [partsL] at hf
    rw [goP]
    split
    · have h1 := partsR_rng t (most - n) (by omega) (by omega)
      have h2 := goP_rng r most (n + partsR t (most - n)) (by omega)
      omega
    · omega
end
theorem goP_end {l : List PlanT} {most n : Int} {i : Nat} (h : l.length ≤ i ∨ most < n) : goP (l.drop i) most n = n := by
  rcases h with h | h
  · rw [List.drop_of_length_le h, goP]
  · cases l.drop i with
    | nil => rw [goP]
    | cons t r => rw [goP, if_neg (by omega)]
theorem goP_step {l : List PlanT} {most n : Int} {i : Nat} (hi : i < l.length) (h : n ≤ most) : goP (l.drop i) most n = goP (l.drop (i + 1)) most (n + partsR (rdI l i) (most - n)) := by
  rw [drop_rd hi, goP, if_pos h]
theorem goP_le {l : List PlanT} {most n : Int} : n ≤ goP l most n ∨ 2000000 < partsL l := by
  by_cases h : partsL l ≤ 2000000
  · exact .inl (goP_rng l most n h).1
  · exact .inr (by omega)
set_option maxHeartbeats 4000000 in
theorem terms1_ok (t : TermT) (most : Int) (h0 : 0 ≤ most) (h1 : most ≤ 1000000) (IH : ∀ i : Nat, i < t.kids.length → ∀ m : Int, 0 ≤ m → m ≤ 1000000 → Snd P 25 [.d (.ag (encT (rdI t.kids i))), .int m] (.int (termsR (rdI t.kids i) m)) []) : Snd P 25 [.d (.ag (encT t)), .int most] (.int (termsR t most)) [] := by
  refine Snd.ok 0 rfl (by kernel_rfl) fun hok => ?_
  have hkm := encT_ok hok
  clear hok
  obtain ⟨m, hm⟩ : ∃ m, t.kids.length = m := ⟨_, rfl⟩
  rw [hm] at hkm
  refine snd_of [] Try.func25 rfl (by kernel_rfl) Try.ntmps25 (by simp) ?_
  unfold Try.f25
  simp only [List.cons_append, List.nil_append, List.length_cons, List.length_nil, Nat.reduceAdd, Nat.reduceSub, List.replicate]
  refine Run.seq ?_
  refine opsF [⟨Op.box 70 (Operand.tmp 0), some 2, none⟩, ⟨Op.assign (Operand.const (Value.int IntKind.i64 0)), some 4, none⟩] fun K hK => ?_
  try simp
  repeat' first | ((refine evL_c ?_); simp [hm]) | (with_reducible refine And.intro ?_ ?_) | intro _ | (with_reducible assumption) | omega
  all_goals (refine Fin.go hK ?_; clear hK K)
  simp only [Then_normal]
  refine Run.seq ?_
  refine opsF oo54 fun K hK => ?_
  try simp
  repeat' first | ((refine evL_c ?_); simp [hm]) | (with_reducible refine And.intro ?_ ?_) | intro _ | (with_reducible assumption) | omega
  all_goals (refine Fin.go hK ?_; clear hK K)
  simp only [Then_normal]
  refine Run.seq ?_
  refine Run.seq ?_
  refine opsF oo55 fun K hK => ?_
  try simp
  repeat' first | ((refine evL_c ?_); simp [hm]) | (with_reducible refine And.intro ?_ ?_) | intro _ | (with_reducible assumption) | omega
  all_goals (refine Fin.go hK ?_; clear hK K)
  simp only [Then_normal]
  refine Run.block ?_
  refine Run.loopO [5, 6, 7, 8, 9, 10, 11, 12, 13, 14, 15, 16, 17, 18, 19, 20, 21, 22, 23, 24, 25, 26, 27, 28, 29] (fun (x : Nat × Int) => [(6, .int x.1), (5, .int x.2)]) (fun (x : Nat × Int) => [(300, .vals ((encT t).map .d))]) (fun (x : Nat × Int) => x.1 ≤ m ∧ 1 ≤ x.2 ∧ x.2 ≤ 4000000 ∧ goT (t.kids.drop x.1) most x.2 = termsR t most) (fun (x : Nat × Int) => m - x.1) (0, 1) ⟨by omega, by omega, by omega, by rw [termsR_eq]; rfl⟩ (by simp) fun ⟨i, n⟩ ⟨hi, hn1, hn2, hg⟩ => ?_
  simp only at hi hn1 hn2 hg
  simp only [over, List.foldl, List.set]
  refine Run.seq ?_
  refine Run.cut [7, 8, 9, 10, 11, 12, 13, 14, 15, 16] [(16, .bool (decide (i < m ∧ n ≤ most)))] [(300, .vals ((encT t).map .d))] ?_ ?_
  · refine opsF [⟨Op.move (Operand.tmp 6), some 7, none⟩, ⟨Op.fieldAddr 70 (Operand.tmp 2) 1, some 8, none⟩, ⟨Op.load 25 (Operand.tmp 8), some 9, none⟩, ⟨Op.call { callee := Callee.builtin Builtin.len, args := #[Operand.tmp 9], argTypes := #[25] }, some 10, none⟩, ⟨Op.binOp BinOp.lss 3 (Operand.tmp 7) (Operand.tmp 10) 3, some 11, none⟩, ⟨Op.move (Operand.tmp 11), some 12, none⟩, ⟨Op.move (Operand.tmp 5), some 13, some (some 12, true)⟩, ⟨Op.move (Operand.tmp 1), some 14, some (some 12, true)⟩, ⟨Op.binOp BinOp.leq 3 (Operand.tmp 13) (Operand.tmp 14) 3, some 15, some (some 12, true)⟩, ⟨Op.pick (Operand.tmp 12) (Operand.tmp 15) (Operand.const (Value.bool false)), some 16, none⟩] fun K hK => ?_
    try simp
    repeat' first | ((first | refine evL_c ?_ | (refine evL_g rfl ?_; try simp only [gs_tt, gs_ff, gs_tf, gs_ft]) | refine evL_u rfl ?_ | (with_reducible refine gsplit (fun hg => ?_) (fun hg => ?_) <;> try simp at hg)) <;> try simp [hm]) | (with_reducible refine And.intro ?_ ?_) | intro _ | (with_reducible assumption) | omega
    all_goals (refine Fin.go hK ?_; clear hK K)
    all_goals
      (try simp [*]) <;> (first | omega | (simp; done) | grind)
  · simp only [over, List.foldl, List.set]
    refine Run.cond rfl (fun h16 => ?_) (fun h16 => ?_)
    · replace h16 := of_decide_eq_true h16
      obtain ⟨hc1, hc2⟩ := h16
      obtain ⟨r, hr⟩ : ∃ r, termsR (rdI t.kids i) (most - n) = r := ⟨_, rfl⟩
      have hrr := termsR_rng (rdI t.kids i) (most - n) (by omega)
      rw [hr] at hrr
      have hw1 : IntKind.i64.wrap (most - n) = most - n := wrap_id (by omega) (by omega)
      have hw2 : IntKind.i64.wrap (n + r) = n + r := wrap_id (by omega) (by omega)
      refine Run.skip ?_
      simp only [Then_normal]
      refine Run.seq ?_
      refine Run.block ?_
      refine opsF [⟨Op.move (Operand.tmp 5), some 19, none⟩, ⟨Op.fieldAddr 70 (Operand.tmp 2) 1, some 20, none⟩, ⟨Op.load 25 (Operand.tmp 20), some 21, none⟩, ⟨Op.move (Operand.tmp 6), some 22, none⟩, ⟨Op.indexAddr 25 (Operand.tmp 21) (Operand.tmp 22), some 23, none⟩, ⟨Op.load 70 (Operand.tmp 23), some 24, none⟩, ⟨Op.move (Operand.tmp 1), some 25, none⟩, ⟨Op.move (Operand.tmp 5), some 26, none⟩, ⟨Op.binOp BinOp.sub 3 (Operand.tmp 25) (Operand.tmp 26) 3, some 27, none⟩, ⟨Op.call { callee := Callee.value (Operand.func 25), args := #[Operand.tmp 24, Operand.tmp 27], argTypes := #[70, 3] }, some 28, none⟩, ⟨Op.binOp BinOp.add 3 (Operand.tmp 19) (Operand.tmp 28) 3, some 29, none⟩, ⟨Op.assign (Operand.tmp 29), some 5, none⟩] fun K hK => ?_
      try simp
      repeat' first | (refine ecallD (by have h := IH i (by omega) (most - n) (by omega) (by omega); rw [encT_cells, hr] at h; exact h) ?_) | ((refine evL_c ?_); simp [hm, hc1, hr, hw1, hw2]) | (with_reducible refine And.intro ?_ ?_) | intro _ | (with_reducible assumption) | omega
      all_goals (refine Fin.go hK ?_; clear hK K)
      simp only [Blok_normal]
      simp only [Then_normal]
      refine opsF oo56 fun K hK => ?_
      try simp
      repeat' first | ((refine evL_c ?_); simp [hm, hc1, hr, hw1, hw2]) | (with_reducible refine And.intro ?_ ?_) | intro _ | (with_reducible assumption) | omega
      all_goals (refine Fin.go hK ?_; clear hK K)
      refine ⟨(i + 1, n + r), ⟨by simp; omega, by simp; omega, by simp; omega, ?_⟩, by simp; omega, ?_⟩
      · rw [← hg, goT_step (by omega) hc2, hr]
      · simp (disch := omega) [hm, wrap_id]
    · replace h16 := of_decide_eq_false h16
      rw [goT_end (by omega)] at hg
      refine Run.exit ?_
      simp (decide := true) only [Then_exit, Blok_exit, if_true, if_false]
      simp only [Then_normal]
      refine Run.seq ?_
      refine opsF [⟨Op.move (Operand.tmp 5), some 30, none⟩, ⟨Op.assign (Operand.tmp 30), some 4, none⟩] fun K hK => ?_
      try simp
      repeat' first | ((refine evL_c ?_); simp [hm]) | (with_reducible refine And.intro ?_ ?_) | intro _ | (with_reducible assumption) | omega
      all_goals (refine Fin.go hK ?_; clear hK K)
      simp only [Then_normal]
      refine Run.ret ?_
      try simp only [Then_ret, Blok_ret]
      simp [hg]


theorem terms_ok (t : TermT) (most : Int) (h0 : 0 ≤ most) (h1 : most ≤ 1000000) : Snd P 25 [.d (.ag (encT t)), .int most] (.int (termsR t most)) [] :=
  terms1_ok t most h0 h1 fun i hi m hm0 hm1 =>
    have := kidT_lt (rdI_mem (l := t.kids) (i := i) (by omega) (by omega))
    terms_ok (rdI t.kids i) m hm0 hm1
termination_by SizeOf.sizeOf t

set_option maxHeartbeats 4000000 in
theorem parts1_ok (p : PlanT) (hf : partsP p ≤ 2000000) (most : Int) (h0 : 0 ≤ most) (h1 : most ≤ 1000000) (IH : ∀ i : Nat, i < p.kids.length → ∀ m : Int, 0 ≤ m → m ≤ 1000000 → Snd P 11 [.d (.ag (encP (rdI p.kids i))), .int m] (.int (partsR (rdI p.kids i) m)) []) : Snd P 11 [.d (.ag (encP p)), .int most] (.int (partsR p most)) [] := by
  refine Snd.ok 0 rfl (by kernel_rfl) fun hok => ?_
  obtain ⟨hkm, -, htm⟩ := encP_ok hok
  clear hok
  have hpr := partsR_rng p most h0 hf
  have hpe := partsR_eq p most
  have hfe := partsP_eq p
  obtain ⟨m, hm⟩ : ∃ m, p.kids.length = m := ⟨_, rfl⟩
  obtain ⟨tl, htl⟩ : ∃ m, p.terms.length = m := ⟨_, rfl⟩
  obtain ⟨el, hel⟩ : ∃ m, p.edges.length = m := ⟨_, rfl⟩
  rw [hm] at hkm
  rw [htl] at htm
  rw [htl, hel] at hpe hfe
  have hw0 : IntKind.i64.wrap (1 + (tl : Int)) = 1 + tl := wrap_id (by omega) (by omega)
  have hw9 : IntKind.i64.wrap (1 + (tl : Int) + el) = 1 + tl + el := wrap_id (by omega) (by omega)
  obtain ⟨g1, hg1⟩ : ∃ g, goT p.terms most (1 + (tl : Int) + el) = g := ⟨_, rfl⟩
  have hgr := goT_rng p.terms most (1 + (tl : Int) + el)
  rw [hg1] at hgr hpe
  refine snd_of [] Try.func11 rfl (by kernel_rfl) Try.ntmps11 (by simp) ?_
  unfold Try.f11
  simp only [List.cons_append, List.nil_append, List.length_cons, List.length_nil, Nat.reduceAdd, Nat.reduceSub, List.replicate]
  refine Run.seq ?_
  refine opsF oo57 fun K hK => ?_
  try simp
  repeat' first | ((refine evL_c ?_); simp [hm, htl, hel, hw0, hw9]) | (with_reducible refine And.intro ?_ ?_) | intro _ | (with_reducible assumption) | omega
  all_goals (refine Fin.go hK ?_; clear hK K)
  simp only [Then_normal]
  refine Run.seq ?_
  refine opsF [⟨Op.fieldAddr 27 (Operand.tmp 2) 5, some 8, none⟩, ⟨Op.load 25 (Operand.tmp 8), some 9, none⟩, ⟨Op.call { callee := Callee.builtin Builtin.len, args := #[Operand.tmp 9], argTypes := #[25] }, some 10, none⟩, ⟨Op.binOp BinOp.add 3 (Operand.const (Value.int IntKind.i64 1)) (Operand.tmp 10) 3, some 11, none⟩, ⟨Op.fieldAddr 27 (Operand.tmp 2) 3, some 12, none⟩, ⟨Op.load 24 (Operand.tmp 12), some 13, none⟩, ⟨Op.call { callee := Callee.builtin Builtin.len, args := #[Operand.tmp 13], argTypes := #[24] }, some 14, none⟩, ⟨Op.binOp BinOp.add 3 (Operand.tmp 11) (Operand.tmp 14) 3, some 15, none⟩, ⟨Op.assign (Operand.tmp 15), some 5, none⟩] fun K hK => ?_
  try simp
  repeat' first | ((refine evL_c ?_); simp [hm, htl, hel, hw0, hw9]) | (with_reducible refine And.intro ?_ ?_) | intro _ | (with_reducible assumption) | omega
  all_goals (refine Fin.go hK ?_; clear hK K)
  simp only [Then_normal]
  refine Run.seq ?_
  refine Run.seq ?_
  refine opsF oo55 fun K hK => ?_
  try simp
  repeat' first | ((refine evL_c ?_); simp [hm, htl, hel, hw0, hw9]) | (with_reducible refine And.intro ?_ ?_) | intro _ | (with_reducible assumption) | omega
  all_goals (refine Fin.go hK ?_; clear hK K)
  simp only [Then_normal]
  refine Run.block ?_
  refine Run.loopO [5, 6, 16, 17, 18, 19, 20, 21, 22, 23, 24, 25, 26, 27, 28, 29, 30, 31, 32, 33, 34, 35, 36, 37, 38] (fun (x : Nat × Int) => [(6, .int x.1), (5, .int x.2)]) (fun (x : Nat × Int) => [(300, .vals ((encP p).map .d))]) (fun (x : Nat × Int) => x.1 ≤ tl ∧ 1 ≤ x.2 ∧ x.2 ≤ 4000000 ∧ goT (p.terms.drop x.1) most x.2 = g1) (fun (x : Nat × Int) => tl - x.1) (0, 1 + (tl : Int) + el) ⟨by omega, by simp; omega, by simp; omega, by simpa using hg1⟩ (by simp) fun ⟨i, n⟩ ⟨hi, hn1, hn2, hg⟩ => ?_
  simp only at hi hn1 hn2 hg
  simp only [over, List.foldl, List.set]
  refine Run.seq ?_
  refine Run.cut [16, 17, 18, 19, 20, 21, 22, 23, 24, 25] [(25, .bool (decide (i < tl ∧ n ≤ most)))] [(300, .vals ((encP p).map .d))] ?_ ?_
  · refine opsF [⟨Op.move (Operand.tmp 6), some 16, none⟩, ⟨Op.fieldAddr 27 (Operand.tmp 2) 5, some 17, none⟩, ⟨Op.load 25 (Operand.tmp 17), some 18, none⟩, ⟨Op.call { callee := Callee.builtin Builtin.len, args := #[Operand.tmp 18], argTypes := #[25] }, some 19, none⟩, ⟨Op.binOp BinOp.lss 3 (Operand.tmp 16) (Operand.tmp 19) 3, some 20, none⟩, ⟨Op.move (Operand.tmp 20), some 21, none⟩, ⟨Op.move (Operand.tmp 5), some 22, some (some 21, true)⟩, ⟨Op.move (Operand.tmp 1), some 23, some (some 21, true)⟩, ⟨Op.binOp BinOp.leq 3 (Operand.tmp 22) (Operand.tmp 23) 3, some 24, some (some 21, true)⟩, ⟨Op.pick (Operand.tmp 21) (Operand.tmp 24) (Operand.const (Value.bool false)), some 25, none⟩] fun K hK => ?_
    try simp
    repeat' first | ((first | refine evL_c ?_ | (refine evL_g rfl ?_; try simp only [gs_tt, gs_ff, gs_tf, gs_ft]) | refine evL_u rfl ?_ | (with_reducible refine gsplit (fun hg => ?_) (fun hg => ?_) <;> try simp at hg)) <;> try simp [hm, htl, hel, hw0, hw9]) | (with_reducible refine And.intro ?_ ?_) | intro _ | (with_reducible assumption) | omega
    all_goals (refine Fin.go hK ?_; clear hK K)
    all_goals
      (try simp [*]) <;> (first | omega | (simp; done) | grind)
  · simp only [over, List.foldl, List.set]
    refine Run.cond rfl (fun h25 => ?_) (fun h25 => ?_)
    · replace h25 := of_decide_eq_true h25
      obtain ⟨hc1, hc2⟩ := h25
      obtain ⟨r, hr⟩ : ∃ r, termsR (rdI p.terms i) (most - n) = r := ⟨_, rfl⟩
      have hrr := termsR_rng (rdI p.terms i) (most - n) (by omega)
      rw [hr] at hrr
      have hT := terms_ok (rdI p.terms i) (most - n) (by omega) (by omega)
      rw [encT_cells, hr] at hT
      have hw1 : IntKind.i64.wrap (most - n) = most - n := wrap_id (by omega) (by omega)
      have hw2 : IntKind.i64.wrap (n + r) = n + r := wrap_id (by omega) (by omega)
      refine Run.skip ?_
      simp only [Then_normal]
      refine Run.seq ?_
      refine Run.block ?_
      refine opsF [⟨Op.move (Operand.tmp 5), some 28, none⟩, ⟨Op.fieldAddr 27 (Operand.tmp 2) 5, some 29, none⟩, ⟨Op.load 25 (Operand.tmp 29), some 30, none⟩, ⟨Op.move (Operand.tmp 6), some 31, none⟩, ⟨Op.indexAddr 25 (Operand.tmp 30) (Operand.tmp 31), some 32, none⟩, ⟨Op.load 70 (Operand.tmp 32), some 33, none⟩, ⟨Op.move (Operand.tmp 1), some 34, none⟩, ⟨Op.move (Operand.tmp 5), some 35, none⟩, ⟨Op.binOp BinOp.sub 3 (Operand.tmp 34) (Operand.tmp 35) 3, some 36, none⟩, ⟨Op.call { callee := Callee.value (Operand.func 25), args := #[Operand.tmp 33, Operand.tmp 36], argTypes := #[70, 3] }, some 37, none⟩, ⟨Op.binOp BinOp.add 3 (Operand.tmp 28) (Operand.tmp 37) 3, some 38, none⟩, ⟨Op.assign (Operand.tmp 38), some 5, none⟩] fun K hK => ?_
      try simp
      repeat' first | (refine ecallD (by exact hT) ?_) | ((refine evL_c ?_); simp [hm, htl, hel, hw0, hw9, hc1, hr, hw1, hw2]) | (with_reducible refine And.intro ?_ ?_) | intro _ | (with_reducible assumption) | omega
      all_goals (refine Fin.go hK ?_; clear hK K)
      simp only [Blok_normal]
      simp only [Then_normal]
      refine opsF [⟨Op.move (Operand.tmp 6), some 26, none⟩, ⟨Op.binOp BinOp.add 3 (Operand.tmp 26) (Operand.const (Value.int IntKind.i64 1)) 3, some 27, none⟩, ⟨Op.assign (Operand.tmp 27), some 6, none⟩] fun K hK => ?_
      try simp
      repeat' first | ((refine evL_c ?_); simp [hm, htl, hel, hw0, hw9, hc1, hr, hw1, hw2]) | (with_reducible refine And.intro ?_ ?_) | intro _ | (with_reducible assumption) | omega
      all_goals (refine Fin.go hK ?_; clear hK K)
      refine ⟨(i + 1, n + r), ⟨by simp; omega, by simp; omega, by simp; omega, ?_⟩, by simp; omega, ?_⟩
      · rw [← hg, goT_step (by omega) hc2, hr]
      · simp (disch := omega) [hm, htl, hel, wrap_id]
    · replace h25 := of_decide_eq_false h25
      rw [goT_end (by omega)] at hg
      rw [← hg] at hpe hgr
      clear hg1 hg h25 hi
      refine Run.exit ?_
      simp (decide := true) only [Then_exit, Blok_exit, if_true, if_false]
      simp only [Then_normal]
      refine Run.seq ?_
      refine Run.seq ?_
      refine opsF [⟨Op.assign (Operand.const (Value.int IntKind.i64 0)), some 7, none⟩] fun K hK => ?_
      try simp
      repeat' first | ((refine evL_c ?_); simp [hm, htl, hel, hw0, hw9]) | (with_reducible refine And.intro ?_ ?_) | intro _ | (with_reducible assumption) | omega
      all_goals (refine Fin.go hK ?_; clear hK K)
      simp only [Then_normal]
      refine Run.block ?_
      refine Run.loopO [5, 7, 39, 40, 41, 42, 43, 44, 45, 46, 47, 48, 49, 50, 51, 52, 53, 54, 55, 56, 57, 58, 59, 60, 61] (fun (x : Nat × Int) => [(7, .int x.1), (5, .int x.2)]) (fun (x : Nat × Int) => [(300, .vals ((encP p).map .d))]) (fun (x : Nat × Int) => x.1 ≤ m ∧ 1 ≤ x.2 ∧ x.2 ≤ 4000000 ∧ goP (p.kids.drop x.1) most x.2 = partsR p most) (fun (x : Nat × Int) => m - x.1) (0, n) ⟨by omega, by simp; omega, by simp; omega, by simpa using hpe.symm⟩ (by simp) fun ⟨j, q⟩ ⟨hi, hn1, hn2, hg⟩ => ?_
      simp only at hi hn1 hn2 hg
      simp only [over, List.foldl, List.set]
      refine Run.seq ?_
      refine Run.cut [39, 40, 41, 42, 43, 44, 45, 46, 47, 48] [(48, .bool (decide (j < m ∧ q ≤ most)))] [(300, .vals ((encP p).map .d))] ?_ ?_
      · refine opsF [⟨Op.move (Operand.tmp 7), some 39, none⟩, ⟨Op.fieldAddr 27 (Operand.tmp 2) 1, some 40, none⟩, ⟨Op.load 23 (Operand.tmp 40), some 41, none⟩, ⟨Op.call { callee := Callee.builtin Builtin.len, args := #[Operand.tmp 41], argTypes := #[23] }, some 42, none⟩, ⟨Op.binOp BinOp.lss 3 (Operand.tmp 39) (Operand.tmp 42) 3, some 43, none⟩, ⟨Op.move (Operand.tmp 43), some 44, none⟩, ⟨Op.move (Operand.tmp 5), some 45, some (some 44, true)⟩, ⟨Op.move (Operand.tmp 1), some 46, some (some 44, true)⟩, ⟨Op.binOp BinOp.leq 3 (Operand.tmp 45) (Operand.tmp 46) 3, some 47, some (some 44, true)⟩, ⟨Op.pick (Operand.tmp 44) (Operand.tmp 47) (Operand.const (Value.bool false)), some 48, none⟩] fun K hK => ?_
        try simp
        repeat' first | ((first | refine evL_c ?_ | (refine evL_g rfl ?_; try simp only [gs_tt, gs_ff, gs_tf, gs_ft]) | refine evL_u rfl ?_ | (with_reducible refine gsplit (fun hg => ?_) (fun hg => ?_) <;> try simp at hg)) <;> try simp [hm, htl, hel, hw0, hw9]) | (with_reducible refine And.intro ?_ ?_) | intro _ | (with_reducible assumption) | omega
        all_goals (refine Fin.go hK ?_; clear hK K)
        all_goals
          (try simp [*]) <;> (first | omega | (simp; done) | grind)
      · simp only [over, List.foldl, List.set]
        refine Run.cond rfl (fun h48 => ?_) (fun h48 => ?_)
        · replace h48 := of_decide_eq_true h48
          obtain ⟨hc1, hc2⟩ := h48
          obtain ⟨r, hr⟩ : ∃ r, partsR (rdI p.kids j) (most - q) = r := ⟨_, rfl⟩
          have hrr := partsR_rng (rdI p.kids j) (most - q) (by omega) (kid_fine hf (by omega))
          rw [hr] at hrr
          have hT := IH j (by omega) (most - q) (by omega) (by omega)
          rw [encP_cells, hr] at hT
          have hw1 : IntKind.i64.wrap (most - q) = most - q := wrap_id (by omega) (by omega)
          have hw2 : IntKind.i64.wrap (q + r) = q + r := wrap_id (by omega) (by omega)
          refine Run.skip ?_
          simp only [Then_normal]
          refine Run.seq ?_
          refine Run.block ?_
          refine opsF [⟨Op.move (Operand.tmp 5), some 51, none⟩, ⟨Op.fieldAddr 27 (Operand.tmp 2) 1, some 52, none⟩, ⟨Op.load 23 (Operand.tmp 52), some 53, none⟩, ⟨Op.move (Operand.tmp 7), some 54, none⟩, ⟨Op.indexAddr 23 (Operand.tmp 53) (Operand.tmp 54), some 55, none⟩, ⟨Op.load 27 (Operand.tmp 55), some 56, none⟩, ⟨Op.move (Operand.tmp 1), some 57, none⟩, ⟨Op.move (Operand.tmp 5), some 58, none⟩, ⟨Op.binOp BinOp.sub 3 (Operand.tmp 57) (Operand.tmp 58) 3, some 59, none⟩, ⟨Op.call { callee := Callee.value (Operand.func 11), args := #[Operand.tmp 56, Operand.tmp 59], argTypes := #[27, 3] }, some 60, none⟩, ⟨Op.binOp BinOp.add 3 (Operand.tmp 51) (Operand.tmp 60) 3, some 61, none⟩, ⟨Op.assign (Operand.tmp 61), some 5, none⟩] fun K hK => ?_
          try simp
          repeat' first | (refine ecallD (by exact hT) ?_) | ((refine evL_c ?_); simp [hm, htl, hel, hw0, hw9, hc1, hr, hw1, hw2]) | (with_reducible refine And.intro ?_ ?_) | intro _ | (with_reducible assumption) | omega
          all_goals (refine Fin.go hK ?_; clear hK K)
          simp only [Blok_normal]
          simp only [Then_normal]
          refine opsF [⟨Op.move (Operand.tmp 7), some 49, none⟩, ⟨Op.binOp BinOp.add 3 (Operand.tmp 49) (Operand.const (Value.int IntKind.i64 1)) 3, some 50, none⟩, ⟨Op.assign (Operand.tmp 50), some 7, none⟩] fun K hK => ?_
          try simp
          repeat' first | ((refine evL_c ?_); simp [hm, htl, hel, hw0, hw9, hc1, hr, hw1, hw2]) | (with_reducible refine And.intro ?_ ?_) | intro _ | (with_reducible assumption) | omega
          all_goals (refine Fin.go hK ?_; clear hK K)
          refine ⟨(j + 1, q + r), ⟨by simp; omega, by simp; omega, by simp; omega, ?_⟩, by simp; omega, ?_⟩
          · rw [← hg, goP_step (by omega) hc2, hr]
          · simp (disch := omega) [hm, htl, hel, wrap_id]
        · replace h48 := of_decide_eq_false h48
          rw [goP_end (by omega)] at hg
          refine Run.exit ?_
          simp (decide := true) only [Then_exit, Blok_exit, if_true, if_false]
          simp only [Then_normal]
          refine Run.seq ?_
          refine opsF [⟨Op.move (Operand.tmp 5), some 62, none⟩, ⟨Op.assign (Operand.tmp 62), some 4, none⟩] fun K hK => ?_
          try simp
          repeat' first | ((refine evL_c ?_); simp [hm, htl, hel, hw0, hw9]) | (with_reducible refine And.intro ?_ ?_) | intro _ | (with_reducible assumption) | omega
          all_goals (refine Fin.go hK ?_; clear hK K)
          simp only [Then_normal]
          refine Run.ret ?_
          try simp only [Then_ret, Blok_ret]
          simp [hg]


theorem parts_ok (p : PlanT) (hf : partsP p ≤ 2000000) (most : Int) (h0 : 0 ≤ most) (h1 : most ≤ 1000000) : Snd P 11 [.d (.ag (encP p)), .int most] (.int (partsR p most)) [] :=
  parts1_ok p hf most h0 h1 fun i hi m hm0 hm1 =>
    have := kids_lt (kid_mem (p := p) hi)
    parts_ok (rdI p.kids i) (kid_fine hf hi) m hm0 hm1
termination_by SizeOf.sizeOf p
end Go.Proofs.Ytihbejpkfifplaa.Z
end
section
set_option maxRecDepth 100000
namespace Go.Proofs.Ytihbejpkfifplaa.Z
open Go Go.Fw
/-! data that is read as other data -/
def DSub (x y : D) : Prop := ∀ (w : World) (L : Nat → Prop) (v : Value), DRel w L x v → DRel w L y v
def SubL : List D → List D → Prop
  | [], [] => True
  | x :: l, y :: r => DSub x y ∧ SubL l r
  | _, _ => False
theorem DSub.refl (x : D) : DSub x x := fun _ _ _ h => h
theorem DSub.nil : DSub (.lit (.slice none 0 0)) (.sl false []) := fun w L v h => by
  cases h with
  | lit _ h => exact .slE false none 0 (by simp)
theorem SubL.len {l r : List D} (h : SubL l r) : l.length = r.length := by
  induction l generalizing r with
  | nil => cases r <;> simp_all [SubL]
  | cons x l ih => cases r <;> simp_all [SubL]
                   exact ih h.2
theorem SubL.at_ {l r : List D} (h : SubL l r) {j : Nat} {x y : D} (hx : l[j]? = some x) (hy : r[j]? = some y) : DSub x y := by
  induction l generalizing r j with
  | nil => cases hx
  | cons a l ih =>
    cases r with
    | nil => cases hy
    | cons b r =>
      cases j with
      | zero => simp at hx hy; subst hx hy; exact h.1
      | succ j => simp at hx hy; exact ih h.2 hx hy
theorem DSub.ag {l r : List D} (h : SubL l r) : DSub (.ag l) (.ag r) := fun w L v hv => by
  cases hv with
  | ag _ vs hl ho hr => 
    refine .ag r vs (hl.trans h.len) ho fun j x v hx hv => ?_
    have hj : j < l.length := by rw [h.len]; exact (List.getElem?_eq_some_iff.1 hx).1
    exact h.at_ (List.getElem?_eq_getElem hj) hx _ _ _ (hr j _ v (List.getElem?_eq_getElem hj) hv)
def SubV : List V → List V → Prop
  | [], [] => True
  | .d x :: l, .d y :: r => DSub x y ∧ SubV l r
  | _, _ => False
theorem SubV.rel {w : World} {L : Nat → Prop} {m : Nat → Option Nat} {l r : List V} {vs : List Value} (h : SubV l r) (hv : All2 (VRel w L m) l vs) : All2 (VRel w L m) r vs := by
  induction l generalizing r vs with
  | nil =>
    cases r with
    | nil => exact hv
    | cons _ _ => exact h.elim
  | cons x l ih =>
    cases r with
    | nil => cases x <;> exact h.elim
    | cons y r =>
      cases x <;> cases y <;> first | exact h.elim | skip
      obtain ⟨v, tl, rfl, h1, h2⟩ := hv.head
      cases h1 with
      | d hd => exact All2.cons (.d (h.1 _ _ _ hd)) (ih h.2 h2)
theorem snd_sub {f : FuncId} {args args0 : List V} {r : V} {τ : Store} (h : Snd P f args0 r τ) (hs : SubV args args0) : Snd P f args r τ :=
  ⟨h.1, fun w X vs hX hargs => h.2 w X vs hX (hs.rel hargs)⟩
/-! parts, within a bound -/
mutual
theorem termsR_all : ∀ (t : TermT) (most : Int), termsR t most ≤ most → (cntT t : Int) = termsR t most
  | .mk o k s p v, most, h => by
    rw [termsR] at h ⊢
    have := goT_all k most 1 h
    rw [cntT, this]; omega
theorem goT_all : ∀ (l : List TermT) (most n : Int), goT l most n ≤ most → goT l most n = n + cntL l
  | [], most, n, h => by rw [goT, cntL]; omega
  | t :: r, most, n, h => by
    rw [goT] at h ⊢
    split at h
    · rename_i hn
      rw [if_pos hn]
      have h1 := goT_all r most (n + termsR t (most - n)) h
      have h2 := termsR_all t (most - n) (by omega)
      rw [h1, cntL]; omega
    · omega
end
mutual
theorem partsR_all : ∀ (p : PlanT) (most : Int), partsP p ≤ 2000000 → partsR p most ≤ most → (partsP p : Int) = partsR p most
  | .mk o k s e b t, most, hf, h => by
    rw [partsP] at hf
    rw [partsR] at h ⊢
    have h1 := goP_all k most _ (by omega) h
    have h0 := (goP_rng k most (goT t most (1 + t.length + e.length)) (by omega)).1
    have h2 := goT_all t most (1 + t.length + e.length) (by omega)
    rw [h1, h2, partsP]; omega
theorem goP_all : ∀ (l : List PlanT) (most n : Int), partsL l ≤ 2000000 → goP l most n ≤ most → goP l most n = n + partsL l
  | [], most, n, hf, h => by rw [goP, partsL]; omega
  | t :: r, most, n, hf, h => by
    rw [partsL] at hf
    rw [goP] at h ⊢
    split at h
    · rename_i hn
      rw [if_pos hn]
      have h1 := goP_all r most (n + partsR t (most - n)) (by omega) h
      have h2 := partsR_all t (most - n) (by omega) (by omega)
      rw [h1, partsL]; omega
    · omega
end
end Go.Proofs.Ytihbejpkfifplaa.Z
end
section
set_option maxRecDepth 100000
namespace Go.Proofs.Ytihbejpkfifplaa.Z
open Go Go.Fw
def cH : CoreT := ⟨[⟨ByteArray.empty, -1⟩], [], [], nilD, false, nilD, 0⟩
def pH : PlanT := .mk 1 [] 0 [] false []
def pE : PlanT := .mk 0 [] 0 [] false []
theorem headA : Snd P 12 [.d (.ag [.int 1, nilD, .int 0, nilD, .bool false, nilD]), .d (.ag [.sl false [[.str ByteArray.empty, .int (-1)]], nilD, nilD, nilD, .bool false, nilD, .int 0])] (.tup [.d (.ag [.sl false [], .sl false [[.int 0, .sl false [], .int (-1)]]]), .int 0]) [] := by
  have h1 : patS cH.nodes cH.edges = true := by simp [patS, cH]
  have h2 : bndT cH pH = some [true] := by simp [pH, bndT, bndL, wants, opS, PlanT.op, PlanT.slot, cH]
  have h := Compile_ok cH pH h1 (by simp [pH, partsP, cntL, partsL]) (by rw [h2]; rfl)
  have e : compT cH pH = ([], [⟨0, [], -1⟩]) := by simp [compT, pH, pipeT, pipeL, pipeO, PlanT.op, PlanT.slot]
  rw [e] at h
  refine snd_sub h ⟨DSub.ag ⟨.refl _, DSub.nil, .refl _, DSub.nil, .refl _, DSub.nil, trivial⟩, DSub.ag ⟨.refl _, DSub.nil, DSub.nil, .refl _, .refl _, .refl _, .refl _, trivial⟩, trivial⟩
theorem headB : Snd P 12 [.d (.ag [.int 0, nilD, .int 0, nilD, .bool false, nilD]), .d (.ag [.sl false [[.str ByteArray.empty, .int (-1)]], nilD, nilD, nilD, .bool false, nilD, .int 0])] (.tup [.d (.ag [nilD, nilD]), .int 131]) [] := by
  have h1 : patS cH.nodes cH.edges = true := by simp [patS, cH]
  have h2 : bndT cH pE = none := by simp [pE, bndT, wants]
  obtain ⟨n, _, hn, h⟩ := CompileN_ok cH pE (by simp [pE, partsP, cntL, partsL]) (by rw [h2]; simp)
  rw [hn h1] at h
  refine snd_sub h ⟨DSub.ag ⟨.refl _, DSub.nil, .refl _, DSub.nil, .refl _, DSub.nil, trivial⟩, DSub.ag ⟨.refl _, DSub.nil, DSub.nil, .refl _, .refl _, .refl _, .refl _, trivial⟩, trivial⟩
mutual
/-- how many parts are Scans, or are none -/
def numS (b : Bool) : PlanT → Nat
  | .mk o k _ _ _ _ => (if decide (o = 1) = b then 1 else 0) + numSL b k
def numSL (b : Bool) : List PlanT → Nat
  | [] => 0
  | p :: r => numS b p + numSL b r
end
theorem numS_eq (b : Bool) (p : PlanT) : numS b p = (if decide (p.op = 1) = b then 1 else 0) + numSL b p.kids := by cases p; rw [numS]; rfl
mutual
theorem numS_le (b : Bool) : ∀ p : PlanT, numS b p ≤ partsP p
  | .mk o k s e bk t => by
    have := numSL_le b k
    rw [numS, partsP]; split <;> omega
theorem numSL_le (b : Bool) : ∀ l : List PlanT, numSL b l ≤ partsL l
  | [] => by rw [numSL]; omega
  | p :: r => by
    have h1 := numS_le b p
    have h2 := numSL_le b r
    rw [numSL, partsL]; omega
end
theorem numSL_step {b : Bool} {l : List PlanT} {i : Nat} (hi : i < l.length) : numSL b (l.drop i) = numS b (rdI l i) + numSL b (l.drop (i + 1)) := by rw [drop_rd hi, numSL]
theorem numSL_end {b : Bool} {l : List PlanT} {i : Nat} (hi : l.length ≤ i) : numSL b (l.drop i) = 0 := by rw [List.drop_of_length_le hi, numSL]
theorem partsL_ge (l : List PlanT) : l.length ≤ partsL l := by
  induction l with
  | nil => simp
  | cons p r ih =>
    have : 1 ≤ partsP p := by rw [partsP_eq]; omega
    rw [partsL, List.length_cons]; omega
theorem kids_le (p : PlanT) : p.kids.length ≤ partsP p := by
  have := partsL_ge p.kids
  rw [partsP_eq]; omega
theorem head17_ok : Snd P 10 [] (.bool true) [] := by
  refine snd_of [] Try.func10 rfl (by kernel_rfl) Try.ntmps10 (by simp) ?_
  unfold Try.f10
  simp only [List.cons_append, List.nil_append, List.length_cons, List.length_nil, Nat.reduceAdd, Nat.reduceSub, List.replicate]
  refine Run.seq ?_
  refine opsF [⟨Op.assign (Operand.const (Value.bool false)), some 0, none⟩] fun K hK => ?_
  try simp
  repeat' first | ((refine evL_c ?_); simp) | (with_reducible refine And.intro ?_ ?_) | intro _ | (with_reducible assumption) | omega
  all_goals (refine Fin.go hK ?_; clear hK K)
  simp only [Then_normal]
  refine Run.seq ?_
  refine opsF [⟨Op.build 76 #[(1, Operand.const (Value.int IntKind.i64 (-1)))], some 6, none⟩, ⟨Op.buildSlice 28 1 #[(0, Operand.tmp 6)], some 7, none⟩, ⟨Op.build 33 #[(0, Operand.tmp 7)], some 8, none⟩, ⟨Op.alloc 33, some 1, none⟩, ⟨Op.store 33 (Operand.tmp 1) (Operand.tmp 8), none, none⟩] fun K hK => ?_
  try simp
  repeat' first | ((refine evL_c ?_); simp) | (with_reducible refine And.intro ?_ ?_) | intro _ | (with_reducible assumption) | omega
  all_goals (refine Fin.go hK ?_; clear hK K)
  simp only [Then_normal]
  refine Run.fra 800 ?_
  simp [V.fra, V.fraL, Blk.fra, fraS, frz]
  refine Run.seq ?_
  refine opsF [⟨Op.build 27 #[(0, Operand.const (Value.int IntKind.i64 1))], some 10, none⟩, ⟨Op.load 33 (Operand.tmp 1), some 11, none⟩, ⟨Op.call { callee := Callee.value (Operand.func 12), args := #[Operand.tmp 10, Operand.tmp 11], argTypes := #[27, 33] }, some 12, none⟩, ⟨Op.move (Operand.tmp 12), some 9, none⟩, ⟨Op.extract (Operand.tmp 9) 0, some 13, none⟩, ⟨Op.extract (Operand.tmp 9) 1, some 14, none⟩, ⟨Op.alloc 39, some 2, none⟩, ⟨Op.store 39 (Operand.tmp 2) (Operand.tmp 13), none, none⟩, ⟨Op.assign (Operand.tmp 14), some 3, none⟩] fun K hK => ?_
  try simp
  repeat' first | (refine ecall (by exact headA) rfl ?_) | ((refine evL_c ?_); simp) | (with_reducible refine And.intro ?_ ?_) | intro _ | (with_reducible assumption) | omega
  all_goals (refine Fin.go hK ?_; clear hK K)
  simp only [Then_normal]
  refine Run.seq ?_
  refine opsF [⟨Op.build 27 #[], some 16, none⟩, ⟨Op.load 33 (Operand.tmp 1), some 17, none⟩, ⟨Op.call { callee := Callee.value (Operand.func 12), args := #[Operand.tmp 16, Operand.tmp 17], argTypes := #[27, 33] }, some 18, none⟩, ⟨Op.move (Operand.tmp 18), some 15, none⟩, ⟨Op.extract (Operand.tmp 15) 0, some 19, none⟩, ⟨Op.extract (Operand.tmp 15) 1, some 20, none⟩, ⟨Op.alloc 39, some 4, none⟩, ⟨Op.store 39 (Operand.tmp 4) (Operand.tmp 19), none, none⟩, ⟨Op.assign (Operand.tmp 20), some 5, none⟩] fun K hK => ?_
  try simp
  repeat' first | (refine ecall (by exact headB) rfl ?_) | ((refine evL_c ?_); simp) | (with_reducible refine And.intro ?_ ?_) | intro _ | (with_reducible assumption) | omega
  all_goals (refine Fin.go hK ?_; clear hK K)
  simp only [Then_normal]
  refine Run.seq ?_
  refine opsF [⟨Op.move (Operand.tmp 3), some 21, none⟩, ⟨Op.binOp BinOp.eql 40 (Operand.tmp 21) (Operand.const (Value.int IntKind.i64 0)) 40, some 22, none⟩, ⟨Op.move (Operand.tmp 22), some 23, none⟩, ⟨Op.fieldAddr 39 (Operand.tmp 2) 1, some 24, some (some 23, true)⟩, ⟨Op.load 37 (Operand.tmp 24), some 25, some (some 23, true)⟩, ⟨Op.call { callee := Callee.builtin Builtin.len, args := #[Operand.tmp 25], argTypes := #[37] }, some 26, some (some 23, true)⟩, ⟨Op.binOp BinOp.eql 3 (Operand.tmp 26) (Operand.const (Value.int IntKind.i64 1)) 3, some 27, some (some 23, true)⟩, ⟨Op.pick (Operand.tmp 23) (Operand.tmp 27) (Operand.const (Value.bool false)), some 28, none⟩, ⟨Op.move (Operand.tmp 28), some 29, none⟩, ⟨Op.fieldAddr 39 (Operand.tmp 2) 1, some 30, some (some 29, true)⟩, ⟨Op.load 37 (Operand.tmp 30), some 31, some (some 29, true)⟩, ⟨Op.indexAddr 37 (Operand.tmp 31) (Operand.const (Value.int IntKind.i64 0)), some 32, some (some 29, true)⟩, ⟨Op.fieldAddr 45 (Operand.tmp 32) 2, some 33, some (some 29, true)⟩, ⟨Op.load 3 (Operand.tmp 33), some 34, some (some 29, true)⟩, ⟨Op.binOp BinOp.eql 3 (Operand.tmp 34) (Operand.const (Value.int IntKind.i64 (-1))) 3, some 35, some (some 29, true)⟩, ⟨Op.pick (Operand.tmp 29) (Operand.tmp 35) (Operand.const (Value.bool false)), some 36, none⟩, ⟨Op.move (Operand.tmp 36), some 37, none⟩, ⟨Op.move (Operand.tmp 5), some 38, some (some 37, true)⟩, ⟨Op.binOp BinOp.eql 40 (Operand.tmp 38) (Operand.const (Value.int IntKind.i64 131)) 40, some 39, some (some 37, true)⟩, ⟨Op.pick (Operand.tmp 37) (Operand.tmp 39) (Operand.const (Value.bool false)), some 40, none⟩, ⟨Op.assign (Operand.tmp 40), some 0, none⟩] fun K hK => ?_
  try simp
  repeat' first | ((first | refine evL_c ?_ | (refine evL_g rfl ?_; try simp only [gs_tt, gs_ff, gs_tf, gs_ft]) | refine evL_u rfl ?_ | (with_reducible refine gsplit (fun hg => ?_) (fun hg => ?_) <;> try simp at hg)) <;> try simp [Fw.rowAt]) | (with_reducible refine And.intro ?_ ?_) | intro _ | (with_reducible assumption) | omega
  all_goals (refine Fin.go hK ?_; clear hK K)
  all_goals
    simp only [Then_normal]
    refine Run.ret ?_
    try simp only [Then_ret, Blok_ret]
    simp

set_option maxHeartbeats 4000000 in
theorem num1_ok (b : Bool) (p : PlanT) (hf : partsP p ≤ 2000000) (IH : ∀ i : Nat, i < p.kids.length → Snd P 13 [.d (.ag (encP (rdI p.kids i))), .bool b] (.int (numS b (rdI p.kids i))) []) : Snd P 13 [.d (.ag (encP p)), .bool b] (.int (numS b p)) [] := by
  have hce := numS_eq b p
  have hle := numS_le b p
  have hkp := kids_le p
  obtain ⟨m, hm⟩ : ∃ m, p.kids.length = m := ⟨_, rfl⟩
  obtain ⟨q, hq⟩ : ∃ x, decide (p.op = 1) = x := ⟨_, rfl⟩
  rw [hq] at hce
  obtain ⟨k0, hk0⟩ : ∃ x, (if q = b then 1 else 0 : Nat) = x := ⟨_, rfl⟩
  refine snd_of [] Try.func13 rfl (by kernel_rfl) Try.ntmps13 (by simp) ?_
  unfold Try.f13
  simp only [List.cons_append, List.nil_append, List.length_cons, List.length_nil, Nat.reduceAdd, Nat.reduceSub, List.replicate]
  refine Run.seq ?_
  refine opsF oo57 fun K hK => ?_
  try simp
  repeat' first | ((refine evL_c ?_); simp [hm, hq]) | (with_reducible refine And.intro ?_ ?_) | intro _ | (with_reducible assumption) | omega
  all_goals (refine Fin.go hK ?_; clear hK K)
  simp only [Then_normal]
  refine Run.seq ?_
  refine opsF [⟨Op.assign (Operand.const (Value.int IntKind.i64 0)), some 5, none⟩] fun K hK => ?_
  try simp
  repeat' first | ((refine evL_c ?_); simp [hm, hq]) | (with_reducible refine And.intro ?_ ?_) | intro _ | (with_reducible assumption) | omega
  all_goals (refine Fin.go hK ?_; clear hK K)
  simp only [Then_normal]
  refine Run.cut [5, 7, 8, 9, 10, 11] [(5, .int k0)] [(300, .vals ((encP p).map .d))] ?_ ?_
  · refine Run.seq ?_
    refine opsF [⟨Op.fieldAddr 27 (Operand.tmp 2) 0, some 7, none⟩, ⟨Op.load 22 (Operand.tmp 7), some 8, none⟩, ⟨Op.binOp BinOp.eql 22 (Operand.tmp 8) (Operand.const (Value.int IntKind.i64 1)) 22, some 9, none⟩, ⟨Op.move (Operand.tmp 1), some 10, none⟩, ⟨Op.binOp BinOp.eql 4 (Operand.tmp 9) (Operand.tmp 10) 4, some 11, none⟩] fun K hK => ?_
    try simp
    repeat' first | ((refine evL_c ?_); simp [hm, hq]) | (with_reducible refine And.intro ?_ ?_) | intro _ | (with_reducible assumption) | omega
    all_goals (refine Fin.go hK ?_; clear hK K)
    simp only [Then_normal]
    refine Run.cond rfl (fun h11 => ?_) (fun h11 => ?_)
    · try simp at h11
      refine opsF oo54 fun K hK => ?_
      try simp
      repeat' first | ((refine evL_c ?_); simp [hm, hq]) | (with_reducible refine And.intro ?_ ?_) | intro _ | (with_reducible assumption) | omega
      all_goals (refine Fin.go hK ?_; clear hK K)
      (try simp at h11) <;> (simp [← hk0, h11])
    · try simp at h11
      refine Run.skip ?_
      (try simp at h11) <;> (simp [← hk0, h11])
  · simp only [over, List.foldl, List.set]
    refine Run.seq ?_
    refine Run.seq ?_
    refine opsF oo55 fun K hK => ?_
    try simp
    repeat' first | ((refine evL_c ?_); simp [hm, hq]) | (with_reducible refine And.intro ?_ ?_) | intro _ | (with_reducible assumption) | omega
    all_goals (refine Fin.go hK ?_; clear hK K)
    simp only [Then_normal]
    refine Run.block ?_
    refine Run.loopO [5, 6, 12, 13, 14, 15, 16, 17, 18, 19, 20, 21, 22, 23, 24, 25, 26, 27] (fun (x : Nat × Nat) => [(6, .int x.1), (5, .int x.2)]) (fun (x : Nat × Nat) => [(300, .vals ((encP p).map .d))]) (fun (x : Nat × Nat) => x.1 ≤ m ∧ x.2 + numSL b (p.kids.drop x.1) = numS b p) (fun (x : Nat × Nat) => m - x.1) (0, k0) ⟨by omega, by rw [hce, hk0]; rfl⟩ (by simp) fun ⟨i, n⟩ ⟨hi, hg⟩ => ?_
    simp only at hi hg
    simp only [over, List.foldl, List.set]
    refine Run.seq ?_
    refine Run.seq ?_
    refine opsF [⟨Op.move (Operand.tmp 6), some 12, none⟩, ⟨Op.fieldAddr 27 (Operand.tmp 2) 1, some 13, none⟩, ⟨Op.load 23 (Operand.tmp 13), some 14, none⟩, ⟨Op.call { callee := Callee.builtin Builtin.len, args := #[Operand.tmp 14], argTypes := #[23] }, some 15, none⟩, ⟨Op.binOp BinOp.lss 3 (Operand.tmp 12) (Operand.tmp 15) 3, some 16, none⟩] fun K hK => ?_
    try simp
    repeat' first | ((refine evL_c ?_); simp [hm, hq]) | (with_reducible refine And.intro ?_ ?_) | intro _ | (with_reducible assumption) | omega
    all_goals (refine Fin.go hK ?_; clear hK K)
    simp only [Then_normal]
    refine Run.cond rfl (fun h16 => ?_) (fun h16 => ?_)
    · try simp at h16
      have hi1 : i < m := by omega
      have hT := IH i (by omega)
      have hs := numSL_step (b := b) (l := p.kids) (i := i) (by omega)
      obtain ⟨k, hk⟩ : ∃ x, numS b (rdI p.kids i) = x := ⟨_, rfl⟩
      rw [hk] at hT hs
      rw [encP_cells] at hT
      have hw : IntKind.i64.wrap ((n : Int) + k) = (n : Int) + k := wrap_id (by omega) (by omega)
      refine Run.skip ?_
      simp only [Then_normal]
      refine Run.seq ?_
      refine Run.block ?_
      refine opsF [⟨Op.move (Operand.tmp 5), some 19, none⟩, ⟨Op.fieldAddr 27 (Operand.tmp 2) 1, some 20, none⟩, ⟨Op.load 23 (Operand.tmp 20), some 21, none⟩, ⟨Op.move (Operand.tmp 6), some 22, none⟩, ⟨Op.indexAddr 23 (Operand.tmp 21) (Operand.tmp 22), some 23, none⟩, ⟨Op.load 27 (Operand.tmp 23), some 24, none⟩, ⟨Op.move (Operand.tmp 1), some 25, none⟩, ⟨Op.call { callee := Callee.value (Operand.func 13), args := #[Operand.tmp 24, Operand.tmp 25], argTypes := #[27, 4] }, some 26, none⟩, ⟨Op.binOp BinOp.add 3 (Operand.tmp 19) (Operand.tmp 26) 3, some 27, none⟩, ⟨Op.assign (Operand.tmp 27), some 5, none⟩] fun K hK => ?_
      try simp
      repeat' first | (refine ecallD (by exact hT) ?_) | ((refine evL_c ?_); simp [hm, hq, hi1, hw]) | (with_reducible refine And.intro ?_ ?_) | intro _ | (with_reducible assumption) | omega
      all_goals (refine Fin.go hK ?_; clear hK K)
      simp only [Blok_normal]
      simp only [Then_normal]
      refine opsF oo56 fun K hK => ?_
      try simp
      repeat' first | ((refine evL_c ?_); simp [hm, hq, hi1, hw]) | (with_reducible refine And.intro ?_ ?_) | intro _ | (with_reducible assumption) | omega
      all_goals (refine Fin.go hK ?_; clear hK K)
      refine ⟨(i + 1, n + k), ⟨by simp; omega, ?_⟩, by simp; omega, ?_⟩
      · rw [← hg, numSL_step (l := p.kids) (i := i) (by omega), hk]; simp only []; omega
      · simp (disch := omega) [hm, wrap_id]
    · try simp at h16
      rw [numSL_end (by omega)] at hg
      refine Run.exit ?_
      simp (decide := true) only [Then_exit, Blok_exit, if_true, if_false]
      simp only [Then_normal]
      refine Run.seq ?_
      refine opsF [⟨Op.move (Operand.tmp 5), some 28, none⟩, ⟨Op.assign (Operand.tmp 28), some 4, none⟩] fun K hK => ?_
      try simp
      repeat' first | ((refine evL_c ?_); simp [hm, hq]) | (with_reducible refine And.intro ?_ ?_) | intro _ | (with_reducible assumption) | omega
      all_goals (refine Fin.go hK ?_; clear hK K)
      simp only [Then_normal]
      refine Run.ret ?_
      try simp only [Then_ret, Blok_ret]
      simp [← hg]


theorem parts13_ok (b : Bool) (p : PlanT) (hf : partsP p ≤ 2000000) : Snd P 13 [.d (.ag (encP p)), .bool b] (.int (numS b p)) [] :=
  num1_ok b p hf fun i hi =>
    have := kids_lt (kid_mem (p := p) hi)
    parts13_ok b (rdI p.kids i) (kid_fine hf hi)
termination_by SizeOf.sizeOf p
end Go.Proofs.Ytihbejpkfifplaa.Z
end
section
set_option maxRecDepth 100000
namespace Go.Proofs.Ytihbejpkfifplaa.Z
open Go Go.Fw
/-- how many steps pipes have -/
def sumS : List PipeC → Nat
  | [] => 0
  | x :: r => x.steps.length + sumS r
theorem sumS_app (a b : List PipeC) : sumS (a ++ b) = sumS a + sumS b := by
  induction a with
  | nil => simp [sumS]
  | cons x r ih => rw [List.cons_append, sumS, sumS, ih]; omega
theorem sumS_take (l : List PipeC) (i : Nat) : sumS (l.take i) ≤ sumS l := by
  have h := sumS_app (l.take i) (l.drop i)
  rw [List.take_append_drop] at h; omega
theorem sumS_step {l : List PipeC} {i : Nat} (hi : i < l.length) : sumS (l.take (i + 1)) = sumS (l.take i) + (rdI l i).steps.length := by
  rw [take_rd hi, sumS_app]; simp [sumS]
theorem pipe_cnt (c : CoreT) (p : PlanT) (hr : (bndT c p).isSome = true) (st : StC) : sumS (pipeT c p st).2.2 + (pipeT c p st).1.steps.length = sumS st.2 + numS false p ∧ (pipeT c p st).2.2.length + 1 = st.2.length + numS true p ∧ (pipeT c p st).2.1.length + st.2.length = st.1.length + (pipeT c p st).2.2.length := by
  have hw := bnd_wants hr
  have one : p.op ≠ 1 → p.op ≠ 4 → p.kids.length = 1 → sumS (pipeT c p st).2.2 + (pipeT c p st).1.steps.length = sumS st.2 + numS false p ∧ (pipeT c p st).2.2.length + 1 = st.2.length + numS true p ∧ (pipeT c p st).2.1.length + st.2.length = st.1.length + (pipeT c p st).2.2.length := fun n1 n4 hl => by
    have hq := bnd_kids hr _ (kid_mem (p := p) (i := 0) (by omega))
    have hsz := kids_lt (kid_mem (p := p) (i := 0) (by omega))
    have IH := pipe_cnt c (rdI p.kids 0) hq st
    have e : p.kids = [rdI p.kids 0] := by
      obtain ⟨q, hq⟩ := List.length_eq_one_iff.1 hl
      rw [hq]; rfl
    have k1 : numS false p = 1 + numS false (rdI p.kids 0) := by
      rw [numS_eq, e]; simp [n1, numSL, rdI]
    have k2 : numS true p = numS true (rdI p.kids 0) := by
      rw [numS_eq, e]; simp [n1, numSL, rdI]
    rw [pipe_one hl, pipeO, if_neg n1, if_neg n4, k1, k2]
    show sumS (pipeT c (rdI p.kids 0) st).2.2 + ((pipeT c (rdI p.kids 0) st).1.steps ++ [stepO p]).length = _ ∧ (pipeT c (rdI p.kids 0) st).2.2.length + 1 = _ ∧ (pipeT c (rdI p.kids 0) st).2.1.length + st.2.length = st.1.length + (pipeT c (rdI p.kids 0) st).2.2.length
    rw [List.length_append, List.length_singleton]
    omega
  rcases wants_op hw with e | e | e | e | e | e
  · have hl : p.kids = [] := List.length_eq_zero_iff.1 (by rw [e] at hw; simp [wants] at hw; omega)
    have k1 : numS false p = 0 := by rw [numS_eq, hl]; simp [e, numSL]
    have k2 : numS true p = 1 := by rw [numS_eq, hl]; simp [e, numSL]
    rw [pipeT_eq, pipeO, if_pos e, hl, pipeL, k1, k2]
    exact ⟨rfl, rfl, rfl⟩
  · exact one (by omega) (by omega) (by rw [e] at hw; simp [wants] at hw; omega)
  · exact one (by omega) (by omega) (by rw [e] at hw; simp [wants] at hw; omega)
  · have hl : p.kids.length = 2 := by rw [e] at hw; simp [wants] at hw; omega
    have hq0 := bnd_kids hr _ (kid_mem (p := p) (i := 0) (by omega))
    have hq1 := bnd_kids hr _ (kid_mem (p := p) (i := 1) (by omega))
    have hsz0 := kids_lt (kid_mem (p := p) (i := 0) (by omega))
    have hsz1 := kids_lt (kid_mem (p := p) (i := 1) (by omega))
    simp only [Int.natCast_zero, Int.natCast_one] at *
    have IH0 := pipe_cnt c (rdI p.kids 0) hq0 st
    have IH1 := pipe_cnt c (rdI p.kids 1) hq1 (pipeT c (rdI p.kids 0) st).2
    have ek : p.kids = [rdI p.kids 0, rdI p.kids 1] := by
      obtain ⟨q, r, hq⟩ := len_two hl
      rw [hq]; rfl
    have k1 : numS false p = 1 + numS false (rdI p.kids 0) + numS false (rdI p.kids 1) := by
      rw [numS_eq, ek]; simp [e, numSL, rdI]; omega
    have k2 : numS true p = numS true (rdI p.kids 0) + numS true (rdI p.kids 1) := by
      rw [numS_eq, ek]; simp [e, numSL, rdI]
    rw [pipe_two hl, pipeO, if_neg (by omega), if_pos e, k1, k2]
    simp only [List.getD_cons_zero, List.getD_cons_succ, onC, List.length_append, List.length_singleton, sumS_app, sumS]
    omega
  · exact one (by omega) (by omega) (by rw [e] at hw; simp [wants] at hw; omega)
  · exact one (by omega) (by omega) (by rw [e] at hw; simp [wants] at hw; omega)
termination_by SizeOf.sizeOf p
theorem stepsN_ok (p : PlanT) (c : CoreT) (hp : partsP p ≤ 2000000) (n : Int) (hn : n ≠ 0) (hC : partsP p ≤ 1000 → Snd P 12 [.d (.ag (encP p)), .d (.ag (encC c))] (.tup [.d (.ag [nilD, nilD]), .int n]) []) : Snd P 4 [.d (.ag (encP p)), .d (.ag (encC c))] (.bool true) [] := by
  have hA := parts_ok p hp 1000 (by omega) (by omega)
  obtain ⟨pa, hpa⟩ : ∃ x, partsR p 1000 = x := ⟨_, rfl⟩
  rw [hpa, encP_cells] at hA
  rw [encP_cells] at hC
  refine snd_of [] Try.func4 rfl (by kernel_rfl) Try.ntmps4 (by simp) ?_
  unfold Try.f4
  simp only [List.cons_append, List.nil_append, List.length_cons, List.length_nil, Nat.reduceAdd, Nat.reduceSub, List.replicate]
  refine Run.seq ?_
  refine opsF oo58 fun K hK => ?_
  try simp
  repeat' first | ((refine evL_c ?_); simp [hn]) | (with_reducible refine And.intro ?_ ?_) | intro _ | (with_reducible assumption) | omega
  all_goals (refine Fin.go hK ?_; clear hK K)
  simp only [Then_normal]
  refine Run.seq ?_
  refine opsF oo59 fun K hK => ?_
  try simp
  repeat' first | (refine ecallD head17_ok ?_) | ((refine evL_c ?_); simp [hn]) | (with_reducible refine And.intro ?_ ?_) | intro _ | (with_reducible assumption) | omega
  all_goals (refine Fin.go hK ?_; clear hK K)
  simp only [Then_normal]
  refine Run.seq ?_
  refine Run.seq ?_
  refine opsF oo60 fun K hK => ?_
  try simp
  repeat' first | (refine ecallD (by exact hA) ?_) | ((refine evL_c ?_); simp [hn]) | (with_reducible refine And.intro ?_ ?_) | intro _ | (with_reducible assumption) | omega
  all_goals (refine Fin.go hK ?_; clear hK K)
  simp only [Then_normal]
  refine Run.cond rfl (fun h13 => ?_) (fun h13 => ?_)
  · try simp at h13
    refine Run.seq ?_
    refine opsF oo61 fun K hK => ?_
    try simp
    repeat' first | ((refine evL_c ?_); simp [hn]) | (with_reducible refine And.intro ?_ ?_) | intro _ | (with_reducible assumption) | omega
    all_goals (refine Fin.go hK ?_; clear hK K)
    simp only [Then_normal]
    refine Run.ret ?_
    try simp only [Then_ret, Blok_ret]
    simp
  · try simp at h13
    have e1 := partsR_all p 1000 hp (by omega)
    have hC := hC (by omega)
    refine Run.skip ?_
    simp only [Then_normal]
    refine Run.seq ?_
    refine opsF oo62 fun K hK => ?_
    try simp
    repeat' first | (refine ecall (by exact hC) rfl ?_) | ((refine evL_c ?_); simp [hn]) | (with_reducible refine And.intro ?_ ?_) | intro _ | (with_reducible assumption) | omega
    all_goals (refine Fin.go hK ?_; clear hK K)
    simp only [Then_normal]
    refine Run.seq ?_
    refine Run.seq ?_
    refine opsF oo63 fun K hK => ?_
    try simp
    repeat' first | ((first | refine evL_c ?_ | (refine evL_g rfl ?_; try simp only [gs_tt, gs_ff, gs_tf, gs_ft]) | refine evL_u rfl ?_ | (with_reducible refine gsplit (fun hg => ?_) (fun hg => ?_) <;> try simp at hg)) <;> try simp [hn]) | (with_reducible refine And.intro ?_ ?_) | intro _ | (with_reducible assumption) | omega
    all_goals (refine Fin.go hK ?_; clear hK K)
    all_goals
      simp only [Then_normal]
      refine Run.cond rfl (fun h26 => ?_) (fun h26 => ?_)
      · skip
        refine Run.seq ?_
        refine opsF [⟨Op.move (Operand.tmp 5), some 27, none⟩, ⟨Op.assign (Operand.tmp 27), some 4, none⟩] fun K hK => ?_
        try simp
        repeat' first | ((refine evL_c ?_); simp [hn]) | (with_reducible refine And.intro ?_ ?_) | intro _ | (with_reducible assumption) | omega
        all_goals (refine Fin.go hK ?_; clear hK K)
        simp only [Then_normal]
        refine Run.ret ?_
        try simp only [Then_ret, Blok_ret]
        simp
      · simp at h26

set_option maxHeartbeats 4000000 in
theorem stepsA_ok (p : PlanT) (c : CoreT) (T : List (List Int)) (Ps : List PipeC) (hp : partsP p ≤ 2000000) (hsum : sumS Ps = numS false p) (hlen : Ps.length = numS true p) (hC : partsP p ≤ 1000 → Snd P 12 [.d (.ag (encP p)), .d (.ag (encC c))] (.tup [.d (.ag [.sl false (T.map encTb), .sl false (Ps.map encW)]), .int 0]) []) : Snd P 4 [.d (.ag (encP p)), .d (.ag (encC c))] (.bool true) [] := by
  have hA := parts_ok p hp 1000 (by omega) (by omega)
  obtain ⟨pa, hpa⟩ : ∃ x, partsR p 1000 = x := ⟨_, rfl⟩
  rw [hpa, encP_cells] at hA
  rw [encP_cells] at hC
  have hk1 := parts13_ok false p hp
  have hk2 := parts13_ok true p hp
  rw [encP_cells] at hk1 hk2
  have hl1 := numS_le false p
  have hl2 := numS_le true p
  obtain ⟨m, hm⟩ : ∃ x, Ps.length = x := ⟨_, rfl⟩
  obtain ⟨nf, hnf⟩ : ∃ x, numS false p = x := ⟨_, rfl⟩
  rw [hm] at hlen
  rw [← hlen] at hk2 hl2
  rw [hnf] at hk1 hl1 hsum
  refine snd_of [] Try.func4 rfl (by kernel_rfl) Try.ntmps4 (by simp) ?_
  unfold Try.f4
  simp only [List.cons_append, List.nil_append, List.length_cons, List.length_nil, Nat.reduceAdd, Nat.reduceSub, List.replicate]
  refine Run.seq ?_
  refine opsF oo58 fun K hK => ?_
  try simp
  repeat' first | ((refine evL_c ?_); simp [hm]) | (with_reducible refine And.intro ?_ ?_) | intro _ | (with_reducible assumption) | omega
  all_goals (refine Fin.go hK ?_; clear hK K)
  simp only [Then_normal]
  refine Run.seq ?_
  refine opsF oo59 fun K hK => ?_
  try simp
  repeat' first | (refine ecallD head17_ok ?_) | ((refine evL_c ?_); simp [hm]) | (with_reducible refine And.intro ?_ ?_) | intro _ | (with_reducible assumption) | omega
  all_goals (refine Fin.go hK ?_; clear hK K)
  simp only [Then_normal]
  refine Run.seq ?_
  refine Run.seq ?_
  refine opsF oo60 fun K hK => ?_
  try simp
  repeat' first | (refine ecallD (by exact hA) ?_) | ((refine evL_c ?_); simp [hm]) | (with_reducible refine And.intro ?_ ?_) | intro _ | (with_reducible assumption) | omega
  all_goals (refine Fin.go hK ?_; clear hK K)
  simp only [Then_normal]
  refine Run.cond rfl (fun h13 => ?_) (fun h13 => ?_)
  · try simp at h13
    refine Run.seq ?_
    refine opsF oo61 fun K hK => ?_
    try simp
    repeat' first | ((refine evL_c ?_); simp [hm]) | (with_reducible refine And.intro ?_ ?_) | intro _ | (with_reducible assumption) | omega
    all_goals (refine Fin.go hK ?_; clear hK K)
    simp only [Then_normal]
    refine Run.ret ?_
    try simp only [Then_ret, Blok_ret]
    simp
  · try simp at h13
    have e1 := partsR_all p 1000 hp (by omega)
    have hC := hC (by omega)
    refine Run.skip ?_
    simp only [Then_normal]
    refine Run.seq ?_
    refine opsF oo62 fun K hK => ?_
    try simp
    repeat' first | (refine ecall (by exact hC) rfl ?_) | ((refine evL_c ?_); simp [hm]) | (with_reducible refine And.intro ?_ ?_) | intro _ | (with_reducible assumption) | omega
    all_goals (refine Fin.go hK ?_; clear hK K)
    simp only [Then_normal]
    refine Run.seq ?_
    refine Run.seq ?_
    refine opsF oo63 fun K hK => ?_
    try simp
    repeat' first | ((first | refine evL_c ?_ | (refine evL_g rfl ?_; try simp only [gs_tt, gs_ff, gs_tf, gs_ft]) | refine evL_u rfl ?_ | (with_reducible refine gsplit (fun hg => ?_) (fun hg => ?_) <;> try simp at hg)) <;> try simp [hm]) | (with_reducible refine And.intro ?_ ?_) | intro _ | (with_reducible assumption) | omega
    all_goals (refine Fin.go hK ?_; clear hK K)
    all_goals
      simp only [Then_normal]
      refine Run.cond rfl (fun h26 => ?_) (fun h26 => ?_)
      · simp at h26
      · skip
        refine Run.skip ?_
        simp only [Then_normal]
        refine Run.seq ?_
        refine opsF [⟨Op.assign (Operand.const (Value.int IntKind.i64 0)), some 8, none⟩] fun K hK => ?_
        try simp
        repeat' first | ((refine evL_c ?_); simp [hm]) | (with_reducible refine And.intro ?_ ?_) | intro _ | (with_reducible assumption) | omega
        all_goals (refine Fin.go hK ?_; clear hK K)
        simp only [Then_normal]
        refine Run.seq ?_
        refine Run.seq ?_
        refine opsF [⟨Op.assign (Operand.const (Value.int IntKind.i64 0)), some 9, none⟩] fun K hK => ?_
        try simp
        repeat' first | ((refine evL_c ?_); simp [hm]) | (with_reducible refine And.intro ?_ ?_) | intro _ | (with_reducible assumption) | omega
        all_goals (refine Fin.go hK ?_; clear hK K)
        simp only [Then_normal]
        refine Run.block ?_
        refine Run.loopO [8, 9, 28, 29, 30, 31, 32, 33, 34, 35, 36, 37, 38, 39, 40, 41, 42, 43] (fun (i : Nat) => [(9, .int i), (8, .int (sumS (Ps.take i)))]) (fun (i : Nat) => [(300, .vals ((encP p).map .d)), (400, .vals ((encC c).map .d)), (700, .vals [.d (.sl false (T.map encTb)), .d (.sl false (Ps.map encW))])]) (fun (i : Nat) => i ≤ m) (fun (i : Nat) => m - i) 0 (by omega) (by simp [sumS]) fun i hi => ?_
        simp only [over, List.foldl, List.set]
        have hsl := sumS_take Ps i
        have hju := sumS_step (l := Ps) (i := i)
        obtain ⟨si, hsi⟩ : ∃ x, sumS (Ps.take i) = x := ⟨_, rfl⟩
        rw [hsi] at hju hsl
        refine Run.seq ?_
        refine Run.seq ?_
        refine opsF [⟨Op.move (Operand.tmp 9), some 28, none⟩, ⟨Op.fieldAddr 39 (Operand.tmp 6) 1, some 29, none⟩, ⟨Op.load 37 (Operand.tmp 29), some 30, none⟩, ⟨Op.call { callee := Callee.builtin Builtin.len, args := #[Operand.tmp 30], argTypes := #[37] }, some 31, none⟩, ⟨Op.binOp BinOp.lss 3 (Operand.tmp 28) (Operand.tmp 31) 3, some 32, none⟩] fun K hK => ?_
        try simp
        repeat' first | ((refine evL_c ?_); simp [hm]) | (with_reducible refine And.intro ?_ ?_) | intro _ | (with_reducible assumption) | omega
        all_goals (refine Fin.go hK ?_; clear hK K)
        simp only [Then_normal]
        refine Run.cond rfl (fun h32 => ?_) (fun h32 => ?_)
        · try simp at h32
          have hi1 : i < m := by omega
          have hju := hju (by omega)
          obtain ⟨sl, hsl2⟩ : ∃ x, (rdI Ps (i : Int)).steps.length = x := ⟨_, rfl⟩
          rw [hsl2] at hju
          have hju2 := sumS_take Ps (i + 1)
          have hw : IntKind.i64.wrap ((si : Int) + sl) = (si : Int) + sl := wrap_id (by omega) (by omega)
          refine Run.skip ?_
          simp only [Then_normal]
          refine Run.seq ?_
          refine Run.block ?_
          refine opsF [⟨Op.move (Operand.tmp 8), some 35, none⟩, ⟨Op.fieldAddr 39 (Operand.tmp 6) 1, some 36, none⟩, ⟨Op.load 37 (Operand.tmp 36), some 37, none⟩, ⟨Op.move (Operand.tmp 9), some 38, none⟩, ⟨Op.indexAddr 37 (Operand.tmp 37) (Operand.tmp 38), some 39, none⟩, ⟨Op.fieldAddr 45 (Operand.tmp 39) 1, some 40, none⟩, ⟨Op.load 43 (Operand.tmp 40), some 41, none⟩, ⟨Op.call { callee := Callee.builtin Builtin.len, args := #[Operand.tmp 41], argTypes := #[43] }, some 42, none⟩, ⟨Op.binOp BinOp.add 3 (Operand.tmp 35) (Operand.tmp 42) 3, some 43, none⟩, ⟨Op.assign (Operand.tmp 43), some 8, none⟩] fun K hK => ?_
          try simp
          repeat' first | ((refine evL_c ?_); simp [hm, hi1, hsl2, hw, hsi]) | (with_reducible refine And.intro ?_ ?_) | intro _ | (with_reducible assumption) | omega
          all_goals (refine Fin.go hK ?_; clear hK K)
          simp only [Blok_normal]
          simp only [Then_normal]
          refine opsF [⟨Op.move (Operand.tmp 9), some 33, none⟩, ⟨Op.binOp BinOp.add 3 (Operand.tmp 33) (Operand.const (Value.int IntKind.i64 1)) 3, some 34, none⟩, ⟨Op.assign (Operand.tmp 34), some 9, none⟩] fun K hK => ?_
          try simp
          repeat' first | ((refine evL_c ?_); simp [hm, hi1, hsl2, hw, hsi]) | (with_reducible refine And.intro ?_ ?_) | intro _ | (with_reducible assumption) | omega
          all_goals (refine Fin.go hK ?_; clear hK K)
          refine ⟨i + 1, by omega, by omega, ?_⟩
          simp (disch := omega) [hm, wrap_id, hju]
        · try simp at h32
          have hi2 : i = m := by omega
          have hsi2 : sumS (Ps.take i) = nf := by rw [show i = Ps.length by omega, List.take_length, hsum]
          refine Run.exit ?_
          simp (decide := true) only [Then_exit, Blok_exit, if_true, if_false]
          simp only [Then_normal]
          refine Run.seq ?_
          refine opsF [⟨Op.move (Operand.tmp 8), some 44, none⟩, ⟨Op.load 27 (Operand.tmp 2), some 45, none⟩, ⟨Op.call { callee := Callee.value (Operand.func 13), args := #[Operand.tmp 45, Operand.const (Value.bool false)], argTypes := #[27, 4] }, some 46, none⟩, ⟨Op.binOp BinOp.eql 3 (Operand.tmp 44) (Operand.tmp 46) 3, some 47, none⟩, ⟨Op.move (Operand.tmp 47), some 48, none⟩, ⟨Op.fieldAddr 39 (Operand.tmp 6) 1, some 49, some (some 48, true)⟩, ⟨Op.load 37 (Operand.tmp 49), some 50, some (some 48, true)⟩, ⟨Op.call { callee := Callee.builtin Builtin.len, args := #[Operand.tmp 50], argTypes := #[37] }, some 51, some (some 48, true)⟩, ⟨Op.load 27 (Operand.tmp 2), some 52, some (some 48, true)⟩, ⟨Op.call { callee := Callee.value (Operand.func 13), args := #[Operand.tmp 52, Operand.const (Value.bool true)], argTypes := #[27, 4] }, some 53, some (some 48, true)⟩, ⟨Op.binOp BinOp.eql 3 (Operand.tmp 51) (Operand.tmp 53) 3, some 54, some (some 48, true)⟩, ⟨Op.pick (Operand.tmp 48) (Operand.tmp 54) (Operand.const (Value.bool false)), some 55, none⟩, ⟨Op.assign (Operand.tmp 55), some 4, none⟩] fun K hK => ?_
          try simp
          repeat' first | (refine ecallD (by exact hk1) ?_) | (refine ecallD (by exact hk2) ?_) | ((first | refine evL_c ?_ | (refine evL_g rfl ?_; try simp only [gs_tt, gs_ff, gs_tf, gs_ft]) | refine evL_u rfl ?_ | (with_reducible refine gsplit (fun hg => ?_) (fun hg => ?_) <;> try simp at hg)) <;> try simp [hm, hsi2]) | (with_reducible refine And.intro ?_ ?_) | intro _ | (with_reducible assumption) | omega
          all_goals (refine Fin.go hK ?_; clear hK K)
          all_goals
            simp only [Then_normal]
            refine Run.ret ?_
            try simp only [Then_ret, Blok_ret]
            simp


theorem steps_ok (p : PlanT) (c : CoreT) (hp : partsP p ≤ 2000000) : Snd P 4 [.d (.ag (encP p)), .d (.ag (encC c))] (.bool true) [] := by
  by_cases h : patS c.nodes c.edges = true ∧ (bndT c p).isSome = true
  · have hc := pipe_cnt c p h.2 ([], [])
    refine stepsA_ok p c (compT c p).1 (compT c p).2 hp ?_ ?_ fun hs => Compile_ok c p h.1 (by omega) h.2
    · have := hc.1
      simp only [compT, sumS_app, sumS] at this ⊢
      omega
    · have := hc.2.1
      simp only [compT, List.length_append, List.length_singleton, List.length_nil] at this ⊢
      omega
  · obtain ⟨n, hn, hN⟩ : ∃ n : Int, n ≠ 0 ∧ (partsP p ≤ 1000 → Snd P 12 [.d (.ag (encP p)), .d (.ag (encC c))] (.tup [.d (.ag [nilD, nilD]), .int n]) []) := by
      by_cases hs : partsP p ≤ 1000
      · obtain ⟨n, h1, _, h2⟩ := CompileN_ok c p (by omega) h
        exact ⟨n, h1, fun _ => h2⟩
      · exact ⟨1, by decide, fun q => absurd q hs⟩
    exact stepsN_ok p c hp n hn hN
end Go.Proofs.Ytihbejpkfifplaa.Z
end
section
set_option maxRecDepth 100000
namespace Go.Proofs.Ytihbejpkfifplaa.Z
open Go Go.Fw Go.ChangeShapes Go.WideShapes Go.ChangeAt Go.RowKit Go.Joins Go.Deep
def lay (P : Program) (t : TypeId) : List (Nat × TypeId) := match P.underlying t with
  | some (.struct fs) => fs.toList.map fun f => (f.offset, f.type)
  | _ => []
abbrev CR (w : World) (ds : List D) (cs : List Value) : Prop := All2 (fun x v => v.oneCell = true ∧ DRel w (fun _ => False) x v) ds cs
theorem CR.one {w : World} {x : D} {v : Value} (h1 : v.oneCell = true) (h2 : DRel w (fun _ => False) x v) : CR w [x] [v] := All2.cons ⟨h1, h2⟩ All2.nil
theorem ok_wf {n : Int} (h : (Lit.int .i64 n).wf = true) : okLit (.int .i64 n) = true := by
  have := bounds_i64 h
  simp; omega
theorem ok_strl {s : ByteArray} (h : s.size ≤ maxLen) : okLit (.string s) = true := by
  have : s.size ≤ 9223372036854775807 := Nat.le_trans h (by decide)
  simp [this]
section
variable {H : Type} {enc : TypeId × Value → H} {P : Program} {w : World} {base : Nat} {spare : Nat → Bool} {held : Bool} {fuel : Nat} {t : TypeId} {cs : List Value} {x : DataW H × List MemPlace}
theorem rd_struct {l : List (Nat × TypeId)} (hl : lay P t = l) (h0 : l ≠ []) (h : DataW.trod enc P w base spare held fuel t cs = some x) :
    ∃ (xs : List (DataW H × List MemPlace)) (n : Nat), fuel = n + 1 ∧ x.1 = .agg (xs.map (·.1)) ∧ cs.length = P.cellsOf t ∧ xs.length = l.length ∧
      ∀ (i o : Nat) (ty : TypeId), l[i]? = some (o, ty) → DataW.trod enc P w base spare held n ty ((cs.drop o).take (P.cellsOf ty)) = xs[i]? := by
  unfold lay at hl
  split at hl
  · rename_i fs hu
    obtain ⟨xs, n, h1, h2, h3, h4, h5⟩ := DataW.trod_struct hu h
    subst hl
    refine ⟨xs, n, h1, by rw [h2], h3, by simp [h4], fun i o ty hi => ?_⟩
    rw [List.getElem?_map, Array.getElem?_toList] at hi
    obtain ⟨f, hf, e⟩ := Option.map_eq_some_iff.1 hi
    cases e
    exact h5 i f hf
  · exact absurd hl.symm h0
theorem rd_int (ht : P.underlying t = some (.int .i64)) (h : DataW.trod enc P w base spare held fuel t cs = some x) : ∃ v : Int, CR w (encI v) cs ∧ 1 ≤ Rows.uptoBulk x.1 := by
  obtain ⟨n, rfl, rfl, hw⟩ := DataW.trod_int ht h
  exact ⟨n, CR.one rfl (.lit _ (ok_wf hw)), by simp [Rows.uptoBulk]⟩
theorem rd_raw {e : TypeId} (ht : P.underlying t = some (.slice e)) (h : DataW.trod enc P w base spare held fuel t cs = some x) : ∃ v : Value, cs = [v] ∧ v.oneCell = true ∧ okLit v = true := by
  rcases DataW.trod_slice ht h with ⟨rfl, rfl⟩ | ⟨a, len, cap, elems, rest, n, hf, rfl, rfl, _⟩
  · exact ⟨_, rfl, rfl, rfl⟩
  · exact ⟨_, rfl, rfl, rfl⟩
theorem sum_bulk {α : Type} (μ : α → Nat) (l : List α) (es : List (DataW H × List MemPlace)) (hl : l.length = es.length) (h : ∀ (i : Nat) (v : α) (x : DataW H × List MemPlace), l[i]? = some v → es[i]? = some x → μ v ≤ Rows.uptoBulk x.1) : (l.map μ).sum ≤ Rows.uptoBulkAll (es.map (·.1)) := by
  induction l generalizing es with
  | nil => simp
  | cons v r ih =>
    cases es with
    | nil => simp at hl
    | cons x t =>
      have h1 := h 0 v x rfl rfl
      have h2 := ih t (by simpa using hl) fun i v x hv hx => h (i + 1) v x (by simpa using hv) (by simpa using hx)
      simp only [List.map_cons, List.sum_cons, Rows.uptoBulkAll]
      omega
theorem rd_slice {α : Type} [Inhabited α] (en : α → List D) (μ : α → Nat) {e : TypeId} {sz : Nat} (ht : P.underlying t = some (.slice e)) (hsz : P.cellsOf e = sz) (h0 : 0 < sz)
    (hel : ∀ n, fuel = n + 1 → ∀ cs x, DataW.trod enc P w base spare held n e cs = some x → ∃ v, CR w (en v) cs ∧ μ v ≤ Rows.uptoBulk x.1) (h : DataW.trod enc P w base spare held fuel t cs = some x) :
    ∃ (sv : Value) (l : List α), cs = [sv] ∧ sv.oneCell = true ∧ DRel w (fun _ => False) (.sl false (l.map en)) sv ∧ (l.map μ).sum + 1 ≤ Rows.uptoBulk x.1 := by
  rcases DataW.trod_slice ht h with ⟨rfl, rfl⟩ | ⟨a, len, cap, elems, rest, n, hf, rfl, rfl, hb, hl, hm, hlen, hi, _, _⟩
  · exact ⟨.slice none 0 0, [], rfl, rfl, .slE false none 0 (by simp), by simp [Rows.uptoBulk]⟩
  · obtain ⟨f, hF⟩ := choose_lt (α := α) (n := len) (p := fun i v => ∃ c, CR w (en v) c ∧ c.length = sz ∧ (∀ j u, c[j]? = some u → w.cell? (a.add (i * sz + j)) = some u) ∧ ∀ x, elems[i]? = some x → μ v ≤ Rows.uptoBulk x.1) (fun i hlt => by
      have h1 := hi i hlt
      rw [List.getElem?_eq_getElem (by omega)] at h1
      obtain ⟨c, h2, h3⟩ := Option.bind_eq_some_iff.1 h1
      obtain ⟨_, h4, h5⟩ := World.cells?_some h2
      obtain ⟨v, hk, hp⟩ := hel n hf c _ h3
      refine ⟨v, c, hk, h4.trans hsz, fun j u hu => ?_, fun x hx => ?_⟩
      · have hj : j < P.cellsOf e := by
          rw [← h4]
          exact (List.getElem?_eq_some_iff.1 hu).1
        have h6 := h5 j hj
        rw [hu, Go.Deep.add_add, hsz] at h6
        exact h6
      · rw [List.getElem?_eq_getElem (by omega)] at hx
        rw [← Option.some.inj hx]; exact hp)
    have hbk : (((List.range len).map f).map μ).sum + 1 ≤ Rows.uptoBulk (DataW.slice (elems.map (·.1)) (rest.map (·.1))) := by
      have := sum_bulk μ ((List.range len).map f) elems (by simp [hlen]) fun i v x hv hx => by
        rw [List.getElem?_map] at hv
        obtain ⟨k, hk, rfl⟩ := Option.map_eq_some_iff.1 hv
        have hlt : i < len := by have := (List.getElem?_eq_some_iff.1 hk).1; simpa using this
        have : k = i := by rw [List.getElem?_range hlt] at hk; exact (Option.some.inj hk).symm
        subst this
        obtain ⟨c, _, _, _, h4⟩ := hF k hlt
        exact h4 x hx
      simp only [Rows.uptoBulk]; omega
    by_cases hz : len = 0
    · subst hz
      exact ⟨.slice (some a) 0 cap, [], rfl, rfl, .slE false (some a) cap (by simp), by simpa using hbk⟩
    · refine ⟨.slice (some a) len cap, (List.range len).map f, rfl, rfl, ?_, hbk⟩
      obtain ⟨b, off, spot⟩ := a
      have hsp : spot = none := by
        obtain ⟨c, h1, h2, h3, _⟩ := hF 0 (by omega)
        obtain ⟨u, hu⟩ : ∃ u, c[0]? = some u := ⟨c[0], List.getElem?_eq_getElem (by omega)⟩
        have := h3 0 u hu
        cases spot with
        | none => rfl
        | some q =>
          simp [World.cell?, Addr.add] at this
          split at this
          · cases this
          · cases this
      subst hsp
      have key : ∀ i j r y, (((List.range len).map f).map en)[i]? = some r → r[j]? = some y → ∃ u, w.cell? ⟨b, off + i * sz + j, none⟩ = some u ∧ u.oneCell = true ∧ DRel w (fun _ => False) y u := fun i j r y hr hy => by
        rw [List.getElem?_map, List.getElem?_map] at hr
        obtain ⟨v, hv, rfl⟩ := Option.map_eq_some_iff.1 hr
        obtain ⟨k, hk, rfl⟩ := Option.map_eq_some_iff.1 hv
        have hlt : i < len := by have := (List.getElem?_eq_some_iff.1 hk).1; simpa using this
        have : k = i := by rw [List.getElem?_range hlt] at hk; exact (Option.some.inj hk).symm
        subst this
        obtain ⟨c, h1, _, h3, _⟩ := hF k hlt
        obtain ⟨u, hu, ho, hd⟩ := h1.get hy
        have := h3 j u hu
        have e : (Addr.add ⟨b, off, none⟩ (k * sz + j)) = ⟨b, off + k * sz + j, none⟩ := by
          unfold Addr.add
          split
          · rename_i q; rw [Nat.add_assoc, q]; rfl
          · simp [Nat.add_assoc]
        rw [e] at this
        exact ⟨u, this, ho, hd⟩
      have hlen2 : (((List.range len).map f).map en).length = len := by simp
      have := DRel.sl (w := w) (L := fun _ => False) false (((List.range len).map f).map en) b off cap sz (fun i j => (w.cell? ⟨b, off + i * sz + j, none⟩).getD (.bool false)) (fun _ _ _ _ _ _ h => h) (by rw [hlen2]; exact hl) (by rw [hlen2]; exact Nat.le_trans hl (Nat.le_trans hm (by decide)))
        (fun r hr => by
          obtain ⟨v, hv, rfl⟩ := List.mem_map.1 hr
          obtain ⟨i, hi, rfl⟩ := List.mem_map.1 hv
          obtain ⟨c, h1, h2, _⟩ := hF i (by simpa using hi)
          rw [← h1.len, h2])
        (fun i j r y hr hy => by obtain ⟨u, h1, _⟩ := key i j r y hr hy; simp [h1])
        (fun i j r y hr hy => by obtain ⟨u, h1, h2, _⟩ := key i j r y hr hy; simpa [h1] using h2)
        (fun i j r y hr hy => by obtain ⟨u, h1, _, h3⟩ := key i j r y hr hy; simpa [h1] using h3)
      rw [hlen2] at this
      exact this
theorem cntL_sum (l : List TermT) : cntL l = (l.map cntT).sum := by
  induction l with
  | nil => rfl
  | cons t r ih => rw [cntL, ih]; rfl
theorem partsL_sum (l : List PlanT) : partsL l = (l.map partsP).sum := by
  induction l with
  | nil => rfl
  | cons t r ih => rw [partsL, ih]; rfl
theorem sum_len (l : List Int) : (l.map fun _ => 1).sum = l.length := by
  induction l with
  | nil => rfl
  | cons t r ih => simp only [List.map_cons, List.sum_cons, List.length_cons, ih]; omega
theorem sum_one (l : List TermT) : (l.map fun t => 1 + cntT t).sum = l.length + (l.map cntT).sum := by
  induction l with
  | nil => rfl
  | cons t r ih => simp only [List.map_cons, List.sum_cons, List.length_cons]; omega
end
section
variable {H : Type} {enc : TypeId × Value → H} {w : World} {base : Nat} {spare : Nat → Bool} {held : Bool}
theorem lay_V : lay Try.prog 68 = [(0, 66), (1, 4), (2, 2), (3, 9), (4, 51)] := by kernel_rfl
set_option maxRecDepth 100000 in
theorem rd_V {fuel : Nat} {cs : List Value} {x : DataW H × List MemPlace} (h : DataW.trod enc Try.prog w base spare held fuel 68 cs = some x) : ∃ v : ValT, CR w (encV v) cs ∧ 1 ≤ Rows.uptoBulk x.1 := by
  obtain ⟨xs, n, hn, hx, hl, hlen, hg⟩ := rd_struct lay_V (by simp) h
  obtain ⟨c0, c1, c2, c3, c4, rfl⟩ : ∃ c0 c1 c2 c3 c4, cs = [c0, c1, c2, c3, c4] := by
    have hl2 : cs.length = 5 := hl.trans (show Try.prog.cellsOf 68 = 5 from by kernel_rfl)
    match cs, hl2 with
    | [c0, c1, c2, c3, c4], _ => exact ⟨c0, c1, c2, c3, c4, rfl⟩
  obtain ⟨y0, y1, y2, y3, y4, rfl⟩ : ∃ y0 y1 y2 y3 y4, xs = [y0, y1, y2, y3, y4] := by
    match xs, hlen with
    | [y0, y1, y2, y3, y4], _ => exact ⟨y0, y1, y2, y3, y4, rfl⟩
  have g0 := hg 0 0 66 rfl
  rw [show Try.prog.cellsOf 66 = 1 from by kernel_rfl] at g0
  have g1 := hg 1 1 4 rfl
  rw [show Try.prog.cellsOf 4 = 1 from by kernel_rfl] at g1
  have g2 := hg 2 2 2 rfl
  rw [show Try.prog.cellsOf 2 = 1 from by kernel_rfl] at g2
  have g3 := hg 3 3 9 rfl
  rw [show Try.prog.cellsOf 9 = 1 from by kernel_rfl] at g3
  have g4 := hg 4 4 51 rfl
  rw [show Try.prog.cellsOf 51 = 1 from by kernel_rfl] at g4
  simp only [List.drop_zero, List.drop_succ_cons, List.take_succ_cons, List.take_zero, List.getElem?_cons_zero, List.getElem?_cons_succ] at g0 g1 g2 g3 g4
  simp only [List.map_cons, List.map_nil] at hx
  obtain ⟨a0, e0, _, w0⟩ := DataW.trod_int (show Try.prog.underlying 66 = some (.int .i64) from by kernel_rfl) g0
  simp at e0
  subst e0
  obtain ⟨a1, e1, _⟩ := DataW.trod_bool (show Try.prog.underlying 4 = some .bool from by kernel_rfl) g1
  simp at e1
  subst e1
  obtain ⟨a2, e2, _, w2⟩ := DataW.trod_int (show Try.prog.underlying 2 = some (.int .i64) from by kernel_rfl) g2
  simp at e2
  subst e2
  obtain ⟨a3, e3, _, w3⟩ := DataW.trod_string (show Try.prog.underlying 9 = some .string from by kernel_rfl) g3
  simp at e3
  subst e3
  obtain ⟨s4, l4, e4, o4, r4, b4⟩ := rd_slice encI (fun _ => 1) (sz := 1) (show Try.prog.underlying 51 = some (.slice 2) from by kernel_rfl) (by kernel_rfl) (by omega) (fun m hm cs x hx => rd_int (show Try.prog.underlying 2 = some (.int .i64) from by kernel_rfl) hx) g4
  simp at e4
  subst e4
  refine ⟨⟨a0, a1, a2, a3, l4⟩, ?_, ?_⟩
  · exact (CR.one rfl (.lit _ (ok_wf w0))).append ((CR.one rfl (.lit _ rfl)).append ((CR.one rfl (.lit _ (ok_wf w2))).append ((CR.one rfl (.lit _ (ok_strl w3))).append (CR.one o4 r4))))
  · rw [hx]; simp only [Rows.uptoBulk, Rows.uptoBulkAll]
    omega
theorem lay_N : lay Try.prog 76 = [(0, 9), (1, 3)] := by kernel_rfl
set_option maxRecDepth 100000 in
theorem rd_N {fuel : Nat} {cs : List Value} {x : DataW H × List MemPlace} (h : DataW.trod enc Try.prog w base spare held fuel 76 cs = some x) : ∃ v : NodeT, CR w (encN v) cs ∧ 1 ≤ Rows.uptoBulk x.1 := by
  obtain ⟨xs, n, hn, hx, hl, hlen, hg⟩ := rd_struct lay_N (by simp) h
  obtain ⟨c0, c1, rfl⟩ : ∃ c0 c1, cs = [c0, c1] := by
    have hl2 : cs.length = 2 := hl.trans (show Try.prog.cellsOf 76 = 2 from by kernel_rfl)
    match cs, hl2 with
    | [c0, c1], _ => exact ⟨c0, c1, rfl⟩
  obtain ⟨y0, y1, rfl⟩ : ∃ y0 y1, xs = [y0, y1] := by
    match xs, hlen with
    | [y0, y1], _ => exact ⟨y0, y1, rfl⟩
  have g0 := hg 0 0 9 rfl
  rw [show Try.prog.cellsOf 9 = 1 from by kernel_rfl] at g0
  have g1 := hg 1 1 3 rfl
  rw [show Try.prog.cellsOf 3 = 1 from by kernel_rfl] at g1
  simp only [List.drop_zero, List.drop_succ_cons, List.take_succ_cons, List.take_zero, List.getElem?_cons_zero, List.getElem?_cons_succ] at g0 g1
  simp only [List.map_cons, List.map_nil] at hx
  obtain ⟨a0, e0, _, w0⟩ := DataW.trod_string (show Try.prog.underlying 9 = some .string from by kernel_rfl) g0
  simp at e0
  subst e0
  obtain ⟨a1, e1, _, w1⟩ := DataW.trod_int (show Try.prog.underlying 3 = some (.int .i64) from by kernel_rfl) g1
  simp at e1
  subst e1
  refine ⟨⟨a0, a1⟩, ?_, ?_⟩
  · exact (CR.one rfl (.lit _ (ok_strl w0))).append (CR.one rfl (.lit _ (ok_wf w1)))
  · rw [hx]; simp only [Rows.uptoBulk, Rows.uptoBulkAll]
    omega
theorem lay_E : lay Try.prog 105 = [(0, 9), (1, 3), (2, 3), (3, 3), (4, 103), (5, 3), (6, 3)] := by kernel_rfl
set_option maxRecDepth 100000 in
theorem rd_E {fuel : Nat} {cs : List Value} {x : DataW H × List MemPlace} (h : DataW.trod enc Try.prog w base spare held fuel 105 cs = some x) : ∃ v : EdgeT, CR w (encE v) cs ∧ 1 ≤ Rows.uptoBulk x.1 := by
  obtain ⟨xs, n, hn, hx, hl, hlen, hg⟩ := rd_struct lay_E (by simp) h
  obtain ⟨c0, c1, c2, c3, c4, c5, c6, rfl⟩ : ∃ c0 c1 c2 c3 c4 c5 c6, cs = [c0, c1, c2, c3, c4, c5, c6] := by
    have hl2 : cs.length = 7 := hl.trans (show Try.prog.cellsOf 105 = 7 from by kernel_rfl)
    match cs, hl2 with
    | [c0, c1, c2, c3, c4, c5, c6], _ => exact ⟨c0, c1, c2, c3, c4, c5, c6, rfl⟩
  obtain ⟨y0, y1, y2, y3, y4, y5, y6, rfl⟩ : ∃ y0 y1 y2 y3 y4 y5 y6, xs = [y0, y1, y2, y3, y4, y5, y6] := by
    match xs, hlen with
    | [y0, y1, y2, y3, y4, y5, y6], _ => exact ⟨y0, y1, y2, y3, y4, y5, y6, rfl⟩
  have g0 := hg 0 0 9 rfl
  rw [show Try.prog.cellsOf 9 = 1 from by kernel_rfl] at g0
  have g1 := hg 1 1 3 rfl
  rw [show Try.prog.cellsOf 3 = 1 from by kernel_rfl] at g1
  have g2 := hg 2 2 3 rfl
  rw [show Try.prog.cellsOf 3 = 1 from by kernel_rfl] at g2
  have g3 := hg 3 3 3 rfl
  rw [show Try.prog.cellsOf 3 = 1 from by kernel_rfl] at g3
  have g4 := hg 4 4 103 rfl
  rw [show Try.prog.cellsOf 103 = 1 from by kernel_rfl] at g4
  have g5 := hg 5 5 3 rfl
  rw [show Try.prog.cellsOf 3 = 1 from by kernel_rfl] at g5
  have g6 := hg 6 6 3 rfl
  rw [show Try.prog.cellsOf 3 = 1 from by kernel_rfl] at g6
  simp only [List.drop_zero, List.drop_succ_cons, List.take_succ_cons, List.take_zero, List.getElem?_cons_zero, List.getElem?_cons_succ] at g0 g1 g2 g3 g4 g5 g6
  simp only [List.map_cons, List.map_nil] at hx
  obtain ⟨a0, e0, _, w0⟩ := DataW.trod_string (show Try.prog.underlying 9 = some .string from by kernel_rfl) g0
  simp at e0
  subst e0
  obtain ⟨a1, e1, _, w1⟩ := DataW.trod_int (show Try.prog.underlying 3 = some (.int .i64) from by kernel_rfl) g1
  simp at e1
  subst e1
  obtain ⟨a2, e2, _, w2⟩ := DataW.trod_int (show Try.prog.underlying 3 = some (.int .i64) from by kernel_rfl) g2
  simp at e2
  subst e2
  obtain ⟨a3, e3, _, w3⟩ := DataW.trod_int (show Try.prog.underlying 3 = some (.int .i64) from by kernel_rfl) g3
  simp at e3
  subst e3
  obtain ⟨a4, e4, _, w4⟩ := DataW.trod_int (show Try.prog.underlying 103 = some (.int .i64) from by kernel_rfl) g4
  simp at e4
  subst e4
  obtain ⟨a5, e5, _, w5⟩ := DataW.trod_int (show Try.prog.underlying 3 = some (.int .i64) from by kernel_rfl) g5
  simp at e5
  subst e5
  obtain ⟨a6, e6, _, w6⟩ := DataW.trod_int (show Try.prog.underlying 3 = some (.int .i64) from by kernel_rfl) g6
  simp at e6
  subst e6
  refine ⟨⟨a0, a1, a2, a3, a4, a5, a6⟩, ?_, ?_⟩
  · exact (CR.one rfl (.lit _ (ok_strl w0))).append ((CR.one rfl (.lit _ (ok_wf w1))).append ((CR.one rfl (.lit _ (ok_wf w2))).append ((CR.one rfl (.lit _ (ok_wf w3))).append ((CR.one rfl (.lit _ (ok_wf w4))).append ((CR.one rfl (.lit _ (ok_wf w5))).append (CR.one rfl (.lit _ (ok_wf w6))))))))
  · rw [hx]; simp only [Rows.uptoBulk, Rows.uptoBulkAll]
    omega
theorem lay_T : lay Try.prog 70 = [(0, 65), (1, 25), (2, 3), (3, 9), (4, 68)] := by kernel_rfl
set_option maxRecDepth 100000 in
theorem rd_T : ∀ (fuel : Nat) {cs : List Value} {x : DataW H × List MemPlace}, DataW.trod enc Try.prog w base spare held fuel 70 cs = some x → ∃ v : TermT, CR w (encT v) cs ∧ (1 + cntT v) ≤ Rows.uptoBulk x.1 := by
  intro fuel
  induction fuel using Nat.strongRecOn with
  | _ fuel ih =>
  intro cs x h
  obtain ⟨xs, n, hn, hx, hl, hlen, hg⟩ := rd_struct lay_T (by simp) h
  obtain ⟨c0, c1, c2, c3, c4, c5, c6, c7, c8, rfl⟩ : ∃ c0 c1 c2 c3 c4 c5 c6 c7 c8, cs = [c0, c1, c2, c3, c4, c5, c6, c7, c8] := by
    have hl2 : cs.length = 9 := hl.trans (show Try.prog.cellsOf 70 = 9 from by kernel_rfl)
    match cs, hl2 with
    | [c0, c1, c2, c3, c4, c5, c6, c7, c8], _ => exact ⟨c0, c1, c2, c3, c4, c5, c6, c7, c8, rfl⟩
  obtain ⟨y0, y1, y2, y3, y4, rfl⟩ : ∃ y0 y1 y2 y3 y4, xs = [y0, y1, y2, y3, y4] := by
    match xs, hlen with
    | [y0, y1, y2, y3, y4], _ => exact ⟨y0, y1, y2, y3, y4, rfl⟩
  have g0 := hg 0 0 65 rfl
  rw [show Try.prog.cellsOf 65 = 1 from by kernel_rfl] at g0
  have g1 := hg 1 1 25 rfl
  rw [show Try.prog.cellsOf 25 = 1 from by kernel_rfl] at g1
  have g2 := hg 2 2 3 rfl
  rw [show Try.prog.cellsOf 3 = 1 from by kernel_rfl] at g2
  have g3 := hg 3 3 9 rfl
  rw [show Try.prog.cellsOf 9 = 1 from by kernel_rfl] at g3
  have g4 := hg 4 4 68 rfl
  rw [show Try.prog.cellsOf 68 = 5 from by kernel_rfl] at g4
  simp only [List.drop_zero, List.drop_succ_cons, List.take_succ_cons, List.take_zero, List.getElem?_cons_zero, List.getElem?_cons_succ] at g0 g1 g2 g3 g4
  simp only [List.map_cons, List.map_nil] at hx
  obtain ⟨a0, e0, _, w0⟩ := DataW.trod_int (show Try.prog.underlying 65 = some (.int .i64) from by kernel_rfl) g0
  simp at e0
  subst e0
  obtain ⟨s1, l1, e1, o1, r1, b1⟩ := rd_slice encT (fun t => 1 + cntT t) (sz := 9) (show Try.prog.underlying 25 = some (.slice 70) from by kernel_rfl) (by kernel_rfl) (by omega) (fun m hm cs x hx => ih m (by omega) hx) g1
  simp at e1
  subst e1
  obtain ⟨a2, e2, _, w2⟩ := DataW.trod_int (show Try.prog.underlying 3 = some (.int .i64) from by kernel_rfl) g2
  simp at e2
  subst e2
  obtain ⟨a3, e3, _, w3⟩ := DataW.trod_string (show Try.prog.underlying 9 = some .string from by kernel_rfl) g3
  simp at e3
  subst e3
  obtain ⟨v4, r4, b4⟩ := rd_V g4
  refine ⟨(.mk a0 l1 a2 a3 v4), ?_, ?_⟩
  · rw [encT_cells]
    exact (CR.one rfl (.lit _ (ok_wf w0))).append ((CR.one o1 r1).append ((CR.one rfl (.lit _ (ok_wf w2))).append ((CR.one rfl (.lit _ (ok_strl w3))).append (r4))))
  · rw [hx]; simp only [Rows.uptoBulk, Rows.uptoBulkAll]
    rw [cntT, cntL_sum]; rw [sum_one] at b1; omega
theorem lay_P : lay Try.prog 27 = [(0, 22), (1, 23), (2, 3), (3, 24), (4, 4), (5, 25)] := by kernel_rfl
set_option maxRecDepth 100000 in
theorem rd_P : ∀ (fuel : Nat) {cs : List Value} {x : DataW H × List MemPlace}, DataW.trod enc Try.prog w base spare held fuel 27 cs = some x → ∃ v : PlanT, CR w (encP v) cs ∧ (partsP v) ≤ Rows.uptoBulk x.1 := by
  intro fuel
  induction fuel using Nat.strongRecOn with
  | _ fuel ih =>
  intro cs x h
  obtain ⟨xs, n, hn, hx, hl, hlen, hg⟩ := rd_struct lay_P (by simp) h
  obtain ⟨c0, c1, c2, c3, c4, c5, rfl⟩ : ∃ c0 c1 c2 c3 c4 c5, cs = [c0, c1, c2, c3, c4, c5] := by
    have hl2 : cs.length = 6 := hl.trans (show Try.prog.cellsOf 27 = 6 from by kernel_rfl)
    match cs, hl2 with
    | [c0, c1, c2, c3, c4, c5], _ => exact ⟨c0, c1, c2, c3, c4, c5, rfl⟩
  obtain ⟨y0, y1, y2, y3, y4, y5, rfl⟩ : ∃ y0 y1 y2 y3 y4 y5, xs = [y0, y1, y2, y3, y4, y5] := by
    match xs, hlen with
    | [y0, y1, y2, y3, y4, y5], _ => exact ⟨y0, y1, y2, y3, y4, y5, rfl⟩
  have g0 := hg 0 0 22 rfl
  rw [show Try.prog.cellsOf 22 = 1 from by kernel_rfl] at g0
  have g1 := hg 1 1 23 rfl
  rw [show Try.prog.cellsOf 23 = 1 from by kernel_rfl] at g1
  have g2 := hg 2 2 3 rfl
  rw [show Try.prog.cellsOf 3 = 1 from by kernel_rfl] at g2
  have g3 := hg 3 3 24 rfl
  rw [show Try.prog.cellsOf 24 = 1 from by kernel_rfl] at g3
  have g4 := hg 4 4 4 rfl
  rw [show Try.prog.cellsOf 4 = 1 from by kernel_rfl] at g4
  have g5 := hg 5 5 25 rfl
  rw [show Try.prog.cellsOf 25 = 1 from by kernel_rfl] at g5
  simp only [List.drop_zero, List.drop_succ_cons, List.take_succ_cons, List.take_zero, List.getElem?_cons_zero, List.getElem?_cons_succ] at g0 g1 g2 g3 g4 g5
  simp only [List.map_cons, List.map_nil] at hx
  obtain ⟨a0, e0, _, w0⟩ := DataW.trod_int (show Try.prog.underlying 22 = some (.int .i64) from by kernel_rfl) g0
  simp at e0
  subst e0
  obtain ⟨s1, l1, e1, o1, r1, b1⟩ := rd_slice encP partsP (sz := 6) (show Try.prog.underlying 23 = some (.slice 27) from by kernel_rfl) (by kernel_rfl) (by omega) (fun m hm cs x hx => ih m (by omega) hx) g1
  simp at e1
  subst e1
  obtain ⟨a2, e2, _, w2⟩ := DataW.trod_int (show Try.prog.underlying 3 = some (.int .i64) from by kernel_rfl) g2
  simp at e2
  subst e2
  obtain ⟨s3, l3, e3, o3, r3, b3⟩ := rd_slice encI (fun _ => 1) (sz := 1) (show Try.prog.underlying 24 = some (.slice 3) from by kernel_rfl) (by kernel_rfl) (by omega) (fun m hm cs x hx => rd_int (show Try.prog.underlying 3 = some (.int .i64) from by kernel_rfl) hx) g3
  simp at e3
  subst e3
  obtain ⟨a4, e4, _⟩ := DataW.trod_bool (show Try.prog.underlying 4 = some .bool from by kernel_rfl) g4
  simp at e4
  subst e4
  obtain ⟨s5, l5, e5, o5, r5, b5⟩ := rd_slice encT (fun t => 1 + cntT t) (sz := 9) (show Try.prog.underlying 25 = some (.slice 70) from by kernel_rfl) (by kernel_rfl) (by omega) (fun m hm cs x hx => rd_T m hx) g5
  simp at e5
  subst e5
  refine ⟨(.mk a0 l1 a2 l3 a4 l5), ?_, ?_⟩
  · rw [encP_cells]
    exact (CR.one rfl (.lit _ (ok_wf w0))).append ((CR.one o1 r1).append ((CR.one rfl (.lit _ (ok_wf w2))).append ((CR.one o3 r3).append ((CR.one rfl (.lit _ rfl)).append (CR.one o5 r5)))))
  · rw [hx]; simp only [Rows.uptoBulk, Rows.uptoBulkAll]
    rw [partsP, cntL_sum, partsL_sum]; rw [sum_one] at b5; rw [sum_len] at b3; omega
theorem lay_S : lay Try.prog 53 = [(0, 51), (1, 51)] := by kernel_rfl
set_option maxRecDepth 100000 in
theorem rd_S {fuel : Nat} {cs : List Value} {x : DataW H × List MemPlace} (h : DataW.trod enc Try.prog w base spare held fuel 53 cs = some x) : ∃ v : StatsT, CR w (encS v) cs ∧ 0 ≤ Rows.uptoBulk x.1 := by
  obtain ⟨xs, n, hn, hx, hl, hlen, hg⟩ := rd_struct lay_S (by simp) h
  obtain ⟨c0, c1, rfl⟩ : ∃ c0 c1, cs = [c0, c1] := by
    have hl2 : cs.length = 2 := hl.trans (show Try.prog.cellsOf 53 = 2 from by kernel_rfl)
    match cs, hl2 with
    | [c0, c1], _ => exact ⟨c0, c1, rfl⟩
  obtain ⟨y0, y1, rfl⟩ : ∃ y0 y1, xs = [y0, y1] := by
    match xs, hlen with
    | [y0, y1], _ => exact ⟨y0, y1, rfl⟩
  have g0 := hg 0 0 51 rfl
  rw [show Try.prog.cellsOf 51 = 1 from by kernel_rfl] at g0
  have g1 := hg 1 1 51 rfl
  rw [show Try.prog.cellsOf 51 = 1 from by kernel_rfl] at g1
  simp only [List.drop_zero, List.drop_succ_cons, List.take_succ_cons, List.take_zero, List.getElem?_cons_zero, List.getElem?_cons_succ] at g0 g1
  simp only [List.map_cons, List.map_nil] at hx
  obtain ⟨s0, l0, e0, o0, r0, b0⟩ := rd_slice encI (fun _ => 1) (sz := 1) (show Try.prog.underlying 51 = some (.slice 2) from by kernel_rfl) (by kernel_rfl) (by omega) (fun m hm cs x hx => rd_int (show Try.prog.underlying 2 = some (.int .i64) from by kernel_rfl) hx) g0
  simp at e0
  subst e0
  obtain ⟨s1, l1, e1, o1, r1, b1⟩ := rd_slice encI (fun _ => 1) (sz := 1) (show Try.prog.underlying 51 = some (.slice 2) from by kernel_rfl) (by kernel_rfl) (by omega) (fun m hm cs x hx => rd_int (show Try.prog.underlying 2 = some (.int .i64) from by kernel_rfl) hx) g1
  simp at e1
  subst e1
  refine ⟨⟨l0, l1⟩, ?_, ?_⟩
  · exact (CR.one o0 r0).append (CR.one o1 r1)
  · exact Nat.zero_le _
theorem lay_C : lay Try.prog 33 = [(0, 28), (1, 29), (2, 25), (3, 30), (4, 4), (5, 31), (6, 3)] := by kernel_rfl
set_option maxRecDepth 100000 in
theorem rd_C {fuel : Nat} {cs : List Value} {x : DataW H × List MemPlace} (h : DataW.trod enc Try.prog w base spare held fuel 33 cs = some x) : ∃ v : CoreT, CR w (encC v) cs ∧ 0 ≤ Rows.uptoBulk x.1 := by
  obtain ⟨xs, n, hn, hx, hl, hlen, hg⟩ := rd_struct lay_C (by simp) h
  obtain ⟨c0, c1, c2, c3, c4, c5, c6, rfl⟩ : ∃ c0 c1 c2 c3 c4 c5 c6, cs = [c0, c1, c2, c3, c4, c5, c6] := by
    have hl2 : cs.length = 7 := hl.trans (show Try.prog.cellsOf 33 = 7 from by kernel_rfl)
    match cs, hl2 with
    | [c0, c1, c2, c3, c4, c5, c6], _ => exact ⟨c0, c1, c2, c3, c4, c5, c6, rfl⟩
  obtain ⟨y0, y1, y2, y3, y4, y5, y6, rfl⟩ : ∃ y0 y1 y2 y3 y4 y5 y6, xs = [y0, y1, y2, y3, y4, y5, y6] := by
    match xs, hlen with
    | [y0, y1, y2, y3, y4, y5, y6], _ => exact ⟨y0, y1, y2, y3, y4, y5, y6, rfl⟩
  have g0 := hg 0 0 28 rfl
  rw [show Try.prog.cellsOf 28 = 1 from by kernel_rfl] at g0
  have g1 := hg 1 1 29 rfl
  rw [show Try.prog.cellsOf 29 = 1 from by kernel_rfl] at g1
  have g2 := hg 2 2 25 rfl
  rw [show Try.prog.cellsOf 25 = 1 from by kernel_rfl] at g2
  have g3 := hg 3 3 30 rfl
  rw [show Try.prog.cellsOf 30 = 1 from by kernel_rfl] at g3
  have g4 := hg 4 4 4 rfl
  rw [show Try.prog.cellsOf 4 = 1 from by kernel_rfl] at g4
  have g5 := hg 5 5 31 rfl
  rw [show Try.prog.cellsOf 31 = 1 from by kernel_rfl] at g5
  have g6 := hg 6 6 3 rfl
  rw [show Try.prog.cellsOf 3 = 1 from by kernel_rfl] at g6
  simp only [List.drop_zero, List.drop_succ_cons, List.take_succ_cons, List.take_zero, List.getElem?_cons_zero, List.getElem?_cons_succ] at g0 g1 g2 g3 g4 g5 g6
  simp only [List.map_cons, List.map_nil] at hx
  obtain ⟨s0, l0, e0, o0, r0, b0⟩ := rd_slice encN (fun _ => 1) (sz := 2) (show Try.prog.underlying 28 = some (.slice 76) from by kernel_rfl) (by kernel_rfl) (by omega) (fun m hm cs x hx => rd_N hx) g0
  simp at e0
  subst e0
  obtain ⟨s1, l1, e1, o1, r1, b1⟩ := rd_slice encE (fun _ => 1) (sz := 7) (show Try.prog.underlying 29 = some (.slice 105) from by kernel_rfl) (by kernel_rfl) (by omega) (fun m hm cs x hx => rd_E hx) g1
  simp at e1
  subst e1
  obtain ⟨s2, l2, e2, o2, r2, b2⟩ := rd_slice encT (fun t => 1 + cntT t) (sz := 9) (show Try.prog.underlying 25 = some (.slice 70) from by kernel_rfl) (by kernel_rfl) (by omega) (fun m hm cs x hx => rd_T m hx) g2
  simp at e2
  subst e2
  obtain ⟨a3, e3, o3, k3⟩ := rd_raw (show Try.prog.underlying 30 = some (.slice 177) from by kernel_rfl) g3
  simp at e3
  subst e3
  obtain ⟨a4, e4, _⟩ := DataW.trod_bool (show Try.prog.underlying 4 = some .bool from by kernel_rfl) g4
  simp at e4
  subst e4
  obtain ⟨a5, e5, o5, k5⟩ := rd_raw (show Try.prog.underlying 31 = some (.slice 179) from by kernel_rfl) g5
  simp at e5
  subst e5
  obtain ⟨a6, e6, _, w6⟩ := DataW.trod_int (show Try.prog.underlying 3 = some (.int .i64) from by kernel_rfl) g6
  simp at e6
  subst e6
  refine ⟨⟨l0, l1, l2, .lit c3, a4, .lit c5, a6⟩, ?_, ?_⟩
  · exact (CR.one o0 r0).append ((CR.one o1 r1).append ((CR.one o2 r2).append ((CR.one o3 (.lit _ k3)).append ((CR.one rfl (.lit _ rfl)).append ((CR.one o5 (.lit _ k5)).append (CR.one rfl (.lit _ (ok_wf w6))))))))
  · exact Nat.zero_le _

end
end Go.Proofs.Ytihbejpkfifplaa.Z
end
section
namespace Go.Proofs.Ytihbejpkfifplaa.lawCodegenSteps
open Go Go.Fw Go.ChangeShapes Go.WideShapes Go.ChangeAt Go.RowKit Go.Joins Go.Deep Go.Proofs.Ytihbejpkfifplaa.Z
theorem own : ownKnob Try.prog.godebug = none := by kernel_rfl
theorem laidOut : laidOutB Try.prog = true := by kernel_rfl
theorem under_lay {P : Program} {t : TypeId} {l : List (Nat × TypeId)} (hl : lay P t = l) (h0 : l ≠ []) : ∃ fs, P.underlying t = some (.struct fs) := by
  unfold lay at hl
  split at hl
  · exact ⟨_, ‹_›⟩
  · exact absurd hl.symm h0
theorem vrel_ag {w : World} {m : Nat → Option Nat} {ds : List D} {cs : Array Value} (h : CR w ds cs.toList) : VRel w (fun _ => False) m (.d (.ag ds)) (.agg cs) := by
  have := DRel.ag (w := w) (L := fun _ => False) ds cs.toList h.len (fun v hv => by
    obtain ⟨j, hj⟩ := List.getElem?_of_mem hv
    have hlt : j < ds.length := by rw [← h.len]; exact (List.getElem?_eq_some_iff.1 hj).1
    exact (h.at_ j _ v (List.getElem?_eq_getElem hlt) hj).1) (fun j x v hx hv => (h.at_ j x v hx hv).2)
  rw [Array.toArray_toList] at this
  exact .d this
set_option maxRecDepth 100000 in
theorem contract (H : Type) (enc : TypeId × Value → H) (W : World) (base : Nat) (args : Array Value) (ds gs : List (DataW H)) (before : List MemPlace)
    (hval : ∀ (j : Nat) t v, Try.f4.params[j]? = some t → args[j]? = some v → Value.okWide Try.prog W .any base t v)
    (hW : DataW.Whole enc Try.prog Try.f4.params.toList Rows.codegenStepsSpec.vars false W args.toList ds gs before) (hk : Rows.uptoSmall H (ds ++ gs) = true) :
    Calls Try.prog 4 args W fun e W' => ∃ v, e = .returned v ∧ Rows.codegenStepsSpec.post enc Try.prog Try.f4 false true false false W args v W' := by
  have hW' := hW
  obtain ⟨p, q, hA0, hV, rfl, hfz, hnd⟩ := hW
  have hA : DataW.TrodAll enc Try.prog W 0 (fun _ => true) true Try.f4.params.toList args.toList ds p := hA0
  rw [show Try.f4.params = #[27, 33] from by kernel_rfl] at hA hval
  obtain ⟨v0, vs0, d0, ds0, p0, q0, hargs, rfl, rfl, h0, r0⟩ := trodAll_cons hA
  obtain ⟨v1, vs1, d1, ds1, p1, q1, rfl, rfl, rfl, h1, r1⟩ := trodAll_cons r0
  obtain ⟨rfl, rfl, rfl⟩ := trodAll_nil r1
  obtain rfl : args = #[v0, v1] := by cases args; simp_all
  obtain ⟨rfl, rfl⟩ := trodVars_none hV
  have k0 := h0
  have k1 := h1
  have lt : ∀ {t v d ps}, DataW.Trod enc Try.prog W 0 (fun _ => true) true t v d ps → ∀ x ∈ ps, x.block < W.heap.size := fun h => by obtain ⟨m, hm⟩ := h; exact DataW.trod_lt m _ _ _ hm
  obtain ⟨fs0, u0⟩ := under_lay lay_P (by simp)
  obtain ⟨fs1, u1⟩ := under_lay lay_C (by simp)
  obtain ⟨c0, rfl, -⟩ := okWide_struct u0 (hval 0 _ v0 rfl rfl)
  obtain ⟨c1, rfl, -⟩ := okWide_struct u1 (hval 1 _ v1 rfl rfl)
  obtain ⟨f0, g0⟩ := h0
  obtain ⟨f1, g1⟩ := h1
  simp only [Value.cells] at g0 g1
  obtain ⟨pa, ra, ba⟩ := rd_P f0 g0
  obtain ⟨co, rc, -⟩ := rd_C g1
  have hb : Rows.uptoBulkAll [d0, d1] ≤ 1048576 := by
    have := of_decide_eq_true hk
    simpa using this
  simp only [Rows.uptoBulkAll] at hb
  simp only at ba
  have hS := steps_ok pa co (by omega)
  have hC := hS.2 W (fun _ => False) [.agg c0, .agg c1] (fun _ h => h.elim)
    (All2.cons (vrel_ag ra) (All2.cons (vrel_ag rc) All2.nil))
  refine hC.mono fun e W' hx => ?_
  obtain ⟨v, m', rfl, hx, hv, -⟩ := hx
  have hv := hv.lit_inv
  subst hv
  have bel : Below W.heap.size W W' := ⟨hx.os, hx.tape, hx.output, hx.size, fun k hk => hx.block k hk fun f => f⟩
  exact ⟨_, rfl, _, _, _, [], _, [], hW', trodAll_mk1 (shut_bool (show Try.prog.underlying 4 = some .bool from by kernel_rfl) _),
    (trodAll_cons_mk (Below.trod laidOut (by kernel_rfl) (of_decide_eq_true (by kernel_rfl)) k0 bel (lt k0))
      (trodAll_cons_mk (Below.trod laidOut (by kernel_rfl) (of_decide_eq_true (by kernel_rfl)) k1 bel (lt k1))
        trodAll_mk0)), rfl, bel.frame _, fun h => by cases h⟩
set_option maxRecDepth 100000 in
theorem lifted (os : Os) (started : os.Started) (H : Type) (enc : TypeId × Value → H) (F : Stop.Interp) :
    ReturnsInHanded {} Try.checked os 4 .any ((Rows.OpenSpec.upto Rows.codegenStepsSpec).pre6 enc Try.prog Try.f4 Rows.codegenStepsUptoRow.domain false) (((Rows.OpenSpec.upto Rows.codegenStepsSpec).at F).post enc Try.prog Try.f4 false true false false) := by
  refine returnsInHanded_of_cond (C := Try.checked) (s := Rows.OpenSpec.upto Rows.codegenStepsSpec) (k := Rows.uptoSmall) rfl own started (by kernel_rfl) Try.func4
    (OpenSpec.witness (enc := enc) (C := Try.checked) (s := Rows.OpenSpec.upto Rows.codegenStepsSpec) (k := Rows.uptoSmall) rfl false ⟨#[], #[.agg #[.int .i64 0, .slice none 0 0, .int .i64 0, .slice none 0 0, .bool false, .slice none 0 0], .agg #[.slice none 0 0, .slice none 0 0, .slice none 0 0, .slice none 0 0, .bool false, .slice none 0 0, .int .i64 0]], []⟩ 8 (by kernel_rfl) (by kernel_rfl) (by kernel_rfl)
      (x := ([.agg [.lit (.int .i64 0), .nil, .lit (.int .i64 0), .nil, .lit (.bool false), .nil], .agg [.nil, .nil, .nil, .nil, .lit (.bool false), .nil, .lit (.int .i64 0)]], [], [])) (by kernel_rfl) rfl (by kernel_rfl)) ?_
  intro W base args ds gs before hval hW _ hk _
  exact contract H enc W base args ds gs before hval hW hk
theorem proved : Rows.CodegenStepsUptoSaid :=
  OpenClaim.holds_of_cond 4 Try.f4 rfl rfl rfl rfl rfl rfl rfl ⟨rfl, rfl, rfl, rfl, rfl⟩ rfl rfl rfl rfl rfl (by kernel_rfl) Try.func4 (by kernel_rfl)
    (of_decide_eq_true (by kernel_rfl)) (by unfold Func.isWrapper; first | (rw [if_pos (by decide +kernel)]; kernel_rfl) | (rw [if_neg (by decide +kernel)]; exact ⟨rfl, rfl⟩))
    (fun os started H enc _ F => lifted os started H enc F)
#print axioms proved
end Go.Proofs.Ytihbejpkfifplaa.lawCodegenSteps
end
