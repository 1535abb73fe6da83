/- The counts' law, walked. -/
import Derived.Test.YtihbejpkfifplaaPz
set_option linter.unusedVariables false
set_option linter.unusedSimpArgs false
set_option maxRecDepth 100000
namespace Go.Proofs.Ytihbejpkfifplaa.Z
open Go Go.Fw
abbrev NIL : D := .lit (.slice none 0 0)
def c0 : CoreT := ⟨[⟨ByteArray.empty, -1⟩], [], [], NIL, false, NIL, 0⟩
def p0 : PlanT := .mk 1 [] 0 [] false []
def s0 : StatsT := ⟨[10, 4], []⟩
theorem est_head : estS c0 s0 p0 = 14 := by
  have h1 : patS c0.nodes c0.edges = true := by simp [patS, c0]
  have h2 : bndT c0 p0 = some [true] := by simp [p0, bndT, bndL, wants, opS, PlanT.op, PlanT.slot, c0]
  rw [estS, if_pos ⟨h1, by rw [h2]; rfl⟩]
  simp [p0, estT, estOp, PlanT.op, PlanT.slot, nodesS, c0, s0, rdI, cntS, cntF, clipS]
theorem head1 : Snd P 15 [.d (.ag [.int 1, NIL, .int 0, NIL, .bool false, NIL]), .d (.ag [.sl false [[.str ByteArray.empty, .int (-1)]], NIL, NIL, NIL, .bool false, NIL, .int 0]), .d (.ag [.sl false [[.int 10], [.int 4]], NIL])] (.int 14) [] := by
  have h := Estimate_ok c0 s0 p0 (by simp [p0, partsP, cntL, partsL])
  rw [est_head] at h
  refine snd_sub h ⟨DSub.ag ⟨.refl _, DSub.nil, .refl _, DSub.nil, .refl _, DSub.nil, trivial⟩, DSub.ag ⟨.refl _, DSub.nil, DSub.nil, .refl _, .refl _, .refl _, .refl _, trivial⟩, DSub.ag ⟨.refl _, DSub.nil, trivial⟩, trivial⟩
theorem join_in (c : CoreT) (s : StatsT) (p q : PlanT) (hf : partsP (joinP p q) ≤ 1000000) : Snd P 15 [.d (.ag [.int 4, .sl false [encP p, encP q], .int 0, NIL, .bool false, NIL]), .d (.ag (encC c)), .d (.ag (encS s))] (.int (estS c s (joinP p q))) [] :=
  snd_sub (Estimate_ok c s (joinP p q) hf) ⟨DSub.ag ⟨.refl _, .refl _, .refl _, DSub.nil, .refl _, DSub.nil, trivial⟩, .refl _, .refl _, trivial⟩
theorem filt_in (nn : Bool) (c : CoreT) (s : StatsT) (p : PlanT) (l : List TermT) (hf : partsP (filtP p l) ≤ 1000000) : Snd P 15 [.d (.ag [.int 6, .sl false [encP p], .int 0, NIL, .bool false, .sl false (l.map encT)]), .d (.ag (encC c)), .d (.ag (encS s))] (.int (estS c s (filtP p l))) [] :=
  snd_sub (Estimate_ok c s (filtP p l) hf) ⟨DSub.ag ⟨.refl _, .refl _, .refl _, DSub.nil, .refl _, .refl _, trivial⟩, .refl _, .refl _, trivial⟩
def termP (l : List TermT) : PlanT := .mk 0 [] 0 [] false l
theorem parts_in (l : List TermT) (hf : partsP (termP l) ≤ 2000000) : Snd P 11 [.d (.ag [.int 0, NIL, .int 0, NIL, .bool false, .sl false (l.map encT)]), .int 200] (.int (partsR (termP l) 200)) [] :=
  snd_sub (parts_ok (termP l) hf 200 (by omega) (by omega)) ⟨DSub.ag ⟨.refl _, DSub.nil, .refl _, DSub.nil, .refl _, .refl _, trivial⟩, .refl _, trivial⟩
theorem head15_ok : Snd P 14 [] (.bool true) [] := by
  refine snd_of [] Try.func14 rfl (by kernel_rfl) Try.ntmps14 (by simp) ?_
  unfold Try.f14
  simp only [List.cons_append, List.nil_append, List.length_cons, List.length_nil, Nat.reduceAdd, Nat.reduceSub, List.replicate]
  refine Run.seq ?_
  refine Run.opsM false [⟨Op.assign (Operand.const (Value.bool false)), some 0, none⟩] mixed (by decide) rfl fun K hK => ?_
  try simp
  repeat' first | ((refine evL_c ?_); simp) | (with_reducible refine And.intro ?_ ?_) | intro _ | (with_reducible assumption) | omega
  all_goals (refine Fin.go hK ?_; clear hK K)
  simp only [Then_normal]
  refine Run.seq ?_
  refine Run.opsM false [⟨Op.build 76 #[(1, Operand.const (Value.int IntKind.i64 (-1)))], some 2, none⟩, ⟨Op.buildSlice 28 1 #[(0, Operand.tmp 2)], some 3, none⟩, ⟨Op.build 33 #[(0, Operand.tmp 3)], some 4, none⟩, ⟨Op.alloc 33, some 1, none⟩, ⟨Op.store 33 (Operand.tmp 1) (Operand.tmp 4), none, none⟩] mixed (by decide) rfl fun K hK => ?_
  try simp
  repeat' first | ((refine evL_c ?_); simp) | (with_reducible refine And.intro ?_ ?_) | intro _ | (with_reducible assumption) | omega
  all_goals (refine Fin.go hK ?_; clear hK K)
  simp only [Then_normal]
  refine Run.seq ?_
  refine Run.opsM false [⟨Op.build 27 #[(0, Operand.const (Value.int IntKind.i64 1))], some 5, none⟩, ⟨Op.load 33 (Operand.tmp 1), some 6, none⟩, ⟨Op.buildSlice 51 2 #[(0, Operand.const (Value.int IntKind.i64 10)), (1, Operand.const (Value.int IntKind.i64 4))], some 7, none⟩, ⟨Op.build 53 #[(0, Operand.tmp 7)], some 8, none⟩, ⟨Op.call { callee := Callee.value (Operand.func 15), args := #[Operand.tmp 5, Operand.tmp 6, Operand.tmp 8], argTypes := #[27, 33, 53] }, some 9, none⟩, ⟨Op.binOp BinOp.eql 2 (Operand.tmp 9) (Operand.const (Value.int IntKind.i64 14)) 2, some 10, none⟩, ⟨Op.assign (Operand.tmp 10), some 0, none⟩] mixed (by decide) rfl fun K hK => ?_
  try simp
  repeat' first | (refine ecallF (by simp) (by simp) head1 ?_) | ((refine evL_c ?_); simp) | (with_reducible refine And.intro ?_ ?_) | intro _ | (with_reducible assumption) | omega
  all_goals (refine Fin.go hK ?_; clear hK K)
  simp only [Then_normal]
  refine Run.ret ?_
  try simp only [Then_ret, Blok_ret]
  simp


end Go.Proofs.Ytihbejpkfifplaa.Z
