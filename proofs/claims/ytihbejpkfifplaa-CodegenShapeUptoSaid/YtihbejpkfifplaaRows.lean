/-
  NARROWER THAN 'FOR EVERY INPUT', by the rows' own cells (each row's printed sentence says how): CodegenShape: loops · CodegenSteps: loops · StatsJoins: loops · StatsEstimates: loops · StatsGrows: loops · AlgebraBinds: loops · AlgebraTranslates: loops.
  DERIVED. THE GIVEN ROWS OF THIS SEAT. 7 by the template 'for every input the law returns true; each argument reads behind the call as it read before'; 0 by the template 'total and deterministic' (their statements: YtihbejpkfifplaaTotals.lean).
  GIVEN WITH THE SEED: the statements are not yours to turn. If you find one false, say at which input.
  Laid BY PROGRAM, IN A SANDBOX (cutbox-rows.mjs): the forced cells as the released guide's own fill.sh prints them over the translation fb700010077d0100… (all of the seat's roots in one cut). By AI agents, Wed Nov 11 2026. No macro, syntax, notation, axiom, sorry.
-/
import Derived.Test.YtihbejpkfifplaaChecked
import GoSem.Claim
import GoSem.ClaimJoined
import GoSem.ClaimMapViews
import Derived.JoinedTies
import Derived.KernelRfl
namespace Go.Proofs.Ytihbejpkfifplaa
/- THE CELL 'sum', in the pinned program and in every row, IS THE sha256 OF THE DUMP (.gsa) THAT YtihbejpkfifplaaProg.lean LOADS. Nothing in Lean hashes anything: it is a label: what it is worth is what the hold of that sum in a sandbox is worth. -/
noncomputable def Try.pinned : Pinned := { name := "ytihbejpkfifplaa", sum := "fb700010077d01007372b091b0f8923fdf09fdbd10a2f7f5cf0096f99035ba4d", checked := Try.checked }
namespace Rows
def none {H : Type} : Left H := { results := [], args := [] }

/-- 'portolanlaw17.CodegenShape': WHATEVER THE INPUT: true; the input reads as it did. -/
def codegenShapeSpec : ChangeSpec := { name := "codegenShape", fn := fun _ => fun
  | [d1, d2] => { results := [.lit (.bool true)], args := [d1, d2] }
  | _ => none }
def codegenShapeRow : OpenClaim := { program := "ytihbejpkfifplaa", sum := "fb700010077d01007372b091b0f8923fdf09fdbd10a2f7f5cf0096f99035ba4d", func := "portolan/portolanlaw17.CodegenShape", spec := "codegenShape", unfollowed := true, recurses := true, loops := true, apart := false }
def CodegenShapeSaid : Prop := codegenShapeRow.holds Try.pinned (OpenSpec.ofChange codegenShapeSpec)

/-- ITS FALSE NEIGHBOUR: 'it returns false'. Refute it at one input. -/
def codegenShapeWrong : ChangeSpec := { name := "codegenShape", fn := fun _ => fun
  | [d1, d2] => { results := [.lit (.bool false)], args := [d1, d2] }
  | _ => none }
def CodegenShapeWrongFalsely : Prop := codegenShapeRow.holds Try.pinned (OpenSpec.ofChange codegenShapeWrong)

/-- 'portolanlaw17.CodegenSteps': WHATEVER THE INPUT: true; the input reads as it did. -/
def codegenStepsSpec : ChangeSpec := { name := "codegenSteps", fn := fun _ => fun
  | [d1, d2] => { results := [.lit (.bool true)], args := [d1, d2] }
  | _ => none }
def codegenStepsRow : OpenClaim := { program := "ytihbejpkfifplaa", sum := "fb700010077d01007372b091b0f8923fdf09fdbd10a2f7f5cf0096f99035ba4d", func := "portolan/portolanlaw17.CodegenSteps", spec := "codegenSteps", unfollowed := true, recurses := true, loops := true, apart := false }
def CodegenStepsSaid : Prop := codegenStepsRow.holds Try.pinned (OpenSpec.ofChange codegenStepsSpec)

/-- ITS FALSE NEIGHBOUR: 'it returns false'. Refute it at one input. -/
def codegenStepsWrong : ChangeSpec := { name := "codegenSteps", fn := fun _ => fun
  | [d1, d2] => { results := [.lit (.bool false)], args := [d1, d2] }
  | _ => none }
def CodegenStepsWrongFalsely : Prop := codegenStepsRow.holds Try.pinned (OpenSpec.ofChange codegenStepsWrong)

/-- 'portolanlaw15.StatsJoins': WHATEVER THE INPUT: true; the input reads as it did. -/
def statsJoinsSpec : ChangeSpec := { name := "statsJoins", fn := fun _ => fun
  | [d1, d2, d3, d4, d5] => { results := [.lit (.bool true)], args := [d1, d2, d3, d4, d5] }
  | _ => none }
def statsJoinsRow : OpenClaim := { program := "ytihbejpkfifplaa", sum := "fb700010077d01007372b091b0f8923fdf09fdbd10a2f7f5cf0096f99035ba4d", func := "portolan/portolanlaw15.StatsJoins", spec := "statsJoins", unfollowed := true, recurses := true, loops := true, apart := false }
def StatsJoinsSaid : Prop := statsJoinsRow.holds Try.pinned (OpenSpec.ofChange statsJoinsSpec)

/-- ITS FALSE NEIGHBOUR: 'it returns false'. Refute it at one input. -/
def statsJoinsWrong : ChangeSpec := { name := "statsJoins", fn := fun _ => fun
  | [d1, d2, d3, d4, d5] => { results := [.lit (.bool false)], args := [d1, d2, d3, d4, d5] }
  | _ => none }
def StatsJoinsWrongFalsely : Prop := statsJoinsRow.holds Try.pinned (OpenSpec.ofChange statsJoinsWrong)

/-- 'portolanlaw15.StatsEstimates': WHATEVER THE INPUT: true; the input reads as it did. -/
def statsEstimatesSpec : ChangeSpec := { name := "statsEstimates", fn := fun _ => fun
  | [d1, d2, d3] => { results := [.lit (.bool true)], args := [d1, d2, d3] }
  | _ => none }
def statsEstimatesRow : OpenClaim := { program := "ytihbejpkfifplaa", sum := "fb700010077d01007372b091b0f8923fdf09fdbd10a2f7f5cf0096f99035ba4d", func := "portolan/portolanlaw15.StatsEstimates", spec := "statsEstimates", unfollowed := true, recurses := true, loops := true, apart := false }
def StatsEstimatesSaid : Prop := statsEstimatesRow.holds Try.pinned (OpenSpec.ofChange statsEstimatesSpec)

/-- ITS FALSE NEIGHBOUR: 'it returns false'. Refute it at one input. -/
def statsEstimatesWrong : ChangeSpec := { name := "statsEstimates", fn := fun _ => fun
  | [d1, d2, d3] => { results := [.lit (.bool false)], args := [d1, d2, d3] }
  | _ => none }
def StatsEstimatesWrongFalsely : Prop := statsEstimatesRow.holds Try.pinned (OpenSpec.ofChange statsEstimatesWrong)

/-- 'portolanlaw15.StatsGrows': WHATEVER THE INPUT: true; the input reads as it did. -/
def statsGrowsSpec : ChangeSpec := { name := "statsGrows", fn := fun _ => fun
  | [d1, d2, d3, d4] => { results := [.lit (.bool true)], args := [d1, d2, d3, d4] }
  | _ => none }
def statsGrowsRow : OpenClaim := { program := "ytihbejpkfifplaa", sum := "fb700010077d01007372b091b0f8923fdf09fdbd10a2f7f5cf0096f99035ba4d", func := "portolan/portolanlaw15.StatsGrows", spec := "statsGrows", unfollowed := true, recurses := true, loops := true, apart := false }
def StatsGrowsSaid : Prop := statsGrowsRow.holds Try.pinned (OpenSpec.ofChange statsGrowsSpec)

/-- ITS FALSE NEIGHBOUR: 'it returns false'. Refute it at one input. -/
def statsGrowsWrong : ChangeSpec := { name := "statsGrows", fn := fun _ => fun
  | [d1, d2, d3, d4] => { results := [.lit (.bool false)], args := [d1, d2, d3, d4] }
  | _ => none }
def StatsGrowsWrongFalsely : Prop := statsGrowsRow.holds Try.pinned (OpenSpec.ofChange statsGrowsWrong)

/-- 'portolanlaw13.AlgebraBinds': WHATEVER THE INPUT: true; the input reads as it did. -/
def algebraBindsSpec : ChangeSpec := { name := "algebraBinds", fn := fun _ => fun
  | [d1, d2] => { results := [.lit (.bool true)], args := [d1, d2] }
  | _ => none }
def algebraBindsRow : OpenClaim := { program := "ytihbejpkfifplaa", sum := "fb700010077d01007372b091b0f8923fdf09fdbd10a2f7f5cf0096f99035ba4d", func := "portolan/portolanlaw13.AlgebraBinds", spec := "algebraBinds", unfollowed := true, recurses := true, loops := true, apart := false }
def AlgebraBindsSaid : Prop := algebraBindsRow.holds Try.pinned (OpenSpec.ofChange algebraBindsSpec)

/-- ITS FALSE NEIGHBOUR: 'it returns false'. Refute it at one input. -/
def algebraBindsWrong : ChangeSpec := { name := "algebraBinds", fn := fun _ => fun
  | [d1, d2] => { results := [.lit (.bool false)], args := [d1, d2] }
  | _ => none }
def AlgebraBindsWrongFalsely : Prop := algebraBindsRow.holds Try.pinned (OpenSpec.ofChange algebraBindsWrong)

/-- 'portolanlaw13.AlgebraTranslates': WHATEVER THE INPUT: true; the input reads as it did. -/
def algebraTranslatesSpec : ChangeSpec := { name := "algebraTranslates", fn := fun _ => fun
  | [d] => { results := [.lit (.bool true)], args := [d] }
  | _ => none }
def algebraTranslatesRow : OpenClaim := { program := "ytihbejpkfifplaa", sum := "fb700010077d01007372b091b0f8923fdf09fdbd10a2f7f5cf0096f99035ba4d", func := "portolan/portolanlaw13.AlgebraTranslates", spec := "algebraTranslates", unfollowed := true, recurses := true, loops := true, apart := false }
def AlgebraTranslatesSaid : Prop := algebraTranslatesRow.holds Try.pinned (OpenSpec.ofChange algebraTranslatesSpec)

/-- ITS FALSE NEIGHBOUR: 'it returns false'. Refute it at one input. -/
def algebraTranslatesWrong : ChangeSpec := { name := "algebraTranslates", fn := fun _ => fun
  | [d] => { results := [.lit (.bool false)], args := [d] }
  | _ => none }
def AlgebraTranslatesWrongFalsely : Prop := algebraTranslatesRow.holds Try.pinned (OpenSpec.ofChange algebraTranslatesWrong)

/- THE SECOND FORM. 'bulk': how many values and letters a reading holds, each counted each time it is reached (what is shared counts as often as it is met; a slice's spare places count too). A statement '..UptoSaid' is the law's where the arguments, and the package variables that the reading takes, are together of bulk at most 1048576: NARROWER than '..Said'. Prove '..Said' where nothing that the law and all that it calls make is longer than what came in: it says more and counts as full. Else prove '..UptoSaid'. A law counts once. -/
mutual
def uptoBulk {H : Type} : DataW H → Nat
  | .lit (.string bytes) => bytes.length + 1
  | .lit _ => 1
  | .nil => 1
  | .ptr d => uptoBulk d + 1
  | .slice elems spare => uptoBulkAll elems + uptoBulkAll spare + 1
  | .agg parts => uptoBulkAll parts + 1
  | .iface _ d => uptoBulk d + 1
  | .map entries => uptoBulkEntries entries + 1
  | .held _ => 1
def uptoBulkAll {H : Type} : List (DataW H) → Nat
  | [] => 0
  | d :: r => uptoBulk d + uptoBulkAll r
def uptoBulkEntries {H : Type} : List (Lit × DataW H) → Nat
  | [] => 0
  | x :: r => uptoBulkEntry x + uptoBulkEntries r
def uptoBulkEntry {H : Type} : Lit × DataW H → Nat
  | (.string bytes, d) => bytes.length + uptoBulk d + 1
  | (_, d) => uptoBulk d + 1
 end
def uptoSmall : (H : Type) → List (DataW H) → Bool := fun _ ds => decide (uptoBulkAll ds ≤ 1048576)
def OpenSpec.upto (s : _root_.Go.ChangeSpec) : _root_.Go.OpenSpec := { _root_.Go.OpenSpec.ofChange s with cond := some uptoSmall }

/-- 'portolanlaw17.CodegenShape', WHERE WHAT IT READS IS OF BULK AT MOST 1048576: true; the input reads as it did. -/
def codegenShapeUptoRow : OpenClaim := { program := "ytihbejpkfifplaa", sum := "fb700010077d01007372b091b0f8923fdf09fdbd10a2f7f5cf0096f99035ba4d", func := "portolan/portolanlaw17.CodegenShape", spec := "codegenShape", unfollowed := true, recurses := true, loops := true, apart := false, narrowed := true }
def CodegenShapeUptoSaid : Prop := codegenShapeUptoRow.holds Try.pinned (OpenSpec.upto codegenShapeSpec)

/-- 'portolanlaw17.CodegenSteps', WHERE WHAT IT READS IS OF BULK AT MOST 1048576: true; the input reads as it did. -/
def codegenStepsUptoRow : OpenClaim := { program := "ytihbejpkfifplaa", sum := "fb700010077d01007372b091b0f8923fdf09fdbd10a2f7f5cf0096f99035ba4d", func := "portolan/portolanlaw17.CodegenSteps", spec := "codegenSteps", unfollowed := true, recurses := true, loops := true, apart := false, narrowed := true }
def CodegenStepsUptoSaid : Prop := codegenStepsUptoRow.holds Try.pinned (OpenSpec.upto codegenStepsSpec)

/-- 'portolanlaw15.StatsJoins', WHERE WHAT IT READS IS OF BULK AT MOST 1048576: true; the input reads as it did. -/
def statsJoinsUptoRow : OpenClaim := { program := "ytihbejpkfifplaa", sum := "fb700010077d01007372b091b0f8923fdf09fdbd10a2f7f5cf0096f99035ba4d", func := "portolan/portolanlaw15.StatsJoins", spec := "statsJoins", unfollowed := true, recurses := true, loops := true, apart := false, narrowed := true }
def StatsJoinsUptoSaid : Prop := statsJoinsUptoRow.holds Try.pinned (OpenSpec.upto statsJoinsSpec)

/-- 'portolanlaw15.StatsEstimates', WHERE WHAT IT READS IS OF BULK AT MOST 1048576: true; the input reads as it did. -/
def statsEstimatesUptoRow : OpenClaim := { program := "ytihbejpkfifplaa", sum := "fb700010077d01007372b091b0f8923fdf09fdbd10a2f7f5cf0096f99035ba4d", func := "portolan/portolanlaw15.StatsEstimates", spec := "statsEstimates", unfollowed := true, recurses := true, loops := true, apart := false, narrowed := true }
def StatsEstimatesUptoSaid : Prop := statsEstimatesUptoRow.holds Try.pinned (OpenSpec.upto statsEstimatesSpec)

/-- 'portolanlaw15.StatsGrows', WHERE WHAT IT READS IS OF BULK AT MOST 1048576: true; the input reads as it did. -/
def statsGrowsUptoRow : OpenClaim := { program := "ytihbejpkfifplaa", sum := "fb700010077d01007372b091b0f8923fdf09fdbd10a2f7f5cf0096f99035ba4d", func := "portolan/portolanlaw15.StatsGrows", spec := "statsGrows", unfollowed := true, recurses := true, loops := true, apart := false, narrowed := true }
def StatsGrowsUptoSaid : Prop := statsGrowsUptoRow.holds Try.pinned (OpenSpec.upto statsGrowsSpec)

/-- 'portolanlaw13.AlgebraBinds', WHERE WHAT IT READS IS OF BULK AT MOST 1048576: true; the input reads as it did. -/
def algebraBindsUptoRow : OpenClaim := { program := "ytihbejpkfifplaa", sum := "fb700010077d01007372b091b0f8923fdf09fdbd10a2f7f5cf0096f99035ba4d", func := "portolan/portolanlaw13.AlgebraBinds", spec := "algebraBinds", unfollowed := true, recurses := true, loops := true, apart := false, narrowed := true }
def AlgebraBindsUptoSaid : Prop := algebraBindsUptoRow.holds Try.pinned (OpenSpec.upto algebraBindsSpec)

/-- 'portolanlaw13.AlgebraTranslates', WHERE WHAT IT READS IS OF BULK AT MOST 1048576: true; the input reads as it did. -/
def algebraTranslatesUptoRow : OpenClaim := { program := "ytihbejpkfifplaa", sum := "fb700010077d01007372b091b0f8923fdf09fdbd10a2f7f5cf0096f99035ba4d", func := "portolan/portolanlaw13.AlgebraTranslates", spec := "algebraTranslates", unfollowed := true, recurses := true, loops := true, apart := false, narrowed := true }
def AlgebraTranslatesUptoSaid : Prop := algebraTranslatesUptoRow.holds Try.pinned (OpenSpec.upto algebraTranslatesSpec)

end Rows
end Go.Proofs.Ytihbejpkfifplaa
