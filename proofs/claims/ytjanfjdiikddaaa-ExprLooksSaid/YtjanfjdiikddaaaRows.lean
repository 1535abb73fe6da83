/-
  NARROWER THAN 'FOR EVERY INPUT', by the rows' own cells (each row's printed sentence says how): ExprSafe: loops · ExprLooks: loops · ExprTurns: loops.
  DERIVED. THE GIVEN ROWS OF THIS SEAT. 5 by the template 'for every input the law returns true; each argument reads behind the call as it read before'; 0 by the template 'total and deterministic' (their statements: YtjanfjdiikddaaaTotals.lean).
  GIVEN WITH THE SEED: the statements are not yours to turn. If you find one false, say at which input.
  Laid BY PROGRAM, IN A SANDBOX (cutbox-rows.mjs): the forced cells as the released guide's own fill.sh prints them over the translation 15614a480c8574fd… (all of the seat's roots in one cut). By AI agents, Wed Nov 11 2026. No macro, syntax, notation, axiom, sorry.
-/
import Derived.Test.YtjanfjdiikddaaaChecked
import GoSem.Claim
import GoSem.ClaimJoined
import GoSem.ClaimMapViews
import Derived.JoinedTies
import Derived.KernelRfl
namespace Go.Proofs.Ytjanfjdiikddaaa
/- THE CELL 'sum', in the pinned program and in every row, IS THE sha256 OF THE DUMP (.gsa) THAT YtjanfjdiikddaaaProg.lean LOADS. Nothing in Lean hashes anything: it is a label: what it is worth is what the hold of that sum in a sandbox is worth. -/
noncomputable def Try.pinned : Pinned := { name := "ytjanfjdiikddaaa", sum := "15614a480c8574fd5211d71ce731cfd0914b96885655154a521eaf28cc1f8b56", checked := Try.checked }
namespace Rows
def none {H : Type} : Left H := { results := [], args := [] }

/-- 'portolanlaw11.ExprArith': WHATEVER THE INPUT: true; the input reads as it did. -/
def exprArithSpec : ChangeSpec := { name := "exprArith", fn := fun _ => fun
  | [d1, d2, d3] => { results := [.lit (.bool true)], args := [d1, d2, d3] }
  | _ => none }
def exprArithRow : OpenClaim := { program := "ytjanfjdiikddaaa", sum := "15614a480c8574fd5211d71ce731cfd0914b96885655154a521eaf28cc1f8b56", func := "portolan/portolanlaw11.ExprArith", spec := "exprArith", unfollowed := true, recurses := true, apart := false }
def ExprArithSaid : Prop := exprArithRow.holds Try.pinned (OpenSpec.ofChange exprArithSpec)

/-- ITS FALSE NEIGHBOUR: 'it returns false'. Refute it at one input. -/
def exprArithWrong : ChangeSpec := { name := "exprArith", fn := fun _ => fun
  | [d1, d2, d3] => { results := [.lit (.bool false)], args := [d1, d2, d3] }
  | _ => none }
def ExprArithWrongFalsely : Prop := exprArithRow.holds Try.pinned (OpenSpec.ofChange exprArithWrong)

/-- 'portolanlaw11.ExprSafe': WHATEVER THE INPUT: true; the input reads as it did. -/
def exprSafeSpec : ChangeSpec := { name := "exprSafe", fn := fun _ => fun
  | [d1, d2] => { results := [.lit (.bool true)], args := [d1, d2] }
  | _ => none }
def exprSafeRow : OpenClaim := { program := "ytjanfjdiikddaaa", sum := "15614a480c8574fd5211d71ce731cfd0914b96885655154a521eaf28cc1f8b56", func := "portolan/portolanlaw11.ExprSafe", spec := "exprSafe", unfollowed := true, recurses := true, loops := true, apart := false }
def ExprSafeSaid : Prop := exprSafeRow.holds Try.pinned (OpenSpec.ofChange exprSafeSpec)

/-- ITS FALSE NEIGHBOUR: 'it returns false'. Refute it at one input. -/
def exprSafeWrong : ChangeSpec := { name := "exprSafe", fn := fun _ => fun
  | [d1, d2] => { results := [.lit (.bool false)], args := [d1, d2] }
  | _ => none }
def ExprSafeWrongFalsely : Prop := exprSafeRow.holds Try.pinned (OpenSpec.ofChange exprSafeWrong)

/-- 'portolanlaw11.ExprSums': WHATEVER THE INPUT: true; the input reads as it did. -/
def exprSumsSpec : ChangeSpec := { name := "exprSums", fn := fun _ => fun
  | [d1, d2] => { results := [.lit (.bool true)], args := [d1, d2] }
  | _ => none }
def exprSumsRow : OpenClaim := { program := "ytjanfjdiikddaaa", sum := "15614a480c8574fd5211d71ce731cfd0914b96885655154a521eaf28cc1f8b56", func := "portolan/portolanlaw11.ExprSums", spec := "exprSums", unfollowed := true, recurses := true, apart := false }
def ExprSumsSaid : Prop := exprSumsRow.holds Try.pinned (OpenSpec.ofChange exprSumsSpec)

/-- ITS FALSE NEIGHBOUR: 'it returns false'. Refute it at one input. -/
def exprSumsWrong : ChangeSpec := { name := "exprSums", fn := fun _ => fun
  | [d1, d2] => { results := [.lit (.bool false)], args := [d1, d2] }
  | _ => none }
def ExprSumsWrongFalsely : Prop := exprSumsRow.holds Try.pinned (OpenSpec.ofChange exprSumsWrong)

/-- 'portolanlaw11.ExprLooks': WHATEVER THE INPUT: true; the input reads as it did. -/
def exprLooksSpec : ChangeSpec := { name := "exprLooks", fn := fun _ => fun
  | [d] => { results := [.lit (.bool true)], args := [d] }
  | _ => none }
def exprLooksRow : OpenClaim := { program := "ytjanfjdiikddaaa", sum := "15614a480c8574fd5211d71ce731cfd0914b96885655154a521eaf28cc1f8b56", func := "portolan/portolanlaw11.ExprLooks", spec := "exprLooks", unfollowed := true, recurses := true, loops := true, apart := false }
def ExprLooksSaid : Prop := exprLooksRow.holds Try.pinned (OpenSpec.ofChange exprLooksSpec)

/-- ITS FALSE NEIGHBOUR: 'it returns false'. Refute it at one input. -/
def exprLooksWrong : ChangeSpec := { name := "exprLooks", fn := fun _ => fun
  | [d] => { results := [.lit (.bool false)], args := [d] }
  | _ => none }
def ExprLooksWrongFalsely : Prop := exprLooksRow.holds Try.pinned (OpenSpec.ofChange exprLooksWrong)

/-- 'portolanlaw11.ExprTurns': WHATEVER THE INPUT: true; the input reads as it did. -/
def exprTurnsSpec : ChangeSpec := { name := "exprTurns", fn := fun _ => fun
  | [d1, d2, d3] => { results := [.lit (.bool true)], args := [d1, d2, d3] }
  | _ => none }
def exprTurnsRow : OpenClaim := { program := "ytjanfjdiikddaaa", sum := "15614a480c8574fd5211d71ce731cfd0914b96885655154a521eaf28cc1f8b56", func := "portolan/portolanlaw11.ExprTurns", spec := "exprTurns", inPlace := ["internal/bytealg.abigen_runtime_cmpstring"], unfollowed := true, recurses := true, loops := true, apart := false }
def ExprTurnsSaid : Prop := exprTurnsRow.holds Try.pinned (OpenSpec.ofChange exprTurnsSpec)

/-- ITS FALSE NEIGHBOUR: 'it returns false'. Refute it at one input. -/
def exprTurnsWrong : ChangeSpec := { name := "exprTurns", fn := fun _ => fun
  | [d1, d2, d3] => { results := [.lit (.bool false)], args := [d1, d2, d3] }
  | _ => none }
def ExprTurnsWrongFalsely : Prop := exprTurnsRow.holds Try.pinned (OpenSpec.ofChange exprTurnsWrong)

/- THE SECOND FORM. 'bulk': how many values and letters a reading holds, each counted each time it is reached (what is shared counts as often as it is met; a slice's spare places count too). A statement '..UptoSaid' is the law's where the arguments, and the package variables that the reading takes, are together of bulk at most 1048576: NARROWER than '..Said'. Prove '..Said' where nothing that the law and all that it calls make is longer than what came in: it says more and counts as full. Else prove '..UptoSaid'. A law counts once. -/
mutual
def uptoBulk {H : Type} : DataW H → Nat
  | .lit (.string bytes) => bytes.length + 1
  | .lit _ => 1
  | .nil => 1
  | .ptr d => uptoBulk d + 1
  | .slice elems spare => uptoBulkAll elems + uptoBulkAll spare + 1
  | .agg parts => uptoBulkAll parts + 1
  | .iface _ d => uptoBulk d + 1
  | .map entries => uptoBulkEntries entries + 1
  | .held _ => 1
def uptoBulkAll {H : Type} : List (DataW H) → Nat
  | [] => 0
  | d :: r => uptoBulk d + uptoBulkAll r
def uptoBulkEntries {H : Type} : List (Lit × DataW H) → Nat
  | [] => 0
  | x :: r => uptoBulkEntry x + uptoBulkEntries r
def uptoBulkEntry {H : Type} : Lit × DataW H → Nat
  | (.string bytes, d) => bytes.length + uptoBulk d + 1
  | (_, d) => uptoBulk d + 1
 end
def uptoSmall : (H : Type) → List (DataW H) → Bool := fun _ ds => decide (uptoBulkAll ds ≤ 1048576)
def OpenSpec.upto (s : _root_.Go.ChangeSpec) : _root_.Go.OpenSpec := { _root_.Go.OpenSpec.ofChange s with cond := some uptoSmall }

/-- 'portolanlaw11.ExprArith', WHERE WHAT IT READS IS OF BULK AT MOST 1048576: true; the input reads as it did. -/
def exprArithUptoRow : OpenClaim := { program := "ytjanfjdiikddaaa", sum := "15614a480c8574fd5211d71ce731cfd0914b96885655154a521eaf28cc1f8b56", func := "portolan/portolanlaw11.ExprArith", spec := "exprArith", unfollowed := true, recurses := true, apart := false, narrowed := true }
def ExprArithUptoSaid : Prop := exprArithUptoRow.holds Try.pinned (OpenSpec.upto exprArithSpec)

/-- 'portolanlaw11.ExprSafe', WHERE WHAT IT READS IS OF BULK AT MOST 1048576: true; the input reads as it did. -/
def exprSafeUptoRow : OpenClaim := { program := "ytjanfjdiikddaaa", sum := "15614a480c8574fd5211d71ce731cfd0914b96885655154a521eaf28cc1f8b56", func := "portolan/portolanlaw11.ExprSafe", spec := "exprSafe", unfollowed := true, recurses := true, loops := true, apart := false, narrowed := true }
def ExprSafeUptoSaid : Prop := exprSafeUptoRow.holds Try.pinned (OpenSpec.upto exprSafeSpec)

/-- 'portolanlaw11.ExprSums', WHERE WHAT IT READS IS OF BULK AT MOST 1048576: true; the input reads as it did. -/
def exprSumsUptoRow : OpenClaim := { program := "ytjanfjdiikddaaa", sum := "15614a480c8574fd5211d71ce731cfd0914b96885655154a521eaf28cc1f8b56", func := "portolan/portolanlaw11.ExprSums", spec := "exprSums", unfollowed := true, recurses := true, apart := false, narrowed := true }
def ExprSumsUptoSaid : Prop := exprSumsUptoRow.holds Try.pinned (OpenSpec.upto exprSumsSpec)

/-- 'portolanlaw11.ExprLooks', WHERE WHAT IT READS IS OF BULK AT MOST 1048576: true; the input reads as it did. -/
def exprLooksUptoRow : OpenClaim := { program := "ytjanfjdiikddaaa", sum := "15614a480c8574fd5211d71ce731cfd0914b96885655154a521eaf28cc1f8b56", func := "portolan/portolanlaw11.ExprLooks", spec := "exprLooks", unfollowed := true, recurses := true, loops := true, apart := false, narrowed := true }
def ExprLooksUptoSaid : Prop := exprLooksUptoRow.holds Try.pinned (OpenSpec.upto exprLooksSpec)

/-- 'portolanlaw11.ExprTurns', WHERE WHAT IT READS IS OF BULK AT MOST 1048576: true; the input reads as it did. -/
def exprTurnsUptoRow : OpenClaim := { program := "ytjanfjdiikddaaa", sum := "15614a480c8574fd5211d71ce731cfd0914b96885655154a521eaf28cc1f8b56", func := "portolan/portolanlaw11.ExprTurns", spec := "exprTurns", inPlace := ["internal/bytealg.abigen_runtime_cmpstring"], unfollowed := true, recurses := true, loops := true, apart := false, narrowed := true }
def ExprTurnsUptoSaid : Prop := exprTurnsUptoRow.holds Try.pinned (OpenSpec.upto exprTurnsSpec)

end Rows
end Go.Proofs.Ytjanfjdiikddaaa
