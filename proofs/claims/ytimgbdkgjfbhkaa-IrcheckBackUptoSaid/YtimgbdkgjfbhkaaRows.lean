/-
  NARROWER THAN 'FOR EVERY INPUT', by the rows' own cells (each row's printed sentence says how): IrcheckSinks: loops · IrcheckLooks: loops · IrcheckBack: loops · OrderMeets: loops · OrderFirst: loops.
  DERIVED. THE GIVEN ROWS OF THIS SEAT. 5 by the template 'for every input the law returns true; each argument reads behind the call as it read before'; 0 by the template 'total and deterministic' (their statements: YtimgbdkgjfbhkaaTotals.lean).
  GIVEN WITH THE SEED: the statements are not yours to turn. If you find one false, say at which input.
  Laid BY PROGRAM, IN A SANDBOX (cutbox-rows.mjs): the forced cells as the released guide's own fill.sh prints them over the translation 6d763c63cd4b16a7… (all of the seat's roots in one cut). By AI agents, Wed Nov 11 2026. No macro, syntax, notation, axiom, sorry.
-/
import Derived.Test.YtimgbdkgjfbhkaaChecked
import GoSem.Claim
import GoSem.ClaimJoined
import GoSem.ClaimMapViews
import Derived.JoinedTies
import Derived.KernelRfl
namespace Go.Proofs.Ytimgbdkgjfbhkaa
/- THE CELL 'sum', in the pinned program and in every row, IS THE sha256 OF THE DUMP (.gsa) THAT YtimgbdkgjfbhkaaProg.lean LOADS. Nothing in Lean hashes anything: it is a label: what it is worth is what the hold of that sum in a sandbox is worth. -/
noncomputable def Try.pinned : Pinned := { name := "ytimgbdkgjfbhkaa", sum := "6d763c63cd4b16a75ce6e0f8fb936417c8404a3ad43612b00a6f5d6b11ece892", checked := Try.checked }
namespace Rows
def none {H : Type} : Left H := { results := [], args := [] }

/-- 'portolanlaw18.IrcheckSinks': WHATEVER THE INPUT: true; the input reads as it did. -/
def ircheckSinksSpec : ChangeSpec := { name := "ircheckSinks", fn := fun _ => fun
  | [d1, d2, d3, d4] => { results := [.lit (.bool true)], args := [d1, d2, d3, d4] }
  | _ => none }
def ircheckSinksRow : OpenClaim := { program := "ytimgbdkgjfbhkaa", sum := "6d763c63cd4b16a75ce6e0f8fb936417c8404a3ad43612b00a6f5d6b11ece892", func := "portolan/portolanlaw18.IrcheckSinks", spec := "ircheckSinks", unfollowed := true, recurses := true, loops := true, apart := false }
def IrcheckSinksSaid : Prop := ircheckSinksRow.holds Try.pinned (OpenSpec.ofChange ircheckSinksSpec)

/-- ITS FALSE NEIGHBOUR: 'it returns false'. Refute it at one input. -/
def ircheckSinksWrong : ChangeSpec := { name := "ircheckSinks", fn := fun _ => fun
  | [d1, d2, d3, d4] => { results := [.lit (.bool false)], args := [d1, d2, d3, d4] }
  | _ => none }
def IrcheckSinksWrongFalsely : Prop := ircheckSinksRow.holds Try.pinned (OpenSpec.ofChange ircheckSinksWrong)

/-- 'portolanlaw18.IrcheckLooks': WHATEVER THE INPUT: true; the input reads as it did. -/
def ircheckLooksSpec : ChangeSpec := { name := "ircheckLooks", fn := fun _ => fun
  | [d1, d2] => { results := [.lit (.bool true)], args := [d1, d2] }
  | _ => none }
def ircheckLooksRow : OpenClaim := { program := "ytimgbdkgjfbhkaa", sum := "6d763c63cd4b16a75ce6e0f8fb936417c8404a3ad43612b00a6f5d6b11ece892", func := "portolan/portolanlaw18.IrcheckLooks", spec := "ircheckLooks", unfollowed := true, recurses := true, loops := true, apart := false }
def IrcheckLooksSaid : Prop := ircheckLooksRow.holds Try.pinned (OpenSpec.ofChange ircheckLooksSpec)

/-- ITS FALSE NEIGHBOUR: 'it returns false'. Refute it at one input. -/
def ircheckLooksWrong : ChangeSpec := { name := "ircheckLooks", fn := fun _ => fun
  | [d1, d2] => { results := [.lit (.bool false)], args := [d1, d2] }
  | _ => none }
def IrcheckLooksWrongFalsely : Prop := ircheckLooksRow.holds Try.pinned (OpenSpec.ofChange ircheckLooksWrong)

/-- 'portolanlaw18.IrcheckBack': WHATEVER THE INPUT: true; the input reads as it did. -/
def ircheckBackSpec : ChangeSpec := { name := "ircheckBack", fn := fun _ => fun
  | [d1, d2, d3] => { results := [.lit (.bool true)], args := [d1, d2, d3] }
  | _ => none }
def ircheckBackRow : OpenClaim := { program := "ytimgbdkgjfbhkaa", sum := "6d763c63cd4b16a75ce6e0f8fb936417c8404a3ad43612b00a6f5d6b11ece892", func := "portolan/portolanlaw18.IrcheckBack", spec := "ircheckBack", unfollowed := true, recurses := true, loops := true, apart := false }
def IrcheckBackSaid : Prop := ircheckBackRow.holds Try.pinned (OpenSpec.ofChange ircheckBackSpec)

/-- ITS FALSE NEIGHBOUR: 'it returns false'. Refute it at one input. -/
def ircheckBackWrong : ChangeSpec := { name := "ircheckBack", fn := fun _ => fun
  | [d1, d2, d3] => { results := [.lit (.bool false)], args := [d1, d2, d3] }
  | _ => none }
def IrcheckBackWrongFalsely : Prop := ircheckBackRow.holds Try.pinned (OpenSpec.ofChange ircheckBackWrong)

/-- 'portolanlaw16.OrderMeets': WHATEVER THE INPUT: true; the input reads as it did. -/
def orderMeetsSpec : ChangeSpec := { name := "orderMeets", fn := fun _ => fun
  | [d1, d2] => { results := [.lit (.bool true)], args := [d1, d2] }
  | _ => none }
def orderMeetsRow : OpenClaim := { program := "ytimgbdkgjfbhkaa", sum := "6d763c63cd4b16a75ce6e0f8fb936417c8404a3ad43612b00a6f5d6b11ece892", func := "portolan/portolanlaw16.OrderMeets", spec := "orderMeets", unfollowed := true, recurses := true, loops := true, apart := false }
def OrderMeetsSaid : Prop := orderMeetsRow.holds Try.pinned (OpenSpec.ofChange orderMeetsSpec)

/-- ITS FALSE NEIGHBOUR: 'it returns false'. Refute it at one input. -/
def orderMeetsWrong : ChangeSpec := { name := "orderMeets", fn := fun _ => fun
  | [d1, d2] => { results := [.lit (.bool false)], args := [d1, d2] }
  | _ => none }
def OrderMeetsWrongFalsely : Prop := orderMeetsRow.holds Try.pinned (OpenSpec.ofChange orderMeetsWrong)

/-- 'portolanlaw16.OrderFirst': WHATEVER THE INPUT: true; the input reads as it did. -/
def orderFirstSpec : ChangeSpec := { name := "orderFirst", fn := fun _ => fun
  | [d1, d2] => { results := [.lit (.bool true)], args := [d1, d2] }
  | _ => none }
def orderFirstRow : OpenClaim := { program := "ytimgbdkgjfbhkaa", sum := "6d763c63cd4b16a75ce6e0f8fb936417c8404a3ad43612b00a6f5d6b11ece892", func := "portolan/portolanlaw16.OrderFirst", spec := "orderFirst", unfollowed := true, recurses := true, loops := true, apart := false }
def OrderFirstSaid : Prop := orderFirstRow.holds Try.pinned (OpenSpec.ofChange orderFirstSpec)

/-- ITS FALSE NEIGHBOUR: 'it returns false'. Refute it at one input. -/
def orderFirstWrong : ChangeSpec := { name := "orderFirst", fn := fun _ => fun
  | [d1, d2] => { results := [.lit (.bool false)], args := [d1, d2] }
  | _ => none }
def OrderFirstWrongFalsely : Prop := orderFirstRow.holds Try.pinned (OpenSpec.ofChange orderFirstWrong)

/- THE SECOND FORM. 'bulk': how many values and letters a reading holds, each counted each time it is reached (what is shared counts as often as it is met; a slice's spare places count too). A statement '..UptoSaid' is the law's where the arguments, and the package variables that the reading takes, are together of bulk at most 1048576: NARROWER than '..Said'. Prove '..Said' where nothing that the law and all that it calls make is longer than what came in: it says more and counts as full. Else prove '..UptoSaid'. A law counts once. -/
mutual
def uptoBulk {H : Type} : DataW H → Nat
  | .lit (.string bytes) => bytes.length + 1
  | .lit _ => 1
  | .nil => 1
  | .ptr d => uptoBulk d + 1
  | .slice elems spare => uptoBulkAll elems + uptoBulkAll spare + 1
  | .agg parts => uptoBulkAll parts + 1
  | .iface _ d => uptoBulk d + 1
  | .map entries => uptoBulkEntries entries + 1
  | .held _ => 1
def uptoBulkAll {H : Type} : List (DataW H) → Nat
  | [] => 0
  | d :: r => uptoBulk d + uptoBulkAll r
def uptoBulkEntries {H : Type} : List (Lit × DataW H) → Nat
  | [] => 0
  | x :: r => uptoBulkEntry x + uptoBulkEntries r
def uptoBulkEntry {H : Type} : Lit × DataW H → Nat
  | (.string bytes, d) => bytes.length + uptoBulk d + 1
  | (_, d) => uptoBulk d + 1
 end
def uptoSmall : (H : Type) → List (DataW H) → Bool := fun _ ds => decide (uptoBulkAll ds ≤ 1048576)
def OpenSpec.upto (s : _root_.Go.ChangeSpec) : _root_.Go.OpenSpec := { _root_.Go.OpenSpec.ofChange s with cond := some uptoSmall }

/-- 'portolanlaw18.IrcheckSinks', WHERE WHAT IT READS IS OF BULK AT MOST 1048576: true; the input reads as it did. -/
def ircheckSinksUptoRow : OpenClaim := { program := "ytimgbdkgjfbhkaa", sum := "6d763c63cd4b16a75ce6e0f8fb936417c8404a3ad43612b00a6f5d6b11ece892", func := "portolan/portolanlaw18.IrcheckSinks", spec := "ircheckSinks", unfollowed := true, recurses := true, loops := true, apart := false, narrowed := true }
def IrcheckSinksUptoSaid : Prop := ircheckSinksUptoRow.holds Try.pinned (OpenSpec.upto ircheckSinksSpec)

/-- 'portolanlaw18.IrcheckLooks', WHERE WHAT IT READS IS OF BULK AT MOST 1048576: true; the input reads as it did. -/
def ircheckLooksUptoRow : OpenClaim := { program := "ytimgbdkgjfbhkaa", sum := "6d763c63cd4b16a75ce6e0f8fb936417c8404a3ad43612b00a6f5d6b11ece892", func := "portolan/portolanlaw18.IrcheckLooks", spec := "ircheckLooks", unfollowed := true, recurses := true, loops := true, apart := false, narrowed := true }
def IrcheckLooksUptoSaid : Prop := ircheckLooksUptoRow.holds Try.pinned (OpenSpec.upto ircheckLooksSpec)

/-- 'portolanlaw18.IrcheckBack', WHERE WHAT IT READS IS OF BULK AT MOST 1048576: true; the input reads as it did. -/
def ircheckBackUptoRow : OpenClaim := { program := "ytimgbdkgjfbhkaa", sum := "6d763c63cd4b16a75ce6e0f8fb936417c8404a3ad43612b00a6f5d6b11ece892", func := "portolan/portolanlaw18.IrcheckBack", spec := "ircheckBack", unfollowed := true, recurses := true, loops := true, apart := false, narrowed := true }
def IrcheckBackUptoSaid : Prop := ircheckBackUptoRow.holds Try.pinned (OpenSpec.upto ircheckBackSpec)

/-- 'portolanlaw16.OrderMeets', WHERE WHAT IT READS IS OF BULK AT MOST 1048576: true; the input reads as it did. -/
def orderMeetsUptoRow : OpenClaim := { program := "ytimgbdkgjfbhkaa", sum := "6d763c63cd4b16a75ce6e0f8fb936417c8404a3ad43612b00a6f5d6b11ece892", func := "portolan/portolanlaw16.OrderMeets", spec := "orderMeets", unfollowed := true, recurses := true, loops := true, apart := false, narrowed := true }
def OrderMeetsUptoSaid : Prop := orderMeetsUptoRow.holds Try.pinned (OpenSpec.upto orderMeetsSpec)

/-- 'portolanlaw16.OrderFirst', WHERE WHAT IT READS IS OF BULK AT MOST 1048576: true; the input reads as it did. -/
def orderFirstUptoRow : OpenClaim := { program := "ytimgbdkgjfbhkaa", sum := "6d763c63cd4b16a75ce6e0f8fb936417c8404a3ad43612b00a6f5d6b11ece892", func := "portolan/portolanlaw16.OrderFirst", spec := "orderFirst", unfollowed := true, recurses := true, loops := true, apart := false, narrowed := true }
def OrderFirstUptoSaid : Prop := orderFirstUptoRow.holds Try.pinned (OpenSpec.upto orderFirstSpec)

end Rows
end Go.Proofs.Ytimgbdkgjfbhkaa
