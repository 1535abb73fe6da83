/-
  No cell of these rows narrows 'for every input' (looked for: loops, veiled, ifaces, maps, wideKeys, modest, calm, conditions, laid).
  DERIVED. THE GIVEN ROWS OF THIS SEAT. 6 by the template 'for every input the law returns true; each argument reads behind the call as it read before'; 0 by the template 'total and deterministic' (their statements: YtkdodclenhnfcaaTotals.lean).
  GIVEN WITH THE SEED: the statements are not yours to turn. If you find one false, say at which input.
  Laid BY PROGRAM, IN A SANDBOX (cutbox-rows.mjs): the forced cells as the released guide's own fill.sh prints them over the translation ffe2f3e0ccc1e281… (all of the seat's roots in one cut). By AI agents, Wed Nov 11 2026. No macro, syntax, notation, axiom, sorry.
-/
import Derived.Test.YtkdodclenhnfcaaChecked
import GoSem.Claim
import GoSem.ClaimJoined
import GoSem.ClaimMapViews
import Derived.JoinedTies
import Derived.KernelRfl
namespace Go.Proofs.Ytkdodclenhnfcaa
/- THE CELL 'sum', in the pinned program and in every row, IS THE sha256 OF THE DUMP (.gsa) THAT YtkdodclenhnfcaaProg.lean LOADS. Nothing in Lean hashes anything: it is a label: what it is worth is what the hold of that sum in a sandbox is worth. -/
noncomputable def Try.pinned : Pinned := { name := "ytkdodclenhnfcaa", sum := "ffe2f3e0ccc1e281a2cebdb2523538e962352900f37dc6ffdf63fcf98c0a46ea", checked := Try.checked }
namespace Rows
def none {H : Type} : Left H := { results := [], args := [] }

/-- 'portolanlaw01.VfsFits': WHATEVER THE INPUT: true; the input reads as it did. -/
def vfsFitsSpec : ChangeSpec := { name := "vfsFits", fn := fun _ => fun
  | [d1, d2] => { results := [.lit (.bool true)], args := [d1, d2] }
  | _ => none }
def vfsFitsRow : OpenClaim := { program := "ytkdodclenhnfcaa", sum := "ffe2f3e0ccc1e281a2cebdb2523538e962352900f37dc6ffdf63fcf98c0a46ea", func := "portolan/portolanlaw01.VfsFits", spec := "vfsFits", apart := false }
def VfsFitsSaid : Prop := vfsFitsRow.holds Try.pinned (OpenSpec.ofChange vfsFitsSpec)

/-- ITS FALSE NEIGHBOUR: 'it returns false'. Refute it at one input. -/
def vfsFitsWrong : ChangeSpec := { name := "vfsFits", fn := fun _ => fun
  | [d1, d2] => { results := [.lit (.bool false)], args := [d1, d2] }
  | _ => none }
def VfsFitsWrongFalsely : Prop := vfsFitsRow.holds Try.pinned (OpenSpec.ofChange vfsFitsWrong)

/-- 'portolanlaw01.VfsKeeps': WHATEVER THE INPUT: true; the input reads as it did. -/
def vfsKeepsSpec : ChangeSpec := { name := "vfsKeeps", fn := fun _ => fun
  | [d1, d2, d3] => { results := [.lit (.bool true)], args := [d1, d2, d3] }
  | _ => none }
def vfsKeepsRow : OpenClaim := { program := "ytkdodclenhnfcaa", sum := "ffe2f3e0ccc1e281a2cebdb2523538e962352900f37dc6ffdf63fcf98c0a46ea", func := "portolan/portolanlaw01.VfsKeeps", spec := "vfsKeeps", apart := false }
def VfsKeepsSaid : Prop := vfsKeepsRow.holds Try.pinned (OpenSpec.ofChange vfsKeepsSpec)

/-- ITS FALSE NEIGHBOUR: 'it returns false'. Refute it at one input. -/
def vfsKeepsWrong : ChangeSpec := { name := "vfsKeeps", fn := fun _ => fun
  | [d1, d2, d3] => { results := [.lit (.bool false)], args := [d1, d2, d3] }
  | _ => none }
def VfsKeepsWrongFalsely : Prop := vfsKeepsRow.holds Try.pinned (OpenSpec.ofChange vfsKeepsWrong)

/-- 'portolanlaw01.VfsCounts': WHATEVER THE INPUT: true; the input reads as it did. -/
def vfsCountsSpec : ChangeSpec := { name := "vfsCounts", fn := fun _ => fun
  | [d1, d2] => { results := [.lit (.bool true)], args := [d1, d2] }
  | _ => none }
def vfsCountsRow : OpenClaim := { program := "ytkdodclenhnfcaa", sum := "ffe2f3e0ccc1e281a2cebdb2523538e962352900f37dc6ffdf63fcf98c0a46ea", func := "portolan/portolanlaw01.VfsCounts", spec := "vfsCounts", apart := false }
def VfsCountsSaid : Prop := vfsCountsRow.holds Try.pinned (OpenSpec.ofChange vfsCountsSpec)

/-- ITS FALSE NEIGHBOUR: 'it returns false'. Refute it at one input. -/
def vfsCountsWrong : ChangeSpec := { name := "vfsCounts", fn := fun _ => fun
  | [d1, d2] => { results := [.lit (.bool false)], args := [d1, d2] }
  | _ => none }
def VfsCountsWrongFalsely : Prop := vfsCountsRow.holds Try.pinned (OpenSpec.ofChange vfsCountsWrong)

/-- 'portolanlaw01.VfsNames': WHATEVER THE INPUT: true; the input reads as it did. -/
def vfsNamesSpec : ChangeSpec := { name := "vfsNames", fn := fun _ => fun
  | [d] => { results := [.lit (.bool true)], args := [d] }
  | _ => none }
def vfsNamesRow : OpenClaim := { program := "ytkdodclenhnfcaa", sum := "ffe2f3e0ccc1e281a2cebdb2523538e962352900f37dc6ffdf63fcf98c0a46ea", func := "portolan/portolanlaw01.VfsNames", spec := "vfsNames", unfollowed := true, recurses := true, apart := false }
def VfsNamesSaid : Prop := vfsNamesRow.holds Try.pinned (OpenSpec.ofChange vfsNamesSpec)

/-- ITS FALSE NEIGHBOUR: 'it returns false'. Refute it at one input. -/
def vfsNamesWrong : ChangeSpec := { name := "vfsNames", fn := fun _ => fun
  | [d] => { results := [.lit (.bool false)], args := [d] }
  | _ => none }
def VfsNamesWrongFalsely : Prop := vfsNamesRow.holds Try.pinned (OpenSpec.ofChange vfsNamesWrong)

/-- 'portolanlaw01.VfsBounds': WHATEVER THE INPUT: true; the input reads as it did. -/
def vfsBoundsSpec : ChangeSpec := { name := "vfsBounds", fn := fun _ => fun
  | [d1, d2, d3] => { results := [.lit (.bool true)], args := [d1, d2, d3] }
  | _ => none }
def vfsBoundsRow : OpenClaim := { program := "ytkdodclenhnfcaa", sum := "ffe2f3e0ccc1e281a2cebdb2523538e962352900f37dc6ffdf63fcf98c0a46ea", func := "portolan/portolanlaw01.VfsBounds", spec := "vfsBounds", unfollowed := true, recurses := true, apart := false }
def VfsBoundsSaid : Prop := vfsBoundsRow.holds Try.pinned (OpenSpec.ofChange vfsBoundsSpec)

/-- ITS FALSE NEIGHBOUR: 'it returns false'. Refute it at one input. -/
def vfsBoundsWrong : ChangeSpec := { name := "vfsBounds", fn := fun _ => fun
  | [d1, d2, d3] => { results := [.lit (.bool false)], args := [d1, d2, d3] }
  | _ => none }
def VfsBoundsWrongFalsely : Prop := vfsBoundsRow.holds Try.pinned (OpenSpec.ofChange vfsBoundsWrong)

/-- 'portolanlaw01.VfsPlays': WHATEVER THE INPUT: true; the input reads as it did. -/
def vfsPlaysSpec : ChangeSpec := { name := "vfsPlays", fn := fun _ => fun
  | [d1, d2, d3] => { results := [.lit (.bool true)], args := [d1, d2, d3] }
  | _ => none }
def vfsPlaysRow : OpenClaim := { program := "ytkdodclenhnfcaa", sum := "ffe2f3e0ccc1e281a2cebdb2523538e962352900f37dc6ffdf63fcf98c0a46ea", func := "portolan/portolanlaw01.VfsPlays", spec := "vfsPlays", unfollowed := true, recurses := true, apart := false }
def VfsPlaysSaid : Prop := vfsPlaysRow.holds Try.pinned (OpenSpec.ofChange vfsPlaysSpec)

/-- ITS FALSE NEIGHBOUR: 'it returns false'. Refute it at one input. -/
def vfsPlaysWrong : ChangeSpec := { name := "vfsPlays", fn := fun _ => fun
  | [d1, d2, d3] => { results := [.lit (.bool false)], args := [d1, d2, d3] }
  | _ => none }
def VfsPlaysWrongFalsely : Prop := vfsPlaysRow.holds Try.pinned (OpenSpec.ofChange vfsPlaysWrong)

/- THE SECOND FORM. 'bulk': how many values and letters a reading holds, each counted each time it is reached (what is shared counts as often as it is met; a slice's spare places count too). A statement '..UptoSaid' is the law's where the arguments, and the package variables that the reading takes, are together of bulk at most 1048576: NARROWER than '..Said'. Prove '..Said' where nothing that the law and all that it calls make is longer than what came in: it says more and counts as full. Else prove '..UptoSaid'. A law counts once. -/
mutual
def uptoBulk {H : Type} : DataW H → Nat
  | .lit (.string bytes) => bytes.length + 1
  | .lit _ => 1
  | .nil => 1
  | .ptr d => uptoBulk d + 1
  | .slice elems spare => uptoBulkAll elems + uptoBulkAll spare + 1
  | .agg parts => uptoBulkAll parts + 1
  | .iface _ d => uptoBulk d + 1
  | .map entries => uptoBulkEntries entries + 1
  | .held _ => 1
def uptoBulkAll {H : Type} : List (DataW H) → Nat
  | [] => 0
  | d :: r => uptoBulk d + uptoBulkAll r
def uptoBulkEntries {H : Type} : List (Lit × DataW H) → Nat
  | [] => 0
  | x :: r => uptoBulkEntry x + uptoBulkEntries r
def uptoBulkEntry {H : Type} : Lit × DataW H → Nat
  | (.string bytes, d) => bytes.length + uptoBulk d + 1
  | (_, d) => uptoBulk d + 1
 end
def uptoSmall : (H : Type) → List (DataW H) → Bool := fun _ ds => decide (uptoBulkAll ds ≤ 1048576)
def OpenSpec.upto (s : _root_.Go.ChangeSpec) : _root_.Go.OpenSpec := { _root_.Go.OpenSpec.ofChange s with cond := some uptoSmall }

/-- 'portolanlaw01.VfsFits', WHERE WHAT IT READS IS OF BULK AT MOST 1048576: true; the input reads as it did. -/
def vfsFitsUptoRow : OpenClaim := { program := "ytkdodclenhnfcaa", sum := "ffe2f3e0ccc1e281a2cebdb2523538e962352900f37dc6ffdf63fcf98c0a46ea", func := "portolan/portolanlaw01.VfsFits", spec := "vfsFits", apart := false, narrowed := true }
def VfsFitsUptoSaid : Prop := vfsFitsUptoRow.holds Try.pinned (OpenSpec.upto vfsFitsSpec)

/-- 'portolanlaw01.VfsKeeps', WHERE WHAT IT READS IS OF BULK AT MOST 1048576: true; the input reads as it did. -/
def vfsKeepsUptoRow : OpenClaim := { program := "ytkdodclenhnfcaa", sum := "ffe2f3e0ccc1e281a2cebdb2523538e962352900f37dc6ffdf63fcf98c0a46ea", func := "portolan/portolanlaw01.VfsKeeps", spec := "vfsKeeps", apart := false, narrowed := true }
def VfsKeepsUptoSaid : Prop := vfsKeepsUptoRow.holds Try.pinned (OpenSpec.upto vfsKeepsSpec)

/-- 'portolanlaw01.VfsCounts', WHERE WHAT IT READS IS OF BULK AT MOST 1048576: true; the input reads as it did. -/
def vfsCountsUptoRow : OpenClaim := { program := "ytkdodclenhnfcaa", sum := "ffe2f3e0ccc1e281a2cebdb2523538e962352900f37dc6ffdf63fcf98c0a46ea", func := "portolan/portolanlaw01.VfsCounts", spec := "vfsCounts", apart := false, narrowed := true }
def VfsCountsUptoSaid : Prop := vfsCountsUptoRow.holds Try.pinned (OpenSpec.upto vfsCountsSpec)

/-- 'portolanlaw01.VfsNames', WHERE WHAT IT READS IS OF BULK AT MOST 1048576: true; the input reads as it did. -/
def vfsNamesUptoRow : OpenClaim := { program := "ytkdodclenhnfcaa", sum := "ffe2f3e0ccc1e281a2cebdb2523538e962352900f37dc6ffdf63fcf98c0a46ea", func := "portolan/portolanlaw01.VfsNames", spec := "vfsNames", unfollowed := true, recurses := true, apart := false, narrowed := true }
def VfsNamesUptoSaid : Prop := vfsNamesUptoRow.holds Try.pinned (OpenSpec.upto vfsNamesSpec)

/-- 'portolanlaw01.VfsBounds', WHERE WHAT IT READS IS OF BULK AT MOST 1048576: true; the input reads as it did. -/
def vfsBoundsUptoRow : OpenClaim := { program := "ytkdodclenhnfcaa", sum := "ffe2f3e0ccc1e281a2cebdb2523538e962352900f37dc6ffdf63fcf98c0a46ea", func := "portolan/portolanlaw01.VfsBounds", spec := "vfsBounds", unfollowed := true, recurses := true, apart := false, narrowed := true }
def VfsBoundsUptoSaid : Prop := vfsBoundsUptoRow.holds Try.pinned (OpenSpec.upto vfsBoundsSpec)

/-- 'portolanlaw01.VfsPlays', WHERE WHAT IT READS IS OF BULK AT MOST 1048576: true; the input reads as it did. -/
def vfsPlaysUptoRow : OpenClaim := { program := "ytkdodclenhnfcaa", sum := "ffe2f3e0ccc1e281a2cebdb2523538e962352900f37dc6ffdf63fcf98c0a46ea", func := "portolan/portolanlaw01.VfsPlays", spec := "vfsPlays", unfollowed := true, recurses := true, apart := false, narrowed := true }
def VfsPlaysUptoSaid : Prop := vfsPlaysUptoRow.holds Try.pinned (OpenSpec.upto vfsPlaysSpec)

end Rows
end Go.Proofs.Ytkdodclenhnfcaa
