/- A scope whose gotos all lead forward to one label: what stands behind the label is walked once for each jump. -/
import Derived.ScopeJumps
import Derived.WalkKit
namespace Go.Proofs.Ytkdodclenhnfcaa.Fwd
set_option linter.unusedVariables false
set_option linter.unusedSimpArgs false
open Go

/-- As Q; by a goto to label l: what stands behind it, from where no goto leads out. -/
def fwd (P : Program) (l : Nat) (rest : Code) (Q : Exit → Act → World → Prop) : Exit → Act → World → Prop
  | .goto l', a, w => l' = l ∧ rest.wp P (Exit.noGoto Q) a w
  | e, a, w => Q e a w

section
variable {P : Program} {l : Nat} {rest c : Code} {Q : Exit → Act → World → Prop} {a : Act} {w : World}
theorem fwd_normal : fwd P l rest Q .normal a w = Q .normal a w := rfl
theorem fwd_exit (id : Nat) : fwd P l rest Q (.exit id) a w = Q (.exit id) a w := rfl
theorem fwd_ret : fwd P l rest Q .ret a w = Q .ret a w := rfl
theorem fwd_panic (ch : List PanicEntry) : fwd P l rest Q (.panic ch) a w = Q (.panic ch) a w := rfl
theorem fwd_goto : fwd P l rest Q (.goto l) a w = (rest.wp P (Exit.noGoto Q) a w) := by simp [fwd]

theorem wp_scope_fwd (l : Nat) (rest : Code) (hf : findLabel c l = some rest) (h : c.wp P (fwd P l rest Q) a w) : (Code.scope c).wp P Q a w := by
  refine wp_scope_jumps l (fun a w => rest.wp P (Exit.noGoto Q) a w) (fun _ _ => 0) hf ?_ ?_
  · refine Code.wp_mono (fun e a w q => ?_) h
    cases e <;> first | exact q | skip
  · intro a w hJ
    refine Code.wp_mono (fun e a w q => ?_) hJ
    cases e <;> first | exact q | exact q.elim
end
attribute [local go_sem] fwd_normal
end Go.Proofs.Ytkdodclenhnfcaa.Fwd
