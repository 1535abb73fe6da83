/- What simp is to know of the walk. -/
import Derived.Test.YtihbejpkfifplaaFu
set_option linter.unusedVariables false
set_option linter.unusedSimpArgs false
namespace Go.Fw
attribute [simp] EvO exec cls look put getB putB guardOf opP opR opA opW opAppend callOf loadV partV one mkAg toDs cellsOfV aggCells binV binI isNil nilLit vkind nilV eqNil unV idxV sliceV sliceS optInt cutSl cutRs cutStr convV minmax lenV fillV setAt lits litsD oneCells chop newId hitO srcRows baseRows srcV baseV opAppendV lookV updV findK lookR Instr.sameNow V.fgt V.fgtL Blk.fgt fgtS V.men V.menL setRow V.shift V.shiftL Blk.shift addS Value.oneCell
attribute [simp] V.ren V.renL Blk.ren rho renS dropS lost puts Blk.men badId okW give
attribute [simp] setG gs_tt gs_ff gs_tf gs_ft
attribute [simp] Then_normal Then_exit Then_goto Then_ret Blok_normal Blok_exit Blok_goto Blok_ret leE leS
attribute [simp] enterE enterS ks makes madeIn
attribute [simp] resV resList V.fin V.finL Blk.fin finS frz frzP
/-- an element, by an index that is in bounds -/
def rdI {α : Type} [Inhabited α] (l : List α) (i : Int) : α := l.getD i.toNat default
theorem rdI_mem {α : Type} [Inhabited α] {l : List α} {i : Int} (h0 : 0 ≤ i) (h1 : i < (l.length : Int)) : rdI l i ∈ l := by
  have : i.toNat < l.length := by omega
  simp [rdI, List.getD_eq_getElem?_getD, this]
@[simp] theorem rowAt_map {α : Type} [Inhabited α] {f : α → List D} {l : List α} {i : Int} (h0 : 0 ≤ i) (h1 : i < (l.length : Int)) : rowAt (l.map f) i = f (rdI l i) := by
  have : i.toNat < l.length := by omega
  simp [rowAt, rdI, List.getD_eq_getElem?_getD, this]
end Go.Fw
