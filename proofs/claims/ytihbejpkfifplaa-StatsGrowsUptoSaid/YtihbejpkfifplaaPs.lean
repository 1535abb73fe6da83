/- What a plan binds. -/
import Derived.Test.YtihbejpkfifplaaPg
import Derived.Test.YtihbejpkfifplaaPh
set_option linter.unusedVariables false
set_option linter.unusedSimpArgs false
set_option maxRecDepth 100000
namespace Go.Proofs.Ytihbejpkfifplaa.Z
open Go Go.Fw
def wants (op : Int) : Option Nat := if op = 1 then some 0 else if op = 2 then some 1 else if op = 3 then some 1 else if op = 4 then some 2 else if op = 5 then some 1 else if op = 6 then some 1 else none
/-- a Join's second kid's, behind so many slots of the first one's -/
def jn (n : Int) (a b : List Bool) : Nat → Bool × List Bool
  | 0 => (true, b)
  | i + 1 => ((jn n a b i).1 && !(rdI a i && (rdI (jn n a b i).2 i && decide (n ≤ i))), (jn n a b i).2.set i (rdI (jn n a b i).2 i || rdI a i))
def opS (c : CoreT) (p : PlanT) (bs : List (List Bool)) : Option (List Bool) :=
  if p.op = 1 then (if 0 ≤ p.slot ∧ p.slot < c.nodes.length then some ((List.replicate (c.nodes.length + c.edges.length) false).set p.slot.toNat true) else none)
  else if p.op = 2 ∨ p.op = 3 then (if edgeB c p (bs.getD 0 []) then some (edgeL c p (bs.getD 0 [])) else none)
  else if p.op = 4 then (if (jn c.nodes.length (bs.getD 0 []) (bs.getD 1 []) (c.nodes.length + c.edges.length)).1 then some (jn c.nodes.length (bs.getD 0 []) (bs.getD 1 []) (c.nodes.length + c.edges.length)).2 else none)
  else if p.op = 5 then (if meetB c p (bs.getD 0 []) then some (meetR c p (bs.getD 0 [])) else none)
  else if p.terms.all (bindsS (bs.getD 0 [])) then some (bs.getD 0 []) else none
mutual
def bndT (c : CoreT) : PlanT → Option (List Bool)
  | .mk o k s e b t => if wants o = some k.length then (bndL c k).bind (opS c (.mk o k s e b t)) else none
def bndL (c : CoreT) : List PlanT → Option (List (List Bool))
  | [] => some []
  | p :: r => (bndT c p).bind fun b => (bndL c r).map fun bs => b :: bs
end
theorem bndT_eq (c : CoreT) (p : PlanT) : bndT c p = if wants p.op = some p.kids.length then (bndL c p.kids).bind (opS c p) else none := by cases p; rw [bndT]; rfl
def resB : Option (List Bool) → V
  | none => vnil
  | some b => .rs 0 1 0 b.length
def stoB : Option (List Bool) → Store
  | none => []
  | some b => [(0, .data 1 (b.map encB))]
theorem pat_rng {c : CoreT} (h : patS c.nodes c.edges = true) : 1 ≤ c.nodes.length ∧ c.nodes.length ≤ 8 ∧ c.edges.length ≤ 8 := by
  simp [patS] at h; omega
theorem edgeL_len (c : CoreT) (p : PlanT) (b : List Bool) : (edgeL c p b).length = b.length := by unfold edgeL; split <;> simp
theorem meetL_len (c : CoreT) (s : Int) (l : List Int) (b : List Bool) : (meetL c s l b).2.length = b.length := by
  induction l generalizing b with
  | nil => rfl
  | cons e r ih => rw [meetL]; split <;> simp [ih]
theorem meetR_len (c : CoreT) (p : PlanT) (b : List Bool) : (meetR c p b).length = b.length := by
  unfold meetR; split
  · rfl
  · split <;> simp [meetL_len]
theorem jn_len (n : Int) (a b : List Bool) (i : Nat) : (jn n a b i).2.length = b.length := by
  induction i with
  | zero => rfl
  | succ i ih => simp [jn, ih]
end Go.Proofs.Ytihbejpkfifplaa.Z
