/- What an estimate is: plain functions. -/
import Derived.Test.YtihbejpkfifplaaPo
import Derived.Test.YtihbejpkfifplaaPx
set_option linter.unusedVariables false
set_option linter.unusedSimpArgs false
set_option maxRecDepth 100000
namespace Go.Proofs.Ytihbejpkfifplaa.Z
open Go Go.Fw
theorem encC_ok {c : CoreT} {s : StatsT} (h : (D.ag (encC c ++ encS s)).ok) {e : EdgeT} (he : e ∈ c.edges) : e.hi ≤ 9223372036854775807 := by
  simp only [encC, encS, List.cons_append, List.nil_append, D.ok, D.okL] at h
  have h1 := (okR_map encE c.edges).1 h.2.1.2 e he
  simp only [encE, D.okL, ok_i64] at h1
  exact h1.2.2.2.2.2.2.1.2
def nodesS (c : CoreT) (s : StatsT) (slot : Int) : Int := cntS s.nodes (rdI c.nodes slot).type
def edgesS (c : CoreT) (s : StatsT) (k : Int) : Int := cntS s.edges (rdI c.edges k).type
theorem nodesS_rng (c : CoreT) (s : StatsT) (i : Int) : 0 ≤ nodesS c s i ∧ nodesS c s i ≤ 1099511627776 := cntS_rng _ _
theorem edgesS_rng (c : CoreT) (s : StatsT) (i : Int) : 0 ≤ edgesS c s i ∧ edgesS c s i ≤ 1099511627776 := cntS_rng _ _
/-- a path's share, for so many edges -/
def pathN (d : Int) : Nat → Int
  | 0 => 1
  | i + 1 => if pathN d i < 1099511627776 then mulS (pathN d i) (clipS (d + 1)) else pathN d i
def pathS (mx d : Int) : Int := if 0 < d then pathN d mx.toNat else 1
theorem pathN_rng (d : Int) (i : Nat) : 0 ≤ pathN d i ∧ pathN d i ≤ 1099511627776 := by
  induction i with
  | zero => simp [pathN]
  | succ i ih =>
    rw [pathN]
    split
    · have := clip_rng (d + 1); exact mul_rng ih.1 ih.2 this.1 this.2
    · exact ih
theorem pathN_stuck {d : Int} {i : Nat} (h : 1099511627776 ≤ pathN d i) (j : Nat) : pathN d (i + j) = pathN d i := by
  induction j with
  | zero => rfl
  | succ j ih => rw [← Nat.add_assoc, pathN, ih, if_neg (by omega)]
theorem pathS_end {mx d : Int} {i : Nat} (hd : 0 < d) (h : mx ≤ i ∨ 1099511627776 ≤ pathN d i) (hi : i = 0 ∨ (i : Int) ≤ mx) : pathS mx d = pathN d i := by
  rw [pathS, if_pos hd]
  rcases h with h | h
  · rcases hi with rfl | hi
    · rw [show mx.toNat = 0 by omega]
    · rw [show mx.toNat = i by omega]
  · rcases hi with rfl | hi
    · simp [pathN] at h
    · obtain ⟨j, hj⟩ : ∃ j, mx.toNat = i + j := ⟨mx.toNat - i, by omega⟩
      rw [hj, pathN_stuck h]
def fromE (c : CoreT) (p : PlanT) : Int := if p.back then (rdI c.edges (rdI p.edges 0)).dst else (rdI c.edges (rdI p.edges 0)).src
def toE (c : CoreT) (p : PlanT) : Int := if p.back then (rdI c.edges (rdI p.edges 0)).src else (rdI c.edges (rdI p.edges 0)).dst
def stepD (c : CoreT) (s : StatsT) (p : PlanT) : Int :=
  if p.op = 3 then pathS (rdI c.edges (rdI p.edges 0)).hi (shareS (edgesS c s (rdI p.edges 0)) (nodesS c s (fromE c p))) else shareS (edgesS c s (rdI p.edges 0)) (nodesS c s (fromE c p))
def stepS (c : CoreT) (s : StatsT) (p : PlanT) (n : Int) (b : List Bool) : Int :=
  if rdI b (toE c p) then shareS (mulS n (stepD c s p)) (nodesS c s (toE c p)) else mulS n (stepD c s p)
def joinE (c : CoreT) (s : StatsT) (a b : List Bool) (n : Int) : Nat → Int
  | 0 => n
  | i + 1 => if rdI a i && rdI b i then shareS (joinE c s a b n i) (nodesS c s i) else joinE c s a b n i
def meetE (c : CoreT) (s : StatsT) (p : PlanT) (n : Int) : Nat → Int
  | 0 => mulS n (nodesS c s p.slot)
  | i + 1 => shareS (shareS (mulS (meetE c s p n i) (edgesS c s (rdI p.edges i))) (nodesS c s p.slot)) (nodesS c s (if (rdI c.edges (rdI p.edges i)).src = p.slot then (rdI c.edges (rdI p.edges i)).dst else (rdI c.edges (rdI p.edges i)).src))
def filtE (n : Int) : Nat → Int
  | 0 => n
  | i + 1 => shareS (filtE n i) 3
theorem share_rng' {a b : Int} (ha : 0 ≤ a ∧ a ≤ 1099511627776) (hb : 0 ≤ b ∧ b ≤ 1099511627776) : 0 ≤ shareS a b ∧ shareS a b ≤ 1099511627776 := by
  have := share_rng ha.1 ha.2 hb.1; omega
theorem mul_rng' {a b : Int} (ha : 0 ≤ a ∧ a ≤ 1099511627776) (hb : 0 ≤ b ∧ b ≤ 1099511627776) : 0 ≤ mulS a b ∧ mulS a b ≤ 1099511627776 := mul_rng ha.1 ha.2 hb.1 hb.2
theorem filtE_rng {n : Int} (hn : 0 ≤ n ∧ n ≤ 1099511627776) (i : Nat) : 0 ≤ filtE n i ∧ filtE n i ≤ 1099511627776 := by
  induction i with
  | zero => exact hn
  | succ i ih => exact share_rng' ih (by omega)
theorem joinE_rng {c : CoreT} {s : StatsT} {a b : List Bool} {n : Int} (hn : 0 ≤ n ∧ n ≤ 1099511627776) (i : Nat) : 0 ≤ joinE c s a b n i ∧ joinE c s a b n i ≤ 1099511627776 := by
  induction i with
  | zero => exact hn
  | succ i ih => 
    rw [joinE]
    split
    · exact share_rng' ih (nodesS_rng _ _ _)
    · exact ih
theorem meetE_rng {c : CoreT} {s : StatsT} {p : PlanT} {n : Int} (hn : 0 ≤ n ∧ n ≤ 1099511627776) (i : Nat) : 0 ≤ meetE c s p n i ∧ meetE c s p n i ≤ 1099511627776 := by
  induction i with
  | zero => exact mul_rng' hn (nodesS_rng _ _ _)
  | succ i ih => exact share_rng' (share_rng' (mul_rng' ih (edgesS_rng _ _ _)) (nodesS_rng _ _ _)) (nodesS_rng _ _ _)
theorem stepD_rng (c : CoreT) (s : StatsT) (p : PlanT) : 0 ≤ stepD c s p ∧ stepD c s p ≤ 1099511627776 := by
  unfold stepD
  split
  · unfold pathS
    split
    · exact pathN_rng _ _
    · omega
  · exact share_rng' (edgesS_rng _ _ _) (nodesS_rng _ _ _)
theorem stepS_rng {c : CoreT} {s : StatsT} {p : PlanT} {n : Int} {b : List Bool} (hn : 0 ≤ n ∧ n ≤ 1099511627776) : 0 ≤ stepS c s p n b ∧ stepS c s p n b ≤ 1099511627776 := by
  have h := mul_rng' hn (stepD_rng c s p)
  unfold stepS
  split
  · exact share_rng' h (nodesS_rng _ _ _)
  · exact h
theorem nodesS_ok (c : CoreT) (s : StatsT) (slot : Int) (h0 : 0 ≤ slot) (h1 : slot < c.nodes.length) : Snd P 63 [.d (.ag (encC c ++ encS s)), .int slot] (.int (nodesS c s slot)) [] := nodes_ok c s slot h0 h1
theorem edgesS_ok (c : CoreT) (s : StatsT) (slot : Int) (h0 : 0 ≤ slot) (h1 : slot < c.edges.length) : Snd P 65 [.d (.ag (encC c ++ encS s)), .int slot] (.int (edgesS c s slot)) [] := edges_ok c s slot h0 h1
theorem share_ok' (a b : Int) (ha : 0 ≤ a ∧ a ≤ 1099511627776) (hb : 0 ≤ b ∧ b ≤ 1099511627776) : Snd P 64 [.int a, .int b] (.int (shareS a b)) [] := share_ok a b ha.1 ha.2 hb.1 hb.2
theorem prod2_ok (a b : Int) (ha : 0 ≤ a ∧ a ≤ 1099511627776) (hb : 0 ≤ b ∧ b ≤ 1099511627776) : SndW P 66 [.rs 0 1 0 2] [(0, .data 1 [[D.int a], [D.int b]])] (.int (mulS a b)) [(0, .data 1 [[D.int a], [D.int b]])] := by
  have h := product_ok [a, b] (by intro x hx; simp at hx; rcases hx with rfl | rfl <;> assumption) (by simp)
  rw [prod_two ha.1 ha.2 hb.1 hb.2] at h
  exact h
end Go.Proofs.Ytihbejpkfifplaa.Z
