/- Costs; counts that grow. -/
import Derived.Test.YtihbejpkfifplaaQa
set_option linter.unusedVariables false
set_option linter.unusedSimpArgs false
set_option maxRecDepth 100000
namespace Go.Proofs.Ytihbejpkfifplaa.Z
open Go Go.Fw
mutual
def costT (c : CoreT) (s : StatsT) : PlanT → Int
  | .mk o k sl e b t => costL c s k (estS c s (.mk o k sl e b t))
def costL (c : CoreT) (s : StatsT) : List PlanT → Int → Int
  | [], n => n
  | q :: r, n => costL c s r (clipS (n + costT c s q))
end
theorem costT_eq (c : CoreT) (s : StatsT) (p : PlanT) : costT c s p = costL c s p.kids (estS c s p) := by cases p; rw [costT]; rfl
theorem clip_ge {n x : Int} (h1 : n ≤ 1099511627776) (hx : n ≤ x) : n ≤ clipS x := by unfold clipS; split <;> (try split) <;> omega
mutual
theorem costT_rng (c : CoreT) (s : StatsT) : ∀ p : PlanT, 0 ≤ costT c s p ∧ costT c s p ≤ 1099511627776
  | .mk o k sl e b t => by
    have h := estS_nn c s (.mk o k sl e b t)
    have := costL_rng c s k (estS c s (.mk o k sl e b t)) h.1 h.2
    rw [costT]; omega
theorem costL_rng (c : CoreT) (s : StatsT) : ∀ (l : List PlanT) (n : Int), 0 ≤ n → n ≤ 1099511627776 → n ≤ costL c s l n ∧ costL c s l n ≤ 1099511627776
  | [], n, h0, h1 => by rw [costL]; omega
  | q :: r, n, h0, h1 => by
    have h2 := costT_rng c s q
    have h3 := clip_rng (n + costT c s q)
    have h4 := clip_ge h1 (show n ≤ n + costT c s q by omega)
    have := costL_rng c s r (clipS (n + costT c s q)) h3.1 h3.2
    rw [costL]; omega
end
theorem cost_est (c : CoreT) (s : StatsT) (p : PlanT) : estS c s p ≤ costT c s p := by
  have h := estS_nn c s p
  rw [costT_eq]; exact (costL_rng c s p.kids _ h.1 h.2).1
theorem costL_kid (c : CoreT) (s : StatsT) {l : List PlanT} {q : PlanT} (hq : q ∈ l) {n : Int} (h0 : 0 ≤ n) (h1 : n ≤ 1099511627776) : costT c s q ≤ costL c s l n := by
  induction l generalizing n with
  | nil => cases hq
  | cons x r ih =>
    have h2 := costT_rng c s x
    have h3 := clip_rng (n + costT c s x)
    rw [costL]
    rcases List.mem_cons.1 hq with rfl | hq
    · have h4 := clip_ge h2.2 (show costT c s q ≤ n + costT c s q by omega)
      have := costL_rng c s r (clipS (n + costT c s q)) h3.1 h3.2
      omega
    · exact ih hq h3.1 h3.2
theorem cost_kid (c : CoreT) (s : StatsT) {p q : PlanT} (hq : q ∈ p.kids) : costT c s q ≤ costT c s p := by
  have h := estS_nn c s p
  rw [costT_eq c s p]; exact costL_kid c s hq h.1 h.2
theorem costL_step {c : CoreT} {s : StatsT} {l : List PlanT} {i : Nat} {n : Int} (hi : i < l.length) : costL c s (l.drop i) n = costL c s (l.drop (i + 1)) (clipS (n + costT c s (rdI l i))) := by
  rw [drop_rd hi, costL]
theorem costL_end {c : CoreT} {s : StatsT} {l : List PlanT} {i : Nat} {n : Int} (hi : l.length ≤ i) : costL c s (l.drop i) n = n := by
  rw [List.drop_of_length_le hi, costL]
set_option maxHeartbeats 4000000 in
theorem cost1_ok (c : CoreT) (s : StatsT) (p : PlanT) (hf : partsP p ≤ 1000000) (IH : ∀ i : Nat, i < p.kids.length → Snd P 17 [.d (.ag (encP (rdI p.kids i))), .d (.ag (encC c)), .d (.ag (encS s))] (.int (costT c s (rdI p.kids i))) []) : Snd P 17 [.d (.ag (encP p)), .d (.ag (encC c)), .d (.ag (encS s))] (.int (costT c s p)) [] := by
  refine Snd.ok 0 rfl (by kernel_rfl) fun hok => ?_
  have hkm := (encP_ok hok).1
  clear hok
  have hE := Estimate_ok c s p hf
  rw [encP_cells] at hE
  have hce := costT_eq c s p
  have her := estS_nn c s p
  obtain ⟨m, hm⟩ : ∃ m, p.kids.length = m := ⟨_, rfl⟩
  obtain ⟨e0, he0⟩ : ∃ m, estS c s p = m := ⟨_, rfl⟩
  rw [he0] at hE hce her
  rw [hm] at hkm
  refine snd_of [] Try.func17 rfl (by kernel_rfl) Try.ntmps17 (by simp) ?_
  unfold Try.f17
  simp only [List.cons_append, List.nil_append, List.length_cons, List.length_nil, Nat.reduceAdd, Nat.reduceSub, List.replicate]
  refine Run.seq ?_
  refine Run.opsM false [⟨Op.box 27 (Operand.tmp 0), some 3, none⟩, ⟨Op.box 33 (Operand.tmp 1), some 4, none⟩, ⟨Op.box 53 (Operand.tmp 2), some 5, none⟩, ⟨Op.assign (Operand.const (Value.int IntKind.i64 0)), some 6, none⟩] mixed (by decide) rfl fun K hK => ?_
  try simp
  repeat' first | ((refine evL_c ?_); simp [hm]) | (with_reducible refine And.intro ?_ ?_) | intro _ | (with_reducible assumption) | omega
  all_goals (refine Fin.go hK ?_; clear hK K)
  simp only [Then_normal]
  refine Run.seq ?_
  refine Run.opsM false [⟨Op.load 27 (Operand.tmp 3), some 10, none⟩, ⟨Op.load 33 (Operand.tmp 4), some 11, none⟩, ⟨Op.load 53 (Operand.tmp 5), some 12, none⟩, ⟨Op.call { callee := Callee.value (Operand.func 15), args := #[Operand.tmp 10, Operand.tmp 11, Operand.tmp 12], argTypes := #[27, 33, 53] }, some 13, none⟩, ⟨Op.assign (Operand.tmp 13), some 7, none⟩] mixed (by decide) rfl fun K hK => ?_
  try simp
  repeat' first | (refine ecallD (by exact hE) ?_) | ((refine evL_c ?_); simp [hm]) | (with_reducible refine And.intro ?_ ?_) | intro _ | (with_reducible assumption) | omega
  all_goals (refine Fin.go hK ?_; clear hK K)
  simp only [Then_normal]
  refine Run.seq ?_
  refine Run.seq ?_
  refine Run.opsM false [⟨Op.fieldAddr 27 (Operand.tmp 3) 1, some 14, none⟩, ⟨Op.load 23 (Operand.tmp 14), some 15, none⟩, ⟨Op.call { callee := Callee.builtin Builtin.len, args := #[Operand.tmp 15], argTypes := #[23] }, some 16, none⟩, ⟨Op.move (Operand.const (Value.int IntKind.i64 0)), some 17, none⟩] mixed (by decide) rfl fun K hK => ?_
  try simp
  repeat' first | ((refine evL_c ?_); simp [hm]) | (with_reducible refine And.intro ?_ ?_) | intro _ | (with_reducible assumption) | omega
  all_goals (refine Fin.go hK ?_; clear hK K)
  simp only [Then_normal]
  refine Run.block ?_
  refine Run.loopO [7, 9, 17, 18, 19, 20, 21, 22, 23, 24, 25, 26, 27, 28] (fun (x : Nat × Int) => [(17, .int x.1), (7, .int x.2)]) (fun (x : Nat × Int) => [(400, .vals ((encP p).map .d)), (500, .vals ((encC c).map .d)), (600, .vals ((encS s).map .d))]) (fun (x : Nat × Int) => x.1 ≤ m ∧ (0 ≤ x.2 ∧ x.2 ≤ 1099511627776) ∧ costL c s (p.kids.drop x.1) x.2 = costT c s p) (fun (x : Nat × Int) => m - x.1) (0, e0) ⟨by omega, her, hce.symm⟩ (by simp) fun ⟨i, n⟩ ⟨hi, hr, hg⟩ => ?_
  simp only at hi hr hg
  simp only [over, List.foldl, List.set]
  refine Run.seq ?_
  refine Run.opsM false [⟨Op.binOp BinOp.lss 3 (Operand.tmp 17) (Operand.tmp 16) 3, some 18, none⟩] mixed (by decide) rfl fun K hK => ?_
  try simp
  repeat' first | ((refine evL_c ?_); simp [hm]) | (with_reducible refine And.intro ?_ ?_) | intro _ | (with_reducible assumption) | omega
  all_goals (refine Fin.go hK ?_; clear hK K)
  simp only [Then_normal]
  refine Run.seq ?_
  refine Run.cond rfl (fun h18 => ?_) (fun h18 => ?_)
  · try simp at h18
    have hi1 : i < m := by omega
    have hT := IH i (by omega)
    have hkr := costT_rng c s (rdI p.kids i)
    obtain ⟨k, hk⟩ : ∃ x, costT c s (rdI p.kids i) = x := ⟨_, rfl⟩
    rw [hk] at hT hkr
    rw [encP_cells] at hT
    have hw : IntKind.i64.wrap (n + k) = n + k := wrap_id (by omega) (by omega)
    refine Run.skip ?_
    simp only [Then_normal]
    refine Run.seq ?_
    refine Run.block ?_
    refine Run.seq ?_
    refine Run.opsM false [⟨Op.indexAddr 23 (Operand.tmp 15) (Operand.tmp 17), some 19, none⟩, ⟨Op.load 27 (Operand.tmp 19), some 20, none⟩, ⟨Op.alloc 27, some 9, none⟩, ⟨Op.store 27 (Operand.tmp 9) (Operand.tmp 20), none, none⟩] mixed (by decide) rfl fun K hK => ?_
    try simp
    repeat' first | ((refine evL_c ?_); simp [hm, hi1, hw]) | (with_reducible refine And.intro ?_ ?_) | intro _ | (with_reducible assumption) | omega
    all_goals (refine Fin.go hK ?_; clear hK K)
    simp only [Then_normal]
    refine Run.opsM false [⟨Op.move (Operand.tmp 7), some 21, none⟩, ⟨Op.load 27 (Operand.tmp 9), some 22, none⟩, ⟨Op.load 33 (Operand.tmp 4), some 23, none⟩, ⟨Op.load 53 (Operand.tmp 5), some 24, none⟩, ⟨Op.call { callee := Callee.value (Operand.func 17), args := #[Operand.tmp 22, Operand.tmp 23, Operand.tmp 24], argTypes := #[27, 33, 53] }, some 25, none⟩, ⟨Op.binOp BinOp.add 2 (Operand.tmp 21) (Operand.tmp 25) 2, some 26, none⟩, ⟨Op.call { callee := Callee.value (Operand.func 34), args := #[Operand.tmp 26], argTypes := #[2] }, some 27, none⟩, ⟨Op.assign (Operand.tmp 27), some 7, none⟩] mixed (by decide) rfl fun K hK => ?_
    try simp
    repeat' first | (refine ecallD (by exact hT) ?_) | (refine ecallD (clip_ok _) ?_) | ((refine evL_c ?_); simp [hm, hi1, hw]) | (with_reducible refine And.intro ?_ ?_) | intro _ | (with_reducible assumption) | omega
    all_goals (refine Fin.go hK ?_; clear hK K)
    simp only [Blok_normal]
    simp only [Then_normal]
    refine Run.opsM false [⟨Op.binOp BinOp.add 3 (Operand.tmp 17) (Operand.const (Value.int IntKind.i64 1)) 3, some 28, none⟩, ⟨Op.move (Operand.tmp 28), some 17, none⟩] mixed (by decide) rfl fun K hK => ?_
    try simp
    repeat' first | ((refine evL_c ?_); simp [hm, hi1, hw]) | (with_reducible refine And.intro ?_ ?_) | intro _ | (with_reducible assumption) | omega
    all_goals (refine Fin.go hK ?_; clear hK K)
    refine ⟨(i + 1, clipS (n + k)), ⟨by simp; omega, clip_rng _, ?_⟩, by simp; omega, ?_⟩
    · rw [← hg, costL_step (l := p.kids) (i := i) (n := n) (by omega), hk]
    · simp (disch := omega) [hm, wrap_id]
  · try simp at h18
    rw [costL_end (by omega)] at hg
    refine Run.exit ?_
    simp (decide := true) only [Then_exit, Blok_exit, if_true, if_false]
    simp only [Then_normal]
    refine Run.seq ?_
    refine Run.opsM false [⟨Op.move (Operand.tmp 7), some 29, none⟩, ⟨Op.assign (Operand.tmp 29), some 6, none⟩] mixed (by decide) rfl fun K hK => ?_
    try simp
    repeat' first | ((refine evL_c ?_); simp [hm]) | (with_reducible refine And.intro ?_ ?_) | intro _ | (with_reducible assumption) | omega
    all_goals (refine Fin.go hK ?_; clear hK K)
    simp only [Then_normal]
    refine Run.ret ?_
    try simp only [Then_ret, Blok_ret]
    simp [hg]


theorem cost_ok (c : CoreT) (s : StatsT) (p : PlanT) (hf : partsP p ≤ 1000000) : Snd P 17 [.d (.ag (encP p)), .d (.ag (encC c)), .d (.ag (encS s))] (.int (costT c s p)) [] :=
  cost1_ok c s p hf fun i hi =>
    have := kids_lt (kid_mem (p := p) hi)
    cost_ok c s (rdI p.kids i) (kid_fine hf hi)
termination_by SizeOf.sizeOf p
/-! counts that grow -/
theorem clip_mono {a b : Int} (h : a ≤ b) : clipS a ≤ clipS b := by unfold clipS; split <;> split <;> (try split) <;> (try split) <;> omega
theorem share_mono {a b : Int} (h : a ≤ b) (x : Int) : shareS a x ≤ shareS b x := by
  unfold shareS
  exact Int.ediv_le_ediv (by omega) (by omega)
theorem mulS_min {a b : Int} (ha : 0 ≤ a) (hb : 0 ≤ b) : mulS a b = if 1099511627776 < a * b then 1099511627776 else a * b := by
  unfold mulS
  by_cases h : 0 < a
  · have h1 : 1099511627776 / a < b ↔ 1099511627776 < b * a := Int.ediv_lt_iff_lt_mul h
    rw [Int.mul_comm b a] at h1
    by_cases q : 1099511627776 < a * b
    · rw [if_pos q, if_pos ⟨h, h1.2 q⟩]
    · rw [if_neg q, if_neg (fun z => q (h1.1 z.2))]
  · have : a = 0 := by omega
    subst this
    simp
theorem mul_mono {a b x y : Int} (ha : 0 ≤ a) (hb : 0 ≤ b) (h1 : a ≤ x) (h2 : b ≤ y) : mulS a b ≤ mulS x y := by
  rw [mulS_min ha hb, mulS_min (by omega) (by omega)]
  have h : a * b ≤ x * y := Int.mul_le_mul h1 h2 hb (by omega)
  split <;> split <;> omega
def LeL (a b : List Int) : Prop := a.length = b.length ∧ ∀ j : Nat, j < a.length → rdI a j ≤ rdI b j
theorem cntN_mono {a b : List Int} (h : LeL a b) (t : Int) (i : Nat) (hi : i ≤ a.length) : cntN a t i ≤ cntN b t i := by
  induction i with
  | zero => rw [cntN_zero, cntN_zero]; exact Int.le_refl _
  | succ i ih =>
    have h1 := ih (by omega)
    rw [cntN_succ a t i (by omega), cntN_succ b t i (by rw [← h.1]; omega)]
    split
    · have := clip_mono (h.2 i (by omega))
      exact clip_mono (by omega)
    · exact h1
theorem cntS_mono {a b : List Int} (h : LeL a b) (t : Int) : cntS a t ≤ cntS b t := by
  have := cntN_mono h t a.length (Nat.le_refl _)
  rw [cntN_all] at this
  rw [← cntN_all b, ← h.1]; exact this
section
variable {c : CoreT} {s t : StatsT} (hn : t.nodes = s.nodes) (he : LeL s.edges t.edges)
include hn in
theorem nodes_same (i : Int) : nodesS c t i = nodesS c s i := by unfold nodesS; rw [hn]
include he in
theorem edges_mono (k : Int) : edgesS c s k ≤ edgesS c t k := cntS_mono he _
theorem pathN_pos {d : Int} (hd : 0 < d) (i : Nat) : 1 ≤ pathN d i := by
  induction i with
  | zero => simp [pathN]
  | succ i ih =>
    rw [pathN]
    split
    · have h1 : 1 ≤ clipS (d + 1) := by
        have := clip_mono (show (1 : Int) ≤ d + 1 by omega)
        simpa [clipS] using this
      have := mul_mono (a := 1) (b := 1) (by omega) (by omega) ih h1
      simpa [mulS] using this
    · exact ih
theorem pathN_mono {d x : Int} (hd : 0 ≤ d) (h : d ≤ x) (i : Nat) : pathN d i ≤ pathN x i := by
  induction i with
  | zero => simp [pathN]
  | succ i ih =>
    have r1 := pathN_rng d (i + 1)
    have r2 := pathN_rng d i
    have r3 := clip_rng (d + 1)
    have e1 : pathN d (i + 1) = if pathN d i < 1099511627776 then mulS (pathN d i) (clipS (d + 1)) else pathN d i := rfl
    have e2 : pathN x (i + 1) = if pathN x i < 1099511627776 then mulS (pathN x i) (clipS (x + 1)) else pathN x i := rfl
    by_cases h1 : pathN x i < 1099511627776
    · rw [e1, e2, if_pos h1, if_pos (by omega)]
      exact mul_mono r2.1 r3.1 ih (clip_mono (by omega))
    · rw [e2, if_neg h1]; omega
theorem pathS_mono {d x : Int} (hd : 0 ≤ d) (h : d ≤ x) (mx : Int) : pathS mx d ≤ pathS mx x := by
  unfold pathS
  by_cases h1 : 0 < d
  · rw [if_pos h1, if_pos (by omega)]; exact pathN_mono hd h _
  · rw [if_neg h1]
    split
    · rename_i h2; exact pathN_pos h2 _
    · exact Int.le_refl _
include hn he in
theorem stepD_mono (p : PlanT) : stepD c s p ≤ stepD c t p := by
  have h := share_mono (edges_mono (c := c) he (rdI p.edges 0)) (nodesS c s (fromE c p))
  unfold stepD
  rw [nodes_same hn]
  split
  · exact pathS_mono (share_rng' (edgesS_rng _ _ _) (nodesS_rng _ _ _)).1 h _
  · exact h
include hn he in
theorem stepS_mono (p : PlanT) {n m : Int} (h0 : 0 ≤ n) (h : n ≤ m) (b : List Bool) : stepS c s p n b ≤ stepS c t p m b := by
  have h1 := mul_mono h0 (stepD_rng c s p).1 h (stepD_mono (c := c) hn he p)
  unfold stepS
  rw [nodes_same hn]
  split
  · exact share_mono h1 _
  · exact h1
include hn in
theorem joinE_mono {n m : Int} (h : n ≤ m) (a b : List Bool) (i : Nat) : joinE c s a b n i ≤ joinE c t a b m i := by
  induction i with
  | zero => exact h
  | succ i ih =>
    rw [joinE, joinE, nodes_same hn]
    split
    · exact share_mono ih _
    · exact ih
include hn he in
theorem meetE_mono (p : PlanT) {n m : Int} (h0 : 0 ≤ n ∧ n ≤ 1099511627776) (h : n ≤ m) (i : Nat) : meetE c s p n i ≤ meetE c t p m i := by
  induction i with
  | zero => rw [meetE, meetE, nodes_same hn]; exact mul_mono h0.1 (nodesS_rng _ _ _).1 h (Int.le_refl _)
  | succ i ih =>
    rw [meetE, meetE, nodes_same hn, nodes_same hn]
    exact share_mono (share_mono (mul_mono (meetE_rng h0 i).1 (edgesS_rng _ _ _).1 ih (edges_mono he _)) _) _
theorem filtE_mono {n m : Int} (h : n ≤ m) (i : Nat) : filtE n i ≤ filtE m i := by
  induction i with
  | zero => exact h
  | succ i ih => exact share_mono ih _
include hn he in
theorem estT_mono (p : PlanT) (hr : (bndT c p).isSome = true) : estT c s p ≤ estT c t p := by
  have hw := right_wants hr
  have hk : ∀ i : Nat, i < p.kids.length → (p.kids.map (estT c s)).getD i 0 ≤ (p.kids.map (estT c t)).getD i 0 ∧ 0 ≤ (p.kids.map (estT c s)).getD i 0 ∧ (p.kids.map (estT c s)).getD i 0 ≤ 1099511627776 := fun i hi => by
    rw [getD_kids c s p hi, getD_kids c t p hi]
    have := kids_lt (kid_mem (p := p) hi)
    have hq := right_kids hr _ (kid_mem hi)
    exact ⟨estT_mono (rdI p.kids (i : Int)) hq, est_rng c s _ hq⟩
  rw [estT_eq, estT_eq]
  unfold estOp
  split
  · rw [nodes_same hn]; exact Int.le_refl _
  · rename_i n1
    have h0 := (wants_op hw).resolve_left n1
    have hl : 0 < p.kids.length := by
      rcases h0 with e | e | e | e | e <;> · rw [e] at hw; simp [wants] at hw; omega
    have k0 := hk 0 hl
    split
    · exact stepS_mono hn he p k0.2.1 k0.1 _
    · split
      · rename_i n3
        have hl2 : 1 < p.kids.length := by rw [n3] at hw; simp [wants] at hw; omega
        have k1 := hk 1 hl2
        exact joinE_mono hn (mul_mono k0.2.1 k1.2.1 k0.1 k1.1) _ _ _
      · split
        · exact meetE_mono hn he p k0.2 k0.1 _
        · exact filtE_mono k0.1 _
termination_by SizeOf.sizeOf p
include hn he in
theorem estS_mono (p : PlanT) : estS c s p ≤ estS c t p := by
  unfold estS
  split
  · rename_i h; exact estT_mono hn he p h.2
  · exact Int.le_refl _
end
/-! the law's other counts -/
def growN (l mo : List Int) : Nat → List Int
  | 0 => l
  | i + 1 => if rdI (growN l mo i) i < 4611686018427387904 then (growN l mo i).set i (rdI (growN l mo i) i + rdI mo i) else growN l mo i
theorem growN_len (l mo : List Int) (i : Nat) : (growN l mo i).length = l.length := by
  induction i with
  | zero => rfl
  | succ i ih => rw [growN]; split <;> simp [ih]
theorem rd_set_eq {l : List Int} {i : Nat} {x : Int} (h : i < l.length) : rdI (l.set i x) (i : Int) = x := by simp [rdI, List.getD_eq_getElem?_getD, h]
theorem rd_set_neI {l : List Int} {i j : Nat} {x : Int} (h : i ≠ j) : rdI (l.set i x) (j : Int) = rdI l j := by
  simp [rdI, List.getD_eq_getElem?_getD, List.getElem?_set_ne h]
theorem growN_le {l mo : List Int} (hm : ∀ x ∈ mo, 0 ≤ x) (i : Nat) (hi : i ≤ mo.length) : LeL l (growN l mo i) := by
  refine ⟨(growN_len l mo i).symm, fun j hj => ?_⟩
  induction i with
  | zero => exact Int.le_refl _
  | succ i ih =>
    have h1 := ih (by omega)
    rw [growN]
    split
    · by_cases e : i = j
      · subst e
        rw [rd_set_eq (by rw [growN_len]; exact hj)]
        have := hm _ (rdI_mem (l := mo) (i := i) (by omega) (by omega))
        omega
      · rw [rd_set_neI e]; exact h1
    · exact h1
end Go.Proofs.Ytihbejpkfifplaa.Z
