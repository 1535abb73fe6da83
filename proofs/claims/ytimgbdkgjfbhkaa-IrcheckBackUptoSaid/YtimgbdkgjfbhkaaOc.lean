/- Texts of this claim, put together: Pf, Pq, Pn, Pg, Ph, Ps, Pi. -/
import Derived.Test.YtimgbdkgjfbhkaaOb
import Derived.Test.YtimgbdkgjfbhkaaShelf
import Derived.Sort.OwnSortedInts
set_option linter.unusedVariables false
set_option linter.unusedSimpArgs false
set_option maxRecDepth 100000
namespace Go.Proofs.Ytimgbdkgjfbhkaa.Z
open Go Go.Fw
theorem opsF {Q : Exit → St → Prop} {id : Nat} {ops : Array Oper} {draw : Bool} (los : List LOp) {e : Env} {s : Store} (h : ∀ K : Env → Store → Prop, Fin Q K → EvL P (fun _ => false) K los (enterE ops.toList e) (enterS ops.toList s)) (hk : okReg (fun _ => false) draw ops.toList = true := by decide) (hl : ops.toList.map (lite ops.toList) = los := by rfl) : Run P (.region id ops draw) ⟨e, s⟩ Q := Run.opsM false los mixed hk hl h
theorem opsT {Q : Exit → St → Prop} {id : Nat} {ops : Array Oper} {draw : Bool} (los : List LOp) {e : Env} {s : Store} (h : ∀ K : Env → Store → Prop, Fin Q K → EvL P (fun _ => true) K los (enterE ops.toList e) (enterS ops.toList s)) (hk : okReg (fun _ => true) draw ops.toList = true := by decide) (hl : ops.toList.map (lite ops.toList) = los := by rfl) : Run P (.region id ops draw) ⟨e, s⟩ Q := Run.opsM true los mixed hk hl h
abbrev oo0 : List LOp := [⟨.box 112 (.tmp 0), some 3, none⟩, ⟨.box 48 (.tmp 1), some 4, none⟩, ⟨.assign (.const (.bool false)), some 6, none⟩]
abbrev oo1 : List LOp := [⟨.assign (.const (.bool false)), some 6, none⟩]
abbrev oo2 : List LOp := [⟨.assign (.const (.bool true)), some 6, none⟩]
abbrev oo3 : List LOp := [⟨.assign (.const (.int .i64 0)), some 4, none⟩]
abbrev oo4 : List LOp := [oM 0 6, oN 28 6 7, ⟨.move (.const (.int .i64 0)), some 8, none⟩]
abbrev oo5 : List LOp := [oB .lss 3 8 7 3 9]
abbrev oo6 : List LOp := [oM 8 10, oA 10 5]
abbrev oo7 : List LOp := [oM 1 11, oM 0 12, oM 5 13, oI 28 12 13 14, oL 89 14 15, ⟨.call { callee := .value (.tmp 11), args := #[.tmp 15], argTypes := #[89] }, some 16, none⟩]
abbrev oo8 : List LOp := [oM 5 17, oA 17 4]
abbrev oo9 : List LOp := [oK .add 3 8 1 3 18, oM 18 8]
abbrev oo10 : List LOp := [⟨.assign (.const (.int .i64 (-1))), some 4, none⟩]
abbrev oo11 : List LOp := [⟨.assign (.const (.bool false)), some 4, none⟩]
abbrev oo12 : List LOp := [oM 0 5, oM 1 6, oC 95 #[.tmp 5, .tmp 6] #[28, 131] 7, oK .geq 3 7 0 3 8, oA 8 4]
abbrev oo13 : List LOp := [⟨.box 112 (.tmp 0), some 2, none⟩, ⟨.box 48 (.tmp 1), some 3, none⟩, ⟨.assign (.const (.slice none 0 0)), some 4, none⟩]
abbrev oo14 : List LOp := [⟨.makeMap 140 none, some 16, none⟩, ⟨.insert 140 (.tmp 16) (.const (.int .i64 1)) (.const (.int .i64 0)), none, none⟩, ⟨.insert 140 (.tmp 16) (.const (.int .i64 2)) (.const (.int .i64 1)), none, none⟩, ⟨.insert 140 (.tmp 16) (.const (.int .i64 3)) (.const (.int .i64 1)), none, none⟩, ⟨.insert 140 (.tmp 16) (.const (.int .i64 4)) (.const (.int .i64 2)), none, none⟩, ⟨.insert 140 (.tmp 16) (.const (.int .i64 5)) (.const (.int .i64 1)), none, none⟩, ⟨.insert 140 (.tmp 16) (.const (.int .i64 6)) (.const (.int .i64 1)), none, none⟩, oM 16 17, oA 17 5]
abbrev oo15 : List LOp := [oM 5 19, oF 48 3 0 20, oL 44 20 21, ⟨.lookup 140 (.tmp 19) (.tmp 21) true, some 22, none⟩, oM 22 18, oX 18 0 23, oX 18 1 24, oA 23 6, oA 24 7]
abbrev oo16 : List LOp := [oM 7 25, ⟨.unOp .not 4 (.tmp 25), some 26, none⟩, oM 26 27, ⟨.move (.tmp 6), some 28, some (some 27, false)⟩, ⟨.fieldAddr 48 (.tmp 3) 1, some 29, some (some 27, false)⟩, ⟨.load 45 (.tmp 29), some 30, some (some 27, false)⟩, ⟨.call { callee := .builtin .len, args := #[.tmp 30], argTypes := #[45] }, some 31, some (some 27, false)⟩, ⟨.binOp .neq 3 (.tmp 28) (.tmp 31) 3, some 32, some (some 27, false)⟩, ⟨.pick (.tmp 27) (.const (.bool true)) (.tmp 32), some 33, none⟩]
abbrev oo17 : List LOp := [oF 112 2 1 34, oL 3 34 35, oF 112 2 0 36, oF 32 36 1 37, oL 27 37 38, oN 27 38 39, oB .add 3 35 39 3 40, ⟨.makeSlice 34 (.tmp 40) (.tmp 40), some 41, none⟩, ⟨.buildSlice 77 1 #[(0, .tmp 41)], some 42, none⟩, oA 42 8]
abbrev oo18 : List LOp := [oF 48 3 1 43, oL 45 43 44, oN 45 44 45, ⟨.move (.const (.int .i64 0)), some 46, none⟩]
abbrev oo19 : List LOp := [oB .lss 3 46 45 3 47]
abbrev oo20 : List LOp := [oI 45 44 46 48, oL 48 48 49, ⟨.alloc 48, some 10, none⟩, oS 48 10 49]
abbrev oo21 : List LOp := [oL 112 2 50, oL 48 10 51, oC 43 #[.tmp 50, .tmp 51] #[112, 48] 52, oA 52 11]
abbrev oo22 : List LOp := [oM 11 53, ⟨.binOp .eql 34 (.tmp 53) (.const (.slice none 0 0)) 34, some 54, none⟩]
abbrev oo23 : List LOp := [oM 8 55, oM 11 56, ⟨.buildSlice 77 1 #[(0, .tmp 56)], some 57, none⟩, ⟨.call { callee := .builtin .append, args := #[.tmp 55, .tmp 57], argTypes := #[77, 77] }, some 58, none⟩, oA 58 8]
abbrev oo24 : List LOp := [oK .add 3 46 1 3 59, oM 59 46]
abbrev oo25 : List LOp := [oM 8 60, oF 48 3 1 61, oL 45 61 62, oN 45 62 63, oI 77 60 63 64, oL 34 64 65, ⟨.alloc 34, some 12, none⟩, oS 34 12 65]
abbrev oo26 : List LOp := [⟨.assign (.const (.bool true)), some 13, none⟩]
abbrev oo27 : List LOp := [oF 48 3 0 66, oL 44 66 67]
abbrev oo28 : List LOp := [oK .eql 44 67 1 44 69, oA 69 68]
abbrev oo29 : List LOp := [oK .eql 44 67 2 44 86, oA 86 85]
abbrev oo30 : List LOp := [oL 112 2 88, oL 48 3 89, oL 34 12 90, oC 70 #[.tmp 88, .tmp 89, .tmp 90] #[112, 48, 34] 91, oA 91 13]
abbrev oo31 : List LOp := [oM 13 144, ⟨.unOp .not 4 (.tmp 144), some 145, none⟩]
abbrev oo32 : List LOp := [⟨.assign (.const (.slice none 0 0)), some 4, none⟩]
abbrev oo33 : List LOp := [oL 34 12 146, oA 146 4]
abbrev oo34 : List LOp := [oK .eql 44 67 3 44 87, oA 87 85]
abbrev oo35 : List LOp := [oK .eql 44 67 4 44 93, oA 93 92]
abbrev oo36 : List LOp := [oK .eql 44 67 5 44 132, oA 132 131]
end Go.Proofs.Ytimgbdkgjfbhkaa.Z
section
namespace Go.Proofs.Ytimgbdkgjfbhkaa.Z
open Go Go.Fw
def GoodE (c : CoreT) : Prop := ∀ e ∈ c.edges, 0 ≤ e.src ∧ 0 ≤ e.dst ∧ e.src < c.nodes.length ∧ e.dst < c.nodes.length
theorem goodE_of {c : CoreT} (h : patS c.nodes c.edges = true) : GoodE c := by
 intro e he
 simp only [patS, Bool.and_eq_true, Bool.not_eq_true', List.any_eq_false] at h
 have h1 := h.2 e he
 simp only [badE, Bool.or_eq_true, decide_eq_true_eq, not_or] at h1
 split at h1 <;> split at h1 <;> omega
def badEdge (c : CoreT) (p : PlanT) (b : List Bool) : Bool :=
 rdI b (c.nodes.length + rdI p.edges 0) || (!rdI b (if p.back then (rdI c.edges (rdI p.edges 0)).dst else (rdI c.edges (rdI p.edges 0)).src)) || (decide ((rdI c.edges (rdI p.edges 0)).mode = 0) != decide (p.op = 2))
def edgeB (c : CoreT) (p : PlanT) (b : List Bool) : Bool := !decide (p.edges.length ≠ 1 ∨ rdI p.edges 0 < 0 ∨ (c.edges.length : Int) ≤ rdI p.edges 0) && !badEdge c p b
def edgeL (c : CoreT) (p : PlanT) (b : List Bool) : List Bool :=
 if edgeB c p b then (b.set (c.nodes.length + rdI p.edges 0).toNat true).set (if p.back then (rdI c.edges (rdI p.edges 0)).src else (rdI c.edges (rdI p.edges 0)).dst).toNat true else b
@[simp] theorem rdI_toNat {α : Type} [Inhabited α] (l : List α) (i : Int) : rdI l ((i.toNat : Nat) : Int) = rdI l i := by unfold rdI; rw [Int.toNat_natCast]
@[simp] theorem rdI_max {α : Type} [Inhabited α] (l : List α) (i : Int) : rdI l (max i 0) = rdI l i := by unfold rdI; congr 1; omega
theorem encP_ok {p : PlanT} (h : (D.ag (encP p)).ok) : p.kids.length ≤ 9223372036854775807 ∧ p.edges.length ≤ 9223372036854775807 ∧ p.terms.length ≤ 9223372036854775807 := by
 rw [encP_cells] at h
 simp only [D.ok, D.okL, List.length_map] at h
 exact ⟨h.2.1.1, h.2.2.2.1.1, h.2.2.2.2.2.1.1⟩
@[simp] theorem set_encB (l : List Bool) (i : Nat) (v : Bool) : (l.map encB).set i [D.lit (.bool v)] = (l.set i v).map encB := by rw [List.map_set]; rfl
@[simp] theorem set_encI (l : List Int) (i : Nat) (v : Int) : (l.map encI).set i [D.lit (.int .i64 v)] = (l.set i v).map encI := by rw [List.map_set]; rfl
set_option maxHeartbeats 4000000 in
theorem edge_ok (c : CoreT) (p : PlanT) (b : List Bool) (hb : b.length = c.nodes.length + c.edges.length) (hE : GoodE c) : SndW P 70 [.d (.ag (encC c ++ [D.int c.nodes.length])), .d (.ag (encP p)), .rs 0 1 0 b.length] [(0, .data 1 (b.map encB))] (.bool (edgeB c p b)) [(0, .data 1 ((edgeL c p b).map encB))] := by
 obtain ⟨n, hn⟩ : ∃ k, c.nodes.length = k := ⟨_, rfl⟩
 obtain ⟨m, hm⟩ : ∃ m, p.edges.length = m := ⟨_, rfl⟩
 obtain ⟨k, hk⟩ : ∃ k, c.edges.length = k := ⟨_, rfl⟩
 obtain ⟨fr, hfr⟩ : ∃ x, (if p.back then (rdI c.edges (rdI p.edges 0)).dst else (rdI c.edges (rdI p.edges 0)).src) = x := ⟨_, rfl⟩
 obtain ⟨to, hto⟩ : ∃ x, (if p.back then (rdI c.edges (rdI p.edges 0)).src else (rdI c.edges (rdI p.edges 0)).dst) = x := ⟨_, rfl⟩
 rw [hn, hk] at hb
 refine sndW_of [0] Try.func70 rfl (by kernel_rfl) Try.ntmps70 (by simp) (by simp) ?_
 unfold Try.f70
 refine Run.okV 2 rfl fun hL => ?_
 simp only [List.cons_append, List.nil_append, List.length_cons, List.length_nil, Nat.reduceAdd, Nat.reduceSub, List.replicate]
 apply Run.seq
 refine opsF oo0 fun K hK => ?_
 try simp
 repeat' first | (refine evL_c ?_; simp [-List.map_set, hm, hk, hn, hb, hfr, hto]) | (with_reducible first | apply aI | intro _ | assumption) | omega
 all_goals (apply Fin.go hK; clear hK K)
 simp only [tN]
 apply Run.seq
 refine Run.cut [10, 11, 12, 13, 14, 15, 16, 17, 18, 19, 20, 21, 22, 23, 24, 25, 26, 27, 28, 29, 30, 31] [(31, .bool (decide (m ≠ 1 ∨ rdI p.edges 0 < 0 ∨ (k : Int) ≤ rdI p.edges 0)))] [(0, .data 1 (b.map encB)), (400, .vals ((encC c ++ [D.int c.nodes.length]).map .d)), (500, .vals ((encP p).map .d))] ?_ ?_
 ·refine opsF [oF 48 4 3 10, oL 46 10 11, oN 46 11 12, oK .neq 3 12 1 3 13, oM 13 14, ⟨.fieldAddr 48 (.tmp 4) 3, some 15, some (some 14, false)⟩, ⟨.load 46 (.tmp 15), some 16, some (some 14, false)⟩, ⟨.indexAddr 46 (.tmp 16) (.const (.int .i64 0)), some 17, some (some 14, false)⟩, ⟨.load 3 (.tmp 17), some 18, some (some 14, false)⟩, ⟨.binOp .lss 3 (.tmp 18) (.const (.int .i64 0)) 3, some 19, some (some 14, false)⟩, ⟨.pick (.tmp 14) (.const (.bool true)) (.tmp 19), some 20, none⟩, oM 20 21, ⟨.fieldAddr 48 (.tmp 4) 3, some 22, some (some 21, false)⟩, ⟨.load 46 (.tmp 22), some 23, some (some 21, false)⟩, ⟨.indexAddr 46 (.tmp 23) (.const (.int .i64 0)), some 24, some (some 21, false)⟩, ⟨.load 3 (.tmp 24), some 25, some (some 21, false)⟩, ⟨.fieldAddr 112 (.tmp 3) 0, some 26, some (some 21, false)⟩, ⟨.fieldAddr 32 (.tmp 26) 1, some 27, some (some 21, false)⟩, ⟨.load 27 (.tmp 27), some 28, some (some 21, false)⟩, ⟨.call { callee := .builtin .len, args := #[.tmp 28], argTypes := #[27] }, some 29, some (some 21, false)⟩, ⟨.binOp .geq 3 (.tmp 25) (.tmp 29) 3, some 30, some (some 21, false)⟩, ⟨.pick (.tmp 21) (.const (.bool true)) (.tmp 30), some 31, none⟩] fun K hK => ?_
  try simp
  repeat' first | ((first | refine evL_c ?_ | (refine evL_g rfl ?_; try simp only [gs_tt, gs_ff, gs_tf, gs_ft]) | refine evL_u rfl ?_ | (with_reducible refine gsplit (fun hg => ?_) (fun hg => ?_) <;> try simp at hg)) <;> try simp [-List.map_set, hm, hk, hn, hb, hfr, hto, *]) | (with_reducible first | apply aI | intro _ | assumption) | omega
  all_goals (apply Fin.go hK; clear hK K)
  all_goals
   (try simp [hm, hk, hn, hb, hfr, hto]) <;> (first | omega | (simp; done) | (rw [Bool.eq_iff_iff]; simp only [Bool.or_eq_true, Bool.and_eq_true, Bool.not_eq_true', decide_eq_true_eq, decide_eq_false_iff_not]; omega) | (simp_all; done) | (simp_all; omega) | grind)
 ·simp only [over, List.foldl, List.set]
  refine Run.cond rfl (fun h31 => ?_) (fun h31 => ?_)
  ·replace h31 := of_decide_eq_true h31
   apply Run.seq
   refine opsF oo1 fun K hK => ?_
   try simp
   repeat' first | (refine evL_c ?_; simp [-List.map_set, hm, hk, hn, hb, hfr, hto]) | (with_reducible first | apply aI | intro _ | assumption) | omega
   all_goals (apply Fin.go hK; clear hK K)
   simp only [tN]
   apply Run.ret
   try simp only [Then_ret, Blok_ret]
   first
    | (have e : edgeB c p b = false := by simp [edgeB, hm, hk, h31]
       simp [edgeL, e, hn]; done)
    | (have e : edgeB c p b = false := by simp [edgeB, h73]
       simp [edgeL, e, hn]; done)
    | (have e : edgeB c p b = true := by simp only [edgeB, h73, hm, hk, Bool.not_false, Bool.and_true, Bool.not_eq_true', decide_eq_false_iff_not]; omega
       simp [-List.map_set, edgeL, e, hn, hto]; done)
  ·replace h31 := of_decide_eq_false h31
   have hm1 : m = 1 := by omega
   have h0 : 0 ≤ rdI p.edges 0 := by omega
   have h1 : rdI p.edges 0 < k := by omega
   have hG := hE (rdI c.edges (rdI p.edges 0)) (rdI_mem h0 (by omega))
   rw [hn] at hG
   have hf : 0 ≤ fr ∧ fr < n ∧ 0 ≤ to ∧ to < n := by subst hfr; subst hto; split <;> omega
   obtain ⟨hf1, hf2, hf3, hf4⟩ := hf
   have hf5 : fr < (n : Int) + k := by omega
   have hf6 : to < (n : Int) + k := by omega
   have hf7 : fr.toNat < n + k := by omega
   have hf8 : to.toNat < n + k := by omega
   have hf9 : ((n : Int) + rdI p.edges 0).toNat < n + k := by omega
   have hf0 : 0 ≤ (n : Int) + rdI p.edges 0 := by omega
   have hfa : (n : Int) + rdI p.edges 0 < n + k := by omega
   have hw := wrap_id (n := (n : Int) + rdI p.edges 0) (by omega) (by omega)
   apply Run.skip
   simp only [tN]
   refine Run.cut [7, 32, 33, 34, 35, 36, 37, 38, 39, 40] [(7, .pt 800 0 0 0)] [(0, .data 1 (b.map encB)), (400, .vals ((encC c ++ [D.int c.nodes.length]).map .d)), (500, .vals ((encP p).map .d)), (800, .vals ((encE (rdI c.edges (rdI p.edges 0))).map .d))] ?_ ?_
   ·refine opsF [oF 112 3 0 32, oF 32 32 1 33, oL 27 33 34, oF 48 4 3 35, oL 46 35 36, ⟨.indexAddr 46 (.tmp 36) (.const (.int .i64 0)), some 37, none⟩, oL 3 37 38, oI 27 34 38 39, oL 98 39 40, ⟨.alloc 98, some 7, none⟩, oS 98 7 40] fun K hK => ?_
    try simp
    repeat' first | (refine evL_c ?_; simp [-List.map_set, hm, hk, hn, hb, hfr, hto, hm1, h0, h1, hf1, hf2, hf3, hf5, hf6, hf7, hf8, hf9, hf0, hfa, hw]) | (with_reducible first | apply aI | intro _ | assumption) | omega
    all_goals (apply Fin.go hK; clear hK K)
    (try simp [hm, hk, hn, hb, hfr, hto]) <;> (first | omega | (simp; done) | (rw [Bool.eq_iff_iff]; simp only [Bool.or_eq_true, Bool.and_eq_true, Bool.not_eq_true', decide_eq_true_eq, decide_eq_false_iff_not]; omega) | (simp_all; done) | (simp_all; omega) | grind)
   ·simp only [over, List.foldl, List.set]
    apply Run.seq
    refine opsF [oL 98 7 42, oF 48 4 4 43, oL 4 43 44, oC 94 #[.tmp 42, .tmp 44] #[98, 4] 45, oM 45 41, oX 41 0 46, oX 41 1 47, oA 46 8, oA 47 9] fun K hK => ?_
    try simp
    repeat' first | (refine ecall (ends_ok (rdI c.edges (rdI p.edges 0)) p.back) rfl ?_) | (refine evL_c ?_; simp [-List.map_set, hm, hk, hn, hb, hfr, hto, hm1, h0, h1, hf1, hf2, hf3, hf5, hf6, hf7, hf8, hf9, hf0, hfa, hw]) | (with_reducible first | apply aI | intro _ | assumption) | omega
    all_goals (apply Fin.go hK; clear hK K)
    simp only [tN]
    apply Run.seq
    refine Run.cut [48, 49, 50, 51, 52, 53, 54, 55, 56, 57, 58, 59, 60, 61, 62, 63, 64, 65, 66, 67, 68, 69, 70, 71, 72, 73] [(73, .bool (badEdge c p b))] [(0, .data 1 (b.map encB)), (400, .vals ((encC c ++ [D.int c.nodes.length]).map .d)), (500, .vals ((encP p).map .d)), (800, .vals ((encE (rdI c.edges (rdI p.edges 0))).map .d))] ?_ ?_
    ·refine opsF [oM 2 48, oF 112 3 1 49, oL 3 49 50, oF 48 4 3 51, oL 46 51 52, ⟨.indexAddr 46 (.tmp 52) (.const (.int .i64 0)), some 53, none⟩, oL 3 53 54, oB .add 3 50 54 3 55, oI 34 48 55 56, oL 4 56 57, oM 57 58, ⟨.move (.tmp 2), some 59, some (some 58, false)⟩, ⟨.move (.tmp 8), some 60, some (some 58, false)⟩, ⟨.indexAddr 34 (.tmp 59) (.tmp 60), some 61, some (some 58, false)⟩, ⟨.load 4 (.tmp 61), some 62, some (some 58, false)⟩, ⟨.unOp .not 4 (.tmp 62), some 63, some (some 58, false)⟩, ⟨.pick (.tmp 58) (.const (.bool true)) (.tmp 63), some 64, none⟩, oM 64 65, ⟨.fieldAddr 98 (.tmp 7) 4, some 66, some (some 65, false)⟩, ⟨.load 96 (.tmp 66), some 67, some (some 65, false)⟩, ⟨.binOp .eql 96 (.tmp 67) (.const (.int .i64 0)) 96, some 68, some (some 65, false)⟩, ⟨.fieldAddr 48 (.tmp 4) 0, some 69, some (some 65, false)⟩, ⟨.load 44 (.tmp 69), some 70, some (some 65, false)⟩, ⟨.binOp .eql 44 (.tmp 70) (.const (.int .i64 2)) 44, some 71, some (some 65, false)⟩, ⟨.binOp .neq 4 (.tmp 68) (.tmp 71) 4, some 72, some (some 65, false)⟩, ⟨.pick (.tmp 65) (.const (.bool true)) (.tmp 72), some 73, none⟩] fun K hK => ?_
     try simp
     repeat' first | ((first | refine evL_c ?_ | (refine evL_g rfl ?_; try simp only [gs_tt, gs_ff, gs_tf, gs_ft]) | refine evL_u rfl ?_ | (with_reducible refine gsplit (fun hg => ?_) (fun hg => ?_) <;> try simp at hg)) <;> try simp [-List.map_set, hm, hk, hn, hb, hfr, hto, hm1, h0, h1, hf1, hf2, hf3, hf5, hf6, hf7, hf8, hf9, hf0, hfa, hw]) | (with_reducible first | apply aI | intro _ | assumption) | omega
     all_goals (apply Fin.go hK; clear hK K)
     all_goals
      (try simp [hm, hk, hn, hb, hfr, hto, badEdge]) <;> (first | omega | (simp; done) | (rw [Bool.eq_iff_iff]; simp only [Bool.or_eq_true, Bool.and_eq_true, Bool.not_eq_true', decide_eq_true_eq, decide_eq_false_iff_not]; omega) | (simp_all; done) | (simp_all; omega) | grind)
    ·simp only [over, List.foldl, List.set]
     refine Run.cond rfl (fun h73 => ?_) (fun h73 => ?_)
     ·try simp at h73
      apply Run.seq
      refine opsF oo1 fun K hK => ?_
      try simp
      repeat' first | (refine evL_c ?_; simp [-List.map_set, hm, hk, hn, hb, hfr, hto, hm1, h0, h1, hf1, hf2, hf3, hf5, hf6, hf7, hf8, hf9, hf0, hfa, hw]) | (with_reducible first | apply aI | intro _ | assumption) | omega
      all_goals (apply Fin.go hK; clear hK K)
      simp only [tN]
      apply Run.ret
      try simp only [Then_ret, Blok_ret]
      first
       | (have e : edgeB c p b = false := by simp [edgeB, hm, hk, h31]
          simp [edgeL, e, hn]; done)
       | (have e : edgeB c p b = false := by simp [edgeB, h73]
          simp [edgeL, e, hn]; done)
       | (have e : edgeB c p b = true := by simp only [edgeB, h73, hm, hk, Bool.not_false, Bool.and_true, Bool.not_eq_true', decide_eq_false_iff_not]; omega
          simp [-List.map_set, edgeL, e, hn, hto]; done)
     ·try simp at h73
      apply Run.skip
      simp only [tN]
      apply Run.seq
      refine opsF [oM 2 74, oF 112 3 1 75, oL 3 75 76, oF 48 4 3 77, oL 46 77 78, ⟨.indexAddr 46 (.tmp 78) (.const (.int .i64 0)), some 79, none⟩, oL 3 79 80, oB .add 3 76 80 3 81, oM 2 82, oM 9 83, oI 34 74 81 84, ⟨.store 4 (.tmp 84) (.const (.bool true)), none, none⟩, oI 34 82 83 85, ⟨.store 4 (.tmp 85) (.const (.bool true)), none, none⟩] fun K hK => ?_
      try simp
      repeat' first | (refine evL_c ?_; simp [-List.map_set, hm, hk, hn, hb, hfr, hto, hm1, h0, h1, hf1, hf2, hf3, hf5, hf6, hf7, hf8, hf9, hf0, hfa, hw]) | (with_reducible first | apply aI | intro _ | assumption) | omega
      all_goals (apply Fin.go hK; clear hK K)
      simp only [tN]
      apply Run.seq
      refine opsF oo2 fun K hK => ?_
      try simp
      repeat' first | (refine evL_c ?_; simp [-List.map_set, hm, hk, hn, hb, hfr, hto, hm1, h0, h1, hf1, hf2, hf3, hf5, hf6, hf7, hf8, hf9, hf0, hfa, hw]) | (with_reducible first | apply aI | intro _ | assumption) | omega
      all_goals (apply Fin.go hK; clear hK K)
      simp only [tN]
      apply Run.ret
      try simp only [Then_ret, Blok_ret]
      first
       | (have e : edgeB c p b = false := by simp [edgeB, hm, hk, h31]
          simp [edgeL, e, hn]; done)
       | (have e : edgeB c p b = false := by simp [edgeB, h73]
          simp [edgeL, e, hn]; done)
       | (have e : edgeB c p b = true := by simp only [edgeB, h73, hm, hk, Bool.not_false, Bool.and_true, Bool.not_eq_true', decide_eq_false_iff_not]; omega
          simp [-List.map_set, edgeL, e, hn, hto]; done)
end Go.Proofs.Ytimgbdkgjfbhkaa.Z
end
section
namespace Go.Proofs.Ytimgbdkgjfbhkaa.Z
open Go Go.Fw
theorem put_ints {w w' : World} {X : Nat → Prop} {m : Nat → Option Nat} {b : Nat} {cs : Array Value} {ty : TypeId} {fr : Nat × Nat} {l ts : List Int} (hm : m 0 = some b) (hcs : w.heap[b]? = some (.cells cs ty fr)) (hfree : Free fr cs.size) (hlen : l.length ≤ cs.size)
  (hX : ∀ x, X x → x < w.heap.size ∧ ¬ Own m [(0, .data 1 (l.map encI))] x) (hg : w.grownBy w' (some b)) (hw' : w'.heap[b]? = some (.cells (Go.Sort.putCells (Value.int .i64) 0 ts.toArray cs) ty fr)) (hts : ts.length = l.length) (hok : ∀ x ∈ ts, okLit (.int .i64 x) = true) :
  Ext (Own m [(0, .data 1 (l.map encI))]) w w' ∧ SRel w' X m [(0, .data 1 (ts.map encI))] ∧ ∀ r : Nat, r = b → Own m [(0, .data 1 (l.map encI))] r := by
 have hown : ∀ r : Nat, r = b → Own m [(0, .data 1 (l.map encI))] r := fun r e => ⟨0, _, rfl, by rw [e]; exact hm⟩
 have hsz : (Go.Sort.putCells (Value.int .i64) 0 ts.toArray cs).size = cs.size := by simp [Go.Sort.putCells]
 refine ⟨⟨hg.os, hg.tape, hg.output, hg.size, fun r hr hn => hg.block r hr (fun e => hn (hown r (Option.some.inj e))), fun r c t f hc => ?_⟩, ⟨fun id blk hi => ?_, fun i j r h1 h2 h3 h4 => ?_⟩, hown⟩
 ·by_cases e : r = b
  ·subst e
   rw [hcs] at hc
   obtain ⟨rfl, rfl, rfl⟩ := Obj.cells.inj (Option.some.inj hc)
   exact ⟨_, hw', hsz⟩
  ·have hlt : r < w.heap.size := (Array.getElem?_eq_some_iff.1 hc).1
   exact ⟨c, by rw [hg.block r hlt (fun q => e (Option.some.inj q))]; exact hc, rfl⟩
 ·have hi0 : id = 0 ∧ blk = .data 1 (ts.map encI) := by
   simp only [getB] at hi
   split at hi
   ·rename_i e; exact ⟨e.symm, (Option.some.inj hi).symm⟩
   ·cases hi
  obtain ⟨rfl, rfl⟩ := hi0
  refine .inl ⟨b, hm, _, ty, fr, hw', by rw [hsz]; exact hfree, by rw [hsz, List.length_map]; omega, fun r hr => ?_, fun i j r x hr hx => ?_⟩
  ·obtain ⟨v, _, rfl⟩ := List.mem_map.1 hr; rfl
  ·rw [List.getElem?_map] at hr
   obtain ⟨v, hv, rfl⟩ := Option.map_eq_some_iff.1 hr
   have hlt := (List.getElem?_eq_some_iff.1 hv).1
   have hj : j = 0 ∧ x = D.int v := by
    cases j with
    | zero => simp at hx; exact ⟨rfl, hx.symm⟩
    | succ j => simp at hx
   obtain ⟨rfl, rfl⟩ := hj
   refine ⟨.int .i64 v, ?_, rfl, .lit _ (hok v (List.mem_of_getElem? hv))⟩
   have hc : i < cs.size := by omega
   simp only [Nat.mul_one, Nat.add_zero, Go.Sort.putCells, Array.getElem?_mapIdx, Array.getElem?_eq_getElem hc, Option.map_some]
   rw [if_pos ⟨Nat.zero_le _, by simpa using hlt⟩]
   simp [hlt, (List.getElem?_eq_some_iff.1 hv).2]
 ·have q : ∀ k, (getB [(0, Blk.data 1 (ts.map encI))] k).isSome = true → k = 0 := fun k hk => by
   simp only [getB] at hk
   split at hk
   ·rename_i e; exact e.symm
   ·cases hk
  rw [q i h3, q j h4]
theorem row_in {w : World} {X : Nat → Prop} {m : Nat → Option Nat} {l : List Int} {v : Value} (hS : SRel w X m [(0, .data 1 (l.map encI))]) (hv : VRel w (Live X m [(0, .data 1 (l.map encI))]) m (.rs 0 1 0 l.length) v) (hl : 0 < l.length) :
  ∃ b cap cs ty fr, v = .slice (some ⟨b, 0, none⟩) l.length cap ∧ m 0 = some b ∧ l.length ≤ cap ∧ cap ≤ cs.size ∧ w.heap[b]? = some (.cells cs ty fr) ∧ Free fr cs.size ∧ Go.Sort.Holds (Value.int .i64) w b 0 l.toArray ∧ ∀ x ∈ l, okLit (.int .i64 x) = true := by
 generalize hn : l.length = n at hv
 cases hv with
 | rsE => omega
 | rs id sz off len cap b cs ty fr hm hc hx hh hs =>
   rcases hS.blk 0 _ rfl with ⟨b', h1, cs', ty', fr', h2, h3, h4, h5, h6⟩ | ⟨h1, _⟩
   ·rw [hm] at h1
    obtain rfl := Option.some.inj h1
    rw [hh] at h2
    obtain ⟨rfl, rfl, rfl⟩ := Obj.cells.inj (Option.some.inj h2)
    have hcell : ∀ j (hj : j < l.length), cs[j]? = some (.int .i64 l[j]) ∧ okLit (.int .i64 l[j]) = true := fun j hj => by
     obtain ⟨v, q1, q2, q3⟩ := h6 j 0 (encI l[j]) (D.int l[j]) (by simp [hj]) (by simp)
     cases q3 with
     | lit _ h => exact ⟨by simpa using q1, h⟩
    refine ⟨b, cap, cs, ty, fr, rfl, hm, by omega, by omega, hh, h3, fun j hj => ?_, fun x hx => ?_⟩
    ·have hj' : j < l.length := by simpa using hj
     refine ⟨?_, ?_⟩
     ·simp only [World.cell?, hh, Nat.zero_add]
      simp only [Option.isSome_none, Bool.false_eq_true, if_false]
      rw [(hcell j hj').1]
      simp [hj']
     ·have hlt : j < cs.size := by
       have := (hcell j hj').1
       exact (Array.getElem?_eq_some_iff.1 this).1
      have := h3 j hlt
      simp only [World.frozen?, hh, Nat.zero_add]
      simpa using this
    ·obtain ⟨j, hj⟩ := List.getElem?_of_mem hx
     have hlt := (List.getElem?_eq_some_iff.1 hj).1
     have := (hcell j hlt).2
     rw [(List.getElem?_eq_some_iff.1 hj).2] at this
     exact this
   ·rw [hm] at h1; cases h1
theorem keep_nil {w : World} {X : Nat → Prop} {m : Nat → Option Nat} {s : Store} : Ext (Own m s) w w := ⟨rfl, rfl, rfl, Nat.le_refl _, fun _ _ _ => rfl, fun _ c _ _ h => ⟨c, h, rfl⟩⟩
theorem sort_ok (l : List Int) (hl : l.length < 4611686018427387904) : SndW P 103 [.rs 0 1 0 l.length] [(0, .data 1 (l.map encI))] (.tup []) [(0, .data 1 ((l.mergeSort fun x y => decide (x ≤ y)).map encI))] := by
 refine ⟨by kernel_rfl, fun w X m0 vs hX hS hargs => ?_⟩
 obtain ⟨v, tl, rfl, hv, ht⟩ := hargs.head
 have : tl = [] := by have := ht.len; simpa using this
 subst this
 by_cases hp : 0 < l.length
 ·obtain ⟨b, cap, cs, ty, fr, rfl, hm, hc, hcs, hh, hf, hH, hk⟩ := row_in hS hv hp
  have hb : b < w.heap.size := (Array.getElem?_eq_some_iff.1 hh).1
  refine (Go.Proofs.Try.slices_Sort_int b 0 cap l w hH hb hl).mono ?_
  rintro e w' ⟨rfl, n, os, rfl⟩
  obtain ⟨h1, h2, h3⟩ := put_ints (ts := l.mergeSort fun x y => decide (x ≤ y)) hm hh hf (by omega) hX (grownBy_sortedI _) (heap_sortedI _ hh) (by simp) (fun x hx => hk x (by simpa using hx))
  refine ⟨_, m0, rfl, h1, .tup [] [] rfl (fun j x v h => by simp at h), h2, fun r hr => ?_, fun j _ _ => rfl⟩
  obtain ⟨i, blk, g1, g2⟩ := hr
  simp only [getB] at g1
  split at g1
  ·rename_i e; subst e; rw [hm] at g2; exact .inl (h3 r (Option.some.inj g2).symm)
  ·cases g1
 ·obtain rfl : l = [] := by cases l with
   | nil => rfl
   | cons _ _ => simp at hp
  obtain ⟨A, cap, rfl⟩ : ∃ A cap, v = .slice A 0 cap := by
   generalize hn : ([] : List Int).length = n at hv
   cases hv with
   | rsE => exact ⟨_, _, rfl⟩
   | rs => simp at hn; subst hn; exact ⟨_, _, rfl⟩
  refine (Go.Proofs.Try.slices_Sort_int_none A cap w).mono ?_
  rintro e w' ⟨rfl, rfl⟩
  refine ⟨_, m0, rfl, keep_nil (X := X), .tup [] [] rfl (fun j x v h => by simp at h), by simpa using hS, fun r hr => .inl (by simpa using hr), fun j _ _ => rfl⟩
theorem compact_mem {l : List Int} {x : Int} (h : x ∈ Go.Lib.compact l) : x ∈ l := by
 unfold Go.Lib.compact Go.Lib.compactUpTo at h
 obtain ⟨j, hj, rfl⟩ := List.mem_map.1 h
 have hlt : j < l.length := by have := (List.mem_filter.1 hj).1; simpa using this
 simp [hlt]
theorem compact_ok (l : List Int) (hl : l.length ≤ 9223372036854775807) : SndW P 104 [.rs 0 1 0 l.length] [(0, .data 1 (l.map encI))] (.rs 0 1 0 (Go.Lib.compact l).length) [(0, .data 1 ((Go.Lib.compact l ++ List.replicate (l.length - (Go.Lib.compact l).length) 0).map encI))] := by
 refine ⟨by kernel_rfl, fun w X m0 vs hX hS hargs => ?_⟩
 obtain ⟨v, tl, rfl, hv, ht⟩ := hargs.head
 have : tl = [] := by have := ht.len; simpa using this
 subst this
 by_cases hp : 0 < l.length
 ·obtain ⟨b, cap, cs, ty, fr, rfl, hm, hc, hcs, hh, hf, hH, hk⟩ := row_in hS hv hp
  have hb : b < w.heap.size := (Array.getElem?_eq_some_iff.1 hh).1
  have hcl := Go.Lib.compact_length_le l
  refine (Go.Proofs.Try.slices_Compact_int b 0 cap l w hH hl hc).mono ?_
  rintro e w' ⟨rfl, q, rfl⟩
  have g1 := grownBy_sortedI (w := w) (g := b) (n := q) (os := #[]) (Go.Lib.compact l ++ List.replicate (l.length - (Go.Lib.compact l).length) 0).toArray
  have g2 := heap_sortedI (n := q) (os := #[]) (Go.Lib.compact l ++ List.replicate (l.length - (Go.Lib.compact l).length) 0).toArray hh
  rw [Go.Sort.grow_empty] at g1 g2
  obtain ⟨h1, h2, h3⟩ := put_ints (ts := Go.Lib.compact l ++ List.replicate (l.length - (Go.Lib.compact l).length) 0) hm hh hf (by omega) hX g1 g2 (by simp; omega) (fun x hx => by
   rcases List.mem_append.1 hx with hx | hx
   ·exact hk x (compact_mem hx)
   ·rw [(List.mem_replicate.1 hx).2]; rfl)
  have hsz : (Go.Sort.putCells (Value.int .i64) 0 (Go.Lib.compact l ++ List.replicate (l.length - (Go.Lib.compact l).length) 0).toArray cs).size = cs.size := by simp [Go.Sort.putCells]
  refine ⟨_, m0, rfl, h1, VRel.rs 0 1 0 _ cap b _ ty fr hm (by omega) (by omega) g2 (by rw [hsz]; omega), h2, fun r hr => ?_, fun j _ _ => rfl⟩
  obtain ⟨i, blk, g1, g2⟩ := hr
  simp only [getB] at g1
  split at g1
  ·rename_i e; subst e; rw [hm] at g2; exact .inl (h3 r (Option.some.inj g2).symm)
  ·cases g1
 ·obtain rfl : l = [] := by cases l with
   | nil => rfl
   | cons _ _ => simp at hp
  obtain ⟨A, cap, rfl⟩ : ∃ A cap, v = .slice A 0 cap := by
   generalize hn : ([] : List Int).length = n at hv
   cases hv with
   | rsE => exact ⟨_, _, rfl⟩
   | rs => simp at hn; subst hn; exact ⟨_, _, rfl⟩
  refine (Go.Proofs.Try.slices_Compact_int_empty A cap w).mono ?_
  rintro e w' ⟨rfl, rfl⟩
  exact ⟨_, m0, rfl, keep_nil (X := X), hv, hS, fun r hr => .inl hr, fun j _ _ => rfl⟩
end Go.Proofs.Ytimgbdkgjfbhkaa.Z
end
section
namespace Go.Proofs.Ytimgbdkgjfbhkaa.Z
open Go Go.Fw
mutual
def slotsT : TermT → List Int
 | .mk op kids sl _ _ => Go.Lib.compact (((if op = 2 ∨ op = 3 then [sl] else []) ++ slotsL kids).mergeSort fun x y => decide (x ≤ y))
def slotsL : List TermT → List Int
 | [] => []
 | t :: r => slotsT t ++ slotsL r
end
mutual
def cntT : TermT → Nat
 | .mk _ kids _ _ _ => 1 + cntL kids
def cntL : List TermT → Nat
 | [] => 0
 | t :: r => cntT t + cntL r
end
def own1 (op sl : Int) : List Int := if op = 2 ∨ op = 3 then [sl] else []
theorem own1_len (op sl : Int) : (own1 op sl).length ≤ 1 := by unfold own1; split <;> simp
theorem slotsT_eq (t : TermT) : slotsT t = Go.Lib.compact ((own1 t.op t.slot ++ slotsL t.kids).mergeSort fun x y => decide (x ≤ y)) := by cases t; rw [slotsT]; rfl
theorem cntT_eq (t : TermT) : cntT t = 1 + cntL t.kids := by cases t; rw [cntT]; rfl
theorem slotsL_app (a b : List TermT) : slotsL (a ++ b) = slotsL a ++ slotsL b := by
 induction a with
 | nil => rfl
 | cons x r ih => rw [List.cons_append, slotsL, slotsL, ih, List.append_assoc]
theorem cntL_app (a b : List TermT) : cntL (a ++ b) = cntL a + cntL b := by
 induction a with
 | nil => simp [cntL]
 | cons x r ih => rw [List.cons_append, cntL, cntL, ih]; omega
mutual
theorem slotsT_len : ∀ t : TermT, (slotsT t).length ≤ cntT t
 | .mk op kids sl nm v => by
   have h := slotsL_len kids
   have h1 := own1_len op sl
   have h2 := Go.Lib.compact_length_le ((own1 op sl ++ slotsL kids).mergeSort fun x y => decide (x ≤ y))
   rw [slotsT_eq, cntT_eq]
   simp only [List.length_mergeSort, List.length_append] at h2
   exact Nat.le_trans h2 (by show _ ≤ 1 + cntL kids; omega)
theorem slotsL_len : ∀ l : List TermT, (slotsL l).length ≤ cntL l
 | [] => by simp [slotsL]
 | t :: r => by
   have h1 := slotsT_len t
   have h2 := slotsL_len r
   rw [slotsL, cntL, List.length_append]
   omega
end
theorem take_rd {α : Type} [Inhabited α] {l : List α} {k : Nat} (h : k < l.length) : l.take (k + 1) = l.take k ++ [rdI l k] := by
 rw [List.take_succ_eq_append_getElem h]
 simp [rdI, List.getD_eq_getElem?_getD, h]
theorem cntL_take (l : List TermT) (k : Nat) : cntL (l.take k) ≤ cntL l := by
 have h := cntL_app (l.take k) (l.drop k)
 rw [List.take_append_drop] at h
 omega
theorem cnt_kid {t : TermT} {i : Nat} (h : i < t.kids.length) : cntT (rdI t.kids i) + cntL (t.kids.take i) + 1 ≤ cntT t := by
 have h1 := cntL_take t.kids (i + 1)
 rw [take_rd h, cntL_app, cntL, cntL] at h1
 have := cntT_eq t; omega
def acc (t : TermT) (i : Nat) : List Int := own1 t.op t.slot ++ slotsL (t.kids.take i)
theorem acc_zero (t : TermT) : acc t 0 = own1 t.op t.slot := by simp [acc, slotsL]
theorem acc_succ {t : TermT} {i : Nat} (h : i < t.kids.length) : acc t (i + 1) = acc t i ++ slotsT (rdI t.kids i) := by
 unfold acc
 rw [take_rd h, slotsL_app, ← List.append_assoc, slotsL, slotsL, List.append_nil]
theorem acc_len (t : TermT) (i : Nat) : (acc t i).length ≤ 1 + cntL (t.kids.take i) := by
 have h1 := own1_len t.op t.slot
 have h2 := slotsL_len (t.kids.take i)
 unfold acc
 rw [List.length_append]; omega
theorem acc_all {t : TermT} {i : Nat} (h : t.kids.length ≤ i) : slotsT t = Go.Lib.compact ((acc t i).mergeSort fun x y => decide (x ≤ y)) := by
 rw [acc, List.take_of_length_le h, slotsT_eq]
theorem kidT_lt {p q : TermT} (h : q ∈ p.kids) : SizeOf.sizeOf q < SizeOf.sizeOf p := by
 cases p with
 | mk o k s e b =>
   have := List.sizeOf_lt_of_mem (show q ∈ k from h)
   simp only [TermT.mk.sizeOf_spec]
   omega
theorem encT_ok {p : TermT} (h : (D.ag (encT p)).ok) : p.kids.length ≤ 9223372036854775807 := by
 rw [encT_cells] at h
 simp only [D.ok, D.okL, List.length_map] at h
 exact h.2.1.1
set_option maxHeartbeats 4000000 in
theorem slots1_ok (t : TermT) (ht : cntT t ≤ 1100000) (IH : ∀ i : Nat, i < t.kids.length → Snd P 91 [.d (.ag (encT (rdI t.kids i)))] (.d (.sl false ((slotsT (rdI t.kids i)).map encI))) []) : Snd P 91 [.d (.ag (encT t))] (.d (.sl false ((slotsT t).map encI))) [] := by
 refine Snd.ok 0 rfl (by kernel_rfl) fun hok => ?_
 have hkm := encT_ok hok
 clear hok
 obtain ⟨m, hm⟩ : ∃ m, t.kids.length = m := ⟨_, rfl⟩
 rw [hm] at hkm
 obtain ⟨ow, how⟩ : ∃ o, own1 t.op t.slot = o := ⟨_, rfl⟩
 have how1 : ow.length ≤ 1 := by rw [← how]; exact own1_len _ _
 refine snd_of [] Try.func91 rfl (by kernel_rfl) Try.ntmps91 (by simp) ?_
 unfold Try.f91
 simp only [List.cons_append, List.nil_append, List.length_cons, List.length_nil, Nat.reduceAdd, Nat.reduceSub, List.replicate]
 apply Run.seq
 refine opsF [⟨.box 89 (.tmp 0), some 1, none⟩, ⟨.assign (.const (.slice none 0 0)), some 2, none⟩] fun K hK => ?_
 try simp
 repeat' first | (refine evL_c ?_; simp [hm]) | (with_reducible first | apply aI | intro _ | assumption) | omega
 all_goals (apply Fin.go hK; clear hK K)
 simp only [tN]
 apply Run.seq
 refine opsF [⟨.assign (.const (.slice none 0 0)), some 3, none⟩] fun K hK => ?_
 try simp
 repeat' first | (refine evL_c ?_; simp [hm]) | (with_reducible first | apply aI | intro _ | assumption) | omega
 all_goals (apply Fin.go hK; clear hK K)
 simp only [tN]
 refine Run.cut [3, 6, 7, 8, 9, 10, 11, 12, 13, 14, 15, 16, 17, 18] [(3, .rs 1900 1 0 ow.length)] [(200, .vals ((encT t).map .d)), (1900, .data 1 (ow.map encI))] ?_ ?_
 ·refine Run.cut [6, 7, 8, 9, 10, 11, 12, 13] [(13, .bool (decide (t.op = 2 ∨ t.op = 3)))] [(200, .vals ((encT t).map .d))] ?_ ?_
  ·refine opsF [oF 89 1 0 6, oL 84 6 7, oK .eql 84 7 2 84 8, oM 8 9, ⟨.fieldAddr 89 (.tmp 1) 0, some 10, some (some 9, false)⟩, ⟨.load 84 (.tmp 10), some 11, some (some 9, false)⟩, ⟨.binOp .eql 84 (.tmp 11) (.const (.int .i64 3)) 84, some 12, some (some 9, false)⟩, ⟨.pick (.tmp 9) (.const (.bool true)) (.tmp 12), some 13, none⟩] fun K hK => ?_
   try simp
   repeat' first | ((first | refine evL_c ?_ | (refine evL_g rfl ?_; try simp only [gs_tt, gs_ff, gs_tf, gs_ft]) | refine evL_u rfl ?_ | (with_reducible refine gsplit (fun hg => ?_) (fun hg => ?_) <;> try simp at hg)) <;> try simp [hm]) | (with_reducible first | apply aI | intro _ | assumption) | omega
   all_goals (apply Fin.go hK; clear hK K)
   all_goals
    (try simp [*]) <;> (first | omega | (simp; done) | grind)
  ·simp only [over, List.foldl, List.set]
   refine Run.cond rfl (fun h13 => ?_) (fun h13 => ?_)
   ·have ho : ow = [t.slot] := by rw [← how, own1, if_pos (of_decide_eq_true h13)]
    refine opsF [oM 3 14, oF 89 1 2 15, oL 3 15 16, ⟨.buildSlice 46 1 #[(0, .tmp 16)], some 17, none⟩, ⟨.call { callee := .builtin .append, args := #[.tmp 14, .tmp 17], argTypes := #[46, 46] }, some 18, none⟩, oA 18 3] fun K hK => ?_
    try simp
    repeat' first | (refine evL_c ?_; simp [hm]) | (with_reducible first | apply aI | intro _ | assumption) | omega
    all_goals (apply Fin.go hK; clear hK K)
    simp [ho]
   ·have ho : ow = [] := by rw [← how, own1, if_neg (of_decide_eq_false h13)]
    refine Run.virt 3 1900 1 (by omega) (.inl rfl) ?_ rfl
    apply Run.skip
    simp [ho]
 ·simp only [over, List.foldl, List.set]
  apply Run.seq
  apply Run.seq
  refine opsF [oF 89 1 1 19, oL 28 19 20, oN 28 20 21, ⟨.move (.const (.int .i64 0)), some 22, none⟩] fun K hK => ?_
  try simp
  repeat' first | (refine evL_c ?_; simp [hm]) | (with_reducible first | apply aI | intro _ | assumption) | omega
  all_goals (apply Fin.go hK; clear hK K)
  simp only [tN]
  apply Run.block
  refine Run.loopO [3, 5, 22, 23, 24, 25, 26, 27, 28, 29, 30] (fun (i : Nat) => [(22, .int i), (3, .rs 1900 1 0 (acc t i).length)]) (fun (i : Nat) => [(200, .vals ((encT t).map .d)), (1900, .data 1 ((acc t i).map encI))]) (fun (i : Nat) => i ≤ m) (fun (i : Nat) => m - i) 0 (by omega) (by simp [acc_zero, how]) fun i hi => ?_
  simp only [over, List.foldl, List.set]
  obtain ⟨ac, hac⟩ : ∃ o, acc t i = o := ⟨_, rfl⟩
  apply Run.seq
  refine opsF [oB .lss 3 22 21 3 23] fun K hK => ?_
  try simp
  repeat' first | (refine evL_c ?_; simp [hm]) | (with_reducible first | apply aI | intro _ | assumption) | omega
  all_goals (apply Fin.go hK; clear hK K)
  simp only [tN]
  apply Run.seq
  refine Run.cond rfl (fun h23 => ?_) (fun h23 => ?_)
  ·try simp [hac] at h23
   have hi1 : i < m := by omega
   have hc := cnt_kid (t := t) (i := i) (by omega)
   have hl1 := slotsT_len (rdI t.kids i)
   have hl2 := acc_len t i
   rw [hac] at hl2
   obtain ⟨l1, hl1e⟩ : ∃ x, (slotsT (rdI t.kids i)).length = x := ⟨_, rfl⟩
   obtain ⟨l2, hl2e⟩ : ∃ x, ac.length = x := ⟨_, rfl⟩
   have hl3 : l2 ≤ 1100000 := by omega
   have hl4 : l1 ≤ 1100000 := by omega
   have htk : (ac.map encI).take l2 = ac.map encI := by rw [List.take_of_length_le]; simp [hl2e]
   apply Run.skip
   simp only [tN]
   apply Run.seq
   apply Run.block
   apply Run.seq
   refine opsF [oI 28 20 22 24, oL 89 24 25, ⟨.alloc 89, some 5, none⟩, oS 89 5 25] fun K hK => ?_
   try simp
   repeat' first | (refine evL_c ?_; simp [hm, hac, hl1e, hl2e, hi1, htk]) | (with_reducible first | apply aI | intro _ | assumption) | omega
   all_goals (apply Fin.go hK; clear hK K)
   simp only [tN]
   refine opsF [oM 3 26, oL 89 5 27, oC 91 #[.tmp 27] #[89] 28, ⟨.call { callee := .builtin .append, args := #[.tmp 26, .tmp 28], argTypes := #[46, 46] }, some 29, none⟩, oA 29 3] fun K hK => ?_
   try simp
   repeat' first | (refine ecallD (by have h := IH i (by omega); rw [encT_cells] at h; exact h) ?_) | (refine evL_c ?_; simp [hm, hac, hl1e, hl2e, hi1, htk]) | (with_reducible first | apply aI | intro _ | assumption) | omega
   all_goals (apply Fin.go hK; clear hK K)
   simp only [Blok_normal]
   simp only [tN]
   refine Run.ren 3000 1900 (by omega) (by omega) (by simp) (by simp) ?_
   refine opsF [oK .add 3 22 1 3 30, oM 30 22] fun K hK => ?_
   try simp
   repeat' first | (refine evL_c ?_; simp [hm, hac, hl1e, hl2e, hi1, htk]) | (with_reducible first | apply aI | intro _ | assumption) | omega
   all_goals (apply Fin.go hK; clear hK K)
   have hs := acc_succ (t := t) (i := i) (by omega)
   rw [hac] at hs
   refine ⟨i + 1, by omega, by omega, ?_⟩
   simp (disch := omega) [hm, wrap_id, hs, hac, hl1e, hl2e, htk]
  ·try simp [hac] at h23
   have hl2 := acc_len t i
   have hl5 := cntL_take t.kids i
   rw [cntT_eq] at ht
   rw [hac] at hl2
   have hl3 : ac.length ≤ 1100000 := by omega
   have hst := acc_all (t := t) (i := i) (by omega)
   rw [hac] at hst
   obtain ⟨so, hso⟩ : ∃ s, (ac.mergeSort fun x y => decide (x ≤ y)) = s := ⟨_, rfl⟩
   have hsl : so.length = ac.length := by rw [← hso]; simp
   rw [hso] at hst
   have hsc := Go.Lib.compact_length_le so
   have hS := sort_ok ac (by omega)
   rw [hso] at hS
   have hC := compact_ok so (by omega)
   rw [← hst] at hC hsc
   obtain ⟨l2, hl2e⟩ : ∃ x, ac.length = x := ⟨_, rfl⟩
   rw [hl2e] at hS hsl
   obtain ⟨sl, hsle⟩ : ∃ x, slotsT t = x := ⟨_, rfl⟩
   rw [hsle] at hC hsc
   obtain ⟨l3, hl3e⟩ : ∃ x, sl.length = x := ⟨_, rfl⟩
   rw [hl3e, hsl] at hC hsc
   refine Run.exit ?_
   simp (decide := true) only [Then_exit, Blok_exit, if_true, if_false]
   simp only [tN]
   apply Run.seq
   refine opsT [oM 3 31, oC 103 #[.tmp 31] #[46] 32] fun K hK => ?_
   try simp
   repeat' first | (refine ecallW [1900] hS (by simp) (by simp) (by simp) ?_) | (refine evL_c ?_; simp [hm, hac, hl2e, hsl, hl3e, hsc]) | (with_reducible first | apply aI | intro _ | assumption) | omega
   all_goals (apply Fin.go hK; clear hK K)
   simp only [tN]
   apply Run.seq
   refine opsT [oM 3 33, oC 104 #[.tmp 33] #[46] 34, oA 34 2] fun K hK => ?_
   try simp
   repeat' first | (refine ecallW [1900] hC (by simp) (by simp) (by simp) ?_) | (refine evL_c ?_; simp [hm, hac, hl2e, hsl, hl3e, hsc]) | (with_reducible first | apply aI | intro _ | assumption) | omega
   all_goals (apply Fin.go hK; clear hK K)
   simp only [tN]
   apply Run.ret
   try simp only [Then_ret, Blok_ret]
   have htk : ((sl.map encI) ++ List.replicate (l2 - l3) [D.int 0]).take l3 = sl.map encI := by rw [List.take_append_of_le_length (by simp [hl3e]), List.take_of_length_le (by simp [hl3e])]
   simp [hsle, hl3e, htk]
theorem slots_ok (t : TermT) (ht : cntT t ≤ 1100000) : Snd P 91 [.d (.ag (encT t))] (.d (.sl false ((slotsT t).map encI))) [] :=
 slots1_ok t ht fun i hi =>
  have := kidT_lt (rdI_mem (l := t.kids) (i := i) (by omega) (by omega))
  slots_ok (rdI t.kids i) (by have := cnt_kid hi; omega)
termination_by SizeOf.sizeOf t
end Go.Proofs.Ytimgbdkgjfbhkaa.Z
end
section
namespace Go.Proofs.Ytimgbdkgjfbhkaa.Z
open Go Go.Fw
def badS (b : List Bool) (s : Int) : Bool := decide (s < 0) || decide ((b.length : Int) ≤ s) || !rdI b s
def bindsS (b : List Bool) (t : TermT) : Bool := !(slotsT t).any (badS b)
@[simp] theorem forall_lt2 {p : Nat → Prop} : (∀ x, x < 2 → p x) ↔ p 0 ∧ p 1 := ⟨fun h => ⟨h 0 (by omega), h 1 (by omega)⟩, fun h x hx => by
 match x, hx with
 | 0, _ => exact h.1
 | 1, _ => exact h.2⟩
@[simp] theorem exists_lt2 {p : Nat → Prop} : (∃ x, x < 2 ∧ p x) ↔ p 0 ∨ p 1 := ⟨fun ⟨x, hx, h⟩ => by
 match x, hx with
 | 0, _ => exact .inl h
 | 1, _ => exact .inr h, fun h => by rcases h with h | h <;> exact ⟨_, by omega, h⟩⟩
@[simp] theorem idx_cons (a b : Nat) (l : List Nat) : (a :: l).idxOf? b = if a = b then some 0 else (l.idxOf? b).map (· + 1) := by
 rw [List.idxOf?_cons]; simp
theorem findT_ok (nn : Bool) (l : List TermT) (fn : FuncId) (b : List Bool) (p : TermT → Bool) (hp : ∀ e ∈ l, SndW P fn [.d (.ag (encT e)), .pt 0 0 0 0] [(0, .vals [.rs 1 1 0 b.length]), (1, .data 1 (b.map encB))] (.bool (p e)) [(0, .vals [.rs 1 1 0 b.length]), (1, .data 1 (b.map encB))]) :
  SndW P 95 [.d (.sl nn (l.map encT)), .fn fn [.pt 0 0 0 0]] [(0, .vals [.rs 1 1 0 b.length]), (1, .data 1 (b.map encB))] (.int (findS p l)) [(0, .vals [.rs 1 1 0 b.length]), (1, .data 1 (b.map encB))] := by
 refine SndW.ok 0 rfl (by kernel_rfl) fun hl => ?_
 simp only [D.ok, List.length_map] at hl
 obtain ⟨hl, -⟩ := hl
 refine sndW_of [0, 1] Try.func95 rfl (by kernel_rfl) Try.ntmps95 (by simp) (by simp) ?_
 unfold Try.f95
 simp only [List.cons_append, List.nil_append, List.length_cons, List.length_nil, Nat.reduceAdd, Nat.reduceSub, List.replicate]
 apply Run.seq
 refine opsF oo3 fun K hK => ?_
 try simp
 repeat' first | (refine evL_c ?_; simp) | (with_reducible first | apply aI | intro _ | assumption) | omega
 all_goals (apply Fin.go hK; clear hK K)
 simp only [tN]
 apply Run.seq
 apply Run.seq
 refine opsF oo4 fun K hK => ?_
 try simp
 repeat' first | (refine evL_c ?_; simp) | (with_reducible first | apply aI | intro _ | assumption) | omega
 all_goals (apply Fin.go hK; clear hK K)
 simp only [tN]
 apply Run.block
 refine Run.loopO [4, 5, 8, 9, 10, 11, 12, 13, 14, 15, 16, 17, 18] (fun (i : Nat) => [(8, .int i)]) (fun (i : Nat) => [(0, .vals [.rs 1 1 0 b.length]), (1, .data 1 (b.map encB))]) (fun (i : Nat) => i ≤ l.length ∧ ∀ j, j < i → p (rdI l (j : Nat)) = false) (fun (i : Nat) => l.length - i) 0 (by simp) (by simp) fun i ⟨hi, hz⟩ => ?_
 simp only [over, List.foldl, List.set]
 apply Run.seq
 refine opsF oo5 fun K hK => ?_
 try simp
 repeat' first | (refine evL_c ?_; simp) | (with_reducible first | apply aI | intro _ | assumption) | omega
 all_goals (apply Fin.go hK; clear hK K)
 simp only [tN]
 apply Run.seq
 refine Run.cond rfl (fun h9 => ?_) (fun h9 => ?_)
 ·try simp at h9
  apply Run.skip
  simp only [tN]
  apply Run.seq
  apply Run.block
  apply Run.seq
  refine opsF oo6 fun K hK => ?_
  try simp
  repeat' first | (refine evL_c ?_; simp [h9]) | (with_reducible first | apply aI | intro _ | assumption) | omega
  all_goals (apply Fin.go hK; clear hK K)
  simp only [tN]
  apply Run.seq
  refine opsT oo7 fun K hK => ?_
  try simp
  repeat' first | (refine ecallW [0, 1] (hp _ (rdI_mem (l := l) (i := i) (by omega) (by omega))) (by simp) (by simp) (by simp) ?_) | (refine evL_c ?_; simp [h9]) | (with_reducible first | apply aI | intro _ | assumption) | omega
  all_goals (apply Fin.go hK; clear hK K)
  simp only [tN]
  refine Run.cond rfl (fun h16 => ?_) (fun h16 => ?_)
  ·try simp at h16
   apply Run.seq
   refine opsF oo8 fun K hK => ?_
   try simp
   repeat' first | (refine evL_c ?_; simp [h9, h16]) | (with_reducible first | apply aI | intro _ | assumption) | omega
   all_goals (apply Fin.go hK; clear hK K)
   simp only [tN]
   apply Run.ret
   try simp only [Then_ret, Blok_ret]
   first
    | (have e := findS_some h9 hz h16; simp [e]; done)
    | (have e := findS_none (p := p) (l := l) (fun j hj => hz j (by omega)); simp [e])
  ·try simp at h16
   apply Run.skip
   simp only [Blok_normal]
   simp only [tN]
   refine opsF oo9 fun K hK => ?_
   try simp
   repeat' first | (refine evL_c ?_; simp [h9, h16]) | (with_reducible first | apply aI | intro _ | assumption) | omega
   all_goals (apply Fin.go hK; clear hK K)
   refine ⟨i + 1, ⟨by omega, fun j hj => ?_⟩, by omega, ?_⟩
   ·by_cases e : j = i
    ·subst e; exact h16
    ·exact hz j (by omega)
   ·simp (disch := omega) [wrap_id]
 ·try simp at h9
  refine Run.exit ?_
  simp (decide := true) only [Then_exit, Blok_exit, if_true, if_false]
  simp only [tN]
  apply Run.seq
  refine opsF oo10 fun K hK => ?_
  try simp
  repeat' first | (refine evL_c ?_; simp [h9]) | (with_reducible first | apply aI | intro _ | assumption) | omega
  all_goals (apply Fin.go hK; clear hK K)
  simp only [tN]
  apply Run.ret
  try simp only [Then_ret, Blok_ret]
  first
   | (have e := findS_some h9 hz h16; simp [e]; done)
   | (have e := findS_none (p := p) (l := l) (fun j hj => hz j (by omega)); simp [e])
theorem anyT_ok (nn : Bool) (l : List TermT) (fn : FuncId) (b : List Bool) (p : TermT → Bool) (hp : ∀ e ∈ l, SndW P fn [.d (.ag (encT e)), .pt 0 0 0 0] [(0, .vals [.rs 1 1 0 b.length]), (1, .data 1 (b.map encB))] (.bool (p e)) [(0, .vals [.rs 1 1 0 b.length]), (1, .data 1 (b.map encB))]) :
  SndW P 72 [.d (.sl nn (l.map encT)), .fn fn [.pt 0 0 0 0]] [(0, .vals [.rs 1 1 0 b.length]), (1, .data 1 (b.map encB))] (.bool (l.any p)) [(0, .vals [.rs 1 1 0 b.length]), (1, .data 1 (b.map encB))] := by
 refine sndW_of [0, 1] Try.func72 rfl (by kernel_rfl) Try.ntmps72 (by simp) (by simp) ?_
 unfold Try.f72
 simp only [List.cons_append, List.nil_append, List.length_cons, List.length_nil, Nat.reduceAdd, Nat.reduceSub, List.replicate]
 apply Run.seq
 refine opsF oo11 fun K hK => ?_
 try simp
 repeat' first | (refine evL_c ?_; simp) | (with_reducible first | apply aI | intro _ | assumption) | omega
 all_goals (apply Fin.go hK; clear hK K)
 simp only [tN]
 apply Run.seq
 refine opsT oo12 fun K hK => ?_
 try simp
 repeat' first | (refine ecallW [0, 1] (findT_ok nn l fn b p hp) (by simp) (by simp) (by simp) ?_) | (refine evL_c ?_; simp) | (with_reducible first | apply aI | intro _ | assumption) | omega
 all_goals (apply Fin.go hK; clear hK K)
 simp only [tN]
 apply Run.ret
 try simp only [Then_ret, Blok_ret]
 simp [findS_any]
theorem findI_ok (nn : Bool) (l : List Int) (fn : FuncId) (b : List Bool) (p : Int → Bool) (hp : ∀ e ∈ l, SndW P fn [.int e, .pt 0 0 0 0] [(0, .vals [.rs 1 1 0 b.length]), (1, .data 1 (b.map encB))] (.bool (p e)) [(0, .vals [.rs 1 1 0 b.length]), (1, .data 1 (b.map encB))]) :
  SndW P 102 [.d (.sl nn (l.map encI)), .fn fn [.pt 0 0 0 0]] [(0, .vals [.rs 1 1 0 b.length]), (1, .data 1 (b.map encB))] (.int (findS p l)) [(0, .vals [.rs 1 1 0 b.length]), (1, .data 1 (b.map encB))] := by
 refine SndW.ok 0 rfl (by kernel_rfl) fun hl => ?_
 simp only [D.ok, List.length_map] at hl
 obtain ⟨hl, -⟩ := hl
 refine sndW_of [0, 1] Try.func102 rfl (by kernel_rfl) Try.ntmps102 (by simp) (by simp) ?_
 unfold Try.f102
 simp only [List.cons_append, List.nil_append, List.length_cons, List.length_nil, Nat.reduceAdd, Nat.reduceSub, List.replicate]
 apply Run.seq
 refine opsF oo3 fun K hK => ?_
 try simp
 repeat' first | (refine evL_c ?_; simp) | (with_reducible first | apply aI | intro _ | assumption) | omega
 all_goals (apply Fin.go hK; clear hK K)
 simp only [tN]
 apply Run.seq
 apply Run.seq
 refine opsF [oM 0 6, oN 46 6 7, ⟨.move (.const (.int .i64 0)), some 8, none⟩] fun K hK => ?_
 try simp
 repeat' first | (refine evL_c ?_; simp) | (with_reducible first | apply aI | intro _ | assumption) | omega
 all_goals (apply Fin.go hK; clear hK K)
 simp only [tN]
 apply Run.block
 refine Run.loopO [4, 5, 8, 9, 10, 11, 12, 13, 14, 15, 16, 17, 18] (fun (i : Nat) => [(8, .int i)]) (fun (i : Nat) => [(0, .vals [.rs 1 1 0 b.length]), (1, .data 1 (b.map encB))]) (fun (i : Nat) => i ≤ l.length ∧ ∀ j, j < i → p (rdI l (j : Nat)) = false) (fun (i : Nat) => l.length - i) 0 (by simp) (by simp) fun i ⟨hi, hz⟩ => ?_
 simp only [over, List.foldl, List.set]
 apply Run.seq
 refine opsF oo5 fun K hK => ?_
 try simp
 repeat' first | (refine evL_c ?_; simp) | (with_reducible first | apply aI | intro _ | assumption) | omega
 all_goals (apply Fin.go hK; clear hK K)
 simp only [tN]
 apply Run.seq
 refine Run.cond rfl (fun h9 => ?_) (fun h9 => ?_)
 ·try simp at h9
  apply Run.skip
  simp only [tN]
  apply Run.seq
  apply Run.block
  apply Run.seq
  refine opsF oo6 fun K hK => ?_
  try simp
  repeat' first | (refine evL_c ?_; simp [h9]) | (with_reducible first | apply aI | intro _ | assumption) | omega
  all_goals (apply Fin.go hK; clear hK K)
  simp only [tN]
  apply Run.seq
  refine opsT [oM 1 11, oM 0 12, oM 5 13, oI 46 12 13 14, oL 3 14 15, ⟨.call { callee := .value (.tmp 11), args := #[.tmp 15], argTypes := #[3] }, some 16, none⟩] fun K hK => ?_
  try simp
  repeat' first | (refine ecallW [0, 1] (hp _ (rdI_mem (l := l) (i := i) (by omega) (by omega))) (by simp) (by simp) (by simp) ?_) | (refine evL_c ?_; simp [h9]) | (with_reducible first | apply aI | intro _ | assumption) | omega
  all_goals (apply Fin.go hK; clear hK K)
  simp only [tN]
  refine Run.cond rfl (fun h16 => ?_) (fun h16 => ?_)
  ·try simp at h16
   apply Run.seq
   refine opsF oo8 fun K hK => ?_
   try simp
   repeat' first | (refine evL_c ?_; simp [h9, h16]) | (with_reducible first | apply aI | intro _ | assumption) | omega
   all_goals (apply Fin.go hK; clear hK K)
   simp only [tN]
   apply Run.ret
   try simp only [Then_ret, Blok_ret]
   first
    | (have e := findS_some h9 hz h16; simp [e]; done)
    | (have e := findS_none (p := p) (l := l) (fun j hj => hz j (by omega)); simp [e])
  ·try simp at h16
   apply Run.skip
   simp only [Blok_normal]
   simp only [tN]
   refine opsF oo9 fun K hK => ?_
   try simp
   repeat' first | (refine evL_c ?_; simp [h9, h16]) | (with_reducible first | apply aI | intro _ | assumption) | omega
   all_goals (apply Fin.go hK; clear hK K)
   refine ⟨i + 1, ⟨by omega, fun j hj => ?_⟩, by omega, ?_⟩
   ·by_cases e : j = i
    ·subst e; exact h16
    ·exact hz j (by omega)
   ·simp (disch := omega) [wrap_id]
 ·try simp at h9
  refine Run.exit ?_
  simp (decide := true) only [Then_exit, Blok_exit, if_true, if_false]
  simp only [tN]
  apply Run.seq
  refine opsF oo10 fun K hK => ?_
  try simp
  repeat' first | (refine evL_c ?_; simp [h9]) | (with_reducible first | apply aI | intro _ | assumption) | omega
  all_goals (apply Fin.go hK; clear hK K)
  simp only [tN]
  apply Run.ret
  try simp only [Then_ret, Blok_ret]
  first
   | (have e := findS_some h9 hz h16; simp [e]; done)
   | (have e := findS_none (p := p) (l := l) (fun j hj => hz j (by omega)); simp [e])
theorem anyI_ok (nn : Bool) (l : List Int) (fn : FuncId) (b : List Bool) (p : Int → Bool) (hp : ∀ e ∈ l, SndW P fn [.int e, .pt 0 0 0 0] [(0, .vals [.rs 1 1 0 b.length]), (1, .data 1 (b.map encB))] (.bool (p e)) [(0, .vals [.rs 1 1 0 b.length]), (1, .data 1 (b.map encB))]) :
  SndW P 90 [.d (.sl nn (l.map encI)), .fn fn [.pt 0 0 0 0]] [(0, .vals [.rs 1 1 0 b.length]), (1, .data 1 (b.map encB))] (.bool (l.any p)) [(0, .vals [.rs 1 1 0 b.length]), (1, .data 1 (b.map encB))] := by
 refine sndW_of [0, 1] Try.func90 rfl (by kernel_rfl) Try.ntmps90 (by simp) (by simp) ?_
 unfold Try.f90
 simp only [List.cons_append, List.nil_append, List.length_cons, List.length_nil, Nat.reduceAdd, Nat.reduceSub, List.replicate]
 apply Run.seq
 refine opsF oo11 fun K hK => ?_
 try simp
 repeat' first | (refine evL_c ?_; simp) | (with_reducible first | apply aI | intro _ | assumption) | omega
 all_goals (apply Fin.go hK; clear hK K)
 simp only [tN]
 apply Run.seq
 refine opsT [oM 0 5, oM 1 6, oC 102 #[.tmp 5, .tmp 6] #[46, 136] 7, oK .geq 3 7 0 3 8, oA 8 4] fun K hK => ?_
 try simp
 repeat' first | (refine ecallW [0, 1] (findI_ok nn l fn b p hp) (by simp) (by simp) (by simp) ?_) | (refine evL_c ?_; simp) | (with_reducible first | apply aI | intro _ | assumption) | omega
 all_goals (apply Fin.go hK; clear hK K)
 simp only [tN]
 apply Run.ret
 try simp only [Then_ret, Blok_ret]
 simp [findS_any]
theorem badS_ok (b : List Bool) (s : Int) : SndW P 96 [.int s, .pt 0 0 0 0] [(0, .vals [.rs 1 1 0 b.length]), (1, .data 1 (b.map encB))] (.bool (badS b s)) [(0, .vals [.rs 1 1 0 b.length]), (1, .data 1 (b.map encB))] := by
 obtain ⟨n, hn⟩ : ∃ n, b.length = n := ⟨_, rfl⟩
 refine sndW_of [0, 1] Try.func96 rfl (by kernel_rfl) Try.ntmps96 (by simp) (by simp) ?_
 unfold Try.f96
 simp only [List.cons_append, List.nil_append, List.length_cons, List.length_nil, Nat.reduceAdd, Nat.reduceSub, List.replicate]
 apply Run.seq
 refine opsF [⟨.assign (.const (.bool false)), some 3, none⟩] fun K hK => ?_
 try simp
 repeat' first | (refine evL_c ?_; simp [hn]) | (with_reducible first | apply aI | intro _ | assumption) | omega
 all_goals (apply Fin.go hK; clear hK K)
 simp only [tN]
 apply Run.seq
 refine opsF [oM 0 4, oK .lss 3 4 0 3 5, oM 5 6, ⟨.move (.tmp 0), some 7, some (some 6, false)⟩, ⟨.load 34 (.tmp 1), some 8, some (some 6, false)⟩, ⟨.call { callee := .builtin .len, args := #[.tmp 8], argTypes := #[34] }, some 9, some (some 6, false)⟩, ⟨.binOp .geq 3 (.tmp 7) (.tmp 9) 3, some 10, some (some 6, false)⟩, ⟨.pick (.tmp 6) (.const (.bool true)) (.tmp 10), some 11, none⟩, oM 11 12, ⟨.load 34 (.tmp 1), some 13, some (some 12, false)⟩, ⟨.move (.tmp 0), some 14, some (some 12, false)⟩, ⟨.indexAddr 34 (.tmp 13) (.tmp 14), some 15, some (some 12, false)⟩, ⟨.load 4 (.tmp 15), some 16, some (some 12, false)⟩, ⟨.unOp .not 4 (.tmp 16), some 17, some (some 12, false)⟩, ⟨.pick (.tmp 12) (.const (.bool true)) (.tmp 17), some 18, none⟩, oA 18 3] fun K hK => ?_
 try simp
 repeat' first | ((first | refine evL_c ?_ | (refine evL_g rfl ?_; try simp only [gs_tt, gs_ff, gs_tf, gs_ft]) | refine evL_u rfl ?_ | (with_reducible refine gsplit (fun hg => ?_) (fun hg => ?_) <;> try simp at hg)) <;> try simp [hn, *]) | (with_reducible first | apply aI | intro _ | assumption) | omega
 all_goals (apply Fin.go hK; clear hK K)
 all_goals
  simp only [tN]
  apply Run.ret
  try simp only [Then_ret, Blok_ret]
  (try simp [badS, hn]) <;> (first | omega | (simp; done) | (rw [Bool.eq_iff_iff]; simp only [Bool.or_eq_true, Bool.and_eq_true, Bool.not_eq_true', decide_eq_true_eq, decide_eq_false_iff_not]; omega) | (simp_all; done) | (simp_all; omega) | grind)
theorem binds_ok (b : List Bool) (t : TermT) (ht : cntT t ≤ 1100000) : SndW P 74 [.rs 0 1 0 b.length, .d (.ag (encT t))] [(0, .data 1 (b.map encB))] (.bool (bindsS b t)) [(0, .data 1 (b.map encB))] := by
 refine sndW_of [0] Try.func74 rfl (by kernel_rfl) Try.ntmps74 (by simp) (by simp) ?_
 unfold Try.f74
 simp only [List.cons_append, List.nil_append, List.length_cons, List.length_nil, Nat.reduceAdd, Nat.reduceSub, List.replicate]
 apply Run.seq
 refine opsF [⟨.box 34 (.tmp 0), some 2, none⟩, ⟨.box 89 (.tmp 1), some 3, none⟩, ⟨.assign (.const (.bool false)), some 4, none⟩] fun K hK => ?_
 try simp
 repeat' first | (refine evL_c ?_; simp) | (with_reducible first | apply aI | intro _ | assumption) | omega
 all_goals (apply Fin.go hK; clear hK K)
 simp only [tN]
 apply Run.seq
 refine opsT [oL 89 3 5, oC 91 #[.tmp 5] #[89] 6, ⟨.makeFunc (Fn.func 96) #[] #[.tmp 2], some 7, none⟩, oC 90 #[.tmp 6, .tmp 7] #[46, 136] 8, ⟨.unOp .not 4 (.tmp 8), some 9, none⟩, oA 9 4] fun K hK => ?_
 try simp
 repeat' first | (refine ecallP (by simp) (by have h := slots_ok t ht; rw [encT_cells] at h; exact h) ?_) | (refine ecallW [300, 0] (anyI_ok false (slotsT t) 96 b (badS b) (fun s _ => badS_ok b s)) (by simp) (by simp) (by simp) ?_) | (refine evL_c ?_; simp) | (with_reducible first | apply aI | intro _ | assumption) | omega
 all_goals (apply Fin.go hK; clear hK K)
 simp only [tN]
 apply Run.ret
 try simp only [Then_ret, Blok_ret]
 simp [bindsS]
theorem bindsN_ok (b : List Bool) (t : TermT) (ht : cntT t ≤ 1100000) : SndW P 73 [.d (.ag (encT t)), .pt 0 0 0 0] [(0, .vals [.rs 1 1 0 b.length]), (1, .data 1 (b.map encB))] (.bool (!bindsS b t)) [(0, .vals [.rs 1 1 0 b.length]), (1, .data 1 (b.map encB))] := by
 refine sndW_of [0, 1] Try.func73 rfl (by kernel_rfl) Try.ntmps73 (by simp) (by simp) ?_
 unfold Try.f73
 simp only [List.cons_append, List.nil_append, List.length_cons, List.length_nil, Nat.reduceAdd, Nat.reduceSub, List.replicate]
 apply Run.seq
 refine opsF [⟨.box 89 (.tmp 0), some 2, none⟩, ⟨.assign (.const (.bool false)), some 3, none⟩] fun K hK => ?_
 try simp
 repeat' first | (refine evL_c ?_; simp) | (with_reducible first | apply aI | intro _ | assumption) | omega
 all_goals (apply Fin.go hK; clear hK K)
 simp only [tN]
 apply Run.seq
 refine opsT [oL 34 1 4, oL 89 2 5, oC 74 #[.tmp 4, .tmp 5] #[34, 89] 6, ⟨.unOp .not 4 (.tmp 6), some 7, none⟩, oA 7 3] fun K hK => ?_
 try simp
 repeat' first | (refine ecallW [1] (by have h := binds_ok b t ht; rw [encT_cells] at h; exact h) (by simp) (by simp) (by simp) ?_) | (refine evL_c ?_; simp) | (with_reducible first | apply aI | intro _ | assumption) | omega
 all_goals (apply Fin.go hK; clear hK K)
 simp only [tN]
 apply Run.ret
 try simp only [Then_ret, Blok_ret]
 simp
end Go.Proofs.Ytimgbdkgjfbhkaa.Z
end
section
namespace Go.Proofs.Ytimgbdkgjfbhkaa.Z
open Go Go.Fw
def badM1 (c : CoreT) (e : Int) (b : List Bool) : Bool := decide (e < 0) || decide ((c.edges.length : Int) ≤ e) || rdI b (c.nodes.length + e)
def touchM (c : CoreT) (s e : Int) (b : List Bool) : Bool := (decide ((rdI c.edges e).src = s) && rdI b (rdI c.edges e).dst) || (decide ((rdI c.edges e).dst = s) && rdI b (rdI c.edges e).src)
def badM2 (c : CoreT) (s e : Int) (b : List Bool) : Bool := !touchM c s e b || !decide ((rdI c.edges e).mode = 0)
def meetL (c : CoreT) (s : Int) : List Int → List Bool → Bool × List Bool
 | [], b => (true, b)
 | e :: r, b => if badM1 c e b || badM2 c s e b then (false, b) else meetL c s r (b.set (c.nodes.length + e).toNat true)
def badSlot (c : CoreT) (p : PlanT) (b : List Bool) : Bool := decide (p.slot < 0) || decide ((c.nodes.length : Int) ≤ p.slot) || rdI b p.slot || decide (p.edges.length = 0)
def meetB (c : CoreT) (p : PlanT) (b : List Bool) : Bool := !badSlot c p b && (meetL c p.slot p.edges b).1
def meetR (c : CoreT) (p : PlanT) (b : List Bool) : List Bool := if badSlot c p b then b else if (meetL c p.slot p.edges b).1 then (meetL c p.slot p.edges b).2.set p.slot.toNat true else (meetL c p.slot p.edges b).2
theorem meetL_bad {c : CoreT} {s : Int} {l : List Int} {i : Nat} {b : List Bool} (hi : i < l.length) (h : badM1 c (rdI l i) b = true ∨ badM2 c s (rdI l i) b = true) : meetL c s (l.drop i) b = (false, b) := by
 rw [drop_rd hi, meetL, if_pos (by simpa using h)]
theorem meetL_step {c : CoreT} {s : Int} {l : List Int} {i : Nat} {b : List Bool} (hi : i < l.length) (h1 : badM1 c (rdI l i) b = false) (h2 : badM2 c s (rdI l i) b = false) : meetL c s (l.drop i) b = meetL c s (l.drop (i + 1)) (b.set (c.nodes.length + rdI l i).toNat true) := by
 rw [drop_rd hi, meetL, if_neg (by simp [h1, h2])]
theorem meetL_end {c : CoreT} {s : Int} {l : List Int} {i : Nat} {b : List Bool} (hi : l.length ≤ i) : meetL c s (l.drop i) b = (true, b) := by
 rw [List.drop_of_length_le hi, meetL]
set_option maxHeartbeats 4000000 in
theorem meet_ok (c : CoreT) (p : PlanT) (b : List Bool) (hb : b.length = c.nodes.length + c.edges.length) (hE : GoodE c) : SndW P 71 [.d (.ag (encC c ++ [D.int c.nodes.length])), .d (.ag (encP p)), .rs 0 1 0 b.length] [(0, .data 1 (b.map encB))] (.bool (meetB c p b)) [(0, .data 1 ((meetR c p b).map encB))] := by
 refine SndW.ok 1 rfl (by kernel_rfl) fun hp => ?_
 have hpm := (encP_ok hp).2.1
 clear hp
 obtain ⟨n, hn⟩ : ∃ k, c.nodes.length = k := ⟨_, rfl⟩
 obtain ⟨m, hm⟩ : ∃ m, p.edges.length = m := ⟨_, rfl⟩
 obtain ⟨k, hk⟩ : ∃ k, c.edges.length = k := ⟨_, rfl⟩
 rw [hn, hk] at hb
 rw [hm] at hpm
 refine sndW_of [0] Try.func71 rfl (by kernel_rfl) Try.ntmps71 (by simp) (by simp) ?_
 unfold Try.f71
 refine Run.okV 2 rfl fun hL => ?_
 have hs1 : 0 ≤ p.slot → p.slot < (n:Int) → p.slot.toNat < n + k := by omega
 have hs2 : 0 ≤ p.slot → p.slot < (n:Int) → p.slot < (n:Int) + k := by omega
 have hq1 : ∀ e : Int, 0 ≤ e → e < k → ((n:Int) + e).toNat < n + k := by omega
 have hq2 : ∀ e : Int, 0 ≤ e → e < k → 0 ≤ (n:Int) + e := by omega
 have hq3 : ∀ e : Int, 0 ≤ e → e < k → IntKind.i64.wrap ((n:Int) + e) = (n:Int) + e := fun e _ _ => wrap_id (by omega) (by omega)
 have hg0 : ∀ e : Int, 0 ≤ e → e < k → 0 ≤ (rdI c.edges e).src ∧ 0 ≤ (rdI c.edges e).dst ∧ (rdI c.edges e).src < (n : Int) + k ∧ (rdI c.edges e).dst < (n : Int) + k ∧ (rdI c.edges e).src.toNat < n + k ∧ (rdI c.edges e).dst.toNat < n + k := fun e h0 h1 => by
  have := hE (rdI c.edges e) (rdI_mem h0 (by omega)); rw [hn] at this; omega
 simp only [List.cons_append, List.nil_append, List.length_cons, List.length_nil, Nat.reduceAdd, Nat.reduceSub, List.replicate]
 apply Run.seq
 refine opsF oo0 fun K hK => ?_
 try simp
 repeat' first | (refine evL_c ?_; simp [-List.map_set, hm, hk, hn, hb, hs1, hs2, hq1, hq2, hq3, hg0]) | (with_reducible first | apply aI | intro _ | assumption) | omega
 all_goals (apply Fin.go hK; clear hK K)
 simp only [tN]
 apply Run.seq
 refine Run.cut [11, 12, 13, 14, 15, 16, 17, 18, 19, 20, 21, 22, 23, 24, 25, 26, 27, 28, 29, 30, 31, 32, 33] [(33, .bool (badSlot c p b))] [(0, .data 1 (b.map encB)), (400, .vals ((encC c ++ [D.int c.nodes.length]).map .d)), (500, .vals ((encP p).map .d))] ?_ ?_
 ·refine opsF [oF 48 4 2 11, oL 3 11 12, oK .lss 3 12 0 3 13, oM 13 14, ⟨.fieldAddr 48 (.tmp 4) 2, some 15, some (some 14, false)⟩, ⟨.load 3 (.tmp 15), some 16, some (some 14, false)⟩, ⟨.fieldAddr 112 (.tmp 3) 1, some 17, some (some 14, false)⟩, ⟨.load 3 (.tmp 17), some 18, some (some 14, false)⟩, ⟨.binOp .geq 3 (.tmp 16) (.tmp 18) 3, some 19, some (some 14, false)⟩, ⟨.pick (.tmp 14) (.const (.bool true)) (.tmp 19), some 20, none⟩, oM 20 21, ⟨.move (.tmp 2), some 22, some (some 21, false)⟩, ⟨.fieldAddr 48 (.tmp 4) 2, some 23, some (some 21, false)⟩, ⟨.load 3 (.tmp 23), some 24, some (some 21, false)⟩, ⟨.indexAddr 34 (.tmp 22) (.tmp 24), some 25, some (some 21, false)⟩, ⟨.load 4 (.tmp 25), some 26, some (some 21, false)⟩, ⟨.pick (.tmp 21) (.const (.bool true)) (.tmp 26), some 27, none⟩, oM 27 28, ⟨.fieldAddr 48 (.tmp 4) 3, some 29, some (some 28, false)⟩, ⟨.load 46 (.tmp 29), some 30, some (some 28, false)⟩, ⟨.call { callee := .builtin .len, args := #[.tmp 30], argTypes := #[46] }, some 31, some (some 28, false)⟩, ⟨.binOp .eql 3 (.tmp 31) (.const (.int .i64 0)) 3, some 32, some (some 28, false)⟩, ⟨.pick (.tmp 28) (.const (.bool true)) (.tmp 32), some 33, none⟩] fun K hK => ?_
  try simp
  repeat' first | ((first | refine evL_c ?_ | (refine evL_g rfl ?_; try simp only [gs_tt, gs_ff, gs_tf, gs_ft]) | refine evL_u rfl ?_ | (with_reducible refine gsplit (fun hg => ?_) (fun hg => ?_) <;> try simp at hg)) <;> try simp [-List.map_set, hm, hk, hn, hb, hs1, hs2, hq1, hq2, hq3, hg0, *]) | (with_reducible first | apply aI | intro _ | assumption) | omega
  all_goals (apply Fin.go hK; clear hK K)
  all_goals
   (try simp [hm, hk, hn, hb, badSlot, *]) <;> (first | omega | (simp; done) | (rw [Bool.eq_iff_iff]; simp only [Bool.or_eq_true, Bool.and_eq_true, Bool.not_eq_true', decide_eq_true_eq, decide_eq_false_iff_not]; omega) | (clear hq1 hq2 hq3 hs1 hs2 hg0 hE; grind) | (simp_all; done) | (simp_all; omega))
 ·simp only [over, List.foldl, List.set]
  refine Run.cond rfl (fun h33 => ?_) (fun h33 => ?_)
  ·try simp at h33
   apply Run.seq
   refine opsF oo1 fun K hK => ?_
   try simp
   repeat' first | (refine evL_c ?_; simp [-List.map_set, hm, hk, hn, hb, hs1, hs2, hq1, hq2, hq3, hg0]) | (with_reducible first | apply aI | intro _ | assumption) | omega
   all_goals (apply Fin.go hK; clear hK K)
   simp only [tN]
   apply Run.ret
   try simp only [Then_ret, Blok_ret]
   first
    | (have e : meetB c p b = false := by simp [meetB, h33]
       simp [meetR, e, h33, hn]; done)
    | (have e1 : meetL c p.slot p.edges b = (false, bi) := by rw [hml, meetL_bad (by omega) (.inl h59)]
       simp [meetR, meetB, e1, h33, hn]; done)
    | (have e1 : meetL c p.slot p.edges b = (false, bi) := by rw [hml, meetL_bad (by omega) (.inr h98)]
       simp [meetR, meetB, e1, h33, hn]; done)
    | (have e1 : meetL c p.slot p.edges b = (true, bi) := by rw [hml, meetL_end (by omega)]
       simp [-List.map_set, meetR, meetB, e1, h33, hn]; done)
  ·try simp at h33
   have h33' := h33
   simp [badSlot, hk, hn, hm] at h33'
   obtain ⟨⟨⟨hp0, hp1⟩, hp2⟩, hp3⟩ := h33'
   apply Run.skip
   simp only [tN]
   apply Run.seq
   apply Run.seq
   refine opsF [oF 48 4 3 34, oL 46 34 35, oN 46 35 36, ⟨.move (.const (.int .i64 0)), some 37, none⟩] fun K hK => ?_
   try simp
   repeat' first | (refine evL_c ?_; simp [-List.map_set, hm, hk, hn, hb, hs1, hs2, hq1, hq2, hq3, hg0, hp0, hp1]) | (with_reducible first | apply aI | intro _ | assumption) | omega
   all_goals (apply Fin.go hK; clear hK K)
   simp only [tN]
   apply Run.block
   refine Run.loopO [6, 8, 9, 10, 37, 38, 39, 40, 41, 42, 43, 44, 45, 46, 47, 48, 49, 50, 51, 52, 53, 54, 55, 56, 57, 58, 59, 60, 61, 62, 63, 64, 65, 66, 67, 68, 69, 70, 71, 72, 73, 74, 75, 76, 77, 78, 79, 80, 81, 82, 83, 84, 85, 86, 87, 88, 89, 90, 91, 92, 93, 94, 95, 96, 97, 98, 99, 100, 101, 102, 103, 104, 105] (fun (x : Nat × List Bool) => [(37, .int x.1)]) (fun (x : Nat × List Bool) => [(0, .data 1 (x.2.map encB)), (400, .vals ((encC c ++ [D.int c.nodes.length]).map .d)), (500, .vals ((encP p).map .d))]) (fun (x : Nat × List Bool) => x.1 ≤ m ∧ x.2.length = n + k ∧ meetL c p.slot p.edges b = meetL c p.slot (p.edges.drop x.1) x.2) (fun (x : Nat × List Bool) => m - x.1) (0, b) (by simp [hb]) (by simp [hb, hn]) fun ⟨i, bi⟩ ⟨hi, hbi, hml⟩ => ?_
   simp only at hi hbi hml
   simp only [over, List.foldl, List.set]
   apply Run.seq
   refine opsF [oB .lss 3 37 36 3 38] fun K hK => ?_
   try simp
   repeat' first | (refine evL_c ?_; simp [-List.map_set, hm, hk, hn, hb, hs1, hs2, hq1, hq2, hq3, hg0, hp0, hp1]) | (with_reducible first | apply aI | intro _ | assumption) | omega
   all_goals (apply Fin.go hK; clear hK K)
   simp only [tN]
   apply Run.seq
   refine Run.cond rfl (fun h38 => ?_) (fun h38 => ?_)
   ·try simp at h38
    have hi1 : i < m := by omega
    apply Run.skip
    simp only [tN]
    apply Run.seq
    apply Run.block
    apply Run.seq
    refine opsF [oI 46 35 37 39, oL 3 39 40, oA 40 8] fun K hK => ?_
    try simp
    repeat' first | (refine evL_c ?_; simp [-List.map_set, hm, hk, hn, hb, hs1, hs2, hq1, hq2, hq3, hg0, hp0, hp1, hi1, hbi]) | (with_reducible first | apply aI | intro _ | assumption) | omega
    all_goals (apply Fin.go hK; clear hK K)
    simp only [tN]
    apply Run.seq
    refine Run.cut [41, 42, 43, 44, 45, 46, 47, 48, 49, 50, 51, 52, 53, 54, 55, 56, 57, 58, 59] [(59, .bool (badM1 c (rdI p.edges i) bi))] [(0, .data 1 (bi.map encB)), (400, .vals ((encC c ++ [D.int c.nodes.length]).map .d)), (500, .vals ((encP p).map .d))] ?_ ?_
    ·refine opsF [oM 8 41, oK .lss 3 41 0 3 42, oM 42 43, ⟨.move (.tmp 8), some 44, some (some 43, false)⟩, ⟨.fieldAddr 112 (.tmp 3) 0, some 45, some (some 43, false)⟩, ⟨.fieldAddr 32 (.tmp 45) 1, some 46, some (some 43, false)⟩, ⟨.load 27 (.tmp 46), some 47, some (some 43, false)⟩, ⟨.call { callee := .builtin .len, args := #[.tmp 47], argTypes := #[27] }, some 48, some (some 43, false)⟩, ⟨.binOp .geq 3 (.tmp 44) (.tmp 48) 3, some 49, some (some 43, false)⟩, ⟨.pick (.tmp 43) (.const (.bool true)) (.tmp 49), some 50, none⟩, oM 50 51, ⟨.move (.tmp 2), some 52, some (some 51, false)⟩, ⟨.fieldAddr 112 (.tmp 3) 1, some 53, some (some 51, false)⟩, ⟨.load 3 (.tmp 53), some 54, some (some 51, false)⟩, ⟨.move (.tmp 8), some 55, some (some 51, false)⟩, ⟨.binOp .add 3 (.tmp 54) (.tmp 55) 3, some 56, some (some 51, false)⟩, ⟨.indexAddr 34 (.tmp 52) (.tmp 56), some 57, some (some 51, false)⟩, ⟨.load 4 (.tmp 57), some 58, some (some 51, false)⟩, ⟨.pick (.tmp 51) (.const (.bool true)) (.tmp 58), some 59, none⟩] fun K hK => ?_
     try simp
     repeat' first | ((first | refine evL_c ?_ | (refine evL_g rfl ?_; try simp only [gs_tt, gs_ff, gs_tf, gs_ft]) | refine evL_u rfl ?_ | (with_reducible refine gsplit (fun hg => ?_) (fun hg => ?_) <;> try simp at hg)) <;> try simp [-List.map_set, hm, hk, hn, hb, hs1, hs2, hq1, hq2, hq3, hg0, hp0, hp1, hi1, hbi, *]) | (with_reducible first | apply aI | intro _ | assumption) | omega
     all_goals (apply Fin.go hK; clear hK K)
     all_goals
      (try simp [hm, hk, hn, hb, badM1, *]) <;> (first | omega | (simp; done) | (rw [Bool.eq_iff_iff]; simp only [Bool.or_eq_true, Bool.and_eq_true, Bool.not_eq_true', decide_eq_true_eq, decide_eq_false_iff_not]; omega) | (clear hq1 hq2 hq3 hs1 hs2 hg0 hE; grind) | (simp_all; done) | (simp_all; omega))
    ·simp only [over, List.foldl, List.set]
     refine Run.cond rfl (fun h59 => ?_) (fun h59 => ?_)
     ·try simp at h59
      apply Run.seq
      refine opsF oo1 fun K hK => ?_
      try simp
      repeat' first | (refine evL_c ?_; simp [-List.map_set, hm, hk, hn, hb, hs1, hs2, hq1, hq2, hq3, hg0, hp0, hp1, hi1, hbi]) | (with_reducible first | apply aI | intro _ | assumption) | omega
      all_goals (apply Fin.go hK; clear hK K)
      simp only [tN]
      apply Run.ret
      try simp only [Then_ret, Blok_ret]
      first
       | (have e : meetB c p b = false := by simp [meetB, h33]
          simp [meetR, e, h33, hn]; done)
       | (have e1 : meetL c p.slot p.edges b = (false, bi) := by rw [hml, meetL_bad (by omega) (.inl h59)]
          simp [meetR, meetB, e1, h33, hn]; done)
       | (have e1 : meetL c p.slot p.edges b = (false, bi) := by rw [hml, meetL_bad (by omega) (.inr h98)]
          simp [meetR, meetB, e1, h33, hn]; done)
       | (have e1 : meetL c p.slot p.edges b = (true, bi) := by rw [hml, meetL_end (by omega)]
          simp [-List.map_set, meetR, meetB, e1, h33, hn]; done)
     ·try simp at h59
      have h59' := h59
      simp [badM1, hk, hn] at h59'
      obtain ⟨⟨he0, he1⟩, he2⟩ := h59'
      apply Run.skip
      simp only [tN]
      refine Run.cut [9, 60, 61, 62, 63, 64, 65] [(9, .pt 1000 0 0 0)] [(0, .data 1 (bi.map encB)), (400, .vals ((encC c ++ [D.int c.nodes.length]).map .d)), (500, .vals ((encP p).map .d)), (1000, .vals ((encE (rdI c.edges (rdI p.edges i))).map .d))] ?_ ?_
      ·refine opsF [oF 112 3 0 60, oF 32 60 1 61, oL 27 61 62, oM 8 63, oI 27 62 63 64, oL 98 64 65, ⟨.alloc 98, some 9, none⟩, oS 98 9 65] fun K hK => ?_
       try simp
       repeat' first | (refine evL_c ?_; simp [-List.map_set, hm, hk, hn, hb, hs1, hs2, hq1, hq2, hq3, hg0, hp0, hp1, hi1, hbi, he0, he1]) | (with_reducible first | apply aI | intro _ | assumption) | omega
       all_goals (apply Fin.go hK; clear hK K)
       (try simp [hm, hk, hn, hb]) <;> (first | omega | (simp; done) | (rw [Bool.eq_iff_iff]; simp only [Bool.or_eq_true, Bool.and_eq_true, Bool.not_eq_true', decide_eq_true_eq, decide_eq_false_iff_not]; omega) | (clear hq1 hq2 hq3 hs1 hs2 hg0 hE; grind) | (simp_all; done) | (simp_all; omega))
      ·simp only [over, List.foldl, List.set]
       refine Run.cut [10, 66, 67, 68, 69, 70, 71, 72, 73, 74, 75, 76, 77, 78, 79, 80, 81, 82, 83, 84, 85, 86, 87, 88, 89, 90, 91] [(10, .bool (touchM c p.slot (rdI p.edges i) bi))] [(0, .data 1 (bi.map encB)), (400, .vals ((encC c ++ [D.int c.nodes.length]).map .d)), (500, .vals ((encP p).map .d)), (1000, .vals ((encE (rdI c.edges (rdI p.edges i))).map .d))] ?_ ?_
       ·refine opsF [oF 98 9 2 66, oL 3 66 67, oF 48 4 2 68, oL 3 68 69, oB .eql 3 67 69 3 70, oM 70 71, ⟨.move (.tmp 2), some 72, some (some 71, true)⟩, ⟨.fieldAddr 98 (.tmp 9) 3, some 73, some (some 71, true)⟩, ⟨.load 3 (.tmp 73), some 74, some (some 71, true)⟩, ⟨.indexAddr 34 (.tmp 72) (.tmp 74), some 75, some (some 71, true)⟩, ⟨.load 4 (.tmp 75), some 76, some (some 71, true)⟩, ⟨.pick (.tmp 71) (.tmp 76) (.const (.bool false)), some 77, none⟩, oM 77 78, ⟨.fieldAddr 98 (.tmp 9) 3, some 79, some (some 78, false)⟩, ⟨.load 3 (.tmp 79), some 80, some (some 78, false)⟩, ⟨.fieldAddr 48 (.tmp 4) 2, some 81, some (some 78, false)⟩, ⟨.load 3 (.tmp 81), some 82, some (some 78, false)⟩, ⟨.binOp .eql 3 (.tmp 80) (.tmp 82) 3, some 83, some (some 78, false)⟩, ⟨.move (.tmp 83), some 84, some (some 78, false)⟩, ⟨.move (.tmp 2), some 85, some (some 84, true)⟩, ⟨.fieldAddr 98 (.tmp 9) 2, some 86, some (some 84, true)⟩, ⟨.load 3 (.tmp 86), some 87, some (some 84, true)⟩, ⟨.indexAddr 34 (.tmp 85) (.tmp 87), some 88, some (some 84, true)⟩, ⟨.load 4 (.tmp 88), some 89, some (some 84, true)⟩, ⟨.pick (.tmp 84) (.tmp 89) (.const (.bool false)), some 90, some (some 78, false)⟩, ⟨.pick (.tmp 78) (.const (.bool true)) (.tmp 90), some 91, none⟩, oA 91 10] fun K hK => ?_
        try simp
        repeat' first | ((first | refine evL_c ?_ | (refine evL_g rfl ?_; try simp only [gs_tt, gs_ff, gs_tf, gs_ft]) | refine evL_u rfl ?_ | (with_reducible refine gsplit (fun hg => ?_) (fun hg => ?_) <;> try simp at hg)) <;> try simp [-List.map_set, hm, hk, hn, hb, hs1, hs2, hq1, hq2, hq3, hg0, hp0, hp1, hi1, hbi, he0, he1]) | (with_reducible first | apply aI | intro _ | assumption) | omega
        all_goals (apply Fin.go hK; clear hK K)
        all_goals
         (try simp [hm, hk, hn, hb, touchM, *]) <;> (first | omega | (simp; done) | (rw [Bool.eq_iff_iff]; simp only [Bool.or_eq_true, Bool.and_eq_true, Bool.not_eq_true', decide_eq_true_eq, decide_eq_false_iff_not]; omega) | (clear hq1 hq2 hq3 hs1 hs2 hg0 hE; grind) | (simp_all; done) | (simp_all; omega))
       ·simp only [over, List.foldl, List.set]
        apply Run.seq
        refine Run.cut [92, 93, 94, 95, 96, 97, 98] [(98, .bool (badM2 c p.slot (rdI p.edges i) bi))] [(0, .data 1 (bi.map encB)), (400, .vals ((encC c ++ [D.int c.nodes.length]).map .d)), (500, .vals ((encP p).map .d)), (1000, .vals ((encE (rdI c.edges (rdI p.edges i))).map .d))] ?_ ?_
        ·refine opsF [oM 10 92, ⟨.unOp .not 4 (.tmp 92), some 93, none⟩, oM 93 94, ⟨.fieldAddr 98 (.tmp 9) 4, some 95, some (some 94, false)⟩, ⟨.load 96 (.tmp 95), some 96, some (some 94, false)⟩, ⟨.binOp .neq 96 (.tmp 96) (.const (.int .i64 0)) 96, some 97, some (some 94, false)⟩, ⟨.pick (.tmp 94) (.const (.bool true)) (.tmp 97), some 98, none⟩] fun K hK => ?_
         try simp
         repeat' first | ((first | refine evL_c ?_ | (refine evL_g rfl ?_; try simp only [gs_tt, gs_ff, gs_tf, gs_ft]) | refine evL_u rfl ?_ | (with_reducible refine gsplit (fun hg => ?_) (fun hg => ?_) <;> try simp at hg)) <;> try simp [-List.map_set, hm, hk, hn, hb, hs1, hs2, hq1, hq2, hq3, hg0, hp0, hp1, hi1, hbi, he0, he1]) | (with_reducible first | apply aI | intro _ | assumption) | omega
         all_goals (apply Fin.go hK; clear hK K)
         all_goals
          (try simp [hm, hk, hn, hb, badM2, *]) <;> (first | omega | (simp; done) | (rw [Bool.eq_iff_iff]; simp only [Bool.or_eq_true, Bool.and_eq_true, Bool.not_eq_true', decide_eq_true_eq, decide_eq_false_iff_not]; omega) | (clear hq1 hq2 hq3 hs1 hs2 hg0 hE; grind) | (simp_all; done) | (simp_all; omega))
        ·simp only [over, List.foldl, List.set]
         refine Run.cond rfl (fun h98 => ?_) (fun h98 => ?_)
         ·try simp at h98
          apply Run.seq
          refine opsF oo1 fun K hK => ?_
          try simp
          repeat' first | (refine evL_c ?_; simp [-List.map_set, hm, hk, hn, hb, hs1, hs2, hq1, hq2, hq3, hg0, hp0, hp1, hi1, hbi, he0, he1]) | (with_reducible first | apply aI | intro _ | assumption) | omega
          all_goals (apply Fin.go hK; clear hK K)
          simp only [tN]
          apply Run.ret
          try simp only [Then_ret, Blok_ret]
          first
           | (have e : meetB c p b = false := by simp [meetB, h33]
              simp [meetR, e, h33, hn]; done)
           | (have e1 : meetL c p.slot p.edges b = (false, bi) := by rw [hml, meetL_bad (by omega) (.inl h59)]
              simp [meetR, meetB, e1, h33, hn]; done)
           | (have e1 : meetL c p.slot p.edges b = (false, bi) := by rw [hml, meetL_bad (by omega) (.inr h98)]
              simp [meetR, meetB, e1, h33, hn]; done)
           | (have e1 : meetL c p.slot p.edges b = (true, bi) := by rw [hml, meetL_end (by omega)]
              simp [-List.map_set, meetR, meetB, e1, h33, hn]; done)
         ·try simp at h98
          apply Run.skip
          simp only [tN]
          refine opsF [oM 2 99, oF 112 3 1 100, oL 3 100 101, oM 8 102, oB .add 3 101 102 3 103, oI 34 99 103 104, ⟨.store 4 (.tmp 104) (.const (.bool true)), none, none⟩] fun K hK => ?_
          try simp
          repeat' first | (refine evL_c ?_; simp [-List.map_set, hm, hk, hn, hb, hs1, hs2, hq1, hq2, hq3, hg0, hp0, hp1, hi1, hbi, he0, he1]) | (with_reducible first | apply aI | intro _ | assumption) | omega
          all_goals (apply Fin.go hK; clear hK K)
          simp only [Blok_normal]
          simp only [tN]
          refine opsF [oK .add 3 37 1 3 105, oM 105 37] fun K hK => ?_
          try simp
          repeat' first | (refine evL_c ?_; simp [-List.map_set, hm, hk, hn, hb, hs1, hs2, hq1, hq2, hq3, hg0, hp0, hp1, hi1, hbi, he0, he1]) | (with_reducible first | apply aI | intro _ | assumption) | omega
          all_goals (apply Fin.go hK; clear hK K)
          refine ⟨(i + 1, bi.set ((n:Int) + rdI p.edges i).toNat true), ⟨by simp; omega, by simp [hbi], ?_⟩, by simp; omega, ?_⟩
          ·rw [hml, meetL_step (by omega) h59 h98, hn]
          ·simp (disch := omega) [wrap_id, -List.map_set, hn]
   ·try simp at h38
    refine Run.exit ?_
    simp (decide := true) only [Then_exit, Blok_exit, if_true, if_false]
    simp only [tN]
    apply Run.seq
    refine opsF [oM 2 106, oF 48 4 2 107, oL 3 107 108, oI 34 106 108 109, ⟨.store 4 (.tmp 109) (.const (.bool true)), none, none⟩] fun K hK => ?_
    try simp
    repeat' first | (refine evL_c ?_; simp [-List.map_set, hm, hk, hn, hb, hs1, hs2, hq1, hq2, hq3, hg0, hp0, hp1, hbi]) | (with_reducible first | apply aI | intro _ | assumption) | omega
    all_goals (apply Fin.go hK; clear hK K)
    simp only [tN]
    apply Run.seq
    refine opsF oo2 fun K hK => ?_
    try simp
    repeat' first | (refine evL_c ?_; simp [-List.map_set, hm, hk, hn, hb, hs1, hs2, hq1, hq2, hq3, hg0, hp0, hp1, hbi]) | (with_reducible first | apply aI | intro _ | assumption) | omega
    all_goals (apply Fin.go hK; clear hK K)
    simp only [tN]
    apply Run.ret
    try simp only [Then_ret, Blok_ret]
    first
     | (have e : meetB c p b = false := by simp [meetB, h33]
        simp [meetR, e, h33, hn]; done)
     | (have e1 : meetL c p.slot p.edges b = (false, bi) := by rw [hml, meetL_bad (by omega) (.inl h59)]
        simp [meetR, meetB, e1, h33, hn]; done)
     | (have e1 : meetL c p.slot p.edges b = (false, bi) := by rw [hml, meetL_bad (by omega) (.inr h98)]
        simp [meetR, meetB, e1, h33, hn]; done)
     | (have e1 : meetL c p.slot p.edges b = (true, bi) := by rw [hml, meetL_end (by omega)]
        simp [-List.map_set, meetR, meetB, e1, h33, hn]; done)
end Go.Proofs.Ytimgbdkgjfbhkaa.Z
end
section
namespace Go.Proofs.Ytimgbdkgjfbhkaa.Z
open Go Go.Fw
def wants (op : Int) : Option Nat := if op = 1 then some 0 else if op = 2 then some 1 else if op = 3 then some 1 else if op = 4 then some 2 else if op = 5 then some 1 else if op = 6 then some 1 else none
def jn (n : Int) (a b : List Bool) : Nat → Bool × List Bool
 | 0 => (true, b)
 | i + 1 => ((jn n a b i).1 && !(rdI a i && (rdI (jn n a b i).2 i && decide (n ≤ i))), (jn n a b i).2.set i (rdI (jn n a b i).2 i || rdI a i))
def opS (c : CoreT) (p : PlanT) (bs : List (List Bool)) : Option (List Bool) :=
 if p.op = 1 then (if 0 ≤ p.slot ∧ p.slot < c.nodes.length then some ((List.replicate (c.nodes.length + c.edges.length) false).set p.slot.toNat true) else none)
 else if p.op = 2 ∨ p.op = 3 then (if edgeB c p (bs.getD 0 []) then some (edgeL c p (bs.getD 0 [])) else none)
 else if p.op = 4 then (if (jn c.nodes.length (bs.getD 0 []) (bs.getD 1 []) (c.nodes.length + c.edges.length)).1 then some (jn c.nodes.length (bs.getD 0 []) (bs.getD 1 []) (c.nodes.length + c.edges.length)).2 else none)
 else if p.op = 5 then (if meetB c p (bs.getD 0 []) then some (meetR c p (bs.getD 0 [])) else none)
 else if p.terms.all (bindsS (bs.getD 0 [])) then some (bs.getD 0 []) else none
mutual
def bndT (c : CoreT) : PlanT → Option (List Bool)
 | .mk o k s e b t => if wants o = some k.length then (bndL c k).bind (opS c (.mk o k s e b t)) else none
def bndL (c : CoreT) : List PlanT → Option (List (List Bool))
 | [] => some []
 | p :: r => (bndT c p).bind fun b => (bndL c r).map fun bs => b :: bs
end
theorem bndT_eq (c : CoreT) (p : PlanT) : bndT c p = if wants p.op = some p.kids.length then (bndL c p.kids).bind (opS c p) else none := by cases p; rw [bndT]; rfl
def resB : Option (List Bool) → V
 | none => vnil
 | some b => .rs 0 1 0 b.length
def stoB : Option (List Bool) → Store
 | none => []
 | some b => [(0, .data 1 (b.map encB))]
theorem pat_rng {c : CoreT} (h : patS c.nodes c.edges = true) : 1 ≤ c.nodes.length ∧ c.nodes.length ≤ 8 ∧ c.edges.length ≤ 8 := by
 simp [patS] at h; omega
theorem edgeL_len (c : CoreT) (p : PlanT) (b : List Bool) : (edgeL c p b).length = b.length := by unfold edgeL; split <;> simp
theorem meetL_len (c : CoreT) (s : Int) (l : List Int) (b : List Bool) : (meetL c s l b).2.length = b.length := by
 induction l generalizing b with
 | nil => rfl
 | cons e r ih => rw [meetL]; split <;> simp [ih]
theorem meetR_len (c : CoreT) (p : PlanT) (b : List Bool) : (meetR c p b).length = b.length := by
 unfold meetR; split
 ·rfl
 ·split <;> simp [meetL_len]
theorem jn_len (n : Int) (a b : List Bool) (i : Nat) : (jn n a b i).2.length = b.length := by
 induction i with
 | zero => rfl
 | succ i ih => simp [jn, ih]
end Go.Proofs.Ytimgbdkgjfbhkaa.Z
end
section
namespace Go.Proofs.Ytimgbdkgjfbhkaa.Z
open Go Go.Fw
set_option maxHeartbeats 4000000 in
theorem bound2_ok (c : CoreT) (p : PlanT) (hP : patS c.nodes c.edges = true) (hop : p.op = 2) (hkl : p.kids.length = 1) (IH : Snd P 43 [.d (.ag (encC c ++ [D.int c.nodes.length])), .d (.ag (encP (rdI p.kids 0)))] (resB (bndT c (rdI p.kids 0))) (stoB (bndT c (rdI p.kids 0)))) (b0 : List Bool) (hq : bndT c (rdI p.kids 0) = some b0) (hb0 : b0.length = c.nodes.length + c.edges.length) : Snd P 43 [.d (.ag (encC c ++ [D.int c.nodes.length])), .d (.ag (encP p))] (resB (opS c p [b0])) (stoB (opS c p [b0])) := by
 obtain ⟨hn1, hn8, hk8⟩ := pat_rng hP
 have hE := goodE_of hP
 obtain ⟨n, hn⟩ : ∃ k, c.nodes.length = k := ⟨_, rfl⟩
 obtain ⟨k, hk⟩ : ∃ k, c.edges.length = k := ⟨_, rfl⟩
 rw [hn] at hn1 hn8
 rw [hk] at hk8
 obtain ⟨fb, hfb⟩ : ∃ fb, List.replicate (n + k) false = fb := ⟨_, rfl⟩
 have hfl : fb.length = n + k := by rw [← hfb]; simp
 have hwd : ((n:Int) + k).toNat = n + k := by omega
 have hw : IntKind.i64.wrap ((n:Int) + k) = (n:Int) + k := wrap_id (by omega) (by omega)
 have hw1 : 0 < n + k := by omega
 have hw2 : (n:Int) + k ≤ 140737488355328 := by omega
 have hw3 : (0:Int) ≤ (n:Int) + k := by omega
 have hb0n : b0.length = n + k := by rw [hb0, hn, hk]
 simp only [hq, resB, stoB, encP_cells, hn, hb0n] at IH
 refine snd_of [5300] Try.func43 rfl (by kernel_rfl) Try.ntmps43 (by simp) ?_
 unfold Try.f43
 simp only [List.cons_append, List.nil_append, List.length_cons, List.length_nil, Nat.reduceAdd, Nat.reduceSub, List.replicate]
 apply Run.seq
 refine opsF oo13 fun K hK => ?_
 try simp
 repeat' first | (refine evL_c ?_; simp [-List.map_set, hn, hk, hop, hkl, hw, hwd, hfl, hw1, hw2, hw3]) | (with_reducible first | apply aI | intro _ | assumption) | omega
 all_goals (apply Fin.go hK; clear hK K)
 simp only [tN]
 apply Run.seq
 refine opsF oo14 fun K hK => ?_
 try simp
 repeat' first | (refine evL_c ?_; simp [-List.map_set, hn, hk, hop, hkl, hw, hwd, hfl, hw1, hw2, hw3]) | (with_reducible first | apply aI | intro _ | assumption) | omega
 all_goals (apply Fin.go hK; clear hK K)
 simp only [tN]
 apply Run.seq
 apply Run.seq
 refine opsF oo15 fun K hK => ?_
 try simp
 repeat' first | (refine evL_c ?_; simp [-List.map_set, hn, hk, hop, hkl, hw, hwd, hfl, hw1, hw2, hw3]) | (with_reducible first | apply aI | intro _ | assumption) | omega
 all_goals (apply Fin.go hK; clear hK K)
 simp only [tN]
 apply Run.seq
 refine opsF oo16 fun K hK => ?_
 try simp
 repeat' first | ((first | refine evL_c ?_ | (refine evL_g rfl ?_; try simp only [gs_tt, gs_ff, gs_tf, gs_ft]) | refine evL_u rfl ?_ | (with_reducible refine gsplit (fun hg => ?_) (fun hg => ?_) <;> try simp at hg)) <;> try simp [-List.map_set, hn, hk, hop, hkl, hw, hwd, hfl, hw1, hw2, hw3]) | (with_reducible first | apply aI | intro _ | assumption) | omega
 all_goals (apply Fin.go hK; clear hK K)
 all_goals
  simp only [tN]
  refine Run.cond rfl (fun h33 => ?_) (fun h33 => ?_)
  ·simp at h33
  ·skip
   apply Run.skip
   simp only [tN]
   refine Run.cut [8, 34, 35, 36, 37, 38, 39, 40, 41, 42] [(8, .rs 4300 1 0 1)] [(300, .vals ((encC c ++ [D.int c.nodes.length]).map .d)), (400, .vals ((encP p).map .d)), (4200, .data 1 (fb.map encB)), (4300, .vals [.rs 4200 1 0 (n + k)])] ?_ ?_
   ·refine opsF oo17 fun K hK => ?_
    try simp
    repeat' first | (refine evL_c ?_; simp [-List.map_set, hn, hk, hop, hkl, hw, hwd, hfl, hw1, hw2, hw3]) | (with_reducible first | apply aI | intro _ | assumption) | omega
    all_goals (apply Fin.go hK; clear hK K)
    first | (simp [-List.map_set, hn, hk, hop, hkl, hw, hwd, hfl, hw1, hw2, hw3, ← hfb]; done)
   ·simp only [over, List.foldl, List.set]
    apply Run.seq
    apply Run.seq
    refine opsF oo18 fun K hK => ?_
    try simp
    repeat' first | (refine evL_c ?_; simp [-List.map_set, hn, hk, hop, hkl, hw, hwd, hfl, hw1, hw2, hw3]) | (with_reducible first | apply aI | intro _ | assumption) | omega
    all_goals (apply Fin.go hK; clear hK K)
    simp only [tN]
    apply Run.block
    refine Run.loopO [4, 8, 10, 11, 46, 47, 48, 49, 50, 51, 52, 53, 54, 55, 56, 57, 58, 59] (fun (x : Nat) => [(46, .int x), (8, match x with | 0 => .rs 4300 1 0 1 | _ => .rs 5900 1 0 2)]) (fun (x : Nat) => match x with | 0 => [(300, .vals ((encC c ++ [D.int c.nodes.length]).map .d)), (400, .vals ((encP p).map .d)), (4200, .data 1 (fb.map encB)), (4300, .vals [.rs 4200 1 0 (n + k)])] | _ => [(300, .vals ((encC c ++ [D.int c.nodes.length]).map .d)), (400, .vals ((encP p).map .d)), (4200, .data 1 (fb.map encB)), (5300, .data 1 (b0.map encB)), (5900, .vals [.rs 4200 1 0 (n + k), .rs 5300 1 0 (n + k)])]) (fun (x : Nat) => x = 0 ∨ x = 1) (fun (x : Nat) => 1 - x) 0 (by simp) (by simp [-List.map_set, hn, hk, hop, hkl, hw, hwd, hfl, hw1, hw2, hw3]) fun x hx => ?_
    rcases hx with rfl | rfl
    ·simp only [over, List.foldl, List.set]
     apply Run.seq
     refine opsF oo19 fun K hK => ?_
     try simp
     repeat' first | (refine evL_c ?_; simp [-List.map_set, hn, hk, hop, hkl, hw, hwd, hfl, hw1, hw2, hw3]) | (with_reducible first | apply aI | intro _ | assumption) | omega
     all_goals (apply Fin.go hK; clear hK K)
     simp only [tN]
     apply Run.seq
     refine Run.cond rfl (fun h47 => ?_) (fun h47 => ?_)
     ·skip
      apply Run.skip
      simp only [tN]
      apply Run.seq
      apply Run.block
      apply Run.seq
      refine opsF oo20 fun K hK => ?_
      try simp
      repeat' first | (refine evL_c ?_; simp [-List.map_set, hn, hk, hop, hkl, hw, hwd, hfl, hw1, hw2, hw3]) | (with_reducible first | apply aI | intro _ | assumption) | omega
      all_goals (apply Fin.go hK; clear hK K)
      simp only [tN]
      apply Run.seq
      refine opsF oo21 fun K hK => ?_
      try simp
      repeat' first | (refine ecall (by have h := IH; exact h) rfl ?_) | (refine evL_c ?_; simp [-List.map_set, hn, hk, hop, hkl, hw, hwd, hfl, hw1, hw2, hw3]) | (with_reducible first | apply aI | intro _ | assumption) | omega
      all_goals (apply Fin.go hK; clear hK K)
      simp only [tN]
      apply Run.seq
      apply Run.seq
      refine opsF oo22 fun K hK => ?_
      try simp
      repeat' first | (refine evL_c ?_; simp [-List.map_set, hn, hk, hop, hkl, hw, hwd, hfl, hw1, hw2, hw3]) | (with_reducible first | apply aI | intro _ | assumption) | omega
      all_goals (apply Fin.go hK; clear hK K)
      simp only [tN]
      refine Run.cond rfl (fun h54 => ?_) (fun h54 => ?_)
      ·simp at h54
      ·skip
       apply Run.skip
       simp only [tN]
       refine opsF oo23 fun K hK => ?_
       try simp
       repeat' first | (refine evL_c ?_; simp [-List.map_set, hn, hk, hop, hkl, hw, hwd, hfl, hw1, hw2, hw3]) | (with_reducible first | apply aI | intro _ | assumption) | omega
       all_goals (apply Fin.go hK; clear hK K)
       simp only [Blok_normal]
       simp only [tN]
       refine opsF oo24 fun K hK => ?_
       try simp
       repeat' first | (refine evL_c ?_; simp [-List.map_set, hn, hk, hop, hkl, hw, hwd, hfl, hw1, hw2, hw3]) | (with_reducible first | apply aI | intro _ | assumption) | omega
       all_goals (apply Fin.go hK; clear hK K)
       refine ⟨1, .inr rfl, by omega, ?_⟩
       simp (disch := omega) [-List.map_set, hn, hk, hop, hkl, hw, hwd, hfl, hw1, hw2, hw3, hb0, wrap_id]
     ·simp at h47
    ·simp only [over, List.foldl, List.set]
     apply Run.seq
     refine opsF oo19 fun K hK => ?_
     try simp
     repeat' first | (refine evL_c ?_; simp [-List.map_set, hn, hk, hop, hkl, hw, hwd, hfl, hw1, hw2, hw3]) | (with_reducible first | apply aI | intro _ | assumption) | omega
     all_goals (apply Fin.go hK; clear hK K)
     simp only [tN]
     apply Run.seq
     refine Run.cond rfl (fun h47 => ?_) (fun h47 => ?_)
     ·simp at h47
     ·skip
      refine Run.exit ?_
      simp (decide := true) only [Then_exit, Blok_exit, if_true, if_false]
      simp only [tN]
      apply Run.seq
      refine opsF oo25 fun K hK => ?_
      try simp
      repeat' first | (refine evL_c ?_; simp [-List.map_set, hn, hk, hop, hkl, hw, hwd, hfl, hw1, hw2, hw3]) | (with_reducible first | apply aI | intro _ | assumption) | omega
      all_goals (apply Fin.go hK; clear hK K)
      simp only [tN]
      apply Run.seq
      refine opsF oo26 fun K hK => ?_
      try simp
      repeat' first | (refine evL_c ?_; simp [-List.map_set, hn, hk, hop, hkl, hw, hwd, hfl, hw1, hw2, hw3]) | (with_reducible first | apply aI | intro _ | assumption) | omega
      all_goals (apply Fin.go hK; clear hK K)
      simp only [tN]
      apply Run.seq
      apply Run.seq
      refine opsF oo27 fun K hK => ?_
      try simp
      repeat' first | (refine evL_c ?_; simp [-List.map_set, hn, hk, hop, hkl, hw, hwd, hfl, hw1, hw2, hw3]) | (with_reducible first | apply aI | intro _ | assumption) | omega
      all_goals (apply Fin.go hK; clear hK K)
      simp only [tN]
      apply Run.block
      apply Run.seq
      refine opsF oo28 fun K hK => ?_
      try simp
      repeat' first | (refine evL_c ?_; simp [-List.map_set, hn, hk, hop, hkl, hw, hwd, hfl, hw1, hw2, hw3]) | (with_reducible first | apply aI | intro _ | assumption) | omega
      all_goals (apply Fin.go hK; clear hK K)
      simp only [tN]
      refine Run.cond rfl (fun h68 => ?_) (fun h68 => ?_)
      ·simp at h68
      ·skip
       apply Run.seq
       apply Run.seq
       refine opsF oo29 fun K hK => ?_
       try simp
       repeat' first | (refine evL_c ?_; simp [-List.map_set, hn, hk, hop, hkl, hw, hwd, hfl, hw1, hw2, hw3]) | (with_reducible first | apply aI | intro _ | assumption) | omega
       all_goals (apply Fin.go hK; clear hK K)
       simp only [tN]
       refine Run.cond rfl (fun h85 => ?_) (fun h85 => ?_)
       ·skip
        apply Run.skip
        simp only [tN]
        refine Run.cond rfl (fun h85 => ?_) (fun h85 => ?_)
        ·skip
         refine opsT oo30 fun K hK => ?_
         try simp
         repeat' first | (refine ecallW [5300] (by have h := edge_ok c p b0 hb0 hE; simp only [encP_cells, hop, hb0n, hn] at h; exact h) (by simp) (by simp) (by simp) ?_) | (refine evL_c ?_; simp [-List.map_set, hn, hk, hop, hkl, hw, hwd, hfl, hw1, hw2, hw3]) | (with_reducible first | apply aI | intro _ | assumption) | omega
         all_goals (apply Fin.go hK; clear hK K)
         simp only [Blok_normal]
         simp only [tN]
         apply Run.seq
         apply Run.seq
         refine opsF oo31 fun K hK => ?_
         try simp
         repeat' first | (refine evL_c ?_; simp [-List.map_set, hn, hk, hop, hkl, hw, hwd, hfl, hw1, hw2, hw3]) | (with_reducible first | apply aI | intro _ | assumption) | omega
         all_goals (apply Fin.go hK; clear hK K)
         simp only [tN]
         refine Run.cond rfl (fun h145 => ?_) (fun h145 => ?_)
         ·try simp at h145
          apply Run.seq
          refine opsF oo32 fun K hK => ?_
          try simp
          repeat' first | (refine evL_c ?_; simp [-List.map_set, hn, hk, hop, hkl, hw, hwd, hfl, hw1, hw2, hw3]) | (with_reducible first | apply aI | intro _ | assumption) | omega
          all_goals (apply Fin.go hK; clear hK K)
          simp only [tN]
          refine Run.drop [] (by simp) ?_
          apply Run.ret
          try simp only [Then_ret, Blok_ret]
          first
           | (have e : opS c p [b0] = none := by simp [opS, hop, h145]
              rw [e]
              simp [resB, stoB, hn]; done)
           | (have e : opS c p [b0] = some (edgeL c p b0) := by simp [opS, hop, h145]
              rw [e]
              simp [-List.map_set, resB, stoB, hn, hb0n, edgeL_len]; done)
         ·try simp at h145
          apply Run.skip
          simp only [tN]
          apply Run.seq
          refine opsF oo33 fun K hK => ?_
          try simp
          repeat' first | (refine evL_c ?_; simp [-List.map_set, hn, hk, hop, hkl, hw, hwd, hfl, hw1, hw2, hw3]) | (with_reducible first | apply aI | intro _ | assumption) | omega
          all_goals (apply Fin.go hK; clear hK K)
          simp only [tN]
          apply Run.ret
          try simp only [Then_ret, Blok_ret]
          first
           | (have e : opS c p [b0] = none := by simp [opS, hop, h145]
              rw [e]
              simp [resB, stoB, hn]; done)
           | (have e : opS c p [b0] = some (edgeL c p b0) := by simp [opS, hop, h145]
              rw [e]
              simp [-List.map_set, resB, stoB, hn, hb0n, edgeL_len]; done)
        ·simp at h85
       ·simp at h85
set_option maxHeartbeats 4000000 in
theorem bound3_ok (c : CoreT) (p : PlanT) (hP : patS c.nodes c.edges = true) (hop : p.op = 3) (hkl : p.kids.length = 1) (IH : Snd P 43 [.d (.ag (encC c ++ [D.int c.nodes.length])), .d (.ag (encP (rdI p.kids 0)))] (resB (bndT c (rdI p.kids 0))) (stoB (bndT c (rdI p.kids 0)))) (b0 : List Bool) (hq : bndT c (rdI p.kids 0) = some b0) (hb0 : b0.length = c.nodes.length + c.edges.length) : Snd P 43 [.d (.ag (encC c ++ [D.int c.nodes.length])), .d (.ag (encP p))] (resB (opS c p [b0])) (stoB (opS c p [b0])) := by
 obtain ⟨hn1, hn8, hk8⟩ := pat_rng hP
 have hE := goodE_of hP
 obtain ⟨n, hn⟩ : ∃ k, c.nodes.length = k := ⟨_, rfl⟩
 obtain ⟨k, hk⟩ : ∃ k, c.edges.length = k := ⟨_, rfl⟩
 rw [hn] at hn1 hn8
 rw [hk] at hk8
 obtain ⟨fb, hfb⟩ : ∃ fb, List.replicate (n + k) false = fb := ⟨_, rfl⟩
 have hfl : fb.length = n + k := by rw [← hfb]; simp
 have hwd : ((n:Int) + k).toNat = n + k := by omega
 have hw : IntKind.i64.wrap ((n:Int) + k) = (n:Int) + k := wrap_id (by omega) (by omega)
 have hw1 : 0 < n + k := by omega
 have hw2 : (n:Int) + k ≤ 140737488355328 := by omega
 have hw3 : (0:Int) ≤ (n:Int) + k := by omega
 have hb0n : b0.length = n + k := by rw [hb0, hn, hk]
 simp only [hq, resB, stoB, encP_cells, hn, hb0n] at IH
 refine snd_of [5300] Try.func43 rfl (by kernel_rfl) Try.ntmps43 (by simp) ?_
 unfold Try.f43
 simp only [List.cons_append, List.nil_append, List.length_cons, List.length_nil, Nat.reduceAdd, Nat.reduceSub, List.replicate]
 apply Run.seq
 refine opsF oo13 fun K hK => ?_
 try simp
 repeat' first | (refine evL_c ?_; simp [-List.map_set, hn, hk, hop, hkl, hw, hwd, hfl, hw1, hw2, hw3]) | (with_reducible first | apply aI | intro _ | assumption) | omega
 all_goals (apply Fin.go hK; clear hK K)
 simp only [tN]
 apply Run.seq
 refine opsF oo14 fun K hK => ?_
 try simp
 repeat' first | (refine evL_c ?_; simp [-List.map_set, hn, hk, hop, hkl, hw, hwd, hfl, hw1, hw2, hw3]) | (with_reducible first | apply aI | intro _ | assumption) | omega
 all_goals (apply Fin.go hK; clear hK K)
 simp only [tN]
 apply Run.seq
 apply Run.seq
 refine opsF oo15 fun K hK => ?_
 try simp
 repeat' first | (refine evL_c ?_; simp [-List.map_set, hn, hk, hop, hkl, hw, hwd, hfl, hw1, hw2, hw3]) | (with_reducible first | apply aI | intro _ | assumption) | omega
 all_goals (apply Fin.go hK; clear hK K)
 simp only [tN]
 apply Run.seq
 refine opsF oo16 fun K hK => ?_
 try simp
 repeat' first | ((first | refine evL_c ?_ | (refine evL_g rfl ?_; try simp only [gs_tt, gs_ff, gs_tf, gs_ft]) | refine evL_u rfl ?_ | (with_reducible refine gsplit (fun hg => ?_) (fun hg => ?_) <;> try simp at hg)) <;> try simp [-List.map_set, hn, hk, hop, hkl, hw, hwd, hfl, hw1, hw2, hw3]) | (with_reducible first | apply aI | intro _ | assumption) | omega
 all_goals (apply Fin.go hK; clear hK K)
 all_goals
  simp only [tN]
  refine Run.cond rfl (fun h33 => ?_) (fun h33 => ?_)
  ·simp at h33
  ·skip
   apply Run.skip
   simp only [tN]
   refine Run.cut [8, 34, 35, 36, 37, 38, 39, 40, 41, 42] [(8, .rs 4300 1 0 1)] [(300, .vals ((encC c ++ [D.int c.nodes.length]).map .d)), (400, .vals ((encP p).map .d)), (4200, .data 1 (fb.map encB)), (4300, .vals [.rs 4200 1 0 (n + k)])] ?_ ?_
   ·refine opsF oo17 fun K hK => ?_
    try simp
    repeat' first | (refine evL_c ?_; simp [-List.map_set, hn, hk, hop, hkl, hw, hwd, hfl, hw1, hw2, hw3]) | (with_reducible first | apply aI | intro _ | assumption) | omega
    all_goals (apply Fin.go hK; clear hK K)
    first | (simp [-List.map_set, hn, hk, hop, hkl, hw, hwd, hfl, hw1, hw2, hw3, ← hfb]; done)
   ·simp only [over, List.foldl, List.set]
    apply Run.seq
    apply Run.seq
    refine opsF oo18 fun K hK => ?_
    try simp
    repeat' first | (refine evL_c ?_; simp [-List.map_set, hn, hk, hop, hkl, hw, hwd, hfl, hw1, hw2, hw3]) | (with_reducible first | apply aI | intro _ | assumption) | omega
    all_goals (apply Fin.go hK; clear hK K)
    simp only [tN]
    apply Run.block
    refine Run.loopO [4, 8, 10, 11, 46, 47, 48, 49, 50, 51, 52, 53, 54, 55, 56, 57, 58, 59] (fun (x : Nat) => [(46, .int x), (8, match x with | 0 => .rs 4300 1 0 1 | _ => .rs 5900 1 0 2)]) (fun (x : Nat) => match x with | 0 => [(300, .vals ((encC c ++ [D.int c.nodes.length]).map .d)), (400, .vals ((encP p).map .d)), (4200, .data 1 (fb.map encB)), (4300, .vals [.rs 4200 1 0 (n + k)])] | _ => [(300, .vals ((encC c ++ [D.int c.nodes.length]).map .d)), (400, .vals ((encP p).map .d)), (4200, .data 1 (fb.map encB)), (5300, .data 1 (b0.map encB)), (5900, .vals [.rs 4200 1 0 (n + k), .rs 5300 1 0 (n + k)])]) (fun (x : Nat) => x = 0 ∨ x = 1) (fun (x : Nat) => 1 - x) 0 (by simp) (by simp [-List.map_set, hn, hk, hop, hkl, hw, hwd, hfl, hw1, hw2, hw3]) fun x hx => ?_
    rcases hx with rfl | rfl
    ·simp only [over, List.foldl, List.set]
     apply Run.seq
     refine opsF oo19 fun K hK => ?_
     try simp
     repeat' first | (refine evL_c ?_; simp [-List.map_set, hn, hk, hop, hkl, hw, hwd, hfl, hw1, hw2, hw3]) | (with_reducible first | apply aI | intro _ | assumption) | omega
     all_goals (apply Fin.go hK; clear hK K)
     simp only [tN]
     apply Run.seq
     refine Run.cond rfl (fun h47 => ?_) (fun h47 => ?_)
     ·skip
      apply Run.skip
      simp only [tN]
      apply Run.seq
      apply Run.block
      apply Run.seq
      refine opsF oo20 fun K hK => ?_
      try simp
      repeat' first | (refine evL_c ?_; simp [-List.map_set, hn, hk, hop, hkl, hw, hwd, hfl, hw1, hw2, hw3]) | (with_reducible first | apply aI | intro _ | assumption) | omega
      all_goals (apply Fin.go hK; clear hK K)
      simp only [tN]
      apply Run.seq
      refine opsF oo21 fun K hK => ?_
      try simp
      repeat' first | (refine ecall (by have h := IH; exact h) rfl ?_) | (refine evL_c ?_; simp [-List.map_set, hn, hk, hop, hkl, hw, hwd, hfl, hw1, hw2, hw3]) | (with_reducible first | apply aI | intro _ | assumption) | omega
      all_goals (apply Fin.go hK; clear hK K)
      simp only [tN]
      apply Run.seq
      apply Run.seq
      refine opsF oo22 fun K hK => ?_
      try simp
      repeat' first | (refine evL_c ?_; simp [-List.map_set, hn, hk, hop, hkl, hw, hwd, hfl, hw1, hw2, hw3]) | (with_reducible first | apply aI | intro _ | assumption) | omega
      all_goals (apply Fin.go hK; clear hK K)
      simp only [tN]
      refine Run.cond rfl (fun h54 => ?_) (fun h54 => ?_)
      ·simp at h54
      ·skip
       apply Run.skip
       simp only [tN]
       refine opsF oo23 fun K hK => ?_
       try simp
       repeat' first | (refine evL_c ?_; simp [-List.map_set, hn, hk, hop, hkl, hw, hwd, hfl, hw1, hw2, hw3]) | (with_reducible first | apply aI | intro _ | assumption) | omega
       all_goals (apply Fin.go hK; clear hK K)
       simp only [Blok_normal]
       simp only [tN]
       refine opsF oo24 fun K hK => ?_
       try simp
       repeat' first | (refine evL_c ?_; simp [-List.map_set, hn, hk, hop, hkl, hw, hwd, hfl, hw1, hw2, hw3]) | (with_reducible first | apply aI | intro _ | assumption) | omega
       all_goals (apply Fin.go hK; clear hK K)
       refine ⟨1, .inr rfl, by omega, ?_⟩
       simp (disch := omega) [-List.map_set, hn, hk, hop, hkl, hw, hwd, hfl, hw1, hw2, hw3, hb0, wrap_id]
     ·simp at h47
    ·simp only [over, List.foldl, List.set]
     apply Run.seq
     refine opsF oo19 fun K hK => ?_
     try simp
     repeat' first | (refine evL_c ?_; simp [-List.map_set, hn, hk, hop, hkl, hw, hwd, hfl, hw1, hw2, hw3]) | (with_reducible first | apply aI | intro _ | assumption) | omega
     all_goals (apply Fin.go hK; clear hK K)
     simp only [tN]
     apply Run.seq
     refine Run.cond rfl (fun h47 => ?_) (fun h47 => ?_)
     ·simp at h47
     ·skip
      refine Run.exit ?_
      simp (decide := true) only [Then_exit, Blok_exit, if_true, if_false]
      simp only [tN]
      apply Run.seq
      refine opsF oo25 fun K hK => ?_
      try simp
      repeat' first | (refine evL_c ?_; simp [-List.map_set, hn, hk, hop, hkl, hw, hwd, hfl, hw1, hw2, hw3]) | (with_reducible first | apply aI | intro _ | assumption) | omega
      all_goals (apply Fin.go hK; clear hK K)
      simp only [tN]
      apply Run.seq
      refine opsF oo26 fun K hK => ?_
      try simp
      repeat' first | (refine evL_c ?_; simp [-List.map_set, hn, hk, hop, hkl, hw, hwd, hfl, hw1, hw2, hw3]) | (with_reducible first | apply aI | intro _ | assumption) | omega
      all_goals (apply Fin.go hK; clear hK K)
      simp only [tN]
      apply Run.seq
      apply Run.seq
      refine opsF oo27 fun K hK => ?_
      try simp
      repeat' first | (refine evL_c ?_; simp [-List.map_set, hn, hk, hop, hkl, hw, hwd, hfl, hw1, hw2, hw3]) | (with_reducible first | apply aI | intro _ | assumption) | omega
      all_goals (apply Fin.go hK; clear hK K)
      simp only [tN]
      apply Run.block
      apply Run.seq
      refine opsF oo28 fun K hK => ?_
      try simp
      repeat' first | (refine evL_c ?_; simp [-List.map_set, hn, hk, hop, hkl, hw, hwd, hfl, hw1, hw2, hw3]) | (with_reducible first | apply aI | intro _ | assumption) | omega
      all_goals (apply Fin.go hK; clear hK K)
      simp only [tN]
      refine Run.cond rfl (fun h68 => ?_) (fun h68 => ?_)
      ·simp at h68
      ·skip
       apply Run.seq
       apply Run.seq
       refine opsF oo29 fun K hK => ?_
       try simp
       repeat' first | (refine evL_c ?_; simp [-List.map_set, hn, hk, hop, hkl, hw, hwd, hfl, hw1, hw2, hw3]) | (with_reducible first | apply aI | intro _ | assumption) | omega
       all_goals (apply Fin.go hK; clear hK K)
       simp only [tN]
       refine Run.cond rfl (fun h85 => ?_) (fun h85 => ?_)
       ·simp at h85
       ·skip
        refine opsF oo34 fun K hK => ?_
        try simp
        repeat' first | (refine evL_c ?_; simp [-List.map_set, hn, hk, hop, hkl, hw, hwd, hfl, hw1, hw2, hw3]) | (with_reducible first | apply aI | intro _ | assumption) | omega
        all_goals (apply Fin.go hK; clear hK K)
        simp only [tN]
        refine Run.cond rfl (fun h85 => ?_) (fun h85 => ?_)
        ·skip
         refine opsT oo30 fun K hK => ?_
         try simp
         repeat' first | (refine ecallW [5300] (by have h := edge_ok c p b0 hb0 hE; simp only [encP_cells, hop, hb0n, hn] at h; exact h) (by simp) (by simp) (by simp) ?_) | (refine evL_c ?_; simp [-List.map_set, hn, hk, hop, hkl, hw, hwd, hfl, hw1, hw2, hw3]) | (with_reducible first | apply aI | intro _ | assumption) | omega
         all_goals (apply Fin.go hK; clear hK K)
         simp only [Blok_normal]
         simp only [tN]
         apply Run.seq
         apply Run.seq
         refine opsF oo31 fun K hK => ?_
         try simp
         repeat' first | (refine evL_c ?_; simp [-List.map_set, hn, hk, hop, hkl, hw, hwd, hfl, hw1, hw2, hw3]) | (with_reducible first | apply aI | intro _ | assumption) | omega
         all_goals (apply Fin.go hK; clear hK K)
         simp only [tN]
         refine Run.cond rfl (fun h145 => ?_) (fun h145 => ?_)
         ·try simp at h145
          apply Run.seq
          refine opsF oo32 fun K hK => ?_
          try simp
          repeat' first | (refine evL_c ?_; simp [-List.map_set, hn, hk, hop, hkl, hw, hwd, hfl, hw1, hw2, hw3]) | (with_reducible first | apply aI | intro _ | assumption) | omega
          all_goals (apply Fin.go hK; clear hK K)
          simp only [tN]
          refine Run.drop [] (by simp) ?_
          apply Run.ret
          try simp only [Then_ret, Blok_ret]
          first
           | (have e : opS c p [b0] = none := by simp [opS, hop, h145]
              rw [e]
              simp [resB, stoB, hn]; done)
           | (have e : opS c p [b0] = some (edgeL c p b0) := by simp [opS, hop, h145]
              rw [e]
              simp [-List.map_set, resB, stoB, hn, hb0n, edgeL_len]; done)
         ·try simp at h145
          apply Run.skip
          simp only [tN]
          apply Run.seq
          refine opsF oo33 fun K hK => ?_
          try simp
          repeat' first | (refine evL_c ?_; simp [-List.map_set, hn, hk, hop, hkl, hw, hwd, hfl, hw1, hw2, hw3]) | (with_reducible first | apply aI | intro _ | assumption) | omega
          all_goals (apply Fin.go hK; clear hK K)
          simp only [tN]
          apply Run.ret
          try simp only [Then_ret, Blok_ret]
          first
           | (have e : opS c p [b0] = none := by simp [opS, hop, h145]
              rw [e]
              simp [resB, stoB, hn]; done)
           | (have e : opS c p [b0] = some (edgeL c p b0) := by simp [opS, hop, h145]
              rw [e]
              simp [-List.map_set, resB, stoB, hn, hb0n, edgeL_len]; done)
        ·simp at h85
set_option maxHeartbeats 4000000 in
theorem bound5_ok (c : CoreT) (p : PlanT) (hP : patS c.nodes c.edges = true) (hop : p.op = 5) (hkl : p.kids.length = 1) (IH : Snd P 43 [.d (.ag (encC c ++ [D.int c.nodes.length])), .d (.ag (encP (rdI p.kids 0)))] (resB (bndT c (rdI p.kids 0))) (stoB (bndT c (rdI p.kids 0)))) (b0 : List Bool) (hq : bndT c (rdI p.kids 0) = some b0) (hb0 : b0.length = c.nodes.length + c.edges.length) : Snd P 43 [.d (.ag (encC c ++ [D.int c.nodes.length])), .d (.ag (encP p))] (resB (opS c p [b0])) (stoB (opS c p [b0])) := by
 obtain ⟨hn1, hn8, hk8⟩ := pat_rng hP
 have hE := goodE_of hP
 obtain ⟨n, hn⟩ : ∃ k, c.nodes.length = k := ⟨_, rfl⟩
 obtain ⟨k, hk⟩ : ∃ k, c.edges.length = k := ⟨_, rfl⟩
 rw [hn] at hn1 hn8
 rw [hk] at hk8
 obtain ⟨fb, hfb⟩ : ∃ fb, List.replicate (n + k) false = fb := ⟨_, rfl⟩
 have hfl : fb.length = n + k := by rw [← hfb]; simp
 have hwd : ((n:Int) + k).toNat = n + k := by omega
 have hw : IntKind.i64.wrap ((n:Int) + k) = (n:Int) + k := wrap_id (by omega) (by omega)
 have hw1 : 0 < n + k := by omega
 have hw2 : (n:Int) + k ≤ 140737488355328 := by omega
 have hw3 : (0:Int) ≤ (n:Int) + k := by omega
 have hb0n : b0.length = n + k := by rw [hb0, hn, hk]
 simp only [hq, resB, stoB, encP_cells, hn, hb0n] at IH
 refine snd_of [5300] Try.func43 rfl (by kernel_rfl) Try.ntmps43 (by simp) ?_
 unfold Try.f43
 simp only [List.cons_append, List.nil_append, List.length_cons, List.length_nil, Nat.reduceAdd, Nat.reduceSub, List.replicate]
 apply Run.seq
 refine opsF oo13 fun K hK => ?_
 try simp
 repeat' first | (refine evL_c ?_; simp [-List.map_set, hn, hk, hop, hkl, hw, hwd, hfl, hw1, hw2, hw3]) | (with_reducible first | apply aI | intro _ | assumption) | omega
 all_goals (apply Fin.go hK; clear hK K)
 simp only [tN]
 apply Run.seq
 refine opsF oo14 fun K hK => ?_
 try simp
 repeat' first | (refine evL_c ?_; simp [-List.map_set, hn, hk, hop, hkl, hw, hwd, hfl, hw1, hw2, hw3]) | (with_reducible first | apply aI | intro _ | assumption) | omega
 all_goals (apply Fin.go hK; clear hK K)
 simp only [tN]
 apply Run.seq
 apply Run.seq
 refine opsF oo15 fun K hK => ?_
 try simp
 repeat' first | (refine evL_c ?_; simp [-List.map_set, hn, hk, hop, hkl, hw, hwd, hfl, hw1, hw2, hw3]) | (with_reducible first | apply aI | intro _ | assumption) | omega
 all_goals (apply Fin.go hK; clear hK K)
 simp only [tN]
 apply Run.seq
 refine opsF oo16 fun K hK => ?_
 try simp
 repeat' first | ((first | refine evL_c ?_ | (refine evL_g rfl ?_; try simp only [gs_tt, gs_ff, gs_tf, gs_ft]) | refine evL_u rfl ?_ | (with_reducible refine gsplit (fun hg => ?_) (fun hg => ?_) <;> try simp at hg)) <;> try simp [-List.map_set, hn, hk, hop, hkl, hw, hwd, hfl, hw1, hw2, hw3]) | (with_reducible first | apply aI | intro _ | assumption) | omega
 all_goals (apply Fin.go hK; clear hK K)
 all_goals
  simp only [tN]
  refine Run.cond rfl (fun h33 => ?_) (fun h33 => ?_)
  ·simp at h33
  ·skip
   apply Run.skip
   simp only [tN]
   refine Run.cut [8, 34, 35, 36, 37, 38, 39, 40, 41, 42] [(8, .rs 4300 1 0 1)] [(300, .vals ((encC c ++ [D.int c.nodes.length]).map .d)), (400, .vals ((encP p).map .d)), (4200, .data 1 (fb.map encB)), (4300, .vals [.rs 4200 1 0 (n + k)])] ?_ ?_
   ·refine opsF oo17 fun K hK => ?_
    try simp
    repeat' first | (refine evL_c ?_; simp [-List.map_set, hn, hk, hop, hkl, hw, hwd, hfl, hw1, hw2, hw3]) | (with_reducible first | apply aI | intro _ | assumption) | omega
    all_goals (apply Fin.go hK; clear hK K)
    first | (simp [-List.map_set, hn, hk, hop, hkl, hw, hwd, hfl, hw1, hw2, hw3, ← hfb]; done)
   ·simp only [over, List.foldl, List.set]
    apply Run.seq
    apply Run.seq
    refine opsF oo18 fun K hK => ?_
    try simp
    repeat' first | (refine evL_c ?_; simp [-List.map_set, hn, hk, hop, hkl, hw, hwd, hfl, hw1, hw2, hw3]) | (with_reducible first | apply aI | intro _ | assumption) | omega
    all_goals (apply Fin.go hK; clear hK K)
    simp only [tN]
    apply Run.block
    refine Run.loopO [4, 8, 10, 11, 46, 47, 48, 49, 50, 51, 52, 53, 54, 55, 56, 57, 58, 59] (fun (x : Nat) => [(46, .int x), (8, match x with | 0 => .rs 4300 1 0 1 | _ => .rs 5900 1 0 2)]) (fun (x : Nat) => match x with | 0 => [(300, .vals ((encC c ++ [D.int c.nodes.length]).map .d)), (400, .vals ((encP p).map .d)), (4200, .data 1 (fb.map encB)), (4300, .vals [.rs 4200 1 0 (n + k)])] | _ => [(300, .vals ((encC c ++ [D.int c.nodes.length]).map .d)), (400, .vals ((encP p).map .d)), (4200, .data 1 (fb.map encB)), (5300, .data 1 (b0.map encB)), (5900, .vals [.rs 4200 1 0 (n + k), .rs 5300 1 0 (n + k)])]) (fun (x : Nat) => x = 0 ∨ x = 1) (fun (x : Nat) => 1 - x) 0 (by simp) (by simp [-List.map_set, hn, hk, hop, hkl, hw, hwd, hfl, hw1, hw2, hw3]) fun x hx => ?_
    rcases hx with rfl | rfl
    ·simp only [over, List.foldl, List.set]
     apply Run.seq
     refine opsF oo19 fun K hK => ?_
     try simp
     repeat' first | (refine evL_c ?_; simp [-List.map_set, hn, hk, hop, hkl, hw, hwd, hfl, hw1, hw2, hw3]) | (with_reducible first | apply aI | intro _ | assumption) | omega
     all_goals (apply Fin.go hK; clear hK K)
     simp only [tN]
     apply Run.seq
     refine Run.cond rfl (fun h47 => ?_) (fun h47 => ?_)
     ·skip
      apply Run.skip
      simp only [tN]
      apply Run.seq
      apply Run.block
      apply Run.seq
      refine opsF oo20 fun K hK => ?_
      try simp
      repeat' first | (refine evL_c ?_; simp [-List.map_set, hn, hk, hop, hkl, hw, hwd, hfl, hw1, hw2, hw3]) | (with_reducible first | apply aI | intro _ | assumption) | omega
      all_goals (apply Fin.go hK; clear hK K)
      simp only [tN]
      apply Run.seq
      refine opsF oo21 fun K hK => ?_
      try simp
      repeat' first | (refine ecall (by have h := IH; exact h) rfl ?_) | (refine evL_c ?_; simp [-List.map_set, hn, hk, hop, hkl, hw, hwd, hfl, hw1, hw2, hw3]) | (with_reducible first | apply aI | intro _ | assumption) | omega
      all_goals (apply Fin.go hK; clear hK K)
      simp only [tN]
      apply Run.seq
      apply Run.seq
      refine opsF oo22 fun K hK => ?_
      try simp
      repeat' first | (refine evL_c ?_; simp [-List.map_set, hn, hk, hop, hkl, hw, hwd, hfl, hw1, hw2, hw3]) | (with_reducible first | apply aI | intro _ | assumption) | omega
      all_goals (apply Fin.go hK; clear hK K)
      simp only [tN]
      refine Run.cond rfl (fun h54 => ?_) (fun h54 => ?_)
      ·simp at h54
      ·skip
       apply Run.skip
       simp only [tN]
       refine opsF oo23 fun K hK => ?_
       try simp
       repeat' first | (refine evL_c ?_; simp [-List.map_set, hn, hk, hop, hkl, hw, hwd, hfl, hw1, hw2, hw3]) | (with_reducible first | apply aI | intro _ | assumption) | omega
       all_goals (apply Fin.go hK; clear hK K)
       simp only [Blok_normal]
       simp only [tN]
       refine opsF oo24 fun K hK => ?_
       try simp
       repeat' first | (refine evL_c ?_; simp [-List.map_set, hn, hk, hop, hkl, hw, hwd, hfl, hw1, hw2, hw3]) | (with_reducible first | apply aI | intro _ | assumption) | omega
       all_goals (apply Fin.go hK; clear hK K)
       refine ⟨1, .inr rfl, by omega, ?_⟩
       simp (disch := omega) [-List.map_set, hn, hk, hop, hkl, hw, hwd, hfl, hw1, hw2, hw3, hb0, wrap_id]
     ·simp at h47
    ·simp only [over, List.foldl, List.set]
     apply Run.seq
     refine opsF oo19 fun K hK => ?_
     try simp
     repeat' first | (refine evL_c ?_; simp [-List.map_set, hn, hk, hop, hkl, hw, hwd, hfl, hw1, hw2, hw3]) | (with_reducible first | apply aI | intro _ | assumption) | omega
     all_goals (apply Fin.go hK; clear hK K)
     simp only [tN]
     apply Run.seq
     refine Run.cond rfl (fun h47 => ?_) (fun h47 => ?_)
     ·simp at h47
     ·skip
      refine Run.exit ?_
      simp (decide := true) only [Then_exit, Blok_exit, if_true, if_false]
      simp only [tN]
      apply Run.seq
      refine opsF oo25 fun K hK => ?_
      try simp
      repeat' first | (refine evL_c ?_; simp [-List.map_set, hn, hk, hop, hkl, hw, hwd, hfl, hw1, hw2, hw3]) | (with_reducible first | apply aI | intro _ | assumption) | omega
      all_goals (apply Fin.go hK; clear hK K)
      simp only [tN]
      apply Run.seq
      refine opsF oo26 fun K hK => ?_
      try simp
      repeat' first | (refine evL_c ?_; simp [-List.map_set, hn, hk, hop, hkl, hw, hwd, hfl, hw1, hw2, hw3]) | (with_reducible first | apply aI | intro _ | assumption) | omega
      all_goals (apply Fin.go hK; clear hK K)
      simp only [tN]
      apply Run.seq
      apply Run.seq
      refine opsF oo27 fun K hK => ?_
      try simp
      repeat' first | (refine evL_c ?_; simp [-List.map_set, hn, hk, hop, hkl, hw, hwd, hfl, hw1, hw2, hw3]) | (with_reducible first | apply aI | intro _ | assumption) | omega
      all_goals (apply Fin.go hK; clear hK K)
      simp only [tN]
      apply Run.block
      apply Run.seq
      refine opsF oo28 fun K hK => ?_
      try simp
      repeat' first | (refine evL_c ?_; simp [-List.map_set, hn, hk, hop, hkl, hw, hwd, hfl, hw1, hw2, hw3]) | (with_reducible first | apply aI | intro _ | assumption) | omega
      all_goals (apply Fin.go hK; clear hK K)
      simp only [tN]
      refine Run.cond rfl (fun h68 => ?_) (fun h68 => ?_)
      ·simp at h68
      ·skip
       apply Run.seq
       apply Run.seq
       refine opsF oo29 fun K hK => ?_
       try simp
       repeat' first | (refine evL_c ?_; simp [-List.map_set, hn, hk, hop, hkl, hw, hwd, hfl, hw1, hw2, hw3]) | (with_reducible first | apply aI | intro _ | assumption) | omega
       all_goals (apply Fin.go hK; clear hK K)
       simp only [tN]
       refine Run.cond rfl (fun h85 => ?_) (fun h85 => ?_)
       ·simp at h85
       ·skip
        refine opsF oo34 fun K hK => ?_
        try simp
        repeat' first | (refine evL_c ?_; simp [-List.map_set, hn, hk, hop, hkl, hw, hwd, hfl, hw1, hw2, hw3]) | (with_reducible first | apply aI | intro _ | assumption) | omega
        all_goals (apply Fin.go hK; clear hK K)
        simp only [tN]
        refine Run.cond rfl (fun h85 => ?_) (fun h85 => ?_)
        ·simp at h85
        ·skip
         apply Run.seq
         refine opsF oo35 fun K hK => ?_
         try simp
         repeat' first | (refine evL_c ?_; simp [-List.map_set, hn, hk, hop, hkl, hw, hwd, hfl, hw1, hw2, hw3]) | (with_reducible first | apply aI | intro _ | assumption) | omega
         all_goals (apply Fin.go hK; clear hK K)
         simp only [tN]
         refine Run.cond rfl (fun h92 => ?_) (fun h92 => ?_)
         ·simp at h92
         ·skip
          apply Run.seq
          refine opsF oo36 fun K hK => ?_
          try simp
          repeat' first | (refine evL_c ?_; simp [-List.map_set, hn, hk, hop, hkl, hw, hwd, hfl, hw1, hw2, hw3]) | (with_reducible first | apply aI | intro _ | assumption) | omega
          all_goals (apply Fin.go hK; clear hK K)
          simp only [tN]
          refine Run.cond rfl (fun h131 => ?_) (fun h131 => ?_)
          ·skip
           refine opsT [oL 112 2 133, oL 48 3 134, oL 34 12 135, oC 71 #[.tmp 133, .tmp 134, .tmp 135] #[112, 48, 34] 136, oA 136 13] fun K hK => ?_
           try simp
           repeat' first | (refine ecallW [5300] (by have h := meet_ok c p b0 hb0 hE; simp only [encP_cells, hop, hb0n, hn] at h; exact h) (by simp) (by simp) (by simp) ?_) | (refine evL_c ?_; simp [-List.map_set, hn, hk, hop, hkl, hw, hwd, hfl, hw1, hw2, hw3]) | (with_reducible first | apply aI | intro _ | assumption) | omega
           all_goals (apply Fin.go hK; clear hK K)
           simp only [Blok_normal]
           simp only [tN]
           apply Run.seq
           apply Run.seq
           refine opsF oo31 fun K hK => ?_
           try simp
           repeat' first | (refine evL_c ?_; simp [-List.map_set, hn, hk, hop, hkl, hw, hwd, hfl, hw1, hw2, hw3]) | (with_reducible first | apply aI | intro _ | assumption) | omega
           all_goals (apply Fin.go hK; clear hK K)
           simp only [tN]
           refine Run.cond rfl (fun h145 => ?_) (fun h145 => ?_)
           ·try simp at h145
            apply Run.seq
            refine opsF oo32 fun K hK => ?_
            try simp
            repeat' first | (refine evL_c ?_; simp [-List.map_set, hn, hk, hop, hkl, hw, hwd, hfl, hw1, hw2, hw3]) | (with_reducible first | apply aI | intro _ | assumption) | omega
            all_goals (apply Fin.go hK; clear hK K)
            simp only [tN]
            refine Run.drop [] (by simp) ?_
            apply Run.ret
            try simp only [Then_ret, Blok_ret]
            first
             | (have e : opS c p [b0] = none := by simp [opS, hop, h145]
                rw [e]
                simp [resB, stoB, hn]; done)
             | (have e : opS c p [b0] = some (meetR c p b0) := by simp [opS, hop, h145]
                rw [e]
                simp [-List.map_set, resB, stoB, hn, hb0n, meetR_len]; done)
           ·try simp at h145
            apply Run.skip
            simp only [tN]
            apply Run.seq
            refine opsF oo33 fun K hK => ?_
            try simp
            repeat' first | (refine evL_c ?_; simp [-List.map_set, hn, hk, hop, hkl, hw, hwd, hfl, hw1, hw2, hw3]) | (with_reducible first | apply aI | intro _ | assumption) | omega
            all_goals (apply Fin.go hK; clear hK K)
            simp only [tN]
            apply Run.ret
            try simp only [Then_ret, Blok_ret]
            first
             | (have e : opS c p [b0] = none := by simp [opS, hop, h145]
                rw [e]
                simp [resB, stoB, hn]; done)
             | (have e : opS c p [b0] = some (meetR c p b0) := by simp [opS, hop, h145]
                rw [e]
                simp [-List.map_set, resB, stoB, hn, hb0n, meetR_len]; done)
          ·simp at h131
set_option maxHeartbeats 4000000 in
theorem bound6_ok (c : CoreT) (p : PlanT) (hP : patS c.nodes c.edges = true) (hop : p.op = 6) (hkl : p.kids.length = 1) (IH : Snd P 43 [.d (.ag (encC c ++ [D.int c.nodes.length])), .d (.ag (encP (rdI p.kids 0)))] (resB (bndT c (rdI p.kids 0))) (stoB (bndT c (rdI p.kids 0)))) (b0 : List Bool) (hq : bndT c (rdI p.kids 0) = some b0) (hb0 : b0.length = c.nodes.length + c.edges.length) (hT : ∀ t ∈ p.terms, cntT t ≤ 1100000) : Snd P 43 [.d (.ag (encC c ++ [D.int c.nodes.length])), .d (.ag (encP p))] (resB (opS c p [b0])) (stoB (opS c p [b0])) := by
 obtain ⟨hn1, hn8, hk8⟩ := pat_rng hP
 have hE := goodE_of hP
 obtain ⟨n, hn⟩ : ∃ k, c.nodes.length = k := ⟨_, rfl⟩
 obtain ⟨k, hk⟩ : ∃ k, c.edges.length = k := ⟨_, rfl⟩
 rw [hn] at hn1 hn8
 rw [hk] at hk8
 obtain ⟨fb, hfb⟩ : ∃ fb, List.replicate (n + k) false = fb := ⟨_, rfl⟩
 have hfl : fb.length = n + k := by rw [← hfb]; simp
 have hwd : ((n:Int) + k).toNat = n + k := by omega
 have hw : IntKind.i64.wrap ((n:Int) + k) = (n:Int) + k := wrap_id (by omega) (by omega)
 have hw1 : 0 < n + k := by omega
 have hw2 : (n:Int) + k ≤ 140737488355328 := by omega
 have hw3 : (0:Int) ≤ (n:Int) + k := by omega
 have hb0n : b0.length = n + k := by rw [hb0, hn, hk]
 simp only [hq, resB, stoB, encP_cells, hn, hb0n] at IH
 refine snd_of [5300] Try.func43 rfl (by kernel_rfl) Try.ntmps43 (by simp) ?_
 unfold Try.f43
 simp only [List.cons_append, List.nil_append, List.length_cons, List.length_nil, Nat.reduceAdd, Nat.reduceSub, List.replicate]
 apply Run.seq
 refine opsF oo13 fun K hK => ?_
 try simp
 repeat' first | (refine evL_c ?_; simp [-List.map_set, hn, hk, hop, hkl, hw, hwd, hfl, hw1, hw2, hw3]) | (with_reducible first | apply aI | intro _ | assumption) | omega
 all_goals (apply Fin.go hK; clear hK K)
 simp only [tN]
 apply Run.seq
 refine opsF oo14 fun K hK => ?_
 try simp
 repeat' first | (refine evL_c ?_; simp [-List.map_set, hn, hk, hop, hkl, hw, hwd, hfl, hw1, hw2, hw3]) | (with_reducible first | apply aI | intro _ | assumption) | omega
 all_goals (apply Fin.go hK; clear hK K)
 simp only [tN]
 apply Run.seq
 apply Run.seq
 refine opsF oo15 fun K hK => ?_
 try simp
 repeat' first | (refine evL_c ?_; simp [-List.map_set, hn, hk, hop, hkl, hw, hwd, hfl, hw1, hw2, hw3]) | (with_reducible first | apply aI | intro _ | assumption) | omega
 all_goals (apply Fin.go hK; clear hK K)
 simp only [tN]
 apply Run.seq
 refine opsF oo16 fun K hK => ?_
 try simp
 repeat' first | ((first | refine evL_c ?_ | (refine evL_g rfl ?_; try simp only [gs_tt, gs_ff, gs_tf, gs_ft]) | refine evL_u rfl ?_ | (with_reducible refine gsplit (fun hg => ?_) (fun hg => ?_) <;> try simp at hg)) <;> try simp [-List.map_set, hn, hk, hop, hkl, hw, hwd, hfl, hw1, hw2, hw3]) | (with_reducible first | apply aI | intro _ | assumption) | omega
 all_goals (apply Fin.go hK; clear hK K)
 all_goals
  simp only [tN]
  refine Run.cond rfl (fun h33 => ?_) (fun h33 => ?_)
  ·simp at h33
  ·skip
   apply Run.skip
   simp only [tN]
   refine Run.cut [8, 34, 35, 36, 37, 38, 39, 40, 41, 42] [(8, .rs 4300 1 0 1)] [(300, .vals ((encC c ++ [D.int c.nodes.length]).map .d)), (400, .vals ((encP p).map .d)), (4200, .data 1 (fb.map encB)), (4300, .vals [.rs 4200 1 0 (n + k)])] ?_ ?_
   ·refine opsF oo17 fun K hK => ?_
    try simp
    repeat' first | (refine evL_c ?_; simp [-List.map_set, hn, hk, hop, hkl, hw, hwd, hfl, hw1, hw2, hw3]) | (with_reducible first | apply aI | intro _ | assumption) | omega
    all_goals (apply Fin.go hK; clear hK K)
    first | (simp [-List.map_set, hn, hk, hop, hkl, hw, hwd, hfl, hw1, hw2, hw3, ← hfb]; done)
   ·simp only [over, List.foldl, List.set]
    apply Run.seq
    apply Run.seq
    refine opsF oo18 fun K hK => ?_
    try simp
    repeat' first | (refine evL_c ?_; simp [-List.map_set, hn, hk, hop, hkl, hw, hwd, hfl, hw1, hw2, hw3]) | (with_reducible first | apply aI | intro _ | assumption) | omega
    all_goals (apply Fin.go hK; clear hK K)
    simp only [tN]
    apply Run.block
    refine Run.loopO [4, 8, 10, 11, 46, 47, 48, 49, 50, 51, 52, 53, 54, 55, 56, 57, 58, 59] (fun (x : Nat) => [(46, .int x), (8, match x with | 0 => .rs 4300 1 0 1 | _ => .rs 5900 1 0 2)]) (fun (x : Nat) => match x with | 0 => [(300, .vals ((encC c ++ [D.int c.nodes.length]).map .d)), (400, .vals ((encP p).map .d)), (4200, .data 1 (fb.map encB)), (4300, .vals [.rs 4200 1 0 (n + k)])] | _ => [(300, .vals ((encC c ++ [D.int c.nodes.length]).map .d)), (400, .vals ((encP p).map .d)), (4200, .data 1 (fb.map encB)), (5300, .data 1 (b0.map encB)), (5900, .vals [.rs 4200 1 0 (n + k), .rs 5300 1 0 (n + k)])]) (fun (x : Nat) => x = 0 ∨ x = 1) (fun (x : Nat) => 1 - x) 0 (by simp) (by simp [-List.map_set, hn, hk, hop, hkl, hw, hwd, hfl, hw1, hw2, hw3]) fun x hx => ?_
    rcases hx with rfl | rfl
    ·simp only [over, List.foldl, List.set]
     apply Run.seq
     refine opsF oo19 fun K hK => ?_
     try simp
     repeat' first | (refine evL_c ?_; simp [-List.map_set, hn, hk, hop, hkl, hw, hwd, hfl, hw1, hw2, hw3]) | (with_reducible first | apply aI | intro _ | assumption) | omega
     all_goals (apply Fin.go hK; clear hK K)
     simp only [tN]
     apply Run.seq
     refine Run.cond rfl (fun h47 => ?_) (fun h47 => ?_)
     ·skip
      apply Run.skip
      simp only [tN]
      apply Run.seq
      apply Run.block
      apply Run.seq
      refine opsF oo20 fun K hK => ?_
      try simp
      repeat' first | (refine evL_c ?_; simp [-List.map_set, hn, hk, hop, hkl, hw, hwd, hfl, hw1, hw2, hw3]) | (with_reducible first | apply aI | intro _ | assumption) | omega
      all_goals (apply Fin.go hK; clear hK K)
      simp only [tN]
      apply Run.seq
      refine opsF oo21 fun K hK => ?_
      try simp
      repeat' first | (refine ecall (by have h := IH; exact h) rfl ?_) | (refine evL_c ?_; simp [-List.map_set, hn, hk, hop, hkl, hw, hwd, hfl, hw1, hw2, hw3]) | (with_reducible first | apply aI | intro _ | assumption) | omega
      all_goals (apply Fin.go hK; clear hK K)
      simp only [tN]
      apply Run.seq
      apply Run.seq
      refine opsF oo22 fun K hK => ?_
      try simp
      repeat' first | (refine evL_c ?_; simp [-List.map_set, hn, hk, hop, hkl, hw, hwd, hfl, hw1, hw2, hw3]) | (with_reducible first | apply aI | intro _ | assumption) | omega
      all_goals (apply Fin.go hK; clear hK K)
      simp only [tN]
      refine Run.cond rfl (fun h54 => ?_) (fun h54 => ?_)
      ·simp at h54
      ·skip
       apply Run.skip
       simp only [tN]
       refine opsF oo23 fun K hK => ?_
       try simp
       repeat' first | (refine evL_c ?_; simp [-List.map_set, hn, hk, hop, hkl, hw, hwd, hfl, hw1, hw2, hw3]) | (with_reducible first | apply aI | intro _ | assumption) | omega
       all_goals (apply Fin.go hK; clear hK K)
       simp only [Blok_normal]
       simp only [tN]
       refine opsF oo24 fun K hK => ?_
       try simp
       repeat' first | (refine evL_c ?_; simp [-List.map_set, hn, hk, hop, hkl, hw, hwd, hfl, hw1, hw2, hw3]) | (with_reducible first | apply aI | intro _ | assumption) | omega
       all_goals (apply Fin.go hK; clear hK K)
       refine ⟨1, .inr rfl, by omega, ?_⟩
       simp (disch := omega) [-List.map_set, hn, hk, hop, hkl, hw, hwd, hfl, hw1, hw2, hw3, hb0, wrap_id]
     ·simp at h47
    ·simp only [over, List.foldl, List.set]
     apply Run.seq
     refine opsF oo19 fun K hK => ?_
     try simp
     repeat' first | (refine evL_c ?_; simp [-List.map_set, hn, hk, hop, hkl, hw, hwd, hfl, hw1, hw2, hw3]) | (with_reducible first | apply aI | intro _ | assumption) | omega
     all_goals (apply Fin.go hK; clear hK K)
     simp only [tN]
     apply Run.seq
     refine Run.cond rfl (fun h47 => ?_) (fun h47 => ?_)
     ·simp at h47
     ·skip
      refine Run.exit ?_
      simp (decide := true) only [Then_exit, Blok_exit, if_true, if_false]
      simp only [tN]
      apply Run.seq
      refine opsF oo25 fun K hK => ?_
      try simp
      repeat' first | (refine evL_c ?_; simp [-List.map_set, hn, hk, hop, hkl, hw, hwd, hfl, hw1, hw2, hw3]) | (with_reducible first | apply aI | intro _ | assumption) | omega
      all_goals (apply Fin.go hK; clear hK K)
      simp only [tN]
      apply Run.seq
      refine opsF oo26 fun K hK => ?_
      try simp
      repeat' first | (refine evL_c ?_; simp [-List.map_set, hn, hk, hop, hkl, hw, hwd, hfl, hw1, hw2, hw3]) | (with_reducible first | apply aI | intro _ | assumption) | omega
      all_goals (apply Fin.go hK; clear hK K)
      simp only [tN]
      apply Run.seq
      apply Run.seq
      refine opsF oo27 fun K hK => ?_
      try simp
      repeat' first | (refine evL_c ?_; simp [-List.map_set, hn, hk, hop, hkl, hw, hwd, hfl, hw1, hw2, hw3]) | (with_reducible first | apply aI | intro _ | assumption) | omega
      all_goals (apply Fin.go hK; clear hK K)
      simp only [tN]
      apply Run.block
      apply Run.seq
      refine opsF oo28 fun K hK => ?_
      try simp
      repeat' first | (refine evL_c ?_; simp [-List.map_set, hn, hk, hop, hkl, hw, hwd, hfl, hw1, hw2, hw3]) | (with_reducible first | apply aI | intro _ | assumption) | omega
      all_goals (apply Fin.go hK; clear hK K)
      simp only [tN]
      refine Run.cond rfl (fun h68 => ?_) (fun h68 => ?_)
      ·simp at h68
      ·skip
       apply Run.seq
       apply Run.seq
       refine opsF oo29 fun K hK => ?_
       try simp
       repeat' first | (refine evL_c ?_; simp [-List.map_set, hn, hk, hop, hkl, hw, hwd, hfl, hw1, hw2, hw3]) | (with_reducible first | apply aI | intro _ | assumption) | omega
       all_goals (apply Fin.go hK; clear hK K)
       simp only [tN]
       refine Run.cond rfl (fun h85 => ?_) (fun h85 => ?_)
       ·simp at h85
       ·skip
        refine opsF oo34 fun K hK => ?_
        try simp
        repeat' first | (refine evL_c ?_; simp [-List.map_set, hn, hk, hop, hkl, hw, hwd, hfl, hw1, hw2, hw3]) | (with_reducible first | apply aI | intro _ | assumption) | omega
        all_goals (apply Fin.go hK; clear hK K)
        simp only [tN]
        refine Run.cond rfl (fun h85 => ?_) (fun h85 => ?_)
        ·simp at h85
        ·skip
         apply Run.seq
         refine opsF oo35 fun K hK => ?_
         try simp
         repeat' first | (refine evL_c ?_; simp [-List.map_set, hn, hk, hop, hkl, hw, hwd, hfl, hw1, hw2, hw3]) | (with_reducible first | apply aI | intro _ | assumption) | omega
         all_goals (apply Fin.go hK; clear hK K)
         simp only [tN]
         refine Run.cond rfl (fun h92 => ?_) (fun h92 => ?_)
         ·simp at h92
         ·skip
          apply Run.seq
          refine opsF oo36 fun K hK => ?_
          try simp
          repeat' first | (refine evL_c ?_; simp [-List.map_set, hn, hk, hop, hkl, hw, hwd, hfl, hw1, hw2, hw3]) | (with_reducible first | apply aI | intro _ | assumption) | omega
          all_goals (apply Fin.go hK; clear hK K)
          simp only [tN]
          refine Run.cond rfl (fun h131 => ?_) (fun h131 => ?_)
          ·simp at h131
          ·skip
           apply Run.seq
           refine opsF [oK .eql 44 67 6 44 138, oA 138 137] fun K hK => ?_
           try simp
           repeat' first | (refine evL_c ?_; simp [-List.map_set, hn, hk, hop, hkl, hw, hwd, hfl, hw1, hw2, hw3]) | (with_reducible first | apply aI | intro _ | assumption) | omega
           all_goals (apply Fin.go hK; clear hK K)
           simp only [tN]
           refine Run.cond rfl (fun h137 => ?_) (fun h137 => ?_)
           ·skip
            refine opsT [oF 48 3 5 139, oL 28 139 140, ⟨.makeFunc (Fn.func 73) #[] #[.tmp 12], some 141, none⟩, oC 72 #[.tmp 140, .tmp 141] #[28, 131] 142, ⟨.unOp .not 4 (.tmp 142), some 143, none⟩, oA 143 13] fun K hK => ?_
            try simp
            repeat' first | (refine ecallW [1300, 5300] (by have h := anyT_ok false p.terms 73 b0 (fun t => !bindsS b0 t) (fun t ht => bindsN_ok b0 t (hT t ht)); simp only [hb0n] at h; exact h) (by simp) (by simp) (by simp) ?_) | (refine evL_c ?_; simp [-List.map_set, hn, hk, hop, hkl, hw, hwd, hfl, hw1, hw2, hw3]) | (with_reducible first | apply aI | intro _ | assumption) | omega
            all_goals (apply Fin.go hK; clear hK K)
            simp only [Blok_normal]
            simp only [tN]
            apply Run.seq
            apply Run.seq
            refine opsF oo31 fun K hK => ?_
            try simp
            repeat' first | (refine evL_c ?_; simp [-List.map_set, hn, hk, hop, hkl, hw, hwd, hfl, hw1, hw2, hw3]) | (with_reducible first | apply aI | intro _ | assumption) | omega
            all_goals (apply Fin.go hK; clear hK K)
            simp only [tN]
            refine Run.cond rfl (fun h145 => ?_) (fun h145 => ?_)
            ·try simp at h145
             apply Run.seq
             refine opsF oo32 fun K hK => ?_
             try simp
             repeat' first | (refine evL_c ?_; simp [-List.map_set, hn, hk, hop, hkl, hw, hwd, hfl, hw1, hw2, hw3]) | (with_reducible first | apply aI | intro _ | assumption) | omega
             all_goals (apply Fin.go hK; clear hK K)
             simp only [tN]
             refine Run.drop [] (by simp) ?_
             apply Run.ret
             try simp only [Then_ret, Blok_ret]
             first
              | (have e : opS c p [b0] = none := by simp [opS, hop]; simpa using h145
                 rw [e]
                 simp [resB, stoB, hn]; done)
              | (have e : opS c p [b0] = some b0 := by simp [opS, hop]; simpa using h145
                 rw [e]
                 simp [-List.map_set, resB, stoB, hn, hb0n]; done)
            ·try simp at h145
             apply Run.skip
             simp only [tN]
             apply Run.seq
             refine opsF oo33 fun K hK => ?_
             try simp
             repeat' first | (refine evL_c ?_; simp [-List.map_set, hn, hk, hop, hkl, hw, hwd, hfl, hw1, hw2, hw3]) | (with_reducible first | apply aI | intro _ | assumption) | omega
             all_goals (apply Fin.go hK; clear hK K)
             simp only [tN]
             apply Run.ret
             try simp only [Then_ret, Blok_ret]
             first
              | (have e : opS c p [b0] = none := by simp [opS, hop]; simpa using h145
                 rw [e]
                 simp [resB, stoB, hn]; done)
              | (have e : opS c p [b0] = some b0 := by simp [opS, hop]; simpa using h145
                 rw [e]
                 simp [-List.map_set, resB, stoB, hn, hb0n]; done)
           ·simp at h137
end Go.Proofs.Ytimgbdkgjfbhkaa.Z
end
