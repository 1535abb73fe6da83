/- Texts of this claim, put together: Vg, Vh, Vi, Vj, Ui, Vk, Vl, Vm, Pe, Vo, Vn, Vp, Uh, Tg, Th, Ti, Vq. -/
import Derived.Test.YtimgbdkgjfbhkaaNf
set_option linter.unusedVariables false
set_option linter.unusedSimpArgs false
set_option maxRecDepth 100000
namespace Go.Proofs.Ytimgbdkgjfbhkaa.Z
open Go Go.Fw
abbrev oo109 : List LOp := [oM 0 10, oV 10 11, oF 79 11 0 12, oF 25 12 1 13, oL 23 13 14, oM 1 15, oI 23 14 15 16, oL 41 16 17, ⟨.alloc 41, some 5, none⟩, oS 41 5 17]
abbrev oo110 : List LOp := [oM 1 18, oA 18 6]
abbrev oo111 : List LOp := [oM 1 19, oM 0 20, oV 20 21, oF 79 21 0 22, oF 25 22 1 23, oL 23 23 24, oN 23 24 25, oK .sub 3 25 1 3 26, oB .eql 3 19 26 3 27]
abbrev oo112 : List LOp := [⟨.assign (.const (.int .i64 (-1))), some 6, none⟩]
abbrev oo113 : List LOp := [oF 41 5 2 28, oL 3 28 29, oM 6 30, oB .neq 3 29 30 3 31, oM 31 32, ⟨.fieldAddr 41 (.tmp 5) 0, some 33, some (some 32, false)⟩, ⟨.load 3 (.tmp 33), some 34, some (some 32, false)⟩, ⟨.binOp .lss 3 (.tmp 34) (.const (.int .i64 0)) 3, some 35, some (some 32, false)⟩, ⟨.pick (.tmp 32) (.const (.bool true)) (.tmp 35), some 36, none⟩, oM 36 37, ⟨.fieldAddr 41 (.tmp 5) 0, some 38, some (some 37, false)⟩, ⟨.load 3 (.tmp 38), some 39, some (some 37, false)⟩, ⟨.move (.tmp 0), some 40, some (some 37, false)⟩, ⟨.nilCheck (.tmp 40), some 41, some (some 37, false)⟩, ⟨.fieldAddr 79 (.tmp 41) 1, some 42, some (some 37, false)⟩, ⟨.fieldAddr 32 (.tmp 42) 0, some 43, some (some 37, false)⟩, ⟨.load 26 (.tmp 43), some 44, some (some 37, false)⟩, ⟨.call { callee := .builtin .len, args := #[.tmp 44], argTypes := #[26] }, some 45, some (some 37, false)⟩, ⟨.binOp .geq 3 (.tmp 39) (.tmp 45) 3, some 46, some (some 37, false)⟩, ⟨.pick (.tmp 37) (.const (.bool true)) (.tmp 46), some 47, none⟩]
abbrev oo114 : List LOp := [oM 0 48, oV 48 49, oF 79 49 1 50, oF 32 50 0 51, oL 26 51 52, oN 26 52 53, oM 0 54, oV 54 55, oF 79 55 1 56, oF 32 56 1 57, oL 27 57 58, oN 27 58 59, oB .add 3 53 59 3 60, ⟨.makeSlice 34 (.tmp 60) (.tmp 60), some 61, none⟩, oA 61 7]
abbrev oo115 : List LOp := [oM 7 62, oF 41 5 0 63, oL 3 63 64, oI 34 62 64 65, ⟨.store 4 (.tmp 65) (.const (.bool true)), none, none⟩]
abbrev oo116 : List LOp := [oM 8 66, oF 41 5 1 67, oL 39 67 68, oN 39 68 69, oB .lss 3 66 69 3 70]
abbrev oo117 : List LOp := [oM 0 73, oF 41 5 1 74, oL 39 74 75, oM 8 76, oI 39 75 76 77, oL 75 77 78, oM 7 79, oM 1 80, oC 46 #[.tmp 73, .tmp 78, .tmp 79, .tmp 80] #[76, 75, 34, 3] 81, oA 81 9]
abbrev oo118 : List LOp := [oM 9 82, ⟨.unOp .not 4 (.tmp 82), some 83, none⟩]
abbrev oo119 : List LOp := [oM 8 71, oK .add 3 71 1 3 72, oA 72 8]
abbrev oo120 : List LOp := [oL 32 3 12, oC 25 #[.tmp 12] #[32] 13, oA 13 7]
abbrev oo121 : List LOp := [oM 7 14, ⟨.unOp .not 4 (.tmp 14), some 15, none⟩]
abbrev oo122 : List LOp := [oF 25 2 1 16, oL 23 16 17, oN 23 17 18, oF 25 2 0 19, oL 22 19 20, oN 22 20 21, oK .add 3 21 1 3 22, oB .neq 3 18 22 3 23]
abbrev oo123 : List LOp := [oL 25 2 24, oL 32 3 25, oF 25 2 0 26, oL 22 26 27, oN 22 27 28, ⟨.makeSlice 34 (.tmp 28) (.tmp 28), some 29, none⟩, ⟨.build 79 #[(0, .tmp 24), (1, .tmp 25), (3, .tmp 29)], some 30, none⟩, ⟨.box 79 (.tmp 30), some 31, none⟩, oA 31 8]
abbrev oo124 : List LOp := [oM 9 32, oF 25 2 1 33, oL 23 33 34, oN 23 34 35, oB .lss 3 32 35 3 36]
abbrev oo125 : List LOp := [oM 8 39, oM 9 40, oC 28 #[.tmp 39, .tmp 40] #[76, 3] 41, oA 41 10]
abbrev oo126 : List LOp := [oM 10 42, ⟨.binOp .eql 34 (.tmp 42) (.const (.slice none 0 0)) 34, some 43, none⟩]
abbrev oo127 : List LOp := [oM 8 45, oM 8 46, oV 46 47, oF 79 47 2 48, oL 77 48 49, oM 10 50, ⟨.buildSlice 77 1 #[(0, .tmp 50)], some 51, none⟩, ⟨.call { callee := .builtin .append, args := #[.tmp 49, .tmp 51], argTypes := #[77, 77] }, some 52, none⟩, oV 45 53, oF 79 53 2 54, oS 77 54 52]
abbrev oo128 : List LOp := [oM 9 37, oK .add 3 37 1 3 38, oA 38 9]
abbrev oo129 : List LOp := [oM 11 55, oM 8 56, oV 56 57, oF 79 57 3 58, oL 34 58 59, oN 34 59 60, oB .lss 3 55 60 3 61]
abbrev oo130 : List LOp := [oM 8 64, oV 64 65, oF 79 65 3 66, oL 34 66 67, oM 11 68, oI 34 67 68 69, oL 4 69 70, ⟨.unOp .not 4 (.tmp 70), some 71, none⟩]
abbrev oo131 : List LOp := [oM 11 62, oK .add 3 62 1 3 63, oA 63 11]
abbrev oo132 : List LOp := [oM 7 23, oK .add 3 23 1 3 24, oA 24 7]
abbrev oo133 : List LOp := [oL 25 2 10, oL 32 3 11, oC 11 #[.tmp 10, .tmp 11] #[25, 32] 12, oM 12 9, oX 9 0 13, oX 9 1 14, oX 9 2 15, oA 13 6, oA 14 7, oA 15 8]
abbrev oo134 : List LOp := [oM 8 16, oK .neq 35 16 0 35 17]
abbrev oo135 : List LOp := [⟨.box 25 (.tmp 0), some 2, none⟩, ⟨.box 32 (.tmp 1), some 3, none⟩, ⟨.assign (.const (.bool false)), some 4, none⟩]
abbrev oo136 : List LOp := [oC 8 #[] #[] 17, oA 17 5]
abbrev oo137 : List LOp := [oL 25 2 18, oC 10 #[.tmp 18, .const (.int .i64 300)] #[25, 3] 19, oK .gtr 3 19 300 3 20]
end Go.Proofs.Ytimgbdkgjfbhkaa.Z
section
namespace Go.Proofs.Ytimgbdkgjfbhkaa.Z
open Go Go.Fw
attribute [-simp] litV lost
attribute [local simp] litV_agg litV_int litV_str litV_bool litV_slice litV_tup
def stepsRd (c : CoreT) (tabs : List (List Int)) (bs : List (List Bool)) (i : Int) : List Bool → List Bool → List StepR → Option (List Bool) × List Bool
 | ak, b, [] => (some b, ak)
 | ak, b, s :: t => if (stepRd c tabs bs ak b i s).1 then stepsRd c tabs bs i (stepRd c tabs bs ak b i s).2.2 (stepRd c tabs bs ak b i s).2.1 t else (none, (stepRd c tabs bs ak b i s).2.2)
def sinkRd (n : Nat) (i : Int) : Int := if i = n - 1 then -1 else i
def badPi (c : CoreT) (n : Nat) (x : PipeR) (i : Int) : Bool := !decide (x.sink = sinkRd n i) || decide (x.scan < 0) || decide ((c.nodes.length : Int) ≤ x.scan)
def bound0 (c : CoreT) (x : PipeR) : List Bool := (List.replicate (c.nodes.length + c.edges.length) false).set x.scan.toNat true
def pipeRd (c : CoreT) (r : ProgR) (bs : List (List Bool)) (ak : List Bool) (i : Int) (x : PipeR) : Option (List Bool) × List Bool :=
 if badPi c r.pipes.length x i then (none, ak) else stepsRd c r.tabs bs i ak (bound0 c x) x.steps
theorem stepRd_len (c : CoreT) (tabs : List (List Int)) (bs : List (List Bool)) (ak b : List Bool) (i : Int) (s : StepR) : (stepRd c tabs bs ak b i s).2.1.length = b.length ∧ (stepRd c tabs bs ak b i s).2.2.length = ak.length := by
 unfold stepRd
 split
 ·exact ⟨edgeL_len _ _ _, rfl⟩
 split
 ·exact ⟨meetR_len _ _ _, rfl⟩
 split
 ·unfold probeR
  split
  ·exact ⟨rfl, rfl⟩
  ·split
   ·exact ⟨rfl, by simp⟩
   ·exact ⟨orN_len _ _ _, by simp⟩
 split <;> exact ⟨rfl, rfl⟩
theorem okM (c : CoreT) (r : ProgR) (nB nA nb : Nat) (bs : List (List Bool)) (ak b ak' b' : List Bool) (a : List D) (i : Int) {y : Bool} : okW [0, 1, 2, 6200] (sLk c r nB nA bs ak b) [.pt 0 0 0 0, .d (.ag a), .rs 3 1 0 nb, .int i] (.bool y) (sLk c r nB nA bs ak' b') = true := by
 have e : List.range 4 = [0, 1, 2, 3] := rfl
 simp [sLk, okW, badId, e, V.menL, V.men, getB]
set_option maxHeartbeats 8000000 in
theorem pipeN_ok (c : CoreT) (r : ProgR) (nB nA : Nat) (bs : List (List Bool)) (ak : List Bool) (i : Int) (hP : patS c.nodes c.edges = true) (hi0 : 0 ≤ i) (hip : i < r.pipes.length) (hpn : r.pipes.length ≤ 1100001) (hnB : bs.length = nB) (hnA : ak.length = nA) (hi1 : i ≤ nB) (hi2 : i ≤ nA) (hi3 : i ≤ r.tabs.length) (hbs : ∀ d ∈ bs, d.length = c.nodes.length + c.edges.length) (hc : ∀ s ∈ (rdI r.pipes i).steps, ∀ t ∈ s.terms, cntT t ≤ 1100000) (hm1 : (rdI r.pipes i).steps.length ≤ 1100000) (R2 : List Bool) (hR : pipeRd c r bs ak i (rdI r.pipes i) = (none, R2)) : SndW P 28 [.pt 0 0 0 0, .int i] [(0, .vals ([.d (encTa r.tabs), .d (.sl false (r.pipes.map encPi))] ++ (encC c).map .d ++ [.rs 1 1 0 nB, .rs 2 1 0 nA])), (1, .data 1 (bs.map encBs)), (2, .data 1 (ak.map encB))] vnil [(0, .vals ([.d (encTa r.tabs), .d (.sl false (r.pipes.map encPi))] ++ (encC c).map .d ++ [.rs 1 1 0 nB, .rs 2 1 0 nA])), (1, .data 1 (bs.map encBs)), (2, .data 1 (R2.map encB))] := by
 have hE := goodE_of hP
 obtain ⟨hr1, hr2, hr3⟩ := pat_rng hP
 obtain ⟨x, hx⟩ : ∃ z, rdI r.pipes i = z := ⟨_, rfl⟩
 rw [hx] at hR hc hm1
 obtain ⟨np, hnp⟩ : ∃ z, r.pipes.length = z := ⟨_, rfl⟩
 obtain ⟨n, hn⟩ : ∃ z, c.nodes.length = z := ⟨_, rfl⟩
 obtain ⟨k, hk⟩ : ∃ z, c.edges.length = z := ⟨_, rfl⟩
 obtain ⟨nt, hnt⟩ : ∃ z, r.tabs.length = z := ⟨_, rfl⟩
 obtain ⟨m, hm⟩ : ∃ z, x.steps.length = z := ⟨_, rfl⟩
 rw [hnp] at hip hpn
 rw [hm] at hm1
 obtain ⟨sk, hsk⟩ : ∃ z, sinkRd np i = z := ⟨_, rfl⟩
 have hsk2 := hsk
 rw [sinkRd] at hsk2
 unfold pipeRd at hR
 rw [hnp] at hR
 have hwp : IntKind.i64.wrap ((np : Int) - 1) = np - 1 := wrap_id (by omega) (by omega)
 have htn : ((n : Int) + k).toNat = n + k := by omega
 have hwn : IntKind.i64.wrap ((n : Int) + k) = n + k := wrap_id (by omega) (by omega)
 refine sndW_of [0, 1, 2] Try.func28 rfl (by kernel_rfl) Try.ntmps28 (by simp) (by simp) ?_
 unfold Try.f28
 simp only [List.cons_append, List.nil_append, List.length_cons, List.length_nil, Nat.reduceAdd, Nat.reduceSub, List.replicate]
 apply Run.seq
 refine opsF oo34 fun K hK => ?_
 try simp
 repeat' first | (refine evL_c ?_; simp [hnp, hn, hk, hm, hx, hwp, hwn, htn, hip, hi0]) | (with_reducible first | apply aI | intro _ | assumption) | omega
 all_goals (apply Fin.go hK; clear hK K)
 simp only [tN]
 apply Run.seq
 refine opsF oo109 fun K hK => ?_
 try simp
 repeat' first | (refine evL_c ?_; simp [hnp, hn, hk, hm, hx, hwp, hwn, htn, hip, hi0]) | (with_reducible first | apply aI | intro _ | assumption) | omega
 all_goals (apply Fin.go hK; clear hK K)
 simp only [tN]
 apply Run.seq
 refine opsF oo110 fun K hK => ?_
 try simp
 repeat' first | (refine evL_c ?_; simp [hnp, hn, hk, hm, hx, hwp, hwn, htn, hip, hi0]) | (with_reducible first | apply aI | intro _ | assumption) | omega
 all_goals (apply Fin.go hK; clear hK K)
 simp only [tN]
 refine Run.cut [6, 19, 20, 21, 22, 23, 24, 25, 26, 27] [(6, .int sk)] [(0, .vals ([.d (encTa r.tabs), .d (.sl false (r.pipes.map encPi))] ++ (encC c).map .d ++ [.rs 1 1 0 nB, .rs 2 1 0 nA])), (1, .data 1 (bs.map encBs)), (2, .data 1 (ak.map encB)), (600, .vals ((encPi x).map .d))] ?_ ?_
 ·apply Run.seq
  refine opsF oo111 fun K hK => ?_
  try simp
  repeat' first | (refine evL_c ?_; simp [hnp, hn, hk, hm, hx, hwp, hwn, htn, hip, hi0]) | (with_reducible first | apply aI | intro _ | assumption) | omega
  all_goals (apply Fin.go hK; clear hK K)
  simp only [tN]
  refine Run.cond rfl (fun h27 => ?_) (fun h27 => ?_)
  ·try simp at h27
   refine opsF oo112 fun K hK => ?_
   try simp
   repeat' first | (refine evL_c ?_; simp [hnp, hn, hk, hm, hx, hwp, hwn, htn, hip, hi0]) | (with_reducible first | apply aI | intro _ | assumption) | omega
   all_goals (apply Fin.go hK; clear hK K)
   rw [← hsk2]
   (try simp [h27]) <;> (first | omega | (simp; done) | (rw [Bool.eq_iff_iff]; simp only [Bool.or_eq_true, Bool.and_eq_true, Bool.not_eq_true', decide_eq_true_eq, decide_eq_false_iff_not]; omega) | (simp_all; done) | (simp_all; omega) | grind)
  ·try simp at h27
   apply Run.skip
   rw [← hsk2]
   (try simp [h27]) <;> (first | omega | (simp; done) | (rw [Bool.eq_iff_iff]; simp only [Bool.or_eq_true, Bool.and_eq_true, Bool.not_eq_true', decide_eq_true_eq, decide_eq_false_iff_not]; omega) | (simp_all; done) | (simp_all; omega) | grind)
 ·simp only [over, List.foldl, List.set]
  apply Run.seq
  refine Run.cut [28, 29, 30, 31, 32, 33, 34, 35, 36, 37, 38, 39, 40, 41, 42, 43, 44, 45, 46, 47] [(47, .bool (!decide (x.sink = sk) || decide (x.scan < 0) || decide ((n : Int) ≤ x.scan)))] [(0, .vals ([.d (encTa r.tabs), .d (.sl false (r.pipes.map encPi))] ++ (encC c).map .d ++ [.rs 1 1 0 nB, .rs 2 1 0 nA])), (1, .data 1 (bs.map encBs)), (2, .data 1 (ak.map encB)), (600, .vals ((encPi x).map .d))] ?_ ?_
  ·refine opsF oo113 fun K hK => ?_
   try simp
   repeat' first | ((first | refine evL_c ?_ | (refine evL_g rfl ?_; try simp only [gs_tt, gs_ff, gs_tf, gs_ft]) | refine evL_u rfl ?_ | (with_reducible refine gsplit (fun hg => ?_) (fun hg => ?_) <;> try simp at hg)) <;> try simp [hnp, hn, hk, hm, hx, hwp, hwn, htn, hip, hi0, *]) | (with_reducible first | apply aI | intro _ | assumption) | omega
   all_goals (apply Fin.go hK; clear hK K)
   all_goals
    (try simp [*]) <;> (first | omega | (simp; done) | (rw [Bool.eq_iff_iff]; simp only [Bool.or_eq_true, Bool.and_eq_true, Bool.not_eq_true', decide_eq_true_eq, decide_eq_false_iff_not]; omega) | (simp_all; done) | (simp_all; omega) | grind)
  ·simp only [over, List.foldl, List.set]
   refine Run.cond rfl (fun h47 => ?_) (fun h47 => ?_)
   ·have hbd : badPi c np x i = true := by unfold badPi; rw [hsk, hn]; exact h47
    rw [if_pos hbd] at hR
    obtain ⟨-, hfin⟩ := Prod.mk.inj hR
    apply Run.seq
    refine opsF oo34 fun K hK => ?_
    try simp
    repeat' first | (refine evL_c ?_; simp [hnp, hn, hk, hm, hx, hwp, hwn, htn, hip, hi0]) | (with_reducible first | apply aI | intro _ | assumption) | omega
    all_goals (apply Fin.go hK; clear hK K)
    simp only [tN]
    apply Run.ret
    try simp only [Then_ret, Blok_ret]
    first
     | (simp [hfin]; done)
     | (simp; done)
   ·have hbd : badPi c np x i = false := by unfold badPi; rw [hsk, hn]; exact h47
    rw [if_neg (by rw [hbd]; simp)] at hR
    have h47' := h47
    simp only [Bool.or_eq_false_iff, decide_eq_false_iff_not] at h47'
    have hs0 : 0 ≤ x.scan := by omega
    have hs1 : x.scan < (n : Int) + k := by omega
    have hs2 : x.scan.toNat < n + k := by omega
    have hrw : rowN (List.replicate (n + k) [D.lit (Value.bool false)]) x.scan.toNat = [D.lit (Value.bool false)] := by simp [rowN, List.getD_eq_getElem?_getD, List.getElem?_replicate, hs2]
    apply Run.skip
    simp only [tN]
    apply Run.seq
    refine opsF oo114 fun K hK => ?_
    try simp
    repeat' first | (refine evL_c ?_; simp [hnp, hn, hk, hm, hx, hwp, hwn, htn, hip, hi0, hs0, hs1, hs2, hrw]) | (with_reducible first | apply aI | intro _ | assumption) | omega
    all_goals (apply Fin.go hK; clear hK K)
    simp only [tN]
    apply Run.seq
    refine opsF oo115 fun K hK => ?_
    try simp
    repeat' first | (refine evL_c ?_; simp [hnp, hn, hk, hm, hx, hwp, hwn, htn, hip, hi0, hs0, hs1, hs2, hrw]) | (with_reducible first | apply aI | intro _ | assumption) | omega
    all_goals (apply Fin.go hK; clear hK K)
    simp only [tN]
    apply Run.seq
    apply Run.seq
    refine opsF oo84 fun K hK => ?_
    try simp
    repeat' first | (refine evL_c ?_; simp [hnp, hn, hk, hm, hx, hwp, hwn, htn, hip, hi0, hs0, hs1, hs2, hrw]) | (with_reducible first | apply aI | intro _ | assumption) | omega
    all_goals (apply Fin.go hK; clear hK K)
    simp only [tN]
    apply Run.block
    refine Run.loopO [4, 8, 9, 66, 67, 68, 69, 70, 71, 72, 73, 74, 75, 76, 77, 78, 79, 80, 81, 82, 83] (fun (y : Nat × List Bool × List Bool) => [(8, .int y.1)]) (fun (y : Nat × List Bool × List Bool) => [(0, .vals ([.d (encTa r.tabs), .d (.sl false (r.pipes.map encPi))] ++ (encC c).map .d ++ [.rs 1 1 0 nB, .rs 2 1 0 nA])), (1, .data 1 (bs.map encBs)), (2, .data 1 (y.2.1.map encB)), (600, .vals ((encPi x).map .d)), (6200, .data 1 (y.2.2.map encB))]) (fun (y : Nat × List Bool × List Bool) => y.1 ≤ m ∧ y.2.1.length = nA ∧ y.2.2.length = n + k ∧ stepsRd c r.tabs bs i y.2.1 y.2.2 (x.steps.drop y.1) = (none, R2)) (fun (y : Nat × List Bool × List Bool) => m - y.1) (0, ak, bound0 c x) ⟨by omega, hnA, by simp [bound0, hn, hk], by simpa using hR⟩ (by simp [bound0, hn, hk, htn, hrw]) fun ⟨j, a1, b1⟩ ⟨hj, ha1, hb1, hz⟩ => ?_
    simp only at hj ha1 hb1 hz
    simp only [over, List.foldl, List.set]
    apply Run.seq
    apply Run.seq
    refine opsF oo116 fun K hK => ?_
    try simp
    repeat' first | (refine evL_c ?_; simp [hnp, hn, hk, hm, hx, hwp, hwn, htn, hip, hi0, hs0, hs1, hs2, hrw]) | (with_reducible first | apply aI | intro _ | assumption) | omega
    all_goals (apply Fin.go hK; clear hK K)
    simp only [tN]
    refine Run.cond rfl (fun h70 => ?_) (fun h70 => ?_)
    ·try simp at h70
     have hj1 : j < m := by omega
     have hj2 : (j : Int) < m := by omega
     obtain ⟨s, hs⟩ : ∃ z, rdI x.steps (j : Nat) = z := ⟨_, rfl⟩
     rw [drop_rd (by omega), hs] at hz
     have hk2 := rstep_ok c r nB nA bs a1 b1 s i (by omega) hE hnB ha1 hi1 hi2 hi3 (by omega) (fun d hd => by rw [hbs d hd]; omega) (hc s (by rw [← hs]; exact rdI_mem (by omega) (by omega)))
     have hln := stepRd_len c r.tabs bs a1 b1 i s
     obtain ⟨⟨q, b2, a2⟩, hst⟩ : ∃ z, stepRd c r.tabs bs a1 b1 i s = z := ⟨_, rfl⟩
     rw [hst] at hk2 hln
     simp only at hk2 hln
     obtain ⟨hln1, hln2⟩ := hln
     have hok := okM c r nB nA b1.length bs a1 b1 a2 b2 (encR s) i (y := q)
     rw [hb1] at hk2 hok
     unfold sLk at hk2 hok
     apply Run.skip
     simp only [tN]
     apply Run.seq
     apply Run.block
     apply Run.seq
     refine opsT oo117 fun K hK => ?_
     try simp
     repeat' first | (refine ecallW [0, 1, 2, 6200] (by exact hk2) (by simp) (by simp) (by exact hok) ?_) | (refine evL_c ?_; simp [hnp, hn, hk, hm, hx, hwp, hwn, htn, hip, hi0, hs0, hs1, hs2, hrw, hj1, hj2, hs, hb1]) | (with_reducible first | apply aI | intro _ | assumption) | omega
     all_goals (apply Fin.go hK; clear hK K)
     simp only [tN]
     apply Run.seq
     refine opsF oo118 fun K hK => ?_
     try simp
     repeat' first | (refine evL_c ?_; simp [hnp, hn, hk, hm, hx, hwp, hwn, htn, hip, hi0, hs0, hs1, hs2, hrw, hj1, hj2, hs, hb1]) | (with_reducible first | apply aI | intro _ | assumption) | omega
     all_goals (apply Fin.go hK; clear hK K)
     simp only [tN]
     refine Run.cond rfl (fun h83 => ?_) (fun h83 => ?_)
     ·rw [stepsRd, hst] at hz
      simp only at hz
      rw [if_neg (by simpa using h83)] at hz
      obtain ⟨-, hfin⟩ := Prod.mk.inj hz
      apply Run.seq
      refine opsF oo34 fun K hK => ?_
      try simp
      repeat' first | (refine evL_c ?_; simp [hnp, hn, hk, hm, hx, hwp, hwn, htn, hip, hi0, hs0, hs1, hs2, hrw, hj1, hj2, hs, hb1]) | (with_reducible first | apply aI | intro _ | assumption) | omega
      all_goals (apply Fin.go hK; clear hK K)
      simp only [tN]
      apply Run.ret
      try simp only [Then_ret, Blok_ret]
      first
       | (simp [hfin]; done)
       | (simp; done)
     ·skip
      apply Run.skip
      simp only [Blok_normal]
      simp only [tN]
      refine opsF oo119 fun K hK => ?_
      try simp
      repeat' first | (refine evL_c ?_; simp [hnp, hn, hk, hm, hx, hwp, hwn, htn, hip, hi0, hs0, hs1, hs2, hrw, hj1, hj2, hs, hb1]) | (with_reducible first | apply aI | intro _ | assumption) | omega
      all_goals (apply Fin.go hK; clear hK K)
      first
       | refine ⟨j + 1, a2, b2, ⟨?_, ?_, ?_, ?_⟩, ?_, ?_⟩
       | refine ⟨(j + 1, a2, b2), ⟨?_, ?_, ?_, ?_⟩, ?_, ?_⟩
      ·show j + 1 ≤ m; omega
      ·show a2.length = nA; omega
      ·show b2.length = n + k; omega
      ·show stepsRd c r.tabs bs i a2 b2 (x.steps.drop (j + 1)) = (none, R2)
       rw [← hz, stepsRd, hst]
       simp only
       rw [if_pos (by simpa using h83)]
      ·show m - (j + 1) < m - j; omega
      ·simp (disch := omega) [wrap_id]
    ·try simp at h70
     have hj3 : j = m := by omega
     rw [List.drop_of_length_le (by omega), stepsRd] at hz
     cases hz
set_option maxHeartbeats 8000000 in
theorem pipeY_ok (c : CoreT) (r : ProgR) (nB nA : Nat) (bs : List (List Bool)) (ak : List Bool) (i : Int) (hP : patS c.nodes c.edges = true) (hi0 : 0 ≤ i) (hip : i < r.pipes.length) (hpn : r.pipes.length ≤ 1100001) (hnB : bs.length = nB) (hnA : ak.length = nA) (hi1 : i ≤ nB) (hi2 : i ≤ nA) (hi3 : i ≤ r.tabs.length) (hbs : ∀ d ∈ bs, d.length = c.nodes.length + c.edges.length) (hc : ∀ s ∈ (rdI r.pipes i).steps, ∀ t ∈ s.terms, cntT t ≤ 1100000) (hm1 : (rdI r.pipes i).steps.length ≤ 1100000) (R2 b0 : List Bool) (hR : pipeRd c r bs ak i (rdI r.pipes i) = (some b0, R2)) : SndW P 28 [.pt 0 0 0 0, .int i] [(0, .vals ([.d (encTa r.tabs), .d (.sl false (r.pipes.map encPi))] ++ (encC c).map .d ++ [.rs 1 1 0 nB, .rs 2 1 0 nA])), (1, .data 1 (bs.map encBs)), (2, .data 1 (ak.map encB))] (.rs 3 1 0 (c.nodes.length + c.edges.length)) [(0, .vals ([.d (encTa r.tabs), .d (.sl false (r.pipes.map encPi))] ++ (encC c).map .d ++ [.rs 1 1 0 nB, .rs 2 1 0 nA])), (1, .data 1 (bs.map encBs)), (2, .data 1 (R2.map encB)), (3, .data 1 (b0.map encB))] := by
 have hE := goodE_of hP
 obtain ⟨hr1, hr2, hr3⟩ := pat_rng hP
 obtain ⟨x, hx⟩ : ∃ z, rdI r.pipes i = z := ⟨_, rfl⟩
 rw [hx] at hR hc hm1
 obtain ⟨np, hnp⟩ : ∃ z, r.pipes.length = z := ⟨_, rfl⟩
 obtain ⟨n, hn⟩ : ∃ z, c.nodes.length = z := ⟨_, rfl⟩
 obtain ⟨k, hk⟩ : ∃ z, c.edges.length = z := ⟨_, rfl⟩
 obtain ⟨nt, hnt⟩ : ∃ z, r.tabs.length = z := ⟨_, rfl⟩
 obtain ⟨m, hm⟩ : ∃ z, x.steps.length = z := ⟨_, rfl⟩
 rw [hnp] at hip hpn
 rw [hm] at hm1
 obtain ⟨sk, hsk⟩ : ∃ z, sinkRd np i = z := ⟨_, rfl⟩
 have hsk2 := hsk
 rw [sinkRd] at hsk2
 unfold pipeRd at hR
 rw [hnp] at hR
 have hwp : IntKind.i64.wrap ((np : Int) - 1) = np - 1 := wrap_id (by omega) (by omega)
 have htn : ((n : Int) + k).toNat = n + k := by omega
 have hwn : IntKind.i64.wrap ((n : Int) + k) = n + k := wrap_id (by omega) (by omega)
 refine sndW_of [0, 1, 2, 6200] Try.func28 rfl (by kernel_rfl) Try.ntmps28 (by simp) (by simp) ?_
 unfold Try.f28
 simp only [List.cons_append, List.nil_append, List.length_cons, List.length_nil, Nat.reduceAdd, Nat.reduceSub, List.replicate]
 apply Run.seq
 refine opsF oo34 fun K hK => ?_
 try simp
 repeat' first | (refine evL_c ?_; simp [hnp, hn, hk, hm, hx, hwp, hwn, htn, hip, hi0]) | (with_reducible first | apply aI | intro _ | assumption) | omega
 all_goals (apply Fin.go hK; clear hK K)
 simp only [tN]
 apply Run.seq
 refine opsF oo109 fun K hK => ?_
 try simp
 repeat' first | (refine evL_c ?_; simp [hnp, hn, hk, hm, hx, hwp, hwn, htn, hip, hi0]) | (with_reducible first | apply aI | intro _ | assumption) | omega
 all_goals (apply Fin.go hK; clear hK K)
 simp only [tN]
 apply Run.seq
 refine opsF oo110 fun K hK => ?_
 try simp
 repeat' first | (refine evL_c ?_; simp [hnp, hn, hk, hm, hx, hwp, hwn, htn, hip, hi0]) | (with_reducible first | apply aI | intro _ | assumption) | omega
 all_goals (apply Fin.go hK; clear hK K)
 simp only [tN]
 refine Run.cut [6, 19, 20, 21, 22, 23, 24, 25, 26, 27] [(6, .int sk)] [(0, .vals ([.d (encTa r.tabs), .d (.sl false (r.pipes.map encPi))] ++ (encC c).map .d ++ [.rs 1 1 0 nB, .rs 2 1 0 nA])), (1, .data 1 (bs.map encBs)), (2, .data 1 (ak.map encB)), (600, .vals ((encPi x).map .d))] ?_ ?_
 ·apply Run.seq
  refine opsF oo111 fun K hK => ?_
  try simp
  repeat' first | (refine evL_c ?_; simp [hnp, hn, hk, hm, hx, hwp, hwn, htn, hip, hi0]) | (with_reducible first | apply aI | intro _ | assumption) | omega
  all_goals (apply Fin.go hK; clear hK K)
  simp only [tN]
  refine Run.cond rfl (fun h27 => ?_) (fun h27 => ?_)
  ·try simp at h27
   refine opsF oo112 fun K hK => ?_
   try simp
   repeat' first | (refine evL_c ?_; simp [hnp, hn, hk, hm, hx, hwp, hwn, htn, hip, hi0]) | (with_reducible first | apply aI | intro _ | assumption) | omega
   all_goals (apply Fin.go hK; clear hK K)
   rw [← hsk2]
   (try simp [h27]) <;> (first | omega | (simp; done) | (rw [Bool.eq_iff_iff]; simp only [Bool.or_eq_true, Bool.and_eq_true, Bool.not_eq_true', decide_eq_true_eq, decide_eq_false_iff_not]; omega) | (simp_all; done) | (simp_all; omega) | grind)
  ·try simp at h27
   apply Run.skip
   rw [← hsk2]
   (try simp [h27]) <;> (first | omega | (simp; done) | (rw [Bool.eq_iff_iff]; simp only [Bool.or_eq_true, Bool.and_eq_true, Bool.not_eq_true', decide_eq_true_eq, decide_eq_false_iff_not]; omega) | (simp_all; done) | (simp_all; omega) | grind)
 ·simp only [over, List.foldl, List.set]
  apply Run.seq
  refine Run.cut [28, 29, 30, 31, 32, 33, 34, 35, 36, 37, 38, 39, 40, 41, 42, 43, 44, 45, 46, 47] [(47, .bool (!decide (x.sink = sk) || decide (x.scan < 0) || decide ((n : Int) ≤ x.scan)))] [(0, .vals ([.d (encTa r.tabs), .d (.sl false (r.pipes.map encPi))] ++ (encC c).map .d ++ [.rs 1 1 0 nB, .rs 2 1 0 nA])), (1, .data 1 (bs.map encBs)), (2, .data 1 (ak.map encB)), (600, .vals ((encPi x).map .d))] ?_ ?_
  ·refine opsF oo113 fun K hK => ?_
   try simp
   repeat' first | ((first | refine evL_c ?_ | (refine evL_g rfl ?_; try simp only [gs_tt, gs_ff, gs_tf, gs_ft]) | refine evL_u rfl ?_ | (with_reducible refine gsplit (fun hg => ?_) (fun hg => ?_) <;> try simp at hg)) <;> try simp [hnp, hn, hk, hm, hx, hwp, hwn, htn, hip, hi0, *]) | (with_reducible first | apply aI | intro _ | assumption) | omega
   all_goals (apply Fin.go hK; clear hK K)
   all_goals
    (try simp [*]) <;> (first | omega | (simp; done) | (rw [Bool.eq_iff_iff]; simp only [Bool.or_eq_true, Bool.and_eq_true, Bool.not_eq_true', decide_eq_true_eq, decide_eq_false_iff_not]; omega) | (simp_all; done) | (simp_all; omega) | grind)
  ·simp only [over, List.foldl, List.set]
   refine Run.cond rfl (fun h47 => ?_) (fun h47 => ?_)
   ·have hbd : badPi c np x i = true := by unfold badPi; rw [hsk, hn]; exact h47
    rw [if_pos hbd] at hR
    cases hR
   ·have hbd : badPi c np x i = false := by unfold badPi; rw [hsk, hn]; exact h47
    rw [if_neg (by rw [hbd]; simp)] at hR
    have h47' := h47
    simp only [Bool.or_eq_false_iff, decide_eq_false_iff_not] at h47'
    have hs0 : 0 ≤ x.scan := by omega
    have hs1 : x.scan < (n : Int) + k := by omega
    have hs2 : x.scan.toNat < n + k := by omega
    have hrw : rowN (List.replicate (n + k) [D.lit (Value.bool false)]) x.scan.toNat = [D.lit (Value.bool false)] := by simp [rowN, List.getD_eq_getElem?_getD, List.getElem?_replicate, hs2]
    apply Run.skip
    simp only [tN]
    apply Run.seq
    refine opsF oo114 fun K hK => ?_
    try simp
    repeat' first | (refine evL_c ?_; simp [hnp, hn, hk, hm, hx, hwp, hwn, htn, hip, hi0, hs0, hs1, hs2, hrw]) | (with_reducible first | apply aI | intro _ | assumption) | omega
    all_goals (apply Fin.go hK; clear hK K)
    simp only [tN]
    apply Run.seq
    refine opsF oo115 fun K hK => ?_
    try simp
    repeat' first | (refine evL_c ?_; simp [hnp, hn, hk, hm, hx, hwp, hwn, htn, hip, hi0, hs0, hs1, hs2, hrw]) | (with_reducible first | apply aI | intro _ | assumption) | omega
    all_goals (apply Fin.go hK; clear hK K)
    simp only [tN]
    apply Run.seq
    apply Run.seq
    refine opsF oo84 fun K hK => ?_
    try simp
    repeat' first | (refine evL_c ?_; simp [hnp, hn, hk, hm, hx, hwp, hwn, htn, hip, hi0, hs0, hs1, hs2, hrw]) | (with_reducible first | apply aI | intro _ | assumption) | omega
    all_goals (apply Fin.go hK; clear hK K)
    simp only [tN]
    apply Run.block
    refine Run.loopO [4, 8, 9, 66, 67, 68, 69, 70, 71, 72, 73, 74, 75, 76, 77, 78, 79, 80, 81, 82, 83] (fun (y : Nat × List Bool × List Bool) => [(8, .int y.1)]) (fun (y : Nat × List Bool × List Bool) => [(0, .vals ([.d (encTa r.tabs), .d (.sl false (r.pipes.map encPi))] ++ (encC c).map .d ++ [.rs 1 1 0 nB, .rs 2 1 0 nA])), (1, .data 1 (bs.map encBs)), (2, .data 1 (y.2.1.map encB)), (600, .vals ((encPi x).map .d)), (6200, .data 1 (y.2.2.map encB))]) (fun (y : Nat × List Bool × List Bool) => y.1 ≤ m ∧ y.2.1.length = nA ∧ y.2.2.length = n + k ∧ stepsRd c r.tabs bs i y.2.1 y.2.2 (x.steps.drop y.1) = (some b0, R2)) (fun (y : Nat × List Bool × List Bool) => m - y.1) (0, ak, bound0 c x) ⟨by omega, hnA, by simp [bound0, hn, hk], by simpa using hR⟩ (by simp [bound0, hn, hk, htn, hrw]) fun ⟨j, a1, b1⟩ ⟨hj, ha1, hb1, hz⟩ => ?_
    simp only at hj ha1 hb1 hz
    simp only [over, List.foldl, List.set]
    apply Run.seq
    apply Run.seq
    refine opsF oo116 fun K hK => ?_
    try simp
    repeat' first | (refine evL_c ?_; simp [hnp, hn, hk, hm, hx, hwp, hwn, htn, hip, hi0, hs0, hs1, hs2, hrw]) | (with_reducible first | apply aI | intro _ | assumption) | omega
    all_goals (apply Fin.go hK; clear hK K)
    simp only [tN]
    refine Run.cond rfl (fun h70 => ?_) (fun h70 => ?_)
    ·try simp at h70
     have hj1 : j < m := by omega
     have hj2 : (j : Int) < m := by omega
     obtain ⟨s, hs⟩ : ∃ z, rdI x.steps (j : Nat) = z := ⟨_, rfl⟩
     rw [drop_rd (by omega), hs] at hz
     have hk2 := rstep_ok c r nB nA bs a1 b1 s i (by omega) hE hnB ha1 hi1 hi2 hi3 (by omega) (fun d hd => by rw [hbs d hd]; omega) (hc s (by rw [← hs]; exact rdI_mem (by omega) (by omega)))
     have hln := stepRd_len c r.tabs bs a1 b1 i s
     obtain ⟨⟨q, b2, a2⟩, hst⟩ : ∃ z, stepRd c r.tabs bs a1 b1 i s = z := ⟨_, rfl⟩
     rw [hst] at hk2 hln
     simp only at hk2 hln
     obtain ⟨hln1, hln2⟩ := hln
     have hok := okM c r nB nA b1.length bs a1 b1 a2 b2 (encR s) i (y := q)
     rw [hb1] at hk2 hok
     unfold sLk at hk2 hok
     apply Run.skip
     simp only [tN]
     apply Run.seq
     apply Run.block
     apply Run.seq
     refine opsT oo117 fun K hK => ?_
     try simp
     repeat' first | (refine ecallW [0, 1, 2, 6200] (by exact hk2) (by simp) (by simp) (by exact hok) ?_) | (refine evL_c ?_; simp [hnp, hn, hk, hm, hx, hwp, hwn, htn, hip, hi0, hs0, hs1, hs2, hrw, hj1, hj2, hs, hb1]) | (with_reducible first | apply aI | intro _ | assumption) | omega
     all_goals (apply Fin.go hK; clear hK K)
     simp only [tN]
     apply Run.seq
     refine opsF oo118 fun K hK => ?_
     try simp
     repeat' first | (refine evL_c ?_; simp [hnp, hn, hk, hm, hx, hwp, hwn, htn, hip, hi0, hs0, hs1, hs2, hrw, hj1, hj2, hs, hb1]) | (with_reducible first | apply aI | intro _ | assumption) | omega
     all_goals (apply Fin.go hK; clear hK K)
     simp only [tN]
     refine Run.cond rfl (fun h83 => ?_) (fun h83 => ?_)
     ·rw [stepsRd, hst] at hz
      simp only at hz
      rw [if_neg (by simpa using h83)] at hz
      cases hz
     ·skip
      apply Run.skip
      simp only [Blok_normal]
      simp only [tN]
      refine opsF oo119 fun K hK => ?_
      try simp
      repeat' first | (refine evL_c ?_; simp [hnp, hn, hk, hm, hx, hwp, hwn, htn, hip, hi0, hs0, hs1, hs2, hrw, hj1, hj2, hs, hb1]) | (with_reducible first | apply aI | intro _ | assumption) | omega
      all_goals (apply Fin.go hK; clear hK K)
      first
       | refine ⟨j + 1, a2, b2, ⟨?_, ?_, ?_, ?_⟩, ?_, ?_⟩
       | refine ⟨(j + 1, a2, b2), ⟨?_, ?_, ?_, ?_⟩, ?_, ?_⟩
      ·show j + 1 ≤ m; omega
      ·show a2.length = nA; omega
      ·show b2.length = n + k; omega
      ·show stepsRd c r.tabs bs i a2 b2 (x.steps.drop (j + 1)) = (some b0, R2)
       rw [← hz, stepsRd, hst]
       simp only
       rw [if_pos (by simpa using h83)]
      ·show m - (j + 1) < m - j; omega
      ·simp (disch := omega) [wrap_id]
    ·try simp at h70
     have hj3 : j = m := by omega
     rw [List.drop_of_length_le (by omega), stepsRd] at hz
     obtain ⟨hfin, hfin2⟩ := Prod.mk.inj hz
     obtain rfl := Option.some.inj hfin
     subst hfin2
     refine Run.exit ?_
     simp (decide := true) only [Then_exit, Blok_exit, if_true, if_false]
     simp only [tN]
     apply Run.seq
     refine opsF [oM 7 84, oA 84 4] fun K hK => ?_
     try simp
     repeat' first | (refine evL_c ?_; simp [hnp, hn, hk, hm, hx, hwp, hwn, htn, hip, hi0, hs0, hs1, hs2, hrw]) | (with_reducible first | apply aI | intro _ | assumption) | omega
     all_goals (apply Fin.go hK; clear hK K)
     simp only [tN]
     apply Run.ret
     try simp only [Then_ret, Blok_ret]
     first
      | (simp [hn, hk, htn]; done)
end Go.Proofs.Ytimgbdkgjfbhkaa.Z
end
section
namespace Go.Proofs.Ytimgbdkgjfbhkaa.Z
open Go Go.Fw
theorem bnd_step {c : CoreT} {p : PlanT} {b : List Bool} (hb : bndT c p = some b) (op slot : Int) (e : List Int) (bk : Bool) (t : List TermT) (hw : wants op = some 1) : bndT c (stepPl op p slot e bk t) = opS c (stepPl op p slot e bk t) [b] := by
 rw [bndT_eq]
 simp only [stepPl_op, stepPl_kids, List.length_cons, List.length_nil, Nat.zero_add, hw, if_true]
 rw [bndL, hb]
 simp only [Option.bind_some, bndL, Option.map_some]
theorem over_edge {c : CoreT} {p : PlanT} {b : List Bool} {s : StepR} (hb : bndT c p = some b) (h : s.op = 1 ∨ s.op = 2) : bndT c (overP p s) = if edgeB c (edgeQ s) b then some (edgeL c (edgeQ s) b) else none := by
 rcases h with h | h
 ·have e : overP p s = stepPl 2 p 0 s.edges s.back [] := by unfold overP; rw [if_pos h]
  have k : kindS s.op = 2 := by unfold kindS; rw [if_pos h]
  have e1 : edgeB c (stepPl 2 p 0 s.edges s.back []) b = edgeB c (edgeQ s) b := by unfold edgeQ; rw [k]; rfl
  have e2 : edgeL c (stepPl 2 p 0 s.edges s.back []) b = edgeL c (edgeQ s) b := by unfold edgeQ; rw [k]; rfl
  rw [e, bnd_step hb 2 0 _ _ _ rfl]
  unfold opS
  rw [if_neg (by simp [wants]), if_pos (by simp [wants])]
  show (if edgeB c (stepPl 2 p 0 s.edges s.back []) b then some (edgeL c (stepPl 2 p 0 s.edges s.back []) b) else none) = _
  rw [e1, e2]
 ·have e : overP p s = stepPl 3 p 0 s.edges s.back [] := by unfold overP; rw [if_neg (by omega), if_pos h]
  have k : kindS s.op = 3 := by unfold kindS; rw [if_neg (by omega), if_pos h]
  have e1 : edgeB c (stepPl 3 p 0 s.edges s.back []) b = edgeB c (edgeQ s) b := by unfold edgeQ; rw [k]; rfl
  have e2 : edgeL c (stepPl 3 p 0 s.edges s.back []) b = edgeL c (edgeQ s) b := by unfold edgeQ; rw [k]; rfl
  rw [e, bnd_step hb 3 0 _ _ _ rfl]
  unfold opS
  rw [if_neg (by simp [wants]), if_pos (by simp [wants])]
  show (if edgeB c (stepPl 3 p 0 s.edges s.back []) b then some (edgeL c (stepPl 3 p 0 s.edges s.back []) b) else none) = _
  rw [e1, e2]
theorem over_meet {c : CoreT} {p : PlanT} {b : List Bool} {s : StepR} (hb : bndT c p = some b) (h : s.op = 3) : bndT c (overP p s) = if meetB c (meetQ s) b then some (meetR c (meetQ s) b) else none := by
 have e : overP p s = stepPl 5 p s.slot s.edges false [] := by unfold overP; rw [if_neg (by omega), if_neg (by omega), if_pos h]
 rw [e, bnd_step hb 5 _ _ _ _ rfl]
 unfold opS
 rw [if_neg (by simp [wants]), if_neg (by simp [wants]), if_neg (by simp [wants]), if_pos (by simp [wants])]
 rfl
theorem over_filter {c : CoreT} {p : PlanT} {b : List Bool} {s : StepR} (hb : bndT c p = some b) (h : s.op = 4) : bndT c (overP p s) = if s.terms.all (bindsS b) then some b else none := by
 have e : overP p s = stepPl 6 p 0 [] false s.terms := by unfold overP; rw [if_neg (by omega), if_neg (by omega), if_neg (by omega), if_pos h]
 rw [e, bnd_step hb 6 _ _ _ _ rfl]
 unfold opS
 rw [if_neg (by simp [wants]), if_neg (by simp [wants]), if_neg (by simp [wants]), if_neg (by simp [wants])]
 rfl
theorem over_none {c : CoreT} {p : PlanT} {s : StepR} (h1 : s.op ≠ 1) (h2 : s.op ≠ 2) (h3 : s.op ≠ 3) (h4 : s.op ≠ 4) : bndT c (overP p s) = none := by
 have e : overP p s = stepPl 0 p 0 [] false [] := by unfold overP; rw [if_neg h1, if_neg h2, if_neg h3, if_neg h4]
 rw [e, bndT_eq, if_neg (by simp [wants])]
theorem scan_bnd {c : CoreT} {x : PipeR} : bndT c (scanT x.scan) = if 0 ≤ x.scan ∧ x.scan < c.nodes.length then some (bound0 c x) else none := by
 rw [bndT_eq, if_pos (by rfl)]
 show (bndL c []).bind (opS c (scanT x.scan)) = _
 rw [bndL]
 simp only [Option.bind_some]
 unfold opS
 rw [if_pos (by rfl)]
 rfl
end Go.Proofs.Ytimgbdkgjfbhkaa.Z
end
section
namespace Go.Proofs.Ytimgbdkgjfbhkaa.Z
open Go Go.Fw
theorem rd_set {b : List Bool} {n q : Nat} {v : Bool} (hn : n < b.length) : rdI (b.set n v) (q : Int) = if n = q then v else rdI b (q : Int) := by
 by_cases e : n = q
 ·subst e; simp [rdI, List.getD_eq_getElem?_getD, hn]
 ·simp [rdI, List.getD_eq_getElem?_getD, List.getElem?_set_ne e, e]
theorem jn2_at {m : Int} {a b : List Bool} : ∀ (i q : Nat), i ≤ b.length → rdI (jn m a b i).2 (q : Int) = if q < i then (rdI b (q : Int) || rdI a (q : Int)) else rdI b (q : Int)
 | 0, q, _ => by simp [jn]
 | i + 1, q, h => by
   have ih := jn2_at (m := m) (a := a) (b := b) i
   have hl := jn_len m a b i
   rw [jn]
   simp only
   rw [rd_set (by rw [hl]; omega)]
   by_cases e : i = q
   ·subst e
    rw [if_pos rfl, if_pos (by omega), ih i (by omega), if_neg (by omega)]
   ·rw [if_neg e, ih q (by omega)]
    by_cases e2 : q < i
    ·rw [if_pos e2, if_pos (by omega)]
    ·rw [if_neg e2, if_neg (by omega)]
theorem orN_at {b d : List Bool} : ∀ (i q : Nat), i ≤ b.length → rdI (orN b d i) (q : Int) = if q < i then (rdI b (q : Int) || rdI d (q : Int)) else rdI b (q : Int)
 | 0, q, _ => by simp [orN]
 | i + 1, q, h => by
   have ih := orN_at (b := b) (d := d) i
   have hl := orN_len b d i
   rw [orN, rd_set (by rw [hl]; omega)]
   by_cases e : i = q
   ·subst e
    rw [if_pos rfl, if_pos (by omega), ih i (by omega), if_neg (by omega)]
   ·rw [if_neg e, ih q (by omega)]
    by_cases e2 : q < i
    ·rw [if_pos e2, if_pos (by omega)]
    ·rw [if_neg e2, if_neg (by omega)]
theorem jn_dup {c : CoreT} {b d : List Bool} : ∀ i : Nat, i ≤ d.length → (jn c.nodes.length b d i).1 = !dupN c b d i
 | 0, _ => rfl
 | i + 1, h => by
   have ih := jn_dup (c := c) (b := b) (d := d) i (by omega)
   have h2 := jn2_at (m := c.nodes.length) (a := b) (b := d) i i (by omega)
   rw [if_neg (by omega)] at h2
   rw [jn, dupN]
   simp only
   rw [ih, h2]
   have e : decide ((c.nodes.length : Int) ≤ (i : Nat)) = decide (c.nodes.length ≤ i) := decide_eq_decide.2 (by omega)
   rw [e, Bool.not_or]
   simp [Bool.and_assoc]
theorem ext_rd {a b : List Bool} (hl : a.length = b.length) (h : ∀ q : Nat, q < a.length → rdI a (q : Int) = rdI b (q : Int)) : a = b := by
 refine List.ext_getElem hl fun q h1 h2 => ?_
 have := h q h1
 simpa [rdI, List.getD_eq_getElem?_getD, h1, h2] using this
theorem jn_or {m : Int} {b d : List Bool} (hl : b.length = d.length) : (jn m b d b.length).2 = orN b d b.length := by
 refine ext_rd (by rw [jn_len, orN_len, hl]) fun q hq => ?_
 rw [jn_len] at hq
 rw [jn2_at _ _ (by omega), orN_at _ _ (by omega), if_pos (by omega), if_pos (by omega), Bool.or_comm]
theorem eqJ_comm (a b : List Int) : eqJ a b = eqJ b a := by
 rw [Bool.eq_iff_iff, eqJ_iff, eqJ_iff]; exact eq_comm
theorem join_bnd {c : CoreT} {p q : PlanT} {b d : List Bool} (hp : bndT c p = some b) (hq : bndT c q = some d) : bndT c (joinT p q) = if dupN c b d b.length then none else some (orN b d b.length) := by
 have hb := bndT_len c _ _ hp
 have hd := bndT_len c _ _ hq
 rw [bndT_eq, if_pos (by simp [wants])]
 simp only [joinT_kids]
 rw [bndL, hp]
 simp only [Option.bind_some]
 rw [bndL, hq]
 simp only [Option.bind_some, bndL, Option.map_some]
 unfold opS
 rw [if_neg (by simp), if_neg (by simp), if_pos (by simp)]
 show (if (jn c.nodes.length b d (c.nodes.length + c.edges.length)).1 then some (jn c.nodes.length b d (c.nodes.length + c.edges.length)).2 else none) = _
 rw [← hb, jn_dup _ (by omega), jn_or (by omega)]
 cases dupN c b d b.length <;> rfl
end Go.Proofs.Ytimgbdkgjfbhkaa.Z
end
section
namespace Go.Proofs.Ytimgbdkgjfbhkaa.Z
open Go Go.Fw
def AkI (nt : Nat) (ak : List Bool) (l : List Int) : Prop := ak.length = nt ∧ ∀ t : Nat, t < nt → rdI ak (t : Int) = decide ((t : Int) ∈ l)
theorem AkI.ask {nt : Nat} {ak : List Bool} {l : List Int} (h : AkI nt ak l) {t : Int} (h0 : 0 ≤ t) (h1 : t < nt) : AkI nt (ak.set t.toNat true) (l ++ [t]) := by
 refine ⟨by rw [List.length_set]; exact h.1, fun q hq => ?_⟩
 rw [rd_set (by rw [h.1]; omega), h.2 q hq]
 by_cases e : t.toNat = q
 ·have e2 : (q : Int) = t := by omega
  rw [if_pos e, e2]; simp
 ·have e2 : (q : Int) ≠ t := by omega
  rw [if_neg e]; simp [e2]
theorem step_agree {c : CoreT} {tabs : List (List Int)} {ps : List PlanT} {bs : List (List Bool)} {i : Int} {l : List Int} {p : PlanT} {s : StepR} {ak b : List Bool} (hb : bndT c p = some b) (hbs : bs.length = ps.length) (hB : ∀ t : Nat, t < ps.length → bndT c (rdI ps (t : Int)) = some (rdI bs (t : Int)))
  (hi : i ≤ ps.length) (hi2 : i ≤ tabs.length) (ha : AkI tabs.length ak l) :
  ((stepRd c tabs bs ak b i s).1 = true → ∃ q l', stepS c tabs ps i l p s = (some q, l') ∧ bndT c q = some (stepRd c tabs bs ak b i s).2.1 ∧ AkI tabs.length (stepRd c tabs bs ak b i s).2.2 l') ∧
  ((stepRd c tabs bs ak b i s).1 = false → ∀ q l', stepS c tabs ps i l p s = (some q, l') → bndT c q = none) := by
 by_cases h5 : s.op = 5
 ·have e : stepRd c tabs bs ak b i s = probeR c tabs bs ak b i s := by unfold stepRd; rw [if_neg (by omega), if_neg (by omega), if_pos h5]
  rw [e]
  unfold stepS probeR
  rw [if_pos h5]
  have hbad : badP ak s i = true ↔ ((s.table < 0 ∨ i ≤ s.table) ∨ s.table ∈ l) := by
   unfold badP
   by_cases g : s.table < 0 ∨ i ≤ s.table
   ·simp only [Bool.or_eq_true, decide_eq_true_eq]
    exact ⟨fun _ => .inl g, fun _ => .inl g⟩
   ·have h2 := ha.2 s.table.toNat (by omega)
    rw [show ((s.table.toNat : Nat) : Int) = s.table by omega] at h2
    rw [h2]
    simp only [Bool.or_eq_true, decide_eq_true_eq]
  by_cases g : badP ak s i = true
  ·rw [if_pos g, if_pos (hbad.1 g)]
   exact ⟨by simp, fun _ q l' h => by cases h⟩
  ·rw [if_neg g, if_neg (fun h => g (hbad.2 h))]
   have h0 : 0 ≤ s.table := Int.not_lt.1 fun h => g (hbad.2 (.inl (.inl h)))
   have h1 : s.table < i := Int.not_le.1 fun h => g (hbad.2 (.inl (.inr h)))
   have hd := hB s.table.toNat (by omega)
   rw [show ((s.table.toNat : Nat) : Int) = s.table by omega] at hd
   have hlen := bndT_len c _ _ hb
   have hk : keysT c p (rdI ps s.table) = keyN b (rdI bs s.table) b.length := by unfold keysT; rw [hb, hd, hlen]; rfl
   rw [hk, eqJ_comm (keyN b (rdI bs s.table) b.length)]
   have hj := join_bnd hb hd
   cases h6 : eqJ (rdI tabs s.table) (keyN b (rdI bs s.table) b.length) with
   | false =>
     simp only [Bool.not_false, Bool.or_true, if_true, Bool.false_eq_true, if_false]
     exact ⟨by simp, fun _ q l' h => by cases h⟩
   | true =>
     cases h7 : dupN c b (rdI bs s.table) b.length with
     | true =>
       rw [h7] at hj
       simp only [Bool.true_or, if_true]
       exact ⟨by simp, fun _ q l' h => by cases h; exact hj⟩
     | false =>
       rw [h7] at hj
       simp only [Bool.not_true, Bool.or_false, Bool.false_eq_true, if_false, if_true]
       exact ⟨fun _ => ⟨_, _, rfl, hj, ha.ask h0 (by omega)⟩, by simp⟩
 ·have e : stepS c tabs ps i l p s = (some (overP p s), l) := by unfold stepS; rw [if_neg h5]
  rw [e]
  have key : ∀ (g : Bool) (b2 : List Bool), stepRd c tabs bs ak b i s = (g, b2, ak) → bndT c (overP p s) = (if g then some b2 else none) → _ := fun g b2 h1 h2 => (show ((stepRd c tabs bs ak b i s).1 = true → ∃ q l', (some (overP p s), l) = (some q, l') ∧ bndT c q = some (stepRd c tabs bs ak b i s).2.1 ∧ AkI tabs.length (stepRd c tabs bs ak b i s).2.2 l') ∧ ((stepRd c tabs bs ak b i s).1 = false → ∀ q l', (some (overP p s), l) = (some q, l') → bndT c q = none) from by
   rw [h1]
   cases g with
   | true => exact ⟨fun _ => ⟨_, _, rfl, h2, ha⟩, by simp⟩
   | false => exact ⟨by simp, fun _ q l' h => by cases h; exact h2⟩)
  by_cases h12 : s.op = 1 ∨ s.op = 2
  ·exact key _ _ (by unfold stepRd; rw [if_pos h12]) (over_edge hb h12)
  by_cases h3 : s.op = 3
  ·exact key _ _ (by unfold stepRd; rw [if_neg h12, if_pos h3]) (over_meet hb h3)
  by_cases h4 : s.op = 4
  ·exact key _ _ (by unfold stepRd; rw [if_neg h12, if_neg h3, if_neg h5, if_pos h4]) (over_filter hb h4)
  ·exact key false b (by unfold stepRd; rw [if_neg h12, if_neg h3, if_neg h5, if_neg h4]) (over_none (fun e => h12 (.inl e)) (fun e => h12 (.inr e)) h3 h4)
end Go.Proofs.Ytimgbdkgjfbhkaa.Z
end
section
namespace Go.Proofs.Ytimgbdkgjfbhkaa.Z
open Go Go.Fw
theorem checkS_e (c : CoreT) (r : ProgR) : (checkS c r).2.2 = (planS c r).2.2 := by
 unfold checkS; split
 ·rename_i h; rw [h]
 ·rfl
theorem planS_right {c : CoreT} {r : ProgR} (h : (planS c r).2.2 = 0) : (transS c).op ≠ 0 ∧ r.pipes.length = r.tabs.length + 1 ∧ (pipesS c r.tabs [] [] r.pipes).2.2 = true := by
 unfold planS at h
 split at h
 ·cases h
 ·rename_i h1
  split at h
  ·cases h
  ·rename_i h2
   refine ⟨h1, by omega, ?_⟩
   rcases hR : pipesS c r.tabs [] [] r.pipes with ⟨R1, R2, R3⟩
   rw [hR] at h
   simp only at h ⊢
   split at h
   ·cases h
   ·rename_i h3
    cases R3 with
    | true => rfl
    | false => exact absurd (by simp) h3
theorem pipeS_sink {c : CoreT} {tabs : List (List Int)} {ps : List PlanT} {l l' : List Int} {x : PipeR} {q : PlanT} (h : pipeS c tabs ps l x = (some q, l')) : x.sink = sinkS tabs ps.length ∧ (bndT c (scanT x.scan)).isSome = true ∧ stepsS c tabs ps ps.length l (scanT x.scan) x.steps = (some q, l') := by
 unfold pipeS at h
 split at h
 ·cases h
 ·rename_i hb
  exact ⟨Decidable.not_not.1 fun e => hb (.inl e), Decidable.not_not.1 fun e => hb (.inr e), h⟩
theorem pipesS_cons {c : CoreT} {tabs : List (List Int)} {ps : List PlanT} {l l' : List Int} {x : PipeR} {q : PlanT} {r : List PipeR} (h : pipeS c tabs ps l x = (some q, l')) : pipesS c tabs ps l (x :: r) = pipesS c tabs (ps ++ [q]) l' r := by
 rw [pipesS, h]
theorem pipesS_right {c : CoreT} {tabs : List (List Int)} {ps : List PlanT} {l : List Int} {x : PipeR} {r : List PipeR} (h : (pipesS c tabs ps l (x :: r)).2.2 = true) : ∃ q l', pipeS c tabs ps l x = (some q, l') := by
 rw [pipesS] at h
 rcases he : pipeS c tabs ps l x with ⟨o, l'⟩
 rw [he] at h
 cases o with
 | none => cases h
 | some q => exact ⟨q, l', rfl⟩
theorem rdI_succ {α : Type} [Inhabited α] (x : α) (l : List α) (n : Nat) : rdI (x :: l) ((n + 1 : Nat) : Int) = rdI l (n : Nat) := by
 simp [rdI]
def setSink (l : List PipeR) (k : Nat) (s : Int) : List PipeR := l.set k ⟨(rdI l (k : Nat)).scan, (rdI l (k : Nat)).steps, s⟩
def Askd (N : Nat) (l : List Int) : Prop := l.Nodup ∧ ∀ t ∈ l, 0 ≤ t ∧ t < N
theorem stepS_rng {c : CoreT} {tabs : List (List Int)} {ps : List PlanT} {i : Int} {N : Nat} (hi : i ≤ N) {l : List Int} {p : PlanT} {s : StepR} (h : Askd N l) : Askd N (stepS c tabs ps i l p s).2 := by
 unfold stepS
 split
 ·split
  ·exact h
  ·rename_i hb
   refine ⟨List.nodup_append.2 ⟨h.1, by simp, fun a ha b hb2 => ?_⟩, fun t ht => ?_⟩
   ·rw [List.mem_singleton.1 hb2]
    rintro rfl
    exact hb (.inr ha)
   ·rcases List.mem_append.1 ht with ht | ht
    ·exact h.2 t ht
    ·rw [List.mem_singleton.1 ht]
     exact ⟨Int.not_lt.1 fun e => hb (.inl (.inl e)), by have := Int.not_le.1 fun e => hb (.inl (.inr e)); omega⟩
 ·exact h
theorem stepsS_rng {c : CoreT} {tabs : List (List Int)} {ps : List PlanT} {i : Int} {N : Nat} (hi : i ≤ N) : ∀ (r : List StepR) (l : List Int) (p : PlanT), Askd N l → Askd N (stepsS c tabs ps i l p r).2
 | [], l, p, h => by rw [stepsS]; exact h
 | s :: r, l, p, h => by
   have h1 := stepS_rng (c := c) (tabs := tabs) (ps := ps) (p := p) (s := s) hi h
   rw [stepsS]
   rcases he : stepS c tabs ps i l p s with ⟨o, l2⟩
   rw [he] at h1
   cases o with
   | none => exact h1
   | some q =>
     simp only
     split
     ·exact stepsS_rng hi r l2 q h1
     ·exact h1
theorem pipesS_rng {c : CoreT} {tabs : List (List Int)} {N : Nat} : ∀ (r : List PipeR) (ps : List PlanT) (l : List Int), ps.length + r.length ≤ N + 1 → Askd N l → Askd N (pipesS c tabs ps l r).2.1
 | [], ps, l, _, h => by rw [pipesS]; exact h
 | x :: r, ps, l, hl, h => by
   simp only [List.length_cons] at hl
   have h1 : Askd N (pipeS c tabs ps l x).2 := by
    unfold pipeS
    split
    ·exact h
    ·exact stepsS_rng (by omega) _ _ _ h
   rw [pipesS]
   rcases he : pipeS c tabs ps l x with ⟨o, l2⟩
   rw [he] at h1
   cases o with
   | none => exact h1
   | some q => exact pipesS_rng r (ps ++ [q]) l2 (by rw [List.length_append, List.length_singleton]; omega) h1
theorem asked_len : ∀ (N : Nat) (l : List Int), Askd N l → l.length ≤ N
 | 0, l, h => by
   cases l with
   | nil => simp
   | cons t r => have := h.2 t (by simp); omega
 | N + 1, l, h => by
   by_cases hm : (N : Int) ∈ l
   ·have h1 := asked_len N (l.erase (N : Int)) ⟨h.1.erase _, fun t ht => by
     have ht2 := List.mem_of_mem_erase ht
     have := h.2 t ht2
     have hne : t ≠ N := fun e => by subst e; exact List.Nodup.not_mem_erase h.1 ht
     omega⟩
    rw [List.length_erase_of_mem hm] at h1
    omega
   ·have h1 := asked_len N l ⟨h.1, fun t ht => by
     have := h.2 t ht
     have hne : t ≠ N := fun e => by subst e; exact hm ht
     omega⟩
    omega
theorem rdI_app {α : Type} [Inhabited α] {l m : List α} {t : Int} (h0 : 0 ≤ t) (h : t < (l.length : Int)) : rdI (l ++ m) t = rdI l t := by
 unfold rdI
 rw [List.getD_eq_getElem?_getD, List.getD_eq_getElem?_getD, List.getElem?_append_left (by omega)]
def noneR (r : ProgR) : ProgR := ⟨r.tabs ++ [[]], r.pipes.take r.tabs.length ++ [⟨0, [], r.tabs.length⟩, rdI r.pipes r.tabs.length]⟩
end Go.Proofs.Ytimgbdkgjfbhkaa.Z
end
section
namespace Go.Proofs.Ytimgbdkgjfbhkaa.Z
open Go Go.Fw
theorem steps_agree {c : CoreT} {tabs : List (List Int)} {ps : List PlanT} {bs : List (List Bool)} {i : Int} (hbs : bs.length = ps.length) (hB : ∀ t : Nat, t < ps.length → bndT c (rdI ps (t : Int)) = some (rdI bs (t : Int))) (hi : i ≤ ps.length) (hi2 : i ≤ tabs.length) : ∀ (r : List StepR) (l : List Int) (p : PlanT) (ak b : List Bool), bndT c p = some b → AkI tabs.length ak l →
  (∀ b2 ak2, stepsRd c tabs bs i ak b r = (some b2, ak2) → ∃ q l', stepsS c tabs ps i l p r = (some q, l') ∧ bndT c q = some b2 ∧ AkI tabs.length ak2 l') ∧ (∀ ak2, stepsRd c tabs bs i ak b r = (none, ak2) → ∃ l', stepsS c tabs ps i l p r = (none, l'))
 | [], l, p, ak, b, hb, ha => by
   refine ⟨fun b2 ak2 h => ?_, fun ak2 h => ?_⟩
   ·rw [stepsRd] at h; cases h
    exact ⟨p, l, by rw [stepsS], hb, ha⟩
   ·rw [stepsRd] at h; cases h
 | s :: r, l, p, ak, b, hb, ha => by
   obtain ⟨h1, h2⟩ := step_agree (s := s) hb hbs hB hi hi2 ha
   cases hg : (stepRd c tabs bs ak b i s).1 with
   | true =>
     obtain ⟨q, l', e1, e2, e3⟩ := h1 hg
     have ih := steps_agree hbs hB hi hi2 r l' q _ _ e2 e3
     rw [stepsRd, if_pos hg, stepsS, e1]
     simp only
     rw [if_pos (by rw [e2]; rfl)]
     exact ih
   | false =>
     rw [stepsRd, if_neg (by rw [hg]; simp)]
     refine ⟨fun b2 ak2 h => (by cases h), fun ak2 h => ?_⟩
     rw [stepsS]
     rcases he : stepS c tabs ps i l p s with ⟨o, l'⟩
     cases o with
     | none => exact ⟨l', rfl⟩
     | some q =>
       have := h2 hg q l' he
       simp only
       rw [if_neg (by rw [this]; simp)]
       exact ⟨l', rfl⟩
theorem pipe_agree {c : CoreT} {r : ProgR} {ps : List PlanT} {bs : List (List Bool)} (hbs : bs.length = ps.length) (hB : ∀ t : Nat, t < ps.length → bndT c (rdI ps (t : Int)) = some (rdI bs (t : Int))) (hn : r.pipes.length = r.tabs.length + 1) (hi2 : ps.length ≤ r.tabs.length) (l : List Int) (ak : List Bool) (ha : AkI r.tabs.length ak l) (x : PipeR) :
  (∀ b2 ak2, pipeRd c r bs ak ps.length x = (some b2, ak2) → ∃ q l', pipeS c r.tabs ps l x = (some q, l') ∧ bndT c q = some b2 ∧ AkI r.tabs.length ak2 l') ∧ (∀ ak2, pipeRd c r bs ak ps.length x = (none, ak2) → ∃ l', pipeS c r.tabs ps l x = (none, l')) := by
 have hs : sinkRd r.pipes.length ps.length = sinkS r.tabs ps.length := by
  unfold sinkRd sinkS
  by_cases e : ps.length = r.tabs.length
  ·rw [if_pos (by omega), if_pos e]
  ·rw [if_neg (by omega), if_neg e]
 have hsc := scan_bnd (c := c) (x := x)
 have hst := steps_agree (tabs := r.tabs) hbs hB (Int.le_refl _) (by omega : (ps.length : Int) ≤ r.tabs.length) x.steps l (scanT x.scan) ak (bound0 c x)
 unfold pipeRd pipeS
 by_cases g : badPi c r.pipes.length x ps.length = true
 ·rw [if_pos g]
  refine ⟨fun b2 ak2 h => (by cases h), fun ak2 h => ?_⟩
  rw [if_pos (by
   unfold badPi at g
   rw [hs] at g
   simp only [Bool.or_eq_true, Bool.not_eq_true', decide_eq_true_eq, decide_eq_false_iff_not] at g
   by_cases g1 : x.sink = sinkS r.tabs ps.length
   ·right
    rw [hsc, if_neg (by omega)]; simp
   ·exact .inl g1)]
  exact ⟨l, rfl⟩
 ·rw [if_neg g]
  have g2 : x.sink = sinkS r.tabs ps.length ∧ 0 ≤ x.scan ∧ x.scan < c.nodes.length := by
   unfold badPi at g
   rw [hs] at g
   simp only [Bool.or_eq_true, Bool.not_eq_true', decide_eq_true_eq, decide_eq_false_iff_not, not_or, Decidable.not_not] at g
   exact ⟨g.1.1, by omega, by omega⟩
  rw [if_pos ⟨g2.2.1, g2.2.2⟩] at hsc
  rw [if_neg (fun e => e.elim (fun e => e g2.1) (fun e => e (by rw [hsc]; rfl)))]
  exact hst hsc ha
end Go.Proofs.Ytimgbdkgjfbhkaa.Z
end
section
namespace Go.Proofs.Ytimgbdkgjfbhkaa.Z
open Go Go.Fw
def pipesRd (c : CoreT) (r : ProgR) : List (List Bool) → List Bool → List PipeR → List (List Bool) × List Bool × Bool
 | bs, ak, [] => (bs, ak, true)
 | bs, ak, x :: t => match pipeRd c r bs ak bs.length x with
   | (none, ak') => (bs, ak', false)
   | (some b, ak') => pipesRd c r (bs ++ [b]) ak' t
theorem rdI_last {α : Type} [Inhabited α] {l : List α} {x : α} {n : Nat} (h : l.length = n) : rdI (l ++ [x]) (n : Int) = x := by
 subst h; simp [rdI, List.getD_eq_getElem?_getD]
theorem pipes_agree {c : CoreT} {r : ProgR} (hn : r.pipes.length = r.tabs.length + 1) : ∀ (t : List PipeR) (ps : List PlanT) (bs : List (List Bool)) (l : List Int) (ak : List Bool), bs.length = ps.length → (∀ q : Nat, q < ps.length → bndT c (rdI ps (q : Int)) = some (rdI bs (q : Int))) → ps.length + t.length ≤ r.tabs.length + 1 → AkI r.tabs.length ak l →
  ∃ R1 R2, pipesS c r.tabs ps l t = (R1, R2, (pipesRd c r bs ak t).2.2) ∧ (pipesRd c r bs ak t).1.length = R1.length ∧ ((pipesRd c r bs ak t).2.2 = true → (∀ q : Nat, q < R1.length → bndT c (rdI R1 (q : Int)) = some (rdI (pipesRd c r bs ak t).1 (q : Int))) ∧ AkI r.tabs.length (pipesRd c r bs ak t).2.1 R2)
 | [], ps, bs, l, ak, hbs, hB, hl, ha => by
   rw [pipesRd, pipesS]
   exact ⟨ps, l, rfl, hbs, fun _ => ⟨hB, ha⟩⟩
 | x :: t, ps, bs, l, ak, hbs, hB, hl, ha => by
   simp only [List.length_cons] at hl
   obtain ⟨h1, h2⟩ := pipe_agree hbs hB hn (by omega) l ak ha x
   rw [pipesRd, pipesS, hbs]
   rcases he : pipeRd c r bs ak ps.length x with ⟨o, ak'⟩
   cases o with
   | none =>
     obtain ⟨l', h3⟩ := h2 ak' he
     rw [h3]
     exact ⟨ps, l', rfl, hbs, by simp⟩
   | some b =>
     obtain ⟨q, l', h3, h4, h5⟩ := h1 b ak' he
     rw [h3]
     simp only
     refine pipes_agree hn t (ps ++ [q]) (bs ++ [b]) l' ak' (by simp [hbs]) (fun k hk => ?_) (by rw [List.length_append, List.length_singleton]; omega) h5
     rw [List.length_append, List.length_singleton] at hk
     by_cases e : k < ps.length
     ·rw [rdI_app (by omega) (by omega), rdI_app (by omega) (by omega)]
      exact hB k e
     ·have e2 : k = ps.length := by omega
      subst e2
      rw [rdI_last rfl, rdI_last hbs]
      exact h4
theorem asked_all : ∀ (N : Nat) (l : List Int), Askd N l → ((∀ t : Nat, t < N → (t : Int) ∈ l) ↔ N ≤ l.length)
 | 0, l, h => by simp
 | N + 1, l, h => by
   by_cases hm : (N : Int) ∈ l
   ·have ha : Askd N (l.erase (N : Int)) := ⟨h.1.erase _, fun t ht => by
     have ht2 := List.mem_of_mem_erase ht
     have := h.2 t ht2
     have hne : t ≠ N := fun e => by subst e; exact List.Nodup.not_mem_erase h.1 ht
     omega⟩
    have ih := asked_all N _ ha
    have hlen := List.length_erase_of_mem hm
    have hpos : 0 < l.length := List.length_pos_of_mem hm
    constructor
    ·intro hall
     have := ih.1 fun t ht => (List.mem_erase_of_ne (by omega)).2 (hall t (by omega))
     omega
    ·intro hN t ht
     by_cases e : t = N
     ·rw [e]; exact hm
     ·exact List.mem_of_mem_erase (ih.2 (by omega) t (by omega))
   ·have h1 := asked_len N l ⟨h.1, fun t ht => by
     have := h.2 t ht
     have hne : t ≠ N := fun e => by subst e; exact hm ht
     omega⟩
    exact ⟨fun hall => absurd (hall N (by omega)) hm, fun h => by omega⟩
end Go.Proofs.Ytimgbdkgjfbhkaa.Z
end
section
namespace Go.Proofs.Ytimgbdkgjfbhkaa.Z
open Go Go.Fw
theorem edgesN_op (c : CoreT) : ∀ i, (edgesN c i).1.op ≠ 0
 | 0 => by rw [edgesN]; decide
 | i + 1 => by
   rw [edgesN, trEdge]
   show (if (rdI c.edges i).mode = 0 then (2 : Int) else 3) ≠ 0
   split <;> decide
theorem trJoin_op {s : TrS} {n : Int} (h : s.1.op ≠ 0) : (trJoin s n).1.op ≠ 0 := by
 unfold trJoin
 split
 ·exact h
 ·show (4 : Int) ≠ 0
  decide
theorem nodesN_op (c : CoreT) : ∀ i, (nodesN c i).1.op ≠ 0
 | 0 => by rw [nodesN]; exact edgesN_op c _
 | i + 1 => by rw [nodesN]; exact trJoin_op (nodesN_op c i)
theorem filtO_op {p : PlanT} {l : List TermT} (h : p.op ≠ 0) : (filtO p l).op ≠ 0 := by
 unfold filtO
 split
 ·exact h
 ·show (6 : Int) ≠ 0
  decide
theorem trans_op {c : CoreT} : (transS c).op = 0 ↔ patS c.nodes c.edges = false := by
 unfold transS
 cases h : patS c.nodes c.edges with
 | false => exact ⟨fun _ => rfl, fun _ => rfl⟩
 | true =>
   simp only [if_true]
   exact ⟨fun e => absurd e (filtO_op (filtO_op (nodesN_op c _))), fun e => by cases e⟩
def checkRd (c : CoreT) (r : ProgR) : D × Int × Int :=
 if patS c.nodes c.edges = false then (.lit (.slice none 0 0), 0, 1)
 else if r.pipes.length ≠ r.tabs.length + 1 then (.lit (.slice none 0 0), -1, 181)
 else if (pipesRd c r [] (List.replicate r.tabs.length false) r.pipes).2.2 then
  (if (pipesRd c r [] (List.replicate r.tabs.length false) r.pipes).2.1.all id then (.sl false ((rdI (pipesRd c r [] (List.replicate r.tabs.length false) r.pipes).1 (r.tabs.length : Nat)).map encB), 0, 0) else (.lit (.slice none 0 0), r.tabs.length, 181))
 else (.lit (.slice none 0 0), (pipesRd c r [] (List.replicate r.tabs.length false) r.pipes).1.length, 181)
theorem all_rd {a : List Bool} : a.all id = true ↔ ∀ t : Nat, t < a.length → rdI a (t : Int) = true := by
 rw [List.all_eq_true]
 constructor
 ·intro h t ht
  exact h _ (rdI_mem (by omega) (by omega))
 ·intro h x hx
  obtain ⟨i, hi, e⟩ := List.mem_iff_getElem.1 hx
  have := h i hi
  rw [← e]
  simpa [rdI, List.getD_eq_getElem?_getD, hi] using this
theorem check_agree (c : CoreT) (r : ProgR) : checkRd c r = checkS c r := by
 unfold checkRd checkS planS
 by_cases h1 : patS c.nodes c.edges = false
 ·rw [if_pos h1]
  simp only [if_pos (trans_op.2 h1)]
  rfl
 rw [if_neg h1]
 simp only [if_neg (fun e => h1 (trans_op.1 e))]
 by_cases h2 : r.pipes.length ≠ r.tabs.length + 1
 ·simp only [if_pos h2]; rfl
 simp only [if_neg h2]
 have hn : r.pipes.length = r.tabs.length + 1 := by omega
 have hP : patS c.nodes c.edges = true := by simpa using h1
 obtain ⟨R1, R2, e1, e2, e3⟩ := pipes_agree (c := c) hn r.pipes [] [] [] (List.replicate r.tabs.length false) rfl (fun q hq => by simp at hq) (by simp; omega) ⟨by simp, fun t ht => by simp [rdI, List.getD_eq_getElem?_getD, List.getElem?_replicate, ht]⟩
 have hask := pipesS_rng (c := c) (tabs := r.tabs) (N := r.tabs.length) r.pipes [] [] (by simp; omega) ⟨by simp, by simp⟩
 have hlen := pipesS_len (c := c) (tabs := r.tabs) r.pipes [] []
 rw [e1] at hask hlen ⊢
 simp only at hask hlen ⊢
 cases h3 : (pipesRd c r [] (List.replicate r.tabs.length false) r.pipes).2.2 with
 | false =>
   simp [e2]
 | true =>
   obtain ⟨e4, e5, e6⟩ := e3 h3
   rw [h3] at hlen
   simp only [if_true, List.length_nil, Nat.zero_add] at hlen
   have hall : (pipesRd c r [] (List.replicate r.tabs.length false) r.pipes).2.1.all id = true ↔ ¬ R2.length < r.tabs.length := by
    rw [all_rd, e5]
    constructor
    ·intro h
     have := (asked_all _ _ hask).1 fun t ht => by
      have := h t ht
      rw [e6 t ht] at this
      simpa using this
     omega
    ·intro h t ht
     rw [e6 t ht]
     simpa using (asked_all _ _ hask).2 (by omega) t ht
   by_cases h4 : R2.length < r.tabs.length
   ·have h5 : (pipesRd c r [] (List.replicate r.tabs.length false) r.pipes).2.1.all id = false := by
     cases h6 : (pipesRd c r [] (List.replicate r.tabs.length false) r.pipes).2.1.all id with
     | false => rfl
     | true => exact absurd h4 (hall.1 h6)
    simp [h4, h5]
   ·have h5 := hall.2 h4
    have hb := e4 r.tabs.length (by omega)
    have hbd : (boundD c (rdI R1 (r.tabs.length : Int))).1 = .sl false ((rdI (pipesRd c r [] (List.replicate r.tabs.length false) r.pipes).1 (r.tabs.length : Int)).map encB) := by
     unfold boundD; rw [if_pos hP, hb]
    simp [h4, h5, hbd]
end Go.Proofs.Ytimgbdkgjfbhkaa.Z
end
section
namespace Go.Proofs.Ytimgbdkgjfbhkaa.Z
open Go Go.Fw
theorem pat_bad {c : CoreT} {i : Nat} (hi : i < c.edges.length) (h : badE c.nodes.length (rdI c.edges i) = true) : patS c.nodes c.edges = false := by
 have : c.edges.any (badE c.nodes.length) = true := List.any_eq_true.2 ⟨_, rdI_mem (l := c.edges) (i := i) (by omega) (by omega), h⟩
 simp [patS, this]
theorem pat_good {c : CoreT} (h1 : 1 ≤ c.nodes.length) (h2 : c.nodes.length ≤ 8) (h3 : c.edges.length ≤ 8) (h : ∀ j, j < c.edges.length → badE c.nodes.length (rdI c.edges (j : Nat)) = false) : patS c.nodes c.edges = true := by
 have : c.edges.any (badE c.nodes.length) = false := by
  rw [List.any_eq_false]
  intro x hx
  obtain ⟨j, hj⟩ := List.getElem?_of_mem hx
  have := h j (List.getElem?_eq_some_iff.1 hj).1
  unfold rdI at this
  rw [Int.toNat_natCast, List.getD_eq_getElem?_getD, hj] at this
  simpa using this
 simp [patS, this, h1, h2, h3]
set_option maxHeartbeats 4000000 in
theorem rpattern_ok (c : CoreT) : Snd P 25 [.d (.ag (encC c))] (.bool (patS c.nodes c.edges)) [] := by
 obtain ⟨n, hn⟩ : ∃ n, c.nodes.length = n := ⟨_, rfl⟩
 obtain ⟨m, hm⟩ : ∃ m, c.edges.length = m := ⟨_, rfl⟩
 refine snd_of [] Try.func25 rfl (by kernel_rfl) Try.ntmps25 (by simp) ?_
 unfold Try.f25
 simp only [List.cons_append, List.nil_append, List.length_cons, List.length_nil, Nat.reduceAdd, Nat.reduceSub, List.replicate]
 apply Run.seq
 refine Run.opsL false [⟨.box 32 (.tmp 0), some 1, none⟩, ⟨.assign (.const (.bool false)), some 2, none⟩] mixed (by decide) rfl fun K hK => ?_
 try simp
 repeat' first | (simp only [evL_cons, evL_guard]; simp [hn, hm]) | (refine gsplit (fun hg => ?_) (fun hg => ?_) <;> (try simp at hg) <;> (try simp [hn, hm])) | (with_reducible assumption) | omega | refine And.intro ?_ ?_ | intro _
 all_goals (try simp only [evL_nil]; refine hK _ _ ?_; clear hK K)
 simp only [tN]
 apply Run.seq
 refine Run.opsL false [oF 32 1 0 6, oL 26 6 7, oN 26 7 8, oA 8 3] mixed (by decide) rfl fun K hK => ?_
 try simp
 repeat' first | (simp only [evL_cons, evL_guard]; simp [hn, hm]) | (refine gsplit (fun hg => ?_) (fun hg => ?_) <;> (try simp at hg) <;> (try simp [hn, hm])) | (with_reducible assumption) | omega | refine And.intro ?_ ?_ | intro _
 all_goals (try simp only [evL_nil]; refine hK _ _ ?_; clear hK K)
 simp only [tN]
 apply Run.seq
 refine Run.cut [9, 10, 11, 12, 13, 14, 15, 16, 17, 18, 19, 20] [(20, .bool (decide (n < 1 ∨ 8 < n ∨ 8 < m)))] [(200, .vals ((encC c).map .d))] ?_ ?_
 ·refine Run.opsL false [oM 3 9, oK .lss 3 9 1 3 10, oM 10 11, ⟨.move (.tmp 3), some 12, some (some 11, false)⟩, ⟨.binOp .gtr 3 (.tmp 12) (.const (.int .i64 8)) 3, some 13, some (some 11, false)⟩, ⟨.pick (.tmp 11) (.const (.bool true)) (.tmp 13), some 14, none⟩, oM 14 15, ⟨.fieldAddr 32 (.tmp 1) 1, some 16, some (some 15, false)⟩, ⟨.load 27 (.tmp 16), some 17, some (some 15, false)⟩, ⟨.call { callee := .builtin .len, args := #[.tmp 17], argTypes := #[27] }, some 18, some (some 15, false)⟩, ⟨.binOp .gtr 3 (.tmp 18) (.const (.int .i64 8)) 3, some 19, some (some 15, false)⟩, ⟨.pick (.tmp 15) (.const (.bool true)) (.tmp 19), some 20, none⟩] mixed (by decide) rfl fun K hK => ?_
  try simp
  repeat' first | (simp only [evL_cons, evL_guard]; simp [hn, hm]) | (refine gsplit (fun hg => ?_) (fun hg => ?_) <;> (try simp at hg) <;> (try simp [hn, hm])) | (with_reducible assumption) | omega | refine And.intro ?_ ?_ | intro _
  all_goals (try simp only [evL_nil]; refine hK _ _ ?_; clear hK K)
  all_goals
   simp [hn, hm]
   first | omega | (rw [Bool.eq_iff_iff]; simp; omega) | (intros; omega)
 ·simp only [over, List.foldl, List.set]
  refine Run.cond rfl (fun h20 => ?_) (fun h20 => ?_)
  ·replace h20 := of_decide_eq_true h20
   apply Run.seq
   refine Run.opsL false [⟨.assign (.const (.bool false)), some 2, none⟩] mixed (by decide) rfl fun K hK => ?_
   try simp
   repeat' first | (simp only [evL_cons, evL_guard]; simp [hn, hm]) | (refine gsplit (fun hg => ?_) (fun hg => ?_) <;> (try simp at hg) <;> (try simp [hn, hm])) | (with_reducible assumption) | omega | refine And.intro ?_ ?_ | intro _
   all_goals (try simp only [evL_nil]; refine hK _ _ ?_; clear hK K)
   simp only [tN]
   apply Run.ret
   try simp only [Then_ret, Blok_ret]
   first
    | (have e : patS c.nodes c.edges = false := by
        simp only [patS, Bool.and_eq_false_iff, decide_eq_false_iff_not]; omega
       simp [e]; done)
    | (have e : patS c.nodes c.edges = false := pat_bad (by omega) h52
       simp [e]; done)
    | (have e : patS c.nodes c.edges = true := pat_good (by omega) (by omega) he8 (fun j hj => hz j (by omega))
       simp [e])
  ·replace h20 := of_decide_eq_false h20
   have hn1 : 1 ≤ c.nodes.length := by omega
   have hn2 : c.nodes.length ≤ 8 := by omega
   have he8 : c.edges.length ≤ 8 := by omega
   clear h20
   apply Run.skip
   simp only [tN]
   apply Run.seq
   apply Run.seq
   refine Run.opsL false [⟨.assign (.const (.int .i64 0)), some 4, none⟩] mixed (by decide) rfl fun K hK => ?_
   try simp
   repeat' first | (simp only [evL_cons, evL_guard]; simp [hn, hm]) | (refine gsplit (fun hg => ?_) (fun hg => ?_) <;> (try simp at hg) <;> (try simp [hn, hm])) | (with_reducible assumption) | omega | refine And.intro ?_ ?_ | intro _
   all_goals (try simp only [evL_nil]; refine hK _ _ ?_; clear hK K)
   simp only [tN]
   apply Run.block
   refine Run.loopO [2, 4, 5, 21, 22, 23, 24, 25, 26, 27, 28, 29, 30, 31, 32, 33, 34, 35, 36, 37, 38, 39, 40, 41, 42, 43, 44, 45, 46, 47, 48, 49, 50, 51, 52] (fun (i : Nat) => [(4, .int i)]) (fun (i : Nat) => [(200, .vals ((encC c).map .d))]) (fun (i : Nat) => i ≤ c.edges.length ∧ ∀ j, j < i → badE c.nodes.length (rdI c.edges (j : Nat)) = false) (fun (i : Nat) => c.edges.length - i) 0 (by simp) (by simp) fun i ⟨hi, hz⟩ => ?_
   simp only [over, List.foldl, List.set]
   apply Run.seq
   apply Run.seq
   refine Run.opsL false [oM 4 21, oF 32 1 1 22, oL 27 22 23, oN 27 23 24, oB .lss 3 21 24 3 25] mixed (by decide) rfl fun K hK => ?_
   try simp
   repeat' first | (simp only [evL_cons, evL_guard]; simp [hn, hm]) | (refine gsplit (fun hg => ?_) (fun hg => ?_) <;> (try simp at hg) <;> (try simp [hn, hm])) | (with_reducible assumption) | omega | refine And.intro ?_ ?_ | intro _
   all_goals (try simp only [evL_nil]; refine hK _ _ ?_; clear hK K)
   simp only [tN]
   refine Run.cond rfl (fun h25 => ?_) (fun h25 => ?_)
   ·try simp at h25
    apply Run.skip
    simp only [tN]
    apply Run.seq
    apply Run.block
    apply Run.seq
    refine Run.opsL false [oF 32 1 1 28, oL 27 28 29, oM 4 30, oI 27 29 30 31, oL 98 31 32, ⟨.alloc 98, some 5, none⟩, oS 98 5 32] mixed (by decide) rfl fun K hK => ?_
    try simp
    repeat' first | (simp only [evL_cons, evL_guard]; simp [hn, hm, h25]) | (refine gsplit (fun hg => ?_) (fun hg => ?_) <;> (try simp at hg) <;> (try simp [hn, hm, h25])) | (with_reducible assumption) | omega | refine And.intro ?_ ?_ | intro _
    all_goals (try simp only [evL_nil]; refine hK _ _ ?_; clear hK K)
    simp only [tN]
    refine Run.cut [33, 34, 35, 36, 37, 38, 39, 40, 41, 42, 43, 44, 45, 46, 47, 48, 49, 50, 51, 52] [(52, .bool (badE c.nodes.length (rdI c.edges i)))] [(200, .vals ((encC c).map .d))] ?_ ?_
    ·refine Run.opsL false [oF 98 5 2 33, oL 3 33 34, oK .lss 3 34 0 3 35, oM 35 36, ⟨.fieldAddr 98 (.tmp 5) 2, some 37, some (some 36, false)⟩, ⟨.load 3 (.tmp 37), some 38, some (some 36, false)⟩, ⟨.move (.tmp 3), some 39, some (some 36, false)⟩, ⟨.binOp .geq 3 (.tmp 38) (.tmp 39) 3, some 40, some (some 36, false)⟩, ⟨.pick (.tmp 36) (.const (.bool true)) (.tmp 40), some 41, none⟩, oM 41 42, ⟨.fieldAddr 98 (.tmp 5) 3, some 43, some (some 42, false)⟩, ⟨.load 3 (.tmp 43), some 44, some (some 42, false)⟩, ⟨.binOp .lss 3 (.tmp 44) (.const (.int .i64 0)) 3, some 45, some (some 42, false)⟩, ⟨.pick (.tmp 42) (.const (.bool true)) (.tmp 45), some 46, none⟩, oM 46 47, ⟨.fieldAddr 98 (.tmp 5) 3, some 48, some (some 47, false)⟩, ⟨.load 3 (.tmp 48), some 49, some (some 47, false)⟩, ⟨.move (.tmp 3), some 50, some (some 47, false)⟩, ⟨.binOp .geq 3 (.tmp 49) (.tmp 50) 3, some 51, some (some 47, false)⟩, ⟨.pick (.tmp 47) (.const (.bool true)) (.tmp 51), some 52, none⟩] mixed (by decide) rfl fun K hK => ?_
     try simp
     repeat' first | (simp only [evL_cons, evL_guard]; simp [hn, hm, h25]) | (refine gsplit (fun hg => ?_) (fun hg => ?_) <;> (try simp at hg) <;> (try simp [hn, hm, h25])) | (with_reducible assumption) | omega | refine And.intro ?_ ?_ | intro _
     all_goals (try simp only [evL_nil]; refine hK _ _ ?_; clear hK K)
     all_goals
      first | (simp_all [badE]; done) | (simp_all [badE]; omega) | (simp_all [badE]; grind)
    ·simp only [over, List.foldl, List.set]
     refine Run.cond rfl (fun h52 => ?_) (fun h52 => ?_)
     ·try simp at h52
      apply Run.seq
      refine Run.opsL false [⟨.assign (.const (.bool false)), some 2, none⟩] mixed (by decide) rfl fun K hK => ?_
      try simp
      repeat' first | (simp only [evL_cons, evL_guard]; simp [hn, hm, h25, h52]) | (refine gsplit (fun hg => ?_) (fun hg => ?_) <;> (try simp at hg) <;> (try simp [hn, hm, h25, h52])) | (with_reducible assumption) | omega | refine And.intro ?_ ?_ | intro _
      all_goals (try simp only [evL_nil]; refine hK _ _ ?_; clear hK K)
      simp only [tN]
      apply Run.ret
      try simp only [Then_ret, Blok_ret]
      first
       | (have e : patS c.nodes c.edges = false := by
           simp only [patS, Bool.and_eq_false_iff, decide_eq_false_iff_not]; omega
          simp [e]; done)
       | (have e : patS c.nodes c.edges = false := pat_bad (by omega) h52
          simp [e]; done)
       | (have e : patS c.nodes c.edges = true := pat_good (by omega) (by omega) he8 (fun j hj => hz j (by omega))
          simp [e])
     ·try simp at h52
      apply Run.skip
      simp only [Blok_normal]
      simp only [tN]
      refine Run.opsL false [oM 4 26, oK .add 3 26 1 3 27, oA 27 4] mixed (by decide) rfl fun K hK => ?_
      try simp
      repeat' first | (simp only [evL_cons, evL_guard]; simp [hn, hm, h25, h52]) | (refine gsplit (fun hg => ?_) (fun hg => ?_) <;> (try simp at hg) <;> (try simp [hn, hm, h25, h52])) | (with_reducible assumption) | omega | refine And.intro ?_ ?_ | intro _
      all_goals (try simp only [evL_nil]; refine hK _ _ ?_; clear hK K)
      refine ⟨i + 1, ⟨by omega, fun j hj => ?_⟩, by omega, ?_⟩
      ·by_cases e : j = i
       ·subst e; exact h52
       ·exact hz j (by omega)
      ·simp (disch := omega) [wrap_id]
   ·try simp at h25
    refine Run.exit ?_
    simp (decide := true) only [Then_exit, Blok_exit, if_true, if_false]
    simp only [tN]
    apply Run.seq
    refine Run.opsL false [⟨.assign (.const (.bool true)), some 2, none⟩] mixed (by decide) rfl fun K hK => ?_
    try simp
    repeat' first | (simp only [evL_cons, evL_guard]; simp [hn, hm, h25]) | (refine gsplit (fun hg => ?_) (fun hg => ?_) <;> (try simp at hg) <;> (try simp [hn, hm, h25])) | (with_reducible assumption) | omega | refine And.intro ?_ ?_ | intro _
    all_goals (try simp only [evL_nil]; refine hK _ _ ?_; clear hK K)
    simp only [tN]
    apply Run.ret
    try simp only [Then_ret, Blok_ret]
    first
     | (have e : patS c.nodes c.edges = false := by
         simp only [patS, Bool.and_eq_false_iff, decide_eq_false_iff_not]; omega
        simp [e]; done)
     | (have e : patS c.nodes c.edges = false := pat_bad (by omega) h52
        simp [e]; done)
     | (have e : patS c.nodes c.edges = true := pat_good (by omega) (by omega) he8 (fun j hj => hz j (by omega))
        simp [e])
end Go.Proofs.Ytimgbdkgjfbhkaa.Z
end
section
namespace Go.Proofs.Ytimgbdkgjfbhkaa.Z
open Go Go.Fw
attribute [-simp] litV lost
attribute [local simp] litV_agg litV_int litV_str litV_bool litV_slice litV_tup
theorem stepsRd_len (c : CoreT) (tabs : List (List Int)) (bs : List (List Bool)) (i : Int) : ∀ (t : List StepR) (ak b : List Bool), (stepsRd c tabs bs i ak b t).2.length = ak.length ∧ ∀ b', (stepsRd c tabs bs i ak b t).1 = some b' → b'.length = b.length
 | [], ak, b => ⟨rfl, fun b' h => by cases h; rfl⟩
 | s :: t, ak, b => by
   rw [stepsRd]
   have h1 := stepRd_len c tabs bs ak b i s
   split
   ·have h2 := stepsRd_len c tabs bs i t (stepRd c tabs bs ak b i s).2.2 (stepRd c tabs bs ak b i s).2.1
    exact ⟨h2.1.trans h1.2, fun b' h => (h2.2 b' h).trans h1.1⟩
   ·exact ⟨h1.2, fun b' h => by cases h⟩
theorem pipeRd_len (c : CoreT) (r : ProgR) (bs : List (List Bool)) (ak : List Bool) (i : Int) (x : PipeR) : (pipeRd c r bs ak i x).2.length = ak.length ∧ ∀ b', (pipeRd c r bs ak i x).1 = some b' → b'.length = c.nodes.length + c.edges.length := by
 unfold pipeRd
 split
 ·exact ⟨rfl, fun b' h => by cases h⟩
 ·have := stepsRd_len c r.tabs bs i x.steps ak (bound0 c x)
  exact ⟨this.1, fun b' h => (this.2 b' h).trans (by simp [bound0])⟩
theorem fine_pipe {r : ProgR} (hw : wP r.pipes ≤ 1100000) {x : PipeR} (hx : x ∈ r.pipes) : (∀ s ∈ x.steps, ∀ t ∈ s.terms, cntT t ≤ 1100000) ∧ x.steps.length ≤ 1100000 := by
 have h1 := wP_mem hx
 have h2 := wL_len x.steps
 refine ⟨fun s hs t ht => ?_, by omega⟩
 have h3 := wL_mem hs
 have h4 := cntL_mem ht
 unfold wS at h3
 omega
theorem okC (c : CoreT) (r : ProgR) (nB nA : Nat) (bs : List (List Bool)) (ak ak' : List Bool) (i : Int) : okW [3200, 5300, 3000] [(0, .vals ([.d (encTa r.tabs), .d (.sl false (r.pipes.map encPi))] ++ (encC c).map .d ++ [.rs 1 1 0 nB, .rs 2 1 0 nA])), (1, .data 1 (bs.map encBs)), (2, .data 1 (ak.map encB))] [.pt 0 0 0 0, .int i] vnil [(0, .vals ([.d (encTa r.tabs), .d (.sl false (r.pipes.map encPi))] ++ (encC c).map .d ++ [.rs 1 1 0 nB, .rs 2 1 0 nA])), (1, .data 1 (bs.map encBs)), (2, .data 1 (ak'.map encB))] = true := by
 have e : List.range 3 = [0, 1, 2] := rfl
 simp [okW, badId, e, V.menL, V.men, getB]
theorem okC2 (c : CoreT) (r : ProgR) (nB nA N : Nat) (bs : List (List Bool)) (ak ak' b0 : List Bool) (i : Int) : okW [3200, 5300, 3000] [(0, .vals ([.d (encTa r.tabs), .d (.sl false (r.pipes.map encPi))] ++ (encC c).map .d ++ [.rs 1 1 0 nB, .rs 2 1 0 nA])), (1, .data 1 (bs.map encBs)), (2, .data 1 (ak.map encB))] [.pt 0 0 0 0, .int i] (.rs 3 1 0 N) [(0, .vals ([.d (encTa r.tabs), .d (.sl false (r.pipes.map encPi))] ++ (encC c).map .d ++ [.rs 1 1 0 nB, .rs 2 1 0 nA])), (1, .data 1 (bs.map encBs)), (2, .data 1 (ak'.map encB)), (3, .data 1 (b0.map encB))] = true := by
 have e : List.range 3 = [0, 1, 2] := rfl
 simp [okW, badId, e, V.menL, V.men, getB]
set_option maxHeartbeats 8000000 in
theorem rcheckP_ok (c : CoreT) (r : ProgR) (hP : patS c.nodes c.edges = false) : Snd P 11 [.d (.ag (encPr r)), .d (.ag (encC c))] (.tup [.d (.lit (.slice none 0 0)), .int 0, .int 1]) [] := by
 have hT := rpattern_ok c
 obtain ⟨n, hn⟩ : ∃ z, r.pipes.length = z := ⟨_, rfl⟩
 obtain ⟨nt, hnt⟩ : ∃ z, r.tabs.length = z := ⟨_, rfl⟩
 rw [hP] at hT
 refine snd_of [] Try.func11 rfl (by kernel_rfl) Try.ntmps11 (by simp) ?_
 unfold Try.f11
 simp only [List.cons_append, List.nil_append, List.length_cons, List.length_nil, Nat.reduceAdd, Nat.reduceSub, List.replicate]
 apply Run.seq
 refine opsF oo81 fun K hK => ?_
 try simp
 repeat' first | (refine evL_c ?_; simp [hn, hnt, encPr]) | (with_reducible first | apply aI | intro _ | assumption) | omega
 all_goals (apply Fin.go hK; clear hK K)
 simp only [tN]
 apply Run.seq
 refine opsF oo120 fun K hK => ?_
 try simp
 repeat' first | (refine ecallD (by exact hT) ?_) | (refine evL_c ?_; simp [hn, hnt, encPr]) | (with_reducible first | apply aI | intro _ | assumption) | omega
 all_goals (apply Fin.go hK; clear hK K)
 simp only [tN]
 apply Run.seq
 apply Run.seq
 refine opsF oo121 fun K hK => ?_
 try simp
 repeat' first | (refine evL_c ?_; simp [hn, hnt, encPr]) | (with_reducible first | apply aI | intro _ | assumption) | omega
 all_goals (apply Fin.go hK; clear hK K)
 simp only [tN]
 refine Run.cond rfl (fun h15 => ?_) (fun h15 => ?_)
 ·skip
  apply Run.seq
  refine opsF [⟨.assign (.const (.slice none 0 0)), some 4, none⟩, ⟨.assign (.const (.int .i64 0)), some 5, none⟩, ⟨.assign (.const (.int .i64 1)), some 6, none⟩] fun K hK => ?_
  try simp
  repeat' first | (refine evL_c ?_; simp [hn, hnt, encPr]) | (with_reducible first | apply aI | intro _ | assumption) | omega
  all_goals (apply Fin.go hK; clear hK K)
  simp only [tN]
  apply Run.ret
  try simp only [Then_ret, Blok_ret]
  simp
 ·simp at h15
set_option maxHeartbeats 8000000 in
theorem rcheckL_ok (c : CoreT) (r : ProgR) (ht : r.tabs.length ≤ 1100000) (hP : patS c.nodes c.edges = true) (hl : r.pipes.length ≠ r.tabs.length + 1) : Snd P 11 [.d (.ag (encPr r)), .d (.ag (encC c))] (.tup [.d (.lit (.slice none 0 0)), .int (-1), .int 181]) [] := by
 have hT := rpattern_ok c
 obtain ⟨n, hn⟩ : ∃ z, r.pipes.length = z := ⟨_, rfl⟩
 obtain ⟨nt, hnt⟩ : ∃ z, r.tabs.length = z := ⟨_, rfl⟩
 rw [hnt] at ht
 rw [hn, hnt] at hl
 rw [hP] at hT
 have hl2 : ¬ (n : Int) = nt + 1 := by omega
 have hwr : IntKind.i64.wrap ((nt : Int) + 1) = nt + 1 := wrap_id (by omega) (by omega)
 refine snd_of [] Try.func11 rfl (by kernel_rfl) Try.ntmps11 (by simp) ?_
 unfold Try.f11
 simp only [List.cons_append, List.nil_append, List.length_cons, List.length_nil, Nat.reduceAdd, Nat.reduceSub, List.replicate]
 apply Run.seq
 refine opsF oo81 fun K hK => ?_
 try simp
 repeat' first | (refine evL_c ?_; simp [hn, hnt, encPr, hl2, hwr]) | (with_reducible first | apply aI | intro _ | assumption) | omega
 all_goals (apply Fin.go hK; clear hK K)
 simp only [tN]
 apply Run.seq
 refine opsF oo120 fun K hK => ?_
 try simp
 repeat' first | (refine ecallD (by exact hT) ?_) | (refine evL_c ?_; simp [hn, hnt, encPr, hl2, hwr]) | (with_reducible first | apply aI | intro _ | assumption) | omega
 all_goals (apply Fin.go hK; clear hK K)
 simp only [tN]
 apply Run.seq
 apply Run.seq
 refine opsF oo121 fun K hK => ?_
 try simp
 repeat' first | (refine evL_c ?_; simp [hn, hnt, encPr, hl2, hwr]) | (with_reducible first | apply aI | intro _ | assumption) | omega
 all_goals (apply Fin.go hK; clear hK K)
 simp only [tN]
 refine Run.cond rfl (fun h15 => ?_) (fun h15 => ?_)
 ·simp at h15
 ·skip
  apply Run.skip
  simp only [tN]
  apply Run.seq
  apply Run.seq
  refine opsF oo122 fun K hK => ?_
  try simp
  repeat' first | (refine evL_c ?_; simp [hn, hnt, encPr, hl2, hwr]) | (with_reducible first | apply aI | intro _ | assumption) | omega
  all_goals (apply Fin.go hK; clear hK K)
  simp only [tN]
  refine Run.cond rfl (fun h23 => ?_) (fun h23 => ?_)
  ·skip
   apply Run.seq
   refine opsF [⟨.assign (.const (.slice none 0 0)), some 4, none⟩, ⟨.assign (.const (.int .i64 (-1))), some 5, none⟩, ⟨.assign (.const (.int .i64 181)), some 6, none⟩] fun K hK => ?_
   try simp
   repeat' first | (refine evL_c ?_; simp [hn, hnt, encPr, hl2, hwr]) | (with_reducible first | apply aI | intro _ | assumption) | omega
   all_goals (apply Fin.go hK; clear hK K)
   simp only [tN]
   apply Run.ret
   try simp only [Then_ret, Blok_ret]
   simp
  ·simp at h23
set_option maxHeartbeats 8000000 in
theorem rcheckB_ok (c : CoreT) (r : ProgR) (B : List (List Bool)) (A : List Bool) (hw : wP r.pipes ≤ 1100000) (ht : r.tabs.length ≤ 1100000) (hP : patS c.nodes c.edges = true) (hl : r.pipes.length = r.tabs.length + 1) (hB : pipesRd c r [] (List.replicate r.tabs.length false) r.pipes = (B, A, false)) : Snd P 11 [.d (.ag (encPr r)), .d (.ag (encC c))] (.tup [.d (.lit (.slice none 0 0)), .int B.length, .int 181]) [] := by
 have hT := rpattern_ok c
 obtain ⟨n, hn⟩ : ∃ z, r.pipes.length = z := ⟨_, rfl⟩
 obtain ⟨nt, hnt⟩ : ∃ z, r.tabs.length = z := ⟨_, rfl⟩
 rw [hnt] at ht
 rw [hn, hnt] at hl
 rw [hP] at hT
 rw [hnt] at hB
 have hl2 : (n : Int) = nt + 1 := by omega
 have hl3 : n = nt + 1 := by omega
 have hwr : IntKind.i64.wrap ((nt : Int) + 1) = nt + 1 := wrap_id (by omega) (by omega)
 have hwm : IntKind.i64.wrap ((n : Int) - 1) = nt := by rw [hl2]; simpa using wrap_id (n := (nt : Int)) (by omega) (by omega)
 have hwn : IntKind.i64.wrap (nt : Int) = nt := wrap_id (by omega) (by omega)
 have hb8 : (nt : Int) ≤ 140737488355328 := by omega
 have hb9 : (nt : Int) ≤ 9223372036854775807 := by omega
 obtain ⟨hr1, hr2, hr3⟩ := pat_rng hP
 obtain ⟨N, hN⟩ : ∃ z, c.nodes.length + c.edges.length = z := ⟨_, rfl⟩
 have hN1 : 0 < N := by omega
 try rw [hnt]
 refine snd_of [] Try.func11 rfl (by kernel_rfl) Try.ntmps11 (by simp) ?_
 unfold Try.f11
 simp only [List.cons_append, List.nil_append, List.length_cons, List.length_nil, Nat.reduceAdd, Nat.reduceSub, List.replicate]
 apply Run.seq
 refine opsF oo81 fun K hK => ?_
 try simp
 repeat' first | (refine evL_c ?_; simp [hn, hnt, encPr, hl2, hwr, hb8, hb9]) | (with_reducible first | apply aI | intro _ | assumption) | omega
 all_goals (apply Fin.go hK; clear hK K)
 simp only [tN]
 apply Run.seq
 refine opsF oo120 fun K hK => ?_
 try simp
 repeat' first | (refine ecallD (by exact hT) ?_) | (refine evL_c ?_; simp [hn, hnt, encPr, hl2, hwr, hb8, hb9]) | (with_reducible first | apply aI | intro _ | assumption) | omega
 all_goals (apply Fin.go hK; clear hK K)
 simp only [tN]
 apply Run.seq
 apply Run.seq
 refine opsF oo121 fun K hK => ?_
 try simp
 repeat' first | (refine evL_c ?_; simp [hn, hnt, encPr, hl2, hwr, hb8, hb9]) | (with_reducible first | apply aI | intro _ | assumption) | omega
 all_goals (apply Fin.go hK; clear hK K)
 simp only [tN]
 refine Run.cond rfl (fun h15 => ?_) (fun h15 => ?_)
 ·simp at h15
 ·skip
  apply Run.skip
  simp only [tN]
  apply Run.seq
  apply Run.seq
  refine opsF oo122 fun K hK => ?_
  try simp
  repeat' first | (refine evL_c ?_; simp [hn, hnt, encPr, hl2, hwr, hb8, hb9]) | (with_reducible first | apply aI | intro _ | assumption) | omega
  all_goals (apply Fin.go hK; clear hK K)
  simp only [tN]
  refine Run.cond rfl (fun h23 => ?_) (fun h23 => ?_)
  ·simp at h23
  ·skip
   apply Run.skip
   simp only [tN]
   apply Run.seq
   refine opsF oo123 fun K hK => ?_
   try simp
   repeat' first | (refine evL_c ?_; simp [hn, hnt, encPr, hl2, hwr, hb8, hb9]) | (with_reducible first | apply aI | intro _ | assumption) | omega
   all_goals (apply Fin.go hK; clear hK K)
   simp only [tN]
   apply Run.seq
   apply Run.seq
   refine opsF oo108 fun K hK => ?_
   try simp
   repeat' first | (refine evL_c ?_; simp [hn, hnt, encPr, hl2, hwr, hb8, hb9]) | (with_reducible first | apply aI | intro _ | assumption) | omega
   all_goals (apply Fin.go hK; clear hK K)
   simp only [tN]
   refine Run.vir 5300 1 (by omega) ?_
   simp
   refine Run.subB 3200 9 (.rs 5300 1 0 0) rfl rfl (nil_rs 5300 1) ?_
   simp
   apply Run.block
   refine Run.loopO [4, 5, 6, 9, 10, 32, 33, 34, 35, 36, 37, 38, 39, 40, 41, 42, 43, 44, 45, 46, 47, 48, 49, 50, 51, 52, 53, 54] (fun (y : Nat × List (List Bool) × List Bool) => [(9, .int y.1)]) (fun (y : Nat × List (List Bool) × List Bool) => [(300, .vals ((encPr r).map .d)), (400, .vals ((encC c).map .d)), (3000, .data 1 (y.2.2.map encB)), (3200, .vals ([.d (encTa r.tabs), .d (.sl false (r.pipes.map encPi))] ++ (encC c).map .d ++ [.rs 5300 1 0 y.1, .rs 3000 1 0 nt])), (5300, .data 1 (y.2.1.map encBs))]) (fun (y : Nat × List (List Bool) × List Bool) => y.1 ≤ n ∧ y.2.1.length = y.1 ∧ y.2.2.length = nt ∧ (∀ d ∈ y.2.1, d.length = N) ∧ pipesRd c r y.2.1 y.2.2 (r.pipes.drop y.1) = (B, A, false)) (fun (y : Nat × List (List Bool) × List Bool) => n - y.1) (0, [], List.replicate nt false) ⟨by omega, rfl, by simp, by simp, by simpa using hB⟩ (by simp [encB, litsD]) fun ⟨i, bs, ak⟩ ⟨hi, hbs, hak, hbd, hz⟩ => ?_
   simp only at hi hbs hak hbd hz
   simp only [over, List.foldl, List.set]
   apply Run.seq
   apply Run.seq
   refine opsF oo124 fun K hK => ?_
   try simp
   repeat' first | (refine evL_c ?_; simp [hn, hnt, encPr, hl2, hwr, hb8, hb9]) | (with_reducible first | apply aI | intro _ | assumption) | omega
   all_goals (apply Fin.go hK; clear hK K)
   simp only [tN]
   refine Run.cond rfl (fun h36 => ?_) (fun h36 => ?_)
   ·try simp at h36
    have hi1 : i < n := by omega
    have hi2 : (i : Int) < n := by omega
    have hxm := rdI_mem (l := r.pipes) (i := (i : Nat)) (by omega) (by omega)
    obtain ⟨hf1, hf2⟩ := fine_pipe hw hxm
    rw [drop_rd (by omega), pipesRd, hbs] at hz
    obtain ⟨x, hx⟩ : ∃ z, rdI r.pipes (i : Nat) = z := ⟨_, rfl⟩
    have hlen := pipeRd_len c r bs ak (i : Nat) x
    have hkN := fun R2 => pipeN_ok c r i nt bs ak (i : Nat) hP (by omega) (by omega) (by omega) hbs hak (by omega) (by omega) (by omega) (by rw [hN]; exact hbd) hf1 hf2 R2
    have hkY := fun R2 b0 => pipeY_ok c r i nt bs ak (i : Nat) hP (by omega) (by omega) (by omega) hbs hak (by omega) (by omega) (by omega) (by rw [hN]; exact hbd) hf1 hf2 R2 b0
    rw [hx] at hz hkN hkY
    obtain ⟨⟨o, ak2⟩, hpr⟩ : ∃ z, pipeRd c r bs ak (i : Nat) x = z := ⟨_, rfl⟩
    rw [hpr] at hz hlen hkN hkY
    obtain ⟨hlen1, hlen2⟩ := hlen
    simp only at hlen1 hlen2
    apply Run.skip
    simp only [tN]
    rcases o with _ | b0
    ·simp only at hz
     obtain ⟨hz1, hz2⟩ := Prod.mk.inj hz
     obtain ⟨hz3, hz4⟩ := Prod.mk.inj hz2
     subst hz1 hz3
     have hk2 := hkN ak2 rfl
     clear hkN hkY hf1 hlen2
     apply Run.seq
     apply Run.block
     apply Run.seq
     refine opsT oo125 fun K hK => ?_
     try simp
     repeat' first | (refine ecallW [3200, 5300, 3000] (by exact hk2) (by simp) (by simp) (okC _ _ _ _ _ _ _ _) ?_) | (refine evL_c ?_; simp [hn, hnt, encPr, hl2, hwr, hb8, hb9, hi1, hi2]) | (with_reducible first | apply aI | intro _ | assumption) | omega
     all_goals (apply Fin.go hK; clear hK K)
     simp only [tN]
     apply Run.seq
     apply Run.seq
     refine opsF oo126 fun K hK => ?_
     try simp
     repeat' first | (refine evL_c ?_; simp [hn, hnt, encPr, hl2, hwr, hb8, hb9, hi1, hi2]) | (with_reducible first | apply aI | intro _ | assumption) | omega
     all_goals (apply Fin.go hK; clear hK K)
     simp only [tN]
     refine Run.cond rfl (fun h43 => ?_) (fun h43 => ?_)
     ·skip
      apply Run.seq
      refine opsF [oM 9 44, ⟨.assign (.const (.slice none 0 0)), some 4, none⟩, oA 44 5, ⟨.assign (.const (.int .i64 181)), some 6, none⟩] fun K hK => ?_
      try simp
      repeat' first | (refine evL_c ?_; simp [hn, hnt, encPr, hl2, hwr, hb8, hb9, hi1, hi2]) | (with_reducible first | apply aI | intro _ | assumption) | omega
      all_goals (apply Fin.go hK; clear hK K)
      simp only [tN]
      apply Run.ret
      try simp only [Then_ret, Blok_ret]
      first
       | (simp; done)
       | (simp [hbs]; done)
       | (simp; omega)
     ·simp at h43
    ·simp only at hz
     have hb0 := hlen2 b0 rfl
     rw [hN] at hb0
     have hk2 := hkY ak2 b0 rfl
     rw [hN] at hk2
     clear hkN hkY hf1 hlen2
     apply Run.seq
     apply Run.block
     apply Run.seq
     refine opsT oo125 fun K hK => ?_
     try simp
     repeat' first | (refine ecallW [3200, 5300, 3000] (by exact hk2) (by simp) (by simp) (okC2 _ _ _ _ _ _ _ _ _ _) ?_) | (refine evL_c ?_; simp [hn, hnt, encPr, hl2, hwr, hb8, hb9, hi1, hi2, hN1]) | (with_reducible first | apply aI | intro _ | assumption) | omega
     all_goals (apply Fin.go hK; clear hK K)
     simp only [tN]
     apply Run.seq
     apply Run.seq
     refine opsF oo126 fun K hK => ?_
     try simp
     repeat' first | (refine evL_c ?_; simp [hn, hnt, encPr, hl2, hwr, hb8, hb9, hi1, hi2, hN1]) | (with_reducible first | apply aI | intro _ | assumption) | omega
     all_goals (apply Fin.go hK; clear hK K)
     simp only [tN]
     refine Run.cond rfl (fun h43 => ?_) (fun h43 => ?_)
     ·simp at h43
     ·skip
      apply Run.skip
      simp only [tN]
      refine Run.fra 4203 ?_
      simp [V.fra, V.fraL, fraS, frz, hb0, encB]
      refine opsF oo127 fun K hK => ?_
      try simp
      repeat' first | (refine evL_c ?_; simp [hn, hnt, encPr, hl2, hwr, hb8, hb9, hi1, hi2, hN1]) | (with_reducible first | apply aI | intro _ | assumption) | omega
      all_goals (apply Fin.go hK; clear hK K)
      simp only [Blok_normal]
      simp only [tN]
      refine opsF oo128 fun K hK => ?_
      try simp
      repeat' first | (refine evL_c ?_; simp [hn, hnt, encPr, hl2, hwr, hb8, hb9, hi1, hi2, hN1]) | (with_reducible first | apply aI | intro _ | assumption) | omega
      all_goals (apply Fin.go hK; clear hK K)
      first
       | refine ⟨i + 1, bs ++ [b0], ak2, ⟨?_, ?_, ?_, ?_, ?_⟩, ?_, ?_⟩
       | refine ⟨(i + 1, bs ++ [b0], ak2), ⟨?_, ?_, ?_, ?_, ?_⟩, ?_, ?_⟩
      ·show i + 1 ≤ n; omega
      ·show (bs ++ [b0]).length = i + 1; simp [hbs]
      ·show ak2.length = nt; omega
      ·intro d hd
       rcases List.mem_append.1 hd with hd | hd
       ·exact hbd d hd
       ·rw [List.mem_singleton.1 hd]; exact hb0
      ·exact hz
      ·show n - (i + 1) < n - i; omega
      ·have htk1 : List.take i (bs.map encBs) = bs.map encBs := List.take_of_length_le (by simp [hbs])
       have htk2 : List.take N (b0.map encB) = b0.map encB := List.take_of_length_le (by simp [hb0])
       simp (disch := omega) [hn, hnt, wrap_id, encBs, hbs, htk1, htk2]
   ·try simp at h36
    have hin : i = n := by omega
    subst hin
    rw [List.drop_of_length_le (by omega), pipesRd] at hz
    obtain ⟨rfl, hz2⟩ := Prod.mk.inj hz
    obtain ⟨rfl, hz3⟩ := Prod.mk.inj hz2
    clear hz hz2
    have hrB : rowN (bs.map encBs) nt = [.sl false ((rdI bs (nt : Nat)).map encB)] := rowN_map (by omega)
    have hrB2 : nt < bs.length := by omega
    cases hz3
set_option maxHeartbeats 8000000 in
theorem rcheckT_ok (c : CoreT) (r : ProgR) (B : List (List Bool)) (A : List Bool) (hw : wP r.pipes ≤ 1100000) (ht : r.tabs.length ≤ 1100000) (hP : patS c.nodes c.edges = true) (hl : r.pipes.length = r.tabs.length + 1) (hB : pipesRd c r [] (List.replicate r.tabs.length false) r.pipes = (B, A, true)) (hall0 : A.all id = true) : Snd P 11 [.d (.ag (encPr r)), .d (.ag (encC c))] (.tup [.d (.sl false ((rdI B (r.tabs.length : Nat)).map encB)), .int 0, .int 0]) [] := by
 have hT := rpattern_ok c
 obtain ⟨n, hn⟩ : ∃ z, r.pipes.length = z := ⟨_, rfl⟩
 obtain ⟨nt, hnt⟩ : ∃ z, r.tabs.length = z := ⟨_, rfl⟩
 rw [hnt] at ht
 rw [hn, hnt] at hl
 rw [hP] at hT
 rw [hnt] at hB
 have hl2 : (n : Int) = nt + 1 := by omega
 have hl3 : n = nt + 1 := by omega
 have hwr : IntKind.i64.wrap ((nt : Int) + 1) = nt + 1 := wrap_id (by omega) (by omega)
 have hwm : IntKind.i64.wrap ((n : Int) - 1) = nt := by rw [hl2]; simpa using wrap_id (n := (nt : Int)) (by omega) (by omega)
 have hwn : IntKind.i64.wrap (nt : Int) = nt := wrap_id (by omega) (by omega)
 have hb8 : (nt : Int) ≤ 140737488355328 := by omega
 have hb9 : (nt : Int) ≤ 9223372036854775807 := by omega
 obtain ⟨hr1, hr2, hr3⟩ := pat_rng hP
 obtain ⟨N, hN⟩ : ∃ z, c.nodes.length + c.edges.length = z := ⟨_, rfl⟩
 have hN1 : 0 < N := by omega
 try rw [hnt]
 refine snd_of [] Try.func11 rfl (by kernel_rfl) Try.ntmps11 (by simp) ?_
 unfold Try.f11
 simp only [List.cons_append, List.nil_append, List.length_cons, List.length_nil, Nat.reduceAdd, Nat.reduceSub, List.replicate]
 apply Run.seq
 refine opsF oo81 fun K hK => ?_
 try simp
 repeat' first | (refine evL_c ?_; simp [hn, hnt, encPr, hl2, hwr, hb8, hb9]) | (with_reducible first | apply aI | intro _ | assumption) | omega
 all_goals (apply Fin.go hK; clear hK K)
 simp only [tN]
 apply Run.seq
 refine opsF oo120 fun K hK => ?_
 try simp
 repeat' first | (refine ecallD (by exact hT) ?_) | (refine evL_c ?_; simp [hn, hnt, encPr, hl2, hwr, hb8, hb9]) | (with_reducible first | apply aI | intro _ | assumption) | omega
 all_goals (apply Fin.go hK; clear hK K)
 simp only [tN]
 apply Run.seq
 apply Run.seq
 refine opsF oo121 fun K hK => ?_
 try simp
 repeat' first | (refine evL_c ?_; simp [hn, hnt, encPr, hl2, hwr, hb8, hb9]) | (with_reducible first | apply aI | intro _ | assumption) | omega
 all_goals (apply Fin.go hK; clear hK K)
 simp only [tN]
 refine Run.cond rfl (fun h15 => ?_) (fun h15 => ?_)
 ·simp at h15
 ·skip
  apply Run.skip
  simp only [tN]
  apply Run.seq
  apply Run.seq
  refine opsF oo122 fun K hK => ?_
  try simp
  repeat' first | (refine evL_c ?_; simp [hn, hnt, encPr, hl2, hwr, hb8, hb9]) | (with_reducible first | apply aI | intro _ | assumption) | omega
  all_goals (apply Fin.go hK; clear hK K)
  simp only [tN]
  refine Run.cond rfl (fun h23 => ?_) (fun h23 => ?_)
  ·simp at h23
  ·skip
   apply Run.skip
   simp only [tN]
   apply Run.seq
   refine opsF oo123 fun K hK => ?_
   try simp
   repeat' first | (refine evL_c ?_; simp [hn, hnt, encPr, hl2, hwr, hb8, hb9]) | (with_reducible first | apply aI | intro _ | assumption) | omega
   all_goals (apply Fin.go hK; clear hK K)
   simp only [tN]
   apply Run.seq
   apply Run.seq
   refine opsF oo108 fun K hK => ?_
   try simp
   repeat' first | (refine evL_c ?_; simp [hn, hnt, encPr, hl2, hwr, hb8, hb9]) | (with_reducible first | apply aI | intro _ | assumption) | omega
   all_goals (apply Fin.go hK; clear hK K)
   simp only [tN]
   refine Run.vir 5300 1 (by omega) ?_
   simp
   refine Run.subB 3200 9 (.rs 5300 1 0 0) rfl rfl (nil_rs 5300 1) ?_
   simp
   apply Run.block
   refine Run.loopO [4, 5, 6, 9, 10, 32, 33, 34, 35, 36, 37, 38, 39, 40, 41, 42, 43, 44, 45, 46, 47, 48, 49, 50, 51, 52, 53, 54] (fun (y : Nat × List (List Bool) × List Bool) => [(9, .int y.1)]) (fun (y : Nat × List (List Bool) × List Bool) => [(300, .vals ((encPr r).map .d)), (400, .vals ((encC c).map .d)), (3000, .data 1 (y.2.2.map encB)), (3200, .vals ([.d (encTa r.tabs), .d (.sl false (r.pipes.map encPi))] ++ (encC c).map .d ++ [.rs 5300 1 0 y.1, .rs 3000 1 0 nt])), (5300, .data 1 (y.2.1.map encBs))]) (fun (y : Nat × List (List Bool) × List Bool) => y.1 ≤ n ∧ y.2.1.length = y.1 ∧ y.2.2.length = nt ∧ (∀ d ∈ y.2.1, d.length = N) ∧ pipesRd c r y.2.1 y.2.2 (r.pipes.drop y.1) = (B, A, true)) (fun (y : Nat × List (List Bool) × List Bool) => n - y.1) (0, [], List.replicate nt false) ⟨by omega, rfl, by simp, by simp, by simpa using hB⟩ (by simp [encB, litsD]) fun ⟨i, bs, ak⟩ ⟨hi, hbs, hak, hbd, hz⟩ => ?_
   simp only at hi hbs hak hbd hz
   simp only [over, List.foldl, List.set]
   apply Run.seq
   apply Run.seq
   refine opsF oo124 fun K hK => ?_
   try simp
   repeat' first | (refine evL_c ?_; simp [hn, hnt, encPr, hl2, hwr, hb8, hb9]) | (with_reducible first | apply aI | intro _ | assumption) | omega
   all_goals (apply Fin.go hK; clear hK K)
   simp only [tN]
   refine Run.cond rfl (fun h36 => ?_) (fun h36 => ?_)
   ·try simp at h36
    have hi1 : i < n := by omega
    have hi2 : (i : Int) < n := by omega
    have hxm := rdI_mem (l := r.pipes) (i := (i : Nat)) (by omega) (by omega)
    obtain ⟨hf1, hf2⟩ := fine_pipe hw hxm
    rw [drop_rd (by omega), pipesRd, hbs] at hz
    obtain ⟨x, hx⟩ : ∃ z, rdI r.pipes (i : Nat) = z := ⟨_, rfl⟩
    have hlen := pipeRd_len c r bs ak (i : Nat) x
    have hkN := fun R2 => pipeN_ok c r i nt bs ak (i : Nat) hP (by omega) (by omega) (by omega) hbs hak (by omega) (by omega) (by omega) (by rw [hN]; exact hbd) hf1 hf2 R2
    have hkY := fun R2 b0 => pipeY_ok c r i nt bs ak (i : Nat) hP (by omega) (by omega) (by omega) hbs hak (by omega) (by omega) (by omega) (by rw [hN]; exact hbd) hf1 hf2 R2 b0
    rw [hx] at hz hkN hkY
    obtain ⟨⟨o, ak2⟩, hpr⟩ : ∃ z, pipeRd c r bs ak (i : Nat) x = z := ⟨_, rfl⟩
    rw [hpr] at hz hlen hkN hkY
    obtain ⟨hlen1, hlen2⟩ := hlen
    simp only at hlen1 hlen2
    apply Run.skip
    simp only [tN]
    rcases o with _ | b0
    ·simp only at hz
     cases hz
     skip
    ·simp only at hz
     have hb0 := hlen2 b0 rfl
     rw [hN] at hb0
     have hk2 := hkY ak2 b0 rfl
     rw [hN] at hk2
     clear hkN hkY hf1 hlen2
     apply Run.seq
     apply Run.block
     apply Run.seq
     refine opsT oo125 fun K hK => ?_
     try simp
     repeat' first | (refine ecallW [3200, 5300, 3000] (by exact hk2) (by simp) (by simp) (okC2 _ _ _ _ _ _ _ _ _ _) ?_) | (refine evL_c ?_; simp [hn, hnt, encPr, hl2, hwr, hb8, hb9, hi1, hi2, hN1]) | (with_reducible first | apply aI | intro _ | assumption) | omega
     all_goals (apply Fin.go hK; clear hK K)
     simp only [tN]
     apply Run.seq
     apply Run.seq
     refine opsF oo126 fun K hK => ?_
     try simp
     repeat' first | (refine evL_c ?_; simp [hn, hnt, encPr, hl2, hwr, hb8, hb9, hi1, hi2, hN1]) | (with_reducible first | apply aI | intro _ | assumption) | omega
     all_goals (apply Fin.go hK; clear hK K)
     simp only [tN]
     refine Run.cond rfl (fun h43 => ?_) (fun h43 => ?_)
     ·simp at h43
     ·skip
      apply Run.skip
      simp only [tN]
      refine Run.fra 4203 ?_
      simp [V.fra, V.fraL, fraS, frz, hb0, encB]
      refine opsF oo127 fun K hK => ?_
      try simp
      repeat' first | (refine evL_c ?_; simp [hn, hnt, encPr, hl2, hwr, hb8, hb9, hi1, hi2, hN1]) | (with_reducible first | apply aI | intro _ | assumption) | omega
      all_goals (apply Fin.go hK; clear hK K)
      simp only [Blok_normal]
      simp only [tN]
      refine opsF oo128 fun K hK => ?_
      try simp
      repeat' first | (refine evL_c ?_; simp [hn, hnt, encPr, hl2, hwr, hb8, hb9, hi1, hi2, hN1]) | (with_reducible first | apply aI | intro _ | assumption) | omega
      all_goals (apply Fin.go hK; clear hK K)
      first
       | refine ⟨i + 1, bs ++ [b0], ak2, ⟨?_, ?_, ?_, ?_, ?_⟩, ?_, ?_⟩
       | refine ⟨(i + 1, bs ++ [b0], ak2), ⟨?_, ?_, ?_, ?_, ?_⟩, ?_, ?_⟩
      ·show i + 1 ≤ n; omega
      ·show (bs ++ [b0]).length = i + 1; simp [hbs]
      ·show ak2.length = nt; omega
      ·intro d hd
       rcases List.mem_append.1 hd with hd | hd
       ·exact hbd d hd
       ·rw [List.mem_singleton.1 hd]; exact hb0
      ·exact hz
      ·show n - (i + 1) < n - i; omega
      ·have htk1 : List.take i (bs.map encBs) = bs.map encBs := List.take_of_length_le (by simp [hbs])
       have htk2 : List.take N (b0.map encB) = b0.map encB := List.take_of_length_le (by simp [hb0])
       simp (disch := omega) [hn, hnt, wrap_id, encBs, hbs, htk1, htk2]
   ·try simp at h36
    have hin : i = n := by omega
    subst hin
    rw [List.drop_of_length_le (by omega), pipesRd] at hz
    obtain ⟨rfl, hz2⟩ := Prod.mk.inj hz
    obtain ⟨rfl, hz3⟩ := Prod.mk.inj hz2
    clear hz hz2
    have hrB : rowN (bs.map encBs) nt = [.sl false ((rdI bs (nt : Nat)).map encB)] := rowN_map (by omega)
    have hrB2 : nt < bs.length := by omega
    refine Run.exit ?_
    simp (decide := true) only [Then_exit, Blok_exit, if_true, if_false]
    simp only [tN]
    apply Run.seq
    apply Run.seq
    refine opsF oo99 fun K hK => ?_
    try simp
    repeat' first | (refine evL_c ?_; simp [hn, hnt, encPr, hl2, hwr, hb8, hb9, hrB2]) | (with_reducible first | apply aI | intro _ | assumption) | omega
    all_goals (apply Fin.go hK; clear hK K)
    simp only [tN]
    apply Run.block
    refine Run.loopO [4, 5, 6, 11, 55, 56, 57, 58, 59, 60, 61, 62, 63, 64, 65, 66, 67, 68, 69, 70, 71, 72, 73, 74, 75] (fun (j : Nat) => [(11, .int j)]) (fun (j : Nat) => [(300, .vals ((encPr r).map .d)), (400, .vals ((encC c).map .d)), (3000, .data 1 (ak.map encB)), (3200, .vals ([.d (encTa r.tabs), .d (.sl false (r.pipes.map encPi))] ++ (encC c).map .d ++ [.rs 5300 1 0 i, .rs 3000 1 0 nt])), (5300, .data 1 (bs.map encBs))]) (fun (j : Nat) => j ≤ nt ∧ ∀ q : Nat, q < j → rdI ak (q : Int) = true) (fun (j : Nat) => nt - j) 0 ⟨by omega, by simp⟩ (by simp) fun j ⟨hj, hall⟩ => ?_
    simp only [over, List.foldl, List.set]
    apply Run.seq
    apply Run.seq
    refine opsF oo129 fun K hK => ?_
    try simp
    repeat' first | (refine evL_c ?_; simp [hn, hnt, encPr, hl2, hwr, hb8, hb9, hrB2]) | (with_reducible first | apply aI | intro _ | assumption) | omega
    all_goals (apply Fin.go hK; clear hK K)
    simp only [tN]
    refine Run.cond rfl (fun h61 => ?_) (fun h61 => ?_)
    ·try simp at h61
     have hj1 : j < nt := by omega
     have hj2 : (j : Int) < nt := by omega
     have hrow : rowN (ak.map encB) j = [.bool (rdI ak (j : Nat))] := rowN_map (by omega)
     obtain ⟨q, hq⟩ : ∃ z, rdI ak (j : Nat) = z := ⟨_, rfl⟩
     rw [hq] at hrow
     apply Run.skip
     simp only [tN]
     apply Run.seq
     apply Run.block
     apply Run.seq
     refine opsF oo130 fun K hK => ?_
     try simp
     repeat' first | (refine evL_c ?_; simp [hn, hnt, encPr, hl2, hwr, hb8, hb9, hrB2, hj1, hj2, hrow, hak]) | (with_reducible first | apply aI | intro _ | assumption) | omega
     all_goals (apply Fin.go hK; clear hK K)
     simp only [tN]
     refine Run.cond rfl (fun h71 => ?_) (fun h71 => ?_)
     ·try simp at h71
      have := all_rd.1 hall0 j (by omega)
      rw [hq, h71] at this
      cases this
     ·simp at h71
      rw [← hq] at h71
      apply Run.skip
      simp only [Blok_normal]
      simp only [tN]
      refine opsF oo131 fun K hK => ?_
      try simp
      repeat' first | (refine evL_c ?_; simp [hn, hnt, encPr, hl2, hwr, hb8, hb9, hrB2, hj1, hj2, hrow, hak]) | (with_reducible first | apply aI | intro _ | assumption) | omega
      all_goals (apply Fin.go hK; clear hK K)
      refine ⟨j + 1, ⟨by omega, fun q hq => ?_⟩, by omega, ?_⟩
      ·by_cases e : q = j
       ·rw [e]; exact h71
       ·exact hall q (by omega)
      ·simp (disch := omega) [hn, hnt, wrap_id]
    ·try simp at h61
     refine Run.exit ?_
     simp (decide := true) only [Then_exit, Blok_exit, if_true, if_false]
     simp only [tN]
     apply Run.seq
     refine opsF [oM 8 76, oV 76 77, oF 79 77 2 78, oL 77 78 79, oF 25 2 1 80, oL 23 80 81, oN 23 81 82, oK .sub 3 82 1 3 83, oI 77 79 83 84, oL 34 84 85, oA 85 4, ⟨.assign (.const (.int .i64 0)), some 5, none⟩, ⟨.assign (.const (.int .i64 0)), some 6, none⟩] fun K hK => ?_
     try simp
     repeat' first | (refine evL_c ?_; simp [hn, hnt, encPr, hl2, hwr, hb8, hb9, hrB2, hrB, hwm, hwn, hrB2]) | (with_reducible first | apply aI | intro _ | assumption) | omega
     all_goals (apply Fin.go hK; clear hK K)
     simp only [tN]
     apply Run.ret
     try simp only [Then_ret, Blok_ret]
     first
      | (simp; done)
      | (simp [hbs]; done)
      | (simp; omega)
set_option maxHeartbeats 8000000 in
theorem rcheckF_ok (c : CoreT) (r : ProgR) (B : List (List Bool)) (A : List Bool) (hw : wP r.pipes ≤ 1100000) (ht : r.tabs.length ≤ 1100000) (hP : patS c.nodes c.edges = true) (hl : r.pipes.length = r.tabs.length + 1) (hB : pipesRd c r [] (List.replicate r.tabs.length false) r.pipes = (B, A, true)) (hall0 : A.all id = false) : Snd P 11 [.d (.ag (encPr r)), .d (.ag (encC c))] (.tup [.d (.lit (.slice none 0 0)), .int r.tabs.length, .int 181]) [] := by
 have hT := rpattern_ok c
 obtain ⟨n, hn⟩ : ∃ z, r.pipes.length = z := ⟨_, rfl⟩
 obtain ⟨nt, hnt⟩ : ∃ z, r.tabs.length = z := ⟨_, rfl⟩
 rw [hnt] at ht
 rw [hn, hnt] at hl
 rw [hP] at hT
 rw [hnt] at hB
 have hl2 : (n : Int) = nt + 1 := by omega
 have hl3 : n = nt + 1 := by omega
 have hwr : IntKind.i64.wrap ((nt : Int) + 1) = nt + 1 := wrap_id (by omega) (by omega)
 have hwm : IntKind.i64.wrap ((n : Int) - 1) = nt := by rw [hl2]; simpa using wrap_id (n := (nt : Int)) (by omega) (by omega)
 have hwn : IntKind.i64.wrap (nt : Int) = nt := wrap_id (by omega) (by omega)
 have hb8 : (nt : Int) ≤ 140737488355328 := by omega
 have hb9 : (nt : Int) ≤ 9223372036854775807 := by omega
 obtain ⟨hr1, hr2, hr3⟩ := pat_rng hP
 obtain ⟨N, hN⟩ : ∃ z, c.nodes.length + c.edges.length = z := ⟨_, rfl⟩
 have hN1 : 0 < N := by omega
 try rw [hnt]
 refine snd_of [] Try.func11 rfl (by kernel_rfl) Try.ntmps11 (by simp) ?_
 unfold Try.f11
 simp only [List.cons_append, List.nil_append, List.length_cons, List.length_nil, Nat.reduceAdd, Nat.reduceSub, List.replicate]
 apply Run.seq
 refine opsF oo81 fun K hK => ?_
 try simp
 repeat' first | (refine evL_c ?_; simp [hn, hnt, encPr, hl2, hwr, hb8, hb9]) | (with_reducible first | apply aI | intro _ | assumption) | omega
 all_goals (apply Fin.go hK; clear hK K)
 simp only [tN]
 apply Run.seq
 refine opsF oo120 fun K hK => ?_
 try simp
 repeat' first | (refine ecallD (by exact hT) ?_) | (refine evL_c ?_; simp [hn, hnt, encPr, hl2, hwr, hb8, hb9]) | (with_reducible first | apply aI | intro _ | assumption) | omega
 all_goals (apply Fin.go hK; clear hK K)
 simp only [tN]
 apply Run.seq
 apply Run.seq
 refine opsF oo121 fun K hK => ?_
 try simp
 repeat' first | (refine evL_c ?_; simp [hn, hnt, encPr, hl2, hwr, hb8, hb9]) | (with_reducible first | apply aI | intro _ | assumption) | omega
 all_goals (apply Fin.go hK; clear hK K)
 simp only [tN]
 refine Run.cond rfl (fun h15 => ?_) (fun h15 => ?_)
 ·simp at h15
 ·skip
  apply Run.skip
  simp only [tN]
  apply Run.seq
  apply Run.seq
  refine opsF oo122 fun K hK => ?_
  try simp
  repeat' first | (refine evL_c ?_; simp [hn, hnt, encPr, hl2, hwr, hb8, hb9]) | (with_reducible first | apply aI | intro _ | assumption) | omega
  all_goals (apply Fin.go hK; clear hK K)
  simp only [tN]
  refine Run.cond rfl (fun h23 => ?_) (fun h23 => ?_)
  ·simp at h23
  ·skip
   apply Run.skip
   simp only [tN]
   apply Run.seq
   refine opsF oo123 fun K hK => ?_
   try simp
   repeat' first | (refine evL_c ?_; simp [hn, hnt, encPr, hl2, hwr, hb8, hb9]) | (with_reducible first | apply aI | intro _ | assumption) | omega
   all_goals (apply Fin.go hK; clear hK K)
   simp only [tN]
   apply Run.seq
   apply Run.seq
   refine opsF oo108 fun K hK => ?_
   try simp
   repeat' first | (refine evL_c ?_; simp [hn, hnt, encPr, hl2, hwr, hb8, hb9]) | (with_reducible first | apply aI | intro _ | assumption) | omega
   all_goals (apply Fin.go hK; clear hK K)
   simp only [tN]
   refine Run.vir 5300 1 (by omega) ?_
   simp
   refine Run.subB 3200 9 (.rs 5300 1 0 0) rfl rfl (nil_rs 5300 1) ?_
   simp
   apply Run.block
   refine Run.loopO [4, 5, 6, 9, 10, 32, 33, 34, 35, 36, 37, 38, 39, 40, 41, 42, 43, 44, 45, 46, 47, 48, 49, 50, 51, 52, 53, 54] (fun (y : Nat × List (List Bool) × List Bool) => [(9, .int y.1)]) (fun (y : Nat × List (List Bool) × List Bool) => [(300, .vals ((encPr r).map .d)), (400, .vals ((encC c).map .d)), (3000, .data 1 (y.2.2.map encB)), (3200, .vals ([.d (encTa r.tabs), .d (.sl false (r.pipes.map encPi))] ++ (encC c).map .d ++ [.rs 5300 1 0 y.1, .rs 3000 1 0 nt])), (5300, .data 1 (y.2.1.map encBs))]) (fun (y : Nat × List (List Bool) × List Bool) => y.1 ≤ n ∧ y.2.1.length = y.1 ∧ y.2.2.length = nt ∧ (∀ d ∈ y.2.1, d.length = N) ∧ pipesRd c r y.2.1 y.2.2 (r.pipes.drop y.1) = (B, A, true)) (fun (y : Nat × List (List Bool) × List Bool) => n - y.1) (0, [], List.replicate nt false) ⟨by omega, rfl, by simp, by simp, by simpa using hB⟩ (by simp [encB, litsD]) fun ⟨i, bs, ak⟩ ⟨hi, hbs, hak, hbd, hz⟩ => ?_
   simp only at hi hbs hak hbd hz
   simp only [over, List.foldl, List.set]
   apply Run.seq
   apply Run.seq
   refine opsF oo124 fun K hK => ?_
   try simp
   repeat' first | (refine evL_c ?_; simp [hn, hnt, encPr, hl2, hwr, hb8, hb9]) | (with_reducible first | apply aI | intro _ | assumption) | omega
   all_goals (apply Fin.go hK; clear hK K)
   simp only [tN]
   refine Run.cond rfl (fun h36 => ?_) (fun h36 => ?_)
   ·try simp at h36
    have hi1 : i < n := by omega
    have hi2 : (i : Int) < n := by omega
    have hxm := rdI_mem (l := r.pipes) (i := (i : Nat)) (by omega) (by omega)
    obtain ⟨hf1, hf2⟩ := fine_pipe hw hxm
    rw [drop_rd (by omega), pipesRd, hbs] at hz
    obtain ⟨x, hx⟩ : ∃ z, rdI r.pipes (i : Nat) = z := ⟨_, rfl⟩
    have hlen := pipeRd_len c r bs ak (i : Nat) x
    have hkN := fun R2 => pipeN_ok c r i nt bs ak (i : Nat) hP (by omega) (by omega) (by omega) hbs hak (by omega) (by omega) (by omega) (by rw [hN]; exact hbd) hf1 hf2 R2
    have hkY := fun R2 b0 => pipeY_ok c r i nt bs ak (i : Nat) hP (by omega) (by omega) (by omega) hbs hak (by omega) (by omega) (by omega) (by rw [hN]; exact hbd) hf1 hf2 R2 b0
    rw [hx] at hz hkN hkY
    obtain ⟨⟨o, ak2⟩, hpr⟩ : ∃ z, pipeRd c r bs ak (i : Nat) x = z := ⟨_, rfl⟩
    rw [hpr] at hz hlen hkN hkY
    obtain ⟨hlen1, hlen2⟩ := hlen
    simp only at hlen1 hlen2
    apply Run.skip
    simp only [tN]
    rcases o with _ | b0
    ·simp only at hz
     cases hz
     skip
    ·simp only at hz
     have hb0 := hlen2 b0 rfl
     rw [hN] at hb0
     have hk2 := hkY ak2 b0 rfl
     rw [hN] at hk2
     clear hkN hkY hf1 hlen2
     apply Run.seq
     apply Run.block
     apply Run.seq
     refine opsT oo125 fun K hK => ?_
     try simp
     repeat' first | (refine ecallW [3200, 5300, 3000] (by exact hk2) (by simp) (by simp) (okC2 _ _ _ _ _ _ _ _ _ _) ?_) | (refine evL_c ?_; simp [hn, hnt, encPr, hl2, hwr, hb8, hb9, hi1, hi2, hN1]) | (with_reducible first | apply aI | intro _ | assumption) | omega
     all_goals (apply Fin.go hK; clear hK K)
     simp only [tN]
     apply Run.seq
     apply Run.seq
     refine opsF oo126 fun K hK => ?_
     try simp
     repeat' first | (refine evL_c ?_; simp [hn, hnt, encPr, hl2, hwr, hb8, hb9, hi1, hi2, hN1]) | (with_reducible first | apply aI | intro _ | assumption) | omega
     all_goals (apply Fin.go hK; clear hK K)
     simp only [tN]
     refine Run.cond rfl (fun h43 => ?_) (fun h43 => ?_)
     ·simp at h43
     ·skip
      apply Run.skip
      simp only [tN]
      refine Run.fra 4203 ?_
      simp [V.fra, V.fraL, fraS, frz, hb0, encB]
      refine opsF oo127 fun K hK => ?_
      try simp
      repeat' first | (refine evL_c ?_; simp [hn, hnt, encPr, hl2, hwr, hb8, hb9, hi1, hi2, hN1]) | (with_reducible first | apply aI | intro _ | assumption) | omega
      all_goals (apply Fin.go hK; clear hK K)
      simp only [Blok_normal]
      simp only [tN]
      refine opsF oo128 fun K hK => ?_
      try simp
      repeat' first | (refine evL_c ?_; simp [hn, hnt, encPr, hl2, hwr, hb8, hb9, hi1, hi2, hN1]) | (with_reducible first | apply aI | intro _ | assumption) | omega
      all_goals (apply Fin.go hK; clear hK K)
      first
       | refine ⟨i + 1, bs ++ [b0], ak2, ⟨?_, ?_, ?_, ?_, ?_⟩, ?_, ?_⟩
       | refine ⟨(i + 1, bs ++ [b0], ak2), ⟨?_, ?_, ?_, ?_, ?_⟩, ?_, ?_⟩
      ·show i + 1 ≤ n; omega
      ·show (bs ++ [b0]).length = i + 1; simp [hbs]
      ·show ak2.length = nt; omega
      ·intro d hd
       rcases List.mem_append.1 hd with hd | hd
       ·exact hbd d hd
       ·rw [List.mem_singleton.1 hd]; exact hb0
      ·exact hz
      ·show n - (i + 1) < n - i; omega
      ·have htk1 : List.take i (bs.map encBs) = bs.map encBs := List.take_of_length_le (by simp [hbs])
       have htk2 : List.take N (b0.map encB) = b0.map encB := List.take_of_length_le (by simp [hb0])
       simp (disch := omega) [hn, hnt, wrap_id, encBs, hbs, htk1, htk2]
   ·try simp at h36
    have hin : i = n := by omega
    subst hin
    rw [List.drop_of_length_le (by omega), pipesRd] at hz
    obtain ⟨rfl, hz2⟩ := Prod.mk.inj hz
    obtain ⟨rfl, hz3⟩ := Prod.mk.inj hz2
    clear hz hz2
    have hrB : rowN (bs.map encBs) nt = [.sl false ((rdI bs (nt : Nat)).map encB)] := rowN_map (by omega)
    have hrB2 : nt < bs.length := by omega
    refine Run.exit ?_
    simp (decide := true) only [Then_exit, Blok_exit, if_true, if_false]
    simp only [tN]
    apply Run.seq
    apply Run.seq
    refine opsF oo99 fun K hK => ?_
    try simp
    repeat' first | (refine evL_c ?_; simp [hn, hnt, encPr, hl2, hwr, hb8, hb9, hrB2]) | (with_reducible first | apply aI | intro _ | assumption) | omega
    all_goals (apply Fin.go hK; clear hK K)
    simp only [tN]
    apply Run.block
    refine Run.loopO [4, 5, 6, 11, 55, 56, 57, 58, 59, 60, 61, 62, 63, 64, 65, 66, 67, 68, 69, 70, 71, 72, 73, 74, 75] (fun (j : Nat) => [(11, .int j)]) (fun (j : Nat) => [(300, .vals ((encPr r).map .d)), (400, .vals ((encC c).map .d)), (3000, .data 1 (ak.map encB)), (3200, .vals ([.d (encTa r.tabs), .d (.sl false (r.pipes.map encPi))] ++ (encC c).map .d ++ [.rs 5300 1 0 i, .rs 3000 1 0 nt])), (5300, .data 1 (bs.map encBs))]) (fun (j : Nat) => j ≤ nt ∧ ∀ q : Nat, q < j → rdI ak (q : Int) = true) (fun (j : Nat) => nt - j) 0 ⟨by omega, by simp⟩ (by simp) fun j ⟨hj, hall⟩ => ?_
    simp only [over, List.foldl, List.set]
    apply Run.seq
    apply Run.seq
    refine opsF oo129 fun K hK => ?_
    try simp
    repeat' first | (refine evL_c ?_; simp [hn, hnt, encPr, hl2, hwr, hb8, hb9, hrB2]) | (with_reducible first | apply aI | intro _ | assumption) | omega
    all_goals (apply Fin.go hK; clear hK K)
    simp only [tN]
    refine Run.cond rfl (fun h61 => ?_) (fun h61 => ?_)
    ·try simp at h61
     have hj1 : j < nt := by omega
     have hj2 : (j : Int) < nt := by omega
     have hrow : rowN (ak.map encB) j = [.bool (rdI ak (j : Nat))] := rowN_map (by omega)
     obtain ⟨q, hq⟩ : ∃ z, rdI ak (j : Nat) = z := ⟨_, rfl⟩
     rw [hq] at hrow
     apply Run.skip
     simp only [tN]
     apply Run.seq
     apply Run.block
     apply Run.seq
     refine opsF oo130 fun K hK => ?_
     try simp
     repeat' first | (refine evL_c ?_; simp [hn, hnt, encPr, hl2, hwr, hb8, hb9, hrB2, hj1, hj2, hrow, hak]) | (with_reducible first | apply aI | intro _ | assumption) | omega
     all_goals (apply Fin.go hK; clear hK K)
     simp only [tN]
     refine Run.cond rfl (fun h71 => ?_) (fun h71 => ?_)
     ·skip
      apply Run.seq
      refine opsF [oF 25 2 1 72, oL 23 72 73, oN 23 73 74, oK .sub 3 74 1 3 75, ⟨.assign (.const (.slice none 0 0)), some 4, none⟩, oA 75 5, ⟨.assign (.const (.int .i64 181)), some 6, none⟩] fun K hK => ?_
      try simp
      repeat' first | (refine evL_c ?_; simp [hn, hnt, encPr, hl2, hwr, hb8, hb9, hrB2, hj1, hj2, hrow, hak, hwm, hwn]) | (with_reducible first | apply aI | intro _ | assumption) | omega
      all_goals (apply Fin.go hK; clear hK K)
      simp only [tN]
      apply Run.ret
      try simp only [Then_ret, Blok_ret]
      simp [hnt]
     ·simp at h71
      rw [← hq] at h71
      apply Run.skip
      simp only [Blok_normal]
      simp only [tN]
      refine opsF oo131 fun K hK => ?_
      try simp
      repeat' first | (refine evL_c ?_; simp [hn, hnt, encPr, hl2, hwr, hb8, hb9, hrB2, hj1, hj2, hrow, hak]) | (with_reducible first | apply aI | intro _ | assumption) | omega
      all_goals (apply Fin.go hK; clear hK K)
      refine ⟨j + 1, ⟨by omega, fun q hq => ?_⟩, by omega, ?_⟩
      ·by_cases e : q = j
       ·rw [e]; exact h71
       ·exact hall q (by omega)
      ·simp (disch := omega) [hn, hnt, wrap_id]
    ·try simp at h61
     exact absurd (all_rd.2 (fun t ht => hall t (by omega))) (by rw [hall0]; simp)
theorem rcheck_ok (c : CoreT) (r : ProgR) (hw : wP r.pipes ≤ 1100000) (ht : r.tabs.length ≤ 1100000) : Snd P 11 [.d (.ag (encPr r)), .d (.ag (encC c))] (.tup [.d (checkRd c r).1, .int (checkRd c r).2.1, .int (checkRd c r).2.2]) [] := by
 unfold checkRd
 split
 ·rename_i h; exact rcheckP_ok c r h
 rename_i h
 split
 ·rename_i h2; exact rcheckL_ok c r ht (by simpa using h) h2
 rename_i h2
 obtain ⟨⟨B, A, T⟩, hB⟩ : ∃ z, pipesRd c r [] (List.replicate r.tabs.length false) r.pipes = z := ⟨_, rfl⟩
 rw [hB]
 cases T with
 | false => exact rcheckB_ok c r B A hw ht (by simpa using h) (by omega) hB
 | true =>
   cases hall : A.all id with
   | true =>
     have := rcheckT_ok c r B A hw ht (by simpa using h) (by omega) hB hall
     simp only [hall, if_true]
     exact this
   | false =>
     have := rcheckF_ok c r B A hw ht (by simpa using h) (by omega) hB hall
     simp only [hall, if_true, Bool.false_eq_true, if_false]
     exact this
end Go.Proofs.Ytimgbdkgjfbhkaa.Z
end
section
namespace Go.Proofs.Ytimgbdkgjfbhkaa.Z
open Go Go.Fw
theorem pipes_pre {c : CoreT} {tabs : List (List Int)} : ∀ (t : List PipeR) (ps : List PlanT) (l : List Int), ∃ m, (pipesS c tabs ps l t).1 = ps ++ m
 | [], ps, l => ⟨[], by rw [pipesS]; simp⟩
 | x :: t, ps, l => by
   rw [pipesS]
   rcases pipeS c tabs ps l x with ⟨o, l'⟩
   cases o with
   | none => exact ⟨[], by simp⟩
   | some q =>
     obtain ⟨m, hm⟩ := pipes_pre t (ps ++ [q]) l'
     exact ⟨q :: m, by simp only; rw [hm]; simp⟩
theorem pipes_each {c : CoreT} {tabs : List (List Int)} : ∀ (t : List PipeR) (ps : List PlanT) (l : List Int), (pipesS c tabs ps l t).2.2 = true → ∀ i : Nat, i < t.length → ∃ l1 l2, stepsS c tabs ((pipesS c tabs ps l t).1.take (ps.length + i)) ((ps.length + i : Nat) : Int) l1 (scanT (rdI t (i : Int)).scan) (rdI t (i : Int)).steps = (some (rdI (pipesS c tabs ps l t).1 ((ps.length + i : Nat) : Int)), l2)
 | [], _, _, _, i, hi => by simp at hi
 | x :: t, ps, l, h, i, hi => by
   obtain ⟨q, l', he⟩ := pipesS_right h
   obtain ⟨-, -, hs⟩ := pipeS_sink he
   rw [pipesS_cons he] at h ⊢
   cases i with
   | zero =>
     obtain ⟨m, hm⟩ := pipes_pre (c := c) (tabs := tabs) t (ps ++ [q]) l'
     rw [hm]
     refine ⟨l, l', ?_⟩
     have e1 : ((ps ++ [q]) ++ m).take (ps.length + 0) = ps := by simp
     have e2 : rdI ((ps ++ [q]) ++ m) ((ps.length + 0 : Nat) : Int) = q := by
      rw [rdI_app (by omega) (by simp; omega)]; exact rdI_last rfl
     rw [e1, e2]
     exact hs
   | succ i =>
     obtain ⟨l1, l2, h2⟩ := pipes_each t (ps ++ [q]) l' h i (by simpa using hi)
     rw [List.length_append, List.length_singleton] at h2
     rw [rdI_succ]
     refine ⟨l1, l2, ?_⟩
     rw [show ps.length + (i + 1) = ps.length + 1 + i by omega]
     exact h2
end Go.Proofs.Ytimgbdkgjfbhkaa.Z
end
section
namespace Go.Proofs.Ytimgbdkgjfbhkaa.Z
open Go Go.Fw
attribute [-simp] litV lost
attribute [local simp] litV_agg litV_int litV_str litV_bool litV_slice litV_tup
def docP (ps : List PlanT) (p : PlanT) (s : StepR) : PlanT :=
 if s.op = 5 then joinT p (rdI ps s.table)
 else if s.op = 3 then stepPl 5 p s.slot s.edges false []
 else if s.op = 4 then stepPl 6 p 0 [] false s.terms
 else stepPl (kindS s.op) p 0 s.edges s.back []
def foldP (ps : List PlanT) (p : PlanT) : List StepR → PlanT
 | [] => p
 | s :: r => foldP ps (docP ps p s) r
set_option maxHeartbeats 8000000 in
theorem rplan1_ok (r : ProgR) (ps : List PlanT) (i : Nat) (hip : i < r.pipes.length) (hn : r.pipes.length ≤ 1100001) (hm : (rdI r.pipes (i : Nat)).steps.length ≤ 1100000)
  (IH : ∀ s ∈ (rdI r.pipes (i : Nat)).steps, s.op = 5 → Snd P 30 [.d (.ag (encPr r)), .int s.table] (.d (.ag (encP (rdI ps s.table)))) []) : Snd P 30 [.d (.ag (encPr r)), .int (i : Nat)] (.d (.ag (encP (foldP ps (scanT (rdI r.pipes (i : Nat)).scan) (rdI r.pipes (i : Nat)).steps)))) [] := by
 obtain ⟨x, hx⟩ : ∃ z, rdI r.pipes (i : Nat) = z := ⟨_, rfl⟩
 have hrow : rowN (r.pipes.map encPi) i = encPi (rdI r.pipes (i : Nat)) := rowN_map hip
 rw [hx] at hm IH hrow
 rw [hx]
 obtain ⟨Q, hQ⟩ : ∃ z, foldP ps (scanT x.scan) x.steps = z := ⟨_, rfl⟩
 rw [hQ]
 obtain ⟨m, hmm⟩ : ∃ z, x.steps.length = z := ⟨_, rfl⟩
 rw [hmm] at hm
 refine snd_of [] Try.func30 rfl (by kernel_rfl) Try.ntmps30 (by simp) ?_
 unfold Try.f30
 simp only [List.cons_append, List.nil_append, List.length_cons, List.length_nil, Nat.reduceAdd, Nat.reduceSub, List.replicate]
 apply Run.seq
 refine opsF [⟨.box 25 (.tmp 0), some 2, none⟩, ⟨.alloc 48, some 4, none⟩] fun K hK => ?_
 try simp
 repeat' first | (refine evL_c ?_; simp [hmm, hx, hip]) | (with_reducible first | apply aI | intro _ | assumption) | omega
 all_goals (apply Fin.go hK; clear hK K)
 simp only [tN]
 apply Run.seq
 refine opsF [oF 25 2 1 10, oL 23 10 11, oM 1 12, oI 23 11 12 13, oL 41 13 14, ⟨.alloc 41, some 5, none⟩, oS 41 5 14] fun K hK => ?_
 try simp
 repeat' first | (refine evL_c ?_; simp [hmm, hx, hip]) | (with_reducible first | apply aI | intro _ | assumption) | omega
 all_goals (apply Fin.go hK; clear hK K)
 simp only [tN]
 apply Run.seq
 refine opsF [oF 41 5 0 15, oL 3 15 16, ⟨.build 48 #[(0, .const (.int .i64 1)), (2, .tmp 16)], some 17, none⟩, ⟨.alloc 48, some 6, none⟩, oS 48 6 17] fun K hK => ?_
 try simp
 repeat' first | (refine evL_c ?_; simp [hmm, hx, hip]) | (with_reducible first | apply aI | intro _ | assumption) | omega
 all_goals (apply Fin.go hK; clear hK K)
 simp only [tN]
 (try (refine Run.subB 700 1 (.d (.sl false [])) rfl rfl nil_sl ?_; simp))
 (try (refine Run.subB 700 3 (.d (.sl false [])) rfl rfl nil_sl ?_; simp))
 (try (refine Run.subB 700 5 (.d (.sl false [])) rfl rfl nil_sl ?_; simp))
 apply Run.seq
 apply Run.seq
 refine opsF oo80 fun K hK => ?_
 try simp
 repeat' first | (refine evL_c ?_; simp [hmm, hx, hip]) | (with_reducible first | apply aI | intro _ | assumption) | omega
 all_goals (apply Fin.go hK; clear hK K)
 simp only [tN]
 apply Run.block
 refine Run.loopO [7, 8, 9, 18, 19, 20, 21, 22, 23, 24, 25, 26, 27, 28, 29, 30, 31, 32, 33, 34, 35, 36, 37, 38, 39, 40, 41, 42, 43, 44, 45, 46, 47, 48, 49, 50, 51, 52, 53, 54, 55, 56, 57, 58, 59, 60, 61, 62, 63, 64, 65] (fun (y : Nat × PlanT) => [(7, .int y.1)]) (fun (y : Nat × PlanT) => [(300, .vals ((encPr r).map .d)), (500, .vals [.int 0, vnil, .int 0, vnil, .bool false, vnil]), (600, .vals ((encPi x).map .d)), (700, .vals ((encP y.2).map .d))]) (fun (y : Nat × PlanT) => y.1 ≤ m ∧ foldP ps y.2 (x.steps.drop y.1) = Q) (fun (y : Nat × PlanT) => m - y.1) (0, scanT x.scan) ⟨by omega, by simpa using hQ⟩ (by simp [hx]) fun ⟨k, p⟩ ⟨hk, hz⟩ => ?_
 simp only at hk hz
 simp only [over, List.foldl, List.set]
 apply Run.seq
 apply Run.seq
 refine opsF [oM 7 18, oF 41 5 1 19, oL 39 19 20, oN 39 20 21, oB .lss 3 18 21 3 22] fun K hK => ?_
 try simp
 repeat' first | (refine evL_c ?_; simp [hmm, hx, hip]) | (with_reducible first | apply aI | intro _ | assumption) | omega
 all_goals (apply Fin.go hK; clear hK K)
 simp only [tN]
 refine Run.cond rfl (fun h22 => ?_) (fun h22 => ?_)
 ·try simp at h22
  have hk1 : k < m := by omega
  have hk2 : (k : Int) < m := by omega
  have hsm := rdI_mem (l := x.steps) (i := (k : Nat)) (by omega) (by omega)
  obtain ⟨s, hs⟩ : ∃ z, rdI x.steps (k : Nat) = z := ⟨_, rfl⟩
  rw [drop_rd (by omega), hs, foldP] at hz
  rw [hs] at hsm
  have hrs : rowN (x.steps.map encR) k = encR s := by rw [← hs]; exact rowN_map (by omega)
  apply Run.skip
  simp only [tN]
  apply Run.seq
  apply Run.block
  apply Run.seq
  refine opsF [oF 41 5 1 25, oL 39 25 26, oM 7 27, oI 39 26 27 28, oL 75 28 29, ⟨.alloc 75, some 8, none⟩, oS 75 8 29] fun K hK => ?_
  try simp
  repeat' first | (refine evL_c ?_; simp [hmm, hx, hip, hk2, hs, hrs]) | (with_reducible first | apply aI | intro _ | assumption) | omega
  all_goals (apply Fin.go hK; clear hK K)
  simp only [tN]
  apply Run.seq
  refine opsF [oL 48 6 30, ⟨.buildSlice 45 1 #[(0, .tmp 30)], some 31, none⟩, oA 31 9] fun K hK => ?_
  try simp
  repeat' first | (refine evL_c ?_; simp [hmm, hx, hip, hk2, hs, hrs]) | (with_reducible first | apply aI | intro _ | assumption) | omega
  all_goals (apply Fin.go hK; clear hK K)
  simp only [tN]
  apply Run.seq
  refine opsF [oF 75 8 0 32, oL 73 32 33] fun K hK => ?_
  try simp
  repeat' first | (refine evL_c ?_; simp [hmm, hx, hip, hk2, hs, hrs]) | (with_reducible first | apply aI | intro _ | assumption) | omega
  all_goals (apply Fin.go hK; clear hK K)
  simp only [tN]
  apply Run.block
  apply Run.seq
  refine opsF [oK .eql 73 33 5 73 44, oA 44 43] fun K hK => ?_
  try simp
  repeat' first | (refine evL_c ?_; simp [hmm, hx, hip, hk2, hs, hrs]) | (with_reducible first | apply aI | intro _ | assumption) | omega
  all_goals (apply Fin.go hK; clear hK K)
  simp only [tN]
  refine Run.cond rfl (fun h43 => ?_) (fun h43 => ?_)
  ·try simp at h43
   have hI := IH s hsm h43
   rw [encP_cells] at hI
   refine opsF [oL 48 6 45, oL 25 2 46, oF 75 8 5 47, oL 3 47 48, oC 30 #[.tmp 46, .tmp 48] #[25, 3] 49, ⟨.buildSlice 45 2 #[(0, .tmp 45), (1, .tmp 49)], some 50, none⟩, ⟨.build 48 #[(0, .const (.int .i64 4)), (1, .tmp 50)], some 51, none⟩, oS 48 6 51] fun K hK => ?_
   try simp
   repeat' first | (refine ecallD (by exact hI) ?_) | (refine evL_c ?_; simp [hmm, hx, hip, hk2, hs, hrs]) | (with_reducible first | apply aI | intro _ | assumption) | omega
   all_goals (apply Fin.go hK; clear hK K)
   try simp only [Blok_normal]
   try simp only [Blok_normal]
   simp only [tN]
   refine Run.fra 5100 ?_
   try simp [V.fra, V.fraL, fraS, frz]
   refine Run.fra 3200 ?_
   try simp [V.fra, V.fraL, fraS, frz]
   (try (refine Run.subB 700 3 (.d (.sl false [])) rfl rfl nil_sl ?_; simp))
   (try (refine Run.subB 700 5 (.d (.sl false [])) rfl rfl nil_sl ?_; simp))
   refine opsF oo132 fun K hK => ?_
   try simp
   repeat' first | (refine evL_c ?_; simp [hmm, hx, hip, hk2, hs, hrs]) | (with_reducible first | apply aI | intro _ | assumption) | omega
   all_goals (apply Fin.go hK; clear hK K)
   first
    | refine ⟨k + 1, docP ps p s, ⟨?_, ?_⟩, ?_, ?_⟩
    | refine ⟨(k + 1, docP ps p s), ⟨?_, ?_⟩, ?_, ?_⟩
   ·show k + 1 ≤ m; omega
   ·exact hz
   ·show m - (k + 1) < m - k; omega
   ·first
     | (simp [docP, h43, h52, h60]; done)
     | (simp [docP, h43, h52]; done)
     | (simp [docP, h43]; done)
     | (simp (disch := omega) [wrap_id, docP, h43, h52, h60]; done)
     | (simp (disch := omega) [wrap_id, docP, h43, h52]; done)
     | (simp (disch := omega) [wrap_id, docP, h43]; done)
  ·try simp at h43
   apply Run.seq
   refine opsF [oK .eql 73 33 3 73 53, oA 53 52] fun K hK => ?_
   try simp
   repeat' first | (refine evL_c ?_; simp [hmm, hx, hip, hk2, hs, hrs]) | (with_reducible first | apply aI | intro _ | assumption) | omega
   all_goals (apply Fin.go hK; clear hK K)
   simp only [tN]
   refine Run.cond rfl (fun h52 => ?_) (fun h52 => ?_)
   ·try simp at h52
    refine opsF [oM 9 54, oF 75 8 1 55, oL 3 55 56, oF 75 8 2 57, oL 46 57 58, ⟨.build 48 #[(0, .const (.int .i64 5)), (1, .tmp 54), (2, .tmp 56), (3, .tmp 58)], some 59, none⟩, oS 48 6 59] fun K hK => ?_
    try simp
    repeat' first | (refine evL_c ?_; simp [hmm, hx, hip, hk2, hs, hrs]) | (with_reducible first | apply aI | intro _ | assumption) | omega
    all_goals (apply Fin.go hK; clear hK K)
    try simp only [Blok_normal]
    try simp only [Blok_normal]
    simp only [tN]
    refine Run.fra 5100 ?_
    try simp [V.fra, V.fraL, fraS, frz]
    refine Run.fra 3200 ?_
    try simp [V.fra, V.fraL, fraS, frz]
    (try (refine Run.subB 700 3 (.d (.sl false [])) rfl rfl nil_sl ?_; simp))
    (try (refine Run.subB 700 5 (.d (.sl false [])) rfl rfl nil_sl ?_; simp))
    refine opsF oo132 fun K hK => ?_
    try simp
    repeat' first | (refine evL_c ?_; simp [hmm, hx, hip, hk2, hs, hrs]) | (with_reducible first | apply aI | intro _ | assumption) | omega
    all_goals (apply Fin.go hK; clear hK K)
    first
     | refine ⟨k + 1, docP ps p s, ⟨?_, ?_⟩, ?_, ?_⟩
     | refine ⟨(k + 1, docP ps p s), ⟨?_, ?_⟩, ?_, ?_⟩
    ·show k + 1 ≤ m; omega
    ·exact hz
    ·show m - (k + 1) < m - k; omega
    ·first
      | (simp [docP, h43, h52, h60]; done)
      | (simp [docP, h43, h52]; done)
      | (simp [docP, h43]; done)
      | (simp (disch := omega) [wrap_id, docP, h43, h52, h60]; done)
      | (simp (disch := omega) [wrap_id, docP, h43, h52]; done)
      | (simp (disch := omega) [wrap_id, docP, h43]; done)
   ·try simp at h52
    apply Run.seq
    refine opsF [oK .eql 73 33 4 73 61, oA 61 60] fun K hK => ?_
    try simp
    repeat' first | (refine evL_c ?_; simp [hmm, hx, hip, hk2, hs, hrs]) | (with_reducible first | apply aI | intro _ | assumption) | omega
    all_goals (apply Fin.go hK; clear hK K)
    simp only [tN]
    refine Run.cond rfl (fun h60 => ?_) (fun h60 => ?_)
    ·try simp at h60
     refine opsF [oM 9 62, oF 75 8 4 63, oL 28 63 64, ⟨.build 48 #[(0, .const (.int .i64 6)), (1, .tmp 62), (5, .tmp 64)], some 65, none⟩, oS 48 6 65] fun K hK => ?_
     try simp
     repeat' first | (refine evL_c ?_; simp [hmm, hx, hip, hk2, hs, hrs]) | (with_reducible first | apply aI | intro _ | assumption) | omega
     all_goals (apply Fin.go hK; clear hK K)
     try simp only [Blok_normal]
     try simp only [Blok_normal]
     simp only [tN]
     refine Run.fra 5100 ?_
     try simp [V.fra, V.fraL, fraS, frz]
     refine Run.fra 3200 ?_
     try simp [V.fra, V.fraL, fraS, frz]
     (try (refine Run.subB 700 3 (.d (.sl false [])) rfl rfl nil_sl ?_; simp))
     (try (refine Run.subB 700 5 (.d (.sl false [])) rfl rfl nil_sl ?_; simp))
     refine opsF oo132 fun K hK => ?_
     try simp
     repeat' first | (refine evL_c ?_; simp [hmm, hx, hip, hk2, hs, hrs]) | (with_reducible first | apply aI | intro _ | assumption) | omega
     all_goals (apply Fin.go hK; clear hK K)
     first
      | refine ⟨k + 1, docP ps p s, ⟨?_, ?_⟩, ?_, ?_⟩
      | refine ⟨(k + 1, docP ps p s), ⟨?_, ?_⟩, ?_, ?_⟩
     ·show k + 1 ≤ m; omega
     ·exact hz
     ·show m - (k + 1) < m - k; omega
     ·first
       | (simp [docP, h43, h52, h60]; done)
       | (simp [docP, h43, h52]; done)
       | (simp [docP, h43]; done)
       | (simp (disch := omega) [wrap_id, docP, h43, h52, h60]; done)
       | (simp (disch := omega) [wrap_id, docP, h43, h52]; done)
       | (simp (disch := omega) [wrap_id, docP, h43]; done)
    ·try simp at h60
     refine opsF [oF 75 8 0 34, oL 73 34 35, oC 49 #[.tmp 35] #[73] 36, oM 9 37, oF 75 8 2 38, oL 46 38 39, oF 75 8 3 40, oL 4 40 41, ⟨.build 48 #[(0, .tmp 36), (1, .tmp 37), (3, .tmp 39), (4, .tmp 41)], some 42, none⟩, oS 48 6 42] fun K hK => ?_
     try simp
     repeat' first | (refine ecallD (by exact kind_ok s.op) ?_) | (refine evL_c ?_; simp [hmm, hx, hip, hk2, hs, hrs]) | (with_reducible first | apply aI | intro _ | assumption) | omega
     all_goals (apply Fin.go hK; clear hK K)
     try simp only [Blok_normal]
     try simp only [Blok_normal]
     simp only [tN]
     refine Run.fra 5100 ?_
     try simp [V.fra, V.fraL, fraS, frz]
     refine Run.fra 3200 ?_
     try simp [V.fra, V.fraL, fraS, frz]
     (try (refine Run.subB 700 3 (.d (.sl false [])) rfl rfl nil_sl ?_; simp))
     (try (refine Run.subB 700 5 (.d (.sl false [])) rfl rfl nil_sl ?_; simp))
     refine opsF oo132 fun K hK => ?_
     try simp
     repeat' first | (refine evL_c ?_; simp [hmm, hx, hip, hk2, hs, hrs]) | (with_reducible first | apply aI | intro _ | assumption) | omega
     all_goals (apply Fin.go hK; clear hK K)
     first
      | refine ⟨k + 1, docP ps p s, ⟨?_, ?_⟩, ?_, ?_⟩
      | refine ⟨(k + 1, docP ps p s), ⟨?_, ?_⟩, ?_, ?_⟩
     ·show k + 1 ≤ m; omega
     ·exact hz
     ·show m - (k + 1) < m - k; omega
     ·first
       | (simp [docP, h43, h52, h60]; done)
       | (simp [docP, h43, h52]; done)
       | (simp [docP, h43]; done)
       | (simp (disch := omega) [wrap_id, docP, h43, h52, h60]; done)
       | (simp (disch := omega) [wrap_id, docP, h43, h52]; done)
       | (simp (disch := omega) [wrap_id, docP, h43]; done)
 ·try simp at h22
  have hk3 : k = m := by omega
  rw [List.drop_of_length_le (by omega), foldP] at hz
  subst hz
  refine Run.exit ?_
  simp (decide := true) only [Then_exit, Blok_exit, if_true, if_false]
  simp only [tN]
  apply Run.seq
  refine opsF [oL 48 6 66, oS 48 4 66] fun K hK => ?_
  try simp
  repeat' first | (refine evL_c ?_; simp [hmm, hx, hip]) | (with_reducible first | apply aI | intro _ | assumption) | omega
  all_goals (apply Fin.go hK; clear hK K)
  simp only [tN]
  apply Run.ret
  try simp only [Then_ret, Blok_ret]
  simp
set_option maxHeartbeats 8000000 in
theorem rPlanN_ok (c : CoreT) (r : ProgR) (d : D) (a e : Int) (he : e ≠ 0) (h : Snd P 11 [.d (.ag (encPr r)), .d (.ag (encC c))] (.tup [.d d, .int a, .int e]) []) : Snd P 14 [.d (.ag (encPr r)), .d (.ag (encC c))] (.tup [.d (.ag (encP zeroQ)), .int e]) [] := by
 refine snd_of [] Try.func14 rfl (by kernel_rfl) Try.ntmps14 (by simp) ?_
 unfold Try.f14
 simp only [List.cons_append, List.nil_append, List.length_cons, List.length_nil, Nat.reduceAdd, Nat.reduceSub, List.replicate]
 apply Run.seq
 refine opsF oo91 fun K hK => ?_
 try simp
 repeat' first | (refine evL_c ?_; simp [he]) | (with_reducible first | apply aI | intro _ | assumption) | omega
 all_goals (apply Fin.go hK; clear hK K)
 simp only [tN]
 apply Run.seq
 refine opsF oo133 fun K hK => ?_
 try simp
 repeat' first | (refine ecall (by exact h) rfl ?_) | (refine evL_c ?_; simp [he]) | (with_reducible first | apply aI | intro _ | assumption) | omega
 all_goals (apply Fin.go hK; clear hK K)
 simp only [tN]
 apply Run.seq
 apply Run.seq
 refine opsF oo134 fun K hK => ?_
 try simp
 repeat' first | (refine evL_c ?_; simp [he]) | (with_reducible first | apply aI | intro _ | assumption) | omega
 all_goals (apply Fin.go hK; clear hK K)
 simp only [tN]
 refine Run.cond rfl (fun h17 => ?_) (fun h17 => ?_)
 ·skip
  apply Run.seq
  refine opsF [⟨.build 48 #[], some 18, none⟩, oM 8 19, oS 48 4 18, oA 19 5] fun K hK => ?_
  try simp
  repeat' first | (refine evL_c ?_; simp [he]) | (with_reducible first | apply aI | intro _ | assumption) | omega
  all_goals (apply Fin.go hK; clear hK K)
  simp only [tN]
  (try (refine Run.subB 500 1 (.d (.sl false [])) rfl rfl nil_sl ?_; simp))
  (try (refine Run.subB 500 3 (.d (.sl false [])) rfl rfl nil_sl ?_; simp))
  (try (refine Run.subB 500 5 (.d (.sl false [])) rfl rfl nil_sl ?_; simp))
  apply Run.ret
  try simp only [Then_ret, Blok_ret]
  simp [zeroQ]
 ·simp at h17
set_option maxHeartbeats 8000000 in
theorem rPlanA_ok (c : CoreT) (r : ProgR) (d : D) (a : Int) (q : PlanT) (hl : r.pipes.length = r.tabs.length + 1) (ht : r.tabs.length ≤ 1100000) (h : Snd P 11 [.d (.ag (encPr r)), .d (.ag (encC c))] (.tup [.d d, .int a, .int 0]) []) (hq : Snd P 30 [.d (.ag (encPr r)), .int (r.tabs.length : Nat)] (.d (.ag (encP q))) []) : Snd P 14 [.d (.ag (encPr r)), .d (.ag (encC c))] (.tup [.d (.ag (encP q)), .int 0]) [] := by
 obtain ⟨nt, hnt⟩ : ∃ z, r.tabs.length = z := ⟨_, rfl⟩
 rw [hnt] at hl ht hq
 rw [encP_cells] at hq
 have hwm : IntKind.i64.wrap (((nt + 1 : Nat) : Int) - 1) = nt := by
  have := wrap_id (n := (nt : Int)) (by omega) (by omega)
  simpa using this
 have hwn : IntKind.i64.wrap (nt : Int) = nt := wrap_id (by omega) (by omega)
 have hwm2 : IntKind.i64.wrap ((nt : Int) + 1 - 1) = nt := by simpa using hwm
 refine snd_of [] Try.func14 rfl (by kernel_rfl) Try.ntmps14 (by simp) ?_
 unfold Try.f14
 simp only [List.cons_append, List.nil_append, List.length_cons, List.length_nil, Nat.reduceAdd, Nat.reduceSub, List.replicate]
 apply Run.seq
 refine opsF oo91 fun K hK => ?_
 try simp
 repeat' first | (refine evL_c ?_; simp [hl, hwm, hwm2, hwn]) | (with_reducible first | apply aI | intro _ | assumption) | omega
 all_goals (apply Fin.go hK; clear hK K)
 simp only [tN]
 apply Run.seq
 refine opsF oo133 fun K hK => ?_
 try simp
 repeat' first | (refine ecall (by exact h) rfl ?_) | (refine evL_c ?_; simp [hl, hwm, hwm2, hwn]) | (with_reducible first | apply aI | intro _ | assumption) | omega
 all_goals (apply Fin.go hK; clear hK K)
 simp only [tN]
 apply Run.seq
 apply Run.seq
 refine opsF oo134 fun K hK => ?_
 try simp
 repeat' first | (refine evL_c ?_; simp [hl, hwm, hwm2, hwn]) | (with_reducible first | apply aI | intro _ | assumption) | omega
 all_goals (apply Fin.go hK; clear hK K)
 simp only [tN]
 refine Run.cond rfl (fun h17 => ?_) (fun h17 => ?_)
 ·simp at h17
 ·skip
  apply Run.skip
  simp only [tN]
  apply Run.seq
  refine opsF [oL 25 2 20, oF 25 2 1 21, oL 23 21 22, oN 23 22 23, oK .sub 3 23 1 3 24, oC 30 #[.tmp 20, .tmp 24] #[25, 3] 25, oS 48 4 25, ⟨.assign (.const (.int .i64 0)), some 5, none⟩] fun K hK => ?_
  try simp
  repeat' first | (refine ecallD (by exact hq) ?_) | (refine evL_c ?_; simp [hl, hwm, hwm2, hwn]) | (with_reducible first | apply aI | intro _ | assumption) | omega
  all_goals (apply Fin.go hK; clear hK K)
  simp only [tN]
  apply Run.ret
  try simp only [Then_ret, Blok_ret]
  simp
theorem doc_step {c : CoreT} {tabs : List (List Int)} {ps : List PlanT} {i : Int} {l l' : List Int} {p q : PlanT} {s : StepR} (h : stepS c tabs ps i l p s = (some q, l')) (hb : (bndT c q).isSome = true) : q = docP ps p s ∧ (s.op = 5 → 0 ≤ s.table ∧ s.table < i) := by
 unfold stepS at h
 unfold docP
 split at h
 ·rename_i h5
  split at h
  ·cases h
  ·rename_i h6
   rw [if_pos h5]
   obtain ⟨h7, -⟩ := Prod.mk.inj h
   split at h7
   ·refine ⟨(Option.some.inj h7).symm, fun _ => ?_⟩
    omega
   ·cases h7
 ·rename_i h5
  obtain ⟨h7, -⟩ := Prod.mk.inj h
  have h8 := Option.some.inj h7
  subst h8
  rw [if_neg h5]
  refine ⟨?_, fun e => absurd e h5⟩
  have hb2 := hb
  unfold overP at hb ⊢
  unfold kindS
  by_cases h1 : s.op = 1
  ·simp [h1]
  by_cases h2 : s.op = 2
  ·simp [h2]
  by_cases h3 : s.op = 3
  ·simp [h3]
  by_cases h4 : s.op = 4
  ·simp [h4]
  exfalso
  rw [over_none h1 h2 h3 h4] at hb2
  cases hb2
theorem doc_steps {c : CoreT} {tabs : List (List Int)} {ps : List PlanT} {i : Int} : ∀ (t : List StepR) (l l' : List Int) (p q : PlanT), stepsS c tabs ps i l p t = (some q, l') → q = foldP ps p t ∧ ∀ s ∈ t, s.op = 5 → 0 ≤ s.table ∧ s.table < i
 | [], l, l', p, q, h => by
   rw [stepsS] at h
   obtain ⟨h1, -⟩ := Prod.mk.inj h
   exact ⟨(Option.some.inj h1).symm, fun s hs => by simp at hs⟩
 | s :: t, l, l', p, q, h => by
   rw [stepsS] at h
   rcases he : stepS c tabs ps i l p s with ⟨o, l2⟩
   rw [he] at h
   cases o with
   | none => cases h
   | some q2 =>
     simp only at h
     split at h
     ·rename_i hb
      obtain ⟨h1, h2⟩ := doc_step he hb
      obtain ⟨h3, h4⟩ := doc_steps t l2 l' q2 q h
      refine ⟨by rw [h3, h1, foldP], fun x hx => ?_⟩
      rcases List.mem_cons.1 hx with rfl | hx
      ·exact h2
      ·exact h4 x hx
     ·cases h
theorem foldP_take {ps : List PlanT} {i : Nat} (hi : i ≤ ps.length) : ∀ (t : List StepR) (p : PlanT), (∀ s ∈ t, s.op = 5 → 0 ≤ s.table ∧ s.table < (i : Int)) → foldP (ps.take i) p t = foldP ps p t
 | [], p, _ => rfl
 | s :: t, p, h => by
   have e : docP (ps.take i) p s = docP ps p s := by
    unfold docP
    split
    ·rename_i h5
     obtain ⟨h1, h2⟩ := h s (by simp) h5
     have : rdI (ps.take i) s.table = rdI ps s.table := by
      simp only [rdI, List.getD_eq_getElem?_getD, List.getElem?_take]
      rw [if_pos (by omega)]
     rw [this]
    ·rfl
   rw [foldP, foldP, e]
   exact foldP_take hi t _ fun x hx => h x (List.mem_cons_of_mem _ hx)
theorem rplan_ok (c : CoreT) (r : ProgR) (R1 : List PlanT) (hR : (pipesS c r.tabs [] [] r.pipes).1 = R1) (h : (pipesS c r.tabs [] [] r.pipes).2.2 = true) (hl : R1.length = r.pipes.length) (hn : r.pipes.length ≤ 1100001) (hm : ∀ x ∈ r.pipes, x.steps.length ≤ 1100000) : ∀ (n i : Nat), i < n → i < r.pipes.length → Snd P 30 [.d (.ag (encPr r)), .int (i : Nat)] (.d (.ag (encP (rdI R1 (i : Nat))))) [] := by
 intro n
 induction n with
 | zero => intro i hi; omega
 | succ n ih =>
   intro i hi hip
   obtain ⟨l1, l2, h1⟩ := pipes_each r.pipes [] [] h i hip
   simp only [List.length_nil, Nat.zero_add] at h1
   rw [hR] at h1
   obtain ⟨h2, h3⟩ := doc_steps _ _ _ _ _ h1
   rw [foldP_take (by omega) _ _ h3] at h2
   have hx := rdI_mem (l := r.pipes) (i := (i : Nat)) (by omega) (by omega)
   rw [h2]
   refine rplan1_ok r R1 i hip hn (hm _ hx) fun s hs h5 => ?_
   obtain ⟨h6, h7⟩ := h3 s hs h5
   obtain ⟨t, ht⟩ : ∃ t : Nat, s.table = t := ⟨s.table.toNat, by omega⟩
   rw [ht]
   exact ih t (by omega) (by omega)
theorem rPlan_ok (c : CoreT) (r : ProgR) (hw : wP r.pipes ≤ 1100000) (ht : r.tabs.length ≤ 1100000) : Snd P 14 [.d (.ag (encPr r)), .d (.ag (encC c))] (.tup [.d (.ag (encP (planS c r).1)), .int (planS c r).2.2]) [] := by
 have hC := rcheck_ok c r hw ht
 rw [check_agree] at hC
 by_cases he : (planS c r).2.2 = 0
 ·have hpr := planS_right he
  have hpl := pipesS_len (c := c) (tabs := r.tabs) r.pipes [] []
  rw [hpr.2.2] at hpl
  simp only [if_true, List.length_nil, Nat.zero_add] at hpl
  have hp : (planS c r).1 = rdI (pipesS c r.tabs [] [] r.pipes).1 (r.tabs.length : Nat) := by
   unfold planS at he ⊢
   rw [if_neg hpr.1] at he ⊢
   rw [if_neg (by omega)] at he ⊢
   rcases hR : pipesS c r.tabs [] [] r.pipes with ⟨R1, R2, R3⟩
   rw [hR] at he
   simp only at he ⊢
   split
   ·rename_i h; rw [if_pos h] at he; cases he
   ·rfl
  have hP := rplan_ok c r _ rfl hpr.2.2 hpl (by omega) (fun x hx => (fine_pipe hw hx).2) (r.tabs.length + 1) r.tabs.length (by omega) (by omega)
  have e1 : (checkS c r).2.2 = 0 := by rw [checkS_e]; exact he
  rw [e1] at hC
  rw [hp, he]
  exact rPlanA_ok c r _ _ _ hpr.2.1 ht hC hP
 ·rw [planS_zero he]
  have e1 := checkS_e c r
  rw [e1] at hC
  exact rPlanN_ok c r _ _ _ he hC
end Go.Proofs.Ytimgbdkgjfbhkaa.Z
end
section
namespace Go.Fw
open Go
variable {P : Program}
theorem Snd.up {f : FuncId} {args args0 : List V} {s0 : Store} {r : V} (h : Snd P f args0 r []) (ha : V.finL [] s0 args = args0) (hs : s0.all (fun x => decide (x.1 < 90)) = true) : SndW P f args s0 r [] := by
 subst ha
 refine ⟨h.1, fun w X m0 vs hX hS hargs => ?_⟩
 have hZ : ∀ b, Reach (fun j => if (getB s0 j).isSome then m0 j else none) b ↔ Own m0 s0 b := by
  intro b
  constructor
  ·rintro ⟨j, hj⟩
   simp only at hj
   split at hj
   ·rename_i h1
    obtain ⟨c, hc⟩ := Option.isSome_iff_exists.1 h1
    exact ⟨j, c, hc, hj⟩
   ·cases hj
  ·rintro ⟨j, c, h1, h2⟩
   exact ⟨j, by simp [h1, h2]⟩
 have hrel : Rel w (fun j => if (getB s0 j).isSome then m0 j else none) X m0 args s0 { tmps := vs.toArray, defers := [] } w := by
  refine ⟨by simpa using hargs, hS, rfl, ⟨rfl, rfl, rfl, Nat.le_refl _, fun _ _ _ => rfl, fun _ cs _ _ q => ⟨cs, q, rfl⟩⟩, fun b hb => .inl ((hZ b).2 hb), fun b hb => ⟨(hX b hb).1, fun q => (hX b hb).2 ((hZ b).1 q)⟩, fun i hi hs => by simp [hs]⟩
 have hm : finM [] m0 = fun _ => none := by funext j; simp [finM]
 have hl : ∀ b, Live X (finM [] m0) (finS [] s0 [] 0) b → X b := fun b hb => hb.resolve_right fun q => by
  obtain ⟨id, _, hk, _⟩ := own_fin q; cases hk
 have hfin : All2 (VRel w X (fun _ => none)) (V.finL [] s0 args) vs := by
  refine ⟨hargs.len.trans (finL_len _ _ _).symm, fun j x v h1 h2 => ?_⟩
  rw [finL_at] at h1
  obtain ⟨y, hy, rfl⟩ := Option.map_eq_some_iff.1 h1
  have := fin_rel hrel (keep := []) (hargs.at_ j y v hy h2)
  rw [hm] at this hl
  exact VRel.mono' (fun _ _ _ q => q) (fun _ cs _ _ q => ⟨cs, q, rfl⟩) (fun b hb => .inl (.inl hb)) this
 refine (h.2 w X vs (fun b hb => (hX b hb).1) hfin).mono fun x w' hx => ?_
 obtain ⟨v, m', h1, h2, h3, h4, h5⟩ := hx
 exact ⟨v, m', h1, ⟨h2.os, h2.tape, h2.output, h2.size, fun b hb _ => h2.block b hb id, h2.sizes⟩, h3, h4, fun b hb => .inr (h5 b hb), fun j _ hj => by cases hj⟩
end Go.Fw
namespace Go.Proofs.Ytimgbdkgjfbhkaa.Z
open Go Go.Fw
attribute [-simp] litV
attribute [local simp] litV_agg litV_int litV_str litV_bool litV_slice litV_tup
theorem DSub.sl {nn : Bool} {l r : List (List D)} (hlen : l.length = r.length) (h : ∀ (i : Nat) (x y : List D), l[i]? = some x → r[i]? = some y → SubL x y) : DSub (.sl nn l) (.sl nn r) := fun w L v hv => by
 have back : ∀ {i : Nat} {y : List D}, r[i]? = some y → ∃ x, l[i]? = some x ∧ SubL x y := fun {i y} hy => by
  have hlt : i < l.length := by rw [hlen]; exact (List.getElem?_eq_some_iff.1 hy).1
  exact ⟨_, List.getElem?_eq_getElem hlt, h i _ y (List.getElem?_eq_getElem hlt) hy⟩
 have cell : ∀ {x y : List D} {j : Nat} {d : D}, SubL x y → y[j]? = some d → ∃ c, x[j]? = some c ∧ DSub c d := fun {x y j d} hs hd => by
  have hlt : j < x.length := by rw [hs.len]; exact (List.getElem?_eq_some_iff.1 hd).1
  exact ⟨_, List.getElem?_eq_getElem hlt, hs.at_ (List.getElem?_eq_getElem hlt) hd⟩
 cases hv with
 | slE nn A cap hn =>
   obtain rfl : r = [] := List.length_eq_zero_iff.1 (by simpa using hlen.symm)
   exact .slE nn A cap hn
 | sl nn rows b off cap sz vals hb hc hm hz hv ho hr =>
   rw [hlen]
   refine .sl nn r b off cap sz vals (fun i j y d q1 q2 => ?_) (by omega) (by omega) (fun y hy => ?_) (fun i j y d q1 q2 => ?_) (fun i j y d q1 q2 => ?_) (fun i j y d q1 q2 => ?_)
   ·obtain ⟨x, p1, p2⟩ := back q1
    obtain ⟨c, p3, _⟩ := cell p2 q2
    exact hb i j x c p1 p3
   ·obtain ⟨i, hi⟩ := List.getElem?_of_mem hy
    obtain ⟨x, p1, p2⟩ := back hi
    rw [← p2.len]; exact hz x (List.mem_of_getElem? p1)
   ·obtain ⟨x, p1, p2⟩ := back q1
    obtain ⟨c, p3, _⟩ := cell p2 q2
    exact hv i j x c p1 p3
   ·obtain ⟨x, p1, p2⟩ := back q1
    obtain ⟨c, p3, _⟩ := cell p2 q2
    exact ho i j x c p1 p3
   ·obtain ⟨x, p1, p2⟩ := back q1
    obtain ⟨c, p3, p4⟩ := cell p2 q2
    exact p4 _ _ _ (hr i j x c p1 p3)
def headC : CoreT := ⟨[⟨"".toUTF8, -1⟩], [], [], .lit (.slice none 0 0), false, .lit (.slice none 0 0), 0⟩
def headR : ProgR := ⟨[], [⟨0, [], -1⟩]⟩
theorem headC_check : checkS headC headR = (.sl false [[.bool true]], 0, 0) := by rfl
theorem headN_check : (checkS headC ⟨[], []⟩).2 = (-1, 181) := by rfl
theorem head_ok : Snd P 8 [] (.bool true) [] := by
 have h1 := snd_sub (args := [.d (.ag [.lit (.slice none 0 0), .sl false [[.int 0, .lit (.slice none 0 0), .int (-1)]]]), .d (.ag [.sl false [[.str ByteArray.empty, .int (-1)]], .sl false [], .sl false [], .lit (.slice none 0 0), .bool false, .lit (.slice none 0 0), .int 0])]) (check_ok headC headR (by decide) (by decide) (by decide)) ⟨DSub.ag ⟨DSub.nil, DSub.sl rfl (fun i x y hx hy => by
   cases i with
   | zero => cases hx; cases hy; exact ⟨.refl _, DSub.nil, .refl _, trivial⟩
   | succ i => cases hx), trivial⟩, .refl _, trivial⟩
 rw [headC_check] at h1
 have h2 := snd_sub (args := [.d (.ag [.lit (.slice none 0 0), .lit (.slice none 0 0)]), .d (.ag [.sl false [[.str ByteArray.empty, .int (-1)]], .sl false [], .sl false [], .lit (.slice none 0 0), .bool false, .lit (.slice none 0 0), .int 0])]) (check_ok headC ⟨[], []⟩ (by decide) (by decide) (by decide)) ⟨DSub.ag ⟨DSub.nil, DSub.nil, trivial⟩, .refl _, trivial⟩
 obtain ⟨d2, hd2⟩ : ∃ z, (checkS headC ⟨[], []⟩).1 = z := ⟨_, rfl⟩
 rw [headN_check, hd2] at h2
 have h1w := Snd.up (s0 := [(0, .data 3 [[.int 0, .lit (.slice none 0 0), .int (-1)]])]) (args := [.ag [.d (.lit (.slice none 0 0)), .rs 0 3 0 1], .d (.ag [.sl false [[.str ByteArray.empty, .int (-1)]], .sl false [], .sl false [], .lit (.slice none 0 0), .bool false, .lit (.slice none 0 0), .int 0])]) h1 rfl rfl
 have hrow0 : Fw.rowAt [[D.bool true]] 0 = [D.bool true] := rfl
 refine snd_of [] Try.func8 rfl (by kernel_rfl) Try.ntmps8 (by simp) ?_
 unfold Try.f8
 simp only [List.cons_append, List.nil_append, List.length_cons, List.length_nil, Nat.reduceAdd, Nat.reduceSub, List.replicate]
 apply Run.seq
 refine opsF [⟨.assign (.const (.bool false)), some 0, none⟩] fun K hK => ?_
 try simp
 repeat' first | (refine evL_c ?_; simp [hrow0]) | (with_reducible first | apply aI | intro _ | assumption) | omega
 all_goals (apply Fin.go hK; clear hK K)
 simp only [tN]
 apply Run.seq
 refine opsF [⟨.build 70 #[(1, .const (.int .i64 (-1)))], some 8, none⟩, ⟨.buildSlice 26 1 #[(0, .tmp 8)], some 9, none⟩, ⟨.build 32 #[(0, .tmp 9)], some 10, none⟩, ⟨.alloc 32, some 1, none⟩, oS 32 1 10] fun K hK => ?_
 try simp
 repeat' first | (refine evL_c ?_; simp [hrow0]) | (with_reducible first | apply aI | intro _ | assumption) | omega
 all_goals (apply Fin.go hK; clear hK K)
 simp only [tN]
 refine Run.fra 1000 ?_
 simp [V.fra, V.fraL, fraS, frz]
 refine Run.subB 200 1 (.d (.sl false [])) rfl rfl nil_sl ?_
 try simp
 refine Run.subB 200 2 (.d (.sl false [])) rfl rfl nil_sl ?_
 try simp
 apply Run.seq
 refine opsT [⟨.build 41 #[(2, .const (.int .i64 (-1)))], some 12, none⟩, ⟨.buildSlice 23 1 #[(0, .tmp 12)], some 13, none⟩, ⟨.build 25 #[(1, .tmp 13)], some 14, none⟩, oL 32 1 15, oC 9 #[.tmp 14, .tmp 15] #[25, 32] 16, oM 16 11, oX 11 0 17, oX 11 1 18, oX 11 2 19, oA 17 2, oA 18 3, oA 19 4] fun K hK => ?_
 try simp
 repeat' first | (refine ecallW [1400] (by exact h1w) (by simp) (by simp) (by rfl) ?_) | (refine evL_c ?_; simp [hrow0]) | (with_reducible first | apply aI | intro _ | assumption) | omega
 all_goals (apply Fin.go hK; clear hK K)
 simp only [tN]
 apply Run.seq
 refine opsF [⟨.build 25 #[], some 21, none⟩, oL 32 1 22, oC 9 #[.tmp 21, .tmp 22] #[25, 32] 23, oM 23 20, oX 20 0 24, oX 20 1 25, oX 20 2 26, oA 24 5, oA 25 6, oA 26 7] fun K hK => ?_
 try simp
 repeat' first | (refine ecall (by exact h2) rfl ?_) | (refine evL_c ?_; simp [hrow0]) | (with_reducible first | apply aI | intro _ | assumption) | omega
 all_goals (apply Fin.go hK; clear hK K)
 simp only [tN]
 apply Run.seq
 refine opsF [oM 4 27, oK .eql 35 27 0 35 28, oM 28 29, ⟨.move (.tmp 2), some 30, some (some 29, true)⟩, ⟨.call { callee := .builtin .len, args := #[.tmp 30], argTypes := #[34] }, some 31, some (some 29, true)⟩, ⟨.binOp .eql 3 (.tmp 31) (.const (.int .i64 1)) 3, some 32, some (some 29, true)⟩, ⟨.pick (.tmp 29) (.tmp 32) (.const (.bool false)), some 33, none⟩, oM 33 34, ⟨.move (.tmp 2), some 35, some (some 34, true)⟩, ⟨.indexAddr 34 (.tmp 35) (.const (.int .i64 0)), some 36, some (some 34, true)⟩, ⟨.load 4 (.tmp 36), some 37, some (some 34, true)⟩, ⟨.pick (.tmp 34) (.tmp 37) (.const (.bool false)), some 38, none⟩, oM 38 39, ⟨.move (.tmp 6), some 40, some (some 39, true)⟩, ⟨.binOp .eql 3 (.tmp 40) (.const (.int .i64 (-1))) 3, some 41, some (some 39, true)⟩, ⟨.pick (.tmp 39) (.tmp 41) (.const (.bool false)), some 42, none⟩, oM 42 43, ⟨.move (.tmp 7), some 44, some (some 43, true)⟩, ⟨.binOp .eql 35 (.tmp 44) (.const (.int .i64 181)) 35, some 45, some (some 43, true)⟩, ⟨.pick (.tmp 43) (.tmp 45) (.const (.bool false)), some 46, none⟩, oA 46 0] fun K hK => ?_
 try simp
 repeat' first | ((first | refine evL_c ?_ | (refine evL_g rfl ?_; try simp only [gs_tt, gs_ff, gs_tf, gs_ft]) | refine evL_u rfl ?_ | (with_reducible refine gsplit (fun hg => ?_) (fun hg => ?_) <;> try simp at hg)) <;> try simp [hrow0]) | (with_reducible first | apply aI | intro _ | assumption) | omega
 all_goals (apply Fin.go hK; clear hK K)
 all_goals
  simp only [tN]
  apply Run.ret
  try simp only [Then_ret, Blok_ret]
  simp
end Go.Proofs.Ytimgbdkgjfbhkaa.Z
end
section
/- Values and terms that are alike: the program's, the document's. -/
namespace Go.Proofs.Ytimgbdkgjfbhkaa.Z
open Go Go.Fw
def eqIs : List Int → List Int → Bool
 | [], [] => true
 | x :: a, y :: b => decide (x = y) && eqIs a b
 | _, _ => false
theorem eqIs_len {a b : List Int} (h : a.length ≠ b.length) : eqIs a b = false := by
 induction a generalizing b with
 | nil => cases b <;> simp_all [eqIs]
 | cons x a ih =>
   cases b with
   | nil => rfl
   | cons y b => rw [eqIs, ih (by simpa using h), Bool.and_false]
theorem eqIs_step {a b : List Int} {i : Nat} (ha : i < a.length) (hb : i < b.length) : eqIs (a.drop i) (b.drop i) = (decide (rdI a i = rdI b i) && eqIs (a.drop (i + 1)) (b.drop (i + 1))) := by
 rw [drop_rd ha, drop_rd hb, eqIs]
def eqV (a b : ValT) : Bool := decide (a.kind = b.kind) && (a.bool == b.bool) && decide (a.num = b.num) && decide (a.text.toList = b.text.toList) && eqIs a.path b.path
set_option maxHeartbeats 4000000 in
theorem reqV_ok (a b : ValT) : Snd P 86 [.d (.ag (encV a)), .d (.ag (encV b))] (.bool (eqV a b)) [] := by
 refine Snd.ok 0 rfl (by kernel_rfl) fun hok => ?_
 have hma : a.path.length ≤ 9223372036854775807 := by
  simp only [encV, D.ok, D.okL, List.length_map] at hok
  exact hok.2.2.2.2.1.1
 clear hok
 obtain ⟨e1, he1⟩ : ∃ x, decide (a.kind = b.kind) = x := ⟨_, rfl⟩
 obtain ⟨e2, he2⟩ : ∃ x, (a.bool == b.bool) = x := ⟨_, rfl⟩
 obtain ⟨e3, he3⟩ : ∃ x, decide (a.num = b.num) = x := ⟨_, rfl⟩
 obtain ⟨e4, he4⟩ : ∃ x, decide (a.text.toList = b.text.toList) = x := ⟨_, rfl⟩
 obtain ⟨r, hr⟩ : ∃ x, eqV a b = x := ⟨_, rfl⟩
 have hv := hr
 rw [eqV, he1, he2, he3, he4] at hv
 rw [hr]
 obtain ⟨m, hm⟩ : ∃ m, a.path.length = m := ⟨_, rfl⟩
 obtain ⟨k, hk⟩ : ∃ m, b.path.length = m := ⟨_, rfl⟩
 rw [hm] at hma
 refine snd_of [] Try.func86 rfl (by kernel_rfl) Try.ntmps86 (by simp) ?_
 unfold Try.f86
 simp only [List.cons_append, List.nil_append, List.length_cons, List.length_nil, Nat.reduceAdd, Nat.reduceSub, List.replicate]
 apply Run.seq
 refine opsF [⟨.box 87 (.tmp 0), some 2, none⟩, ⟨.box 87 (.tmp 1), some 3, none⟩, ⟨.assign (.const (.bool false)), some 4, none⟩] fun K hK => ?_
 try simp
 repeat' first | (refine evL_c ?_; simp [encV, binS, he1, he2, he3, he4, hm, hk]) | (with_reducible first | apply aI | intro _ | assumption) | omega
 all_goals (apply Fin.go hK; clear hK K)
 simp only [tN]
 apply Run.seq
 apply Run.seq
 refine opsF [oF 87 2 4 6, oL 59 6 7, oN 59 7 8, oF 87 3 4 9, oL 59 9 10, oN 59 10 11, oB .neq 3 8 11 3 12] fun K hK => ?_
 try simp
 repeat' first | (refine evL_c ?_; simp [encV, binS, he1, he2, he3, he4, hm, hk]) | (with_reducible first | apply aI | intro _ | assumption) | omega
 all_goals (apply Fin.go hK; clear hK K)
 simp only [tN]
 refine Run.cond rfl (fun h12 => ?_) (fun h12 => ?_)
 ·try simp at h12
  have hf : eqIs a.path b.path = false := eqIs_len (by omega)
  apply Run.seq
  refine opsF oo13 fun K hK => ?_
  try simp
  repeat' first | (refine evL_c ?_; simp [encV, binS, he1, he2, he3, he4, hm, hk]) | (with_reducible first | apply aI | intro _ | assumption) | omega
  all_goals (apply Fin.go hK; clear hK K)
  simp only [tN]
  apply Run.ret
  try simp only [Then_ret, Blok_ret]
  rw [hf] at hv
  first
   | (simp_all; done)
   | (cases e1 <;> cases e2 <;> cases e3 <;> cases e4 <;> simp_all; done)
 ·try simp at h12
  have hkm : k = m := by omega
  subst hkm
  apply Run.skip
  simp only [tN]
  apply Run.seq
  apply Run.seq
  refine opsF oo71 fun K hK => ?_
  try simp
  repeat' first | (refine evL_c ?_; simp [encV, binS, he1, he2, he3, he4, hm, hk]) | (with_reducible first | apply aI | intro _ | assumption) | omega
  all_goals (apply Fin.go hK; clear hK K)
  simp only [tN]
  apply Run.block
  refine Run.loopO [4, 5, 13, 14, 15, 16, 17, 18, 19, 20, 21, 22, 23, 24, 25, 26, 27, 28, 29, 30] (fun (i : Nat) => [(5, .int i)]) (fun (i : Nat) => [(300, .vals ((encV a).map .d)), (400, .vals ((encV b).map .d))]) (fun (i : Nat) => i ≤ k ∧ eqIs a.path b.path = eqIs (a.path.drop i) (b.path.drop i)) (fun (i : Nat) => k - i) 0 ⟨by omega, rfl⟩ (by simp [encV]) fun i ⟨hi, hz⟩ => ?_
  simp only [over, List.foldl, List.set]
  apply Run.seq
  apply Run.seq
  refine opsF [oM 5 13, oF 87 2 4 14, oL 59 14 15, oN 59 15 16, oB .lss 3 13 16 3 17] fun K hK => ?_
  try simp
  repeat' first | (refine evL_c ?_; simp [encV, binS, he1, he2, he3, he4, hm, hk]) | (with_reducible first | apply aI | intro _ | assumption) | omega
  all_goals (apply Fin.go hK; clear hK K)
  simp only [tN]
  refine Run.cond rfl (fun h17 => ?_) (fun h17 => ?_)
  ·try simp at h17
   have hi1 : i < k := by omega
   apply Run.skip
   simp only [tN]
   apply Run.seq
   apply Run.block
   apply Run.seq
   refine opsF [oF 87 2 4 20, oL 59 20 21, oM 5 22, oI 59 21 22 23, oL 2 23 24, oF 87 3 4 25, oL 59 25 26, oM 5 27, oI 59 26 27 28, oL 2 28 29, oB .neq 2 24 29 2 30] fun K hK => ?_
   try simp
   repeat' first | (refine evL_c ?_; simp [encV, binS, he1, he2, he3, he4, hm, hk, hi1]) | (with_reducible first | apply aI | intro _ | assumption) | omega
   all_goals (apply Fin.go hK; clear hK K)
   simp only [tN]
   refine Run.cond rfl (fun h30 => ?_) (fun h30 => ?_)
   ·try simp at h30
    have hf : eqIs a.path b.path = false := by rw [hz, eqIs_step (by omega) (by omega), decide_eq_false h30]; rfl
    apply Run.seq
    refine opsF oo13 fun K hK => ?_
    try simp
    repeat' first | (refine evL_c ?_; simp [encV, binS, he1, he2, he3, he4, hm, hk, hi1]) | (with_reducible first | apply aI | intro _ | assumption) | omega
    all_goals (apply Fin.go hK; clear hK K)
    simp only [tN]
    apply Run.ret
    try simp only [Then_ret, Blok_ret]
    rw [hf] at hv
    first
     | (simp_all; done)
     | (cases e1 <;> cases e2 <;> cases e3 <;> cases e4 <;> simp_all; done)
   ·try simp at h30
    apply Run.skip
    simp only [Blok_normal]
    simp only [tN]
    refine opsF [oM 5 18, oK .add 3 18 1 3 19, oA 19 5] fun K hK => ?_
    try simp
    repeat' first | (refine evL_c ?_; simp [encV, binS, he1, he2, he3, he4, hm, hk, hi1]) | (with_reducible first | apply aI | intro _ | assumption) | omega
    all_goals (apply Fin.go hK; clear hK K)
    refine ⟨i + 1, ⟨by omega, by rw [hz, eqIs_step (by omega) (by omega), decide_eq_true h30]; rfl⟩, by omega, ?_⟩
    simp (disch := omega) [wrap_id, encV]
  ·try simp at h17
   have hf : eqIs a.path b.path = true := by rw [hz, show a.path.drop i = [] from List.drop_of_length_le (by omega), show b.path.drop i = [] from List.drop_of_length_le (by omega), eqIs]
   refine Run.exit ?_
   simp (decide := true) only [Then_exit, Blok_exit, if_true, if_false]
   simp only [tN]
   apply Run.seq
   refine opsF [oF 87 2 0 31, oL 85 31 32, oF 87 3 0 33, oL 85 33 34, oB .eql 85 32 34 85 35, oM 35 36, ⟨.fieldAddr 87 (.tmp 2) 1, some 37, some (some 36, true)⟩, ⟨.load 4 (.tmp 37), some 38, some (some 36, true)⟩, ⟨.fieldAddr 87 (.tmp 3) 1, some 39, some (some 36, true)⟩, ⟨.load 4 (.tmp 39), some 40, some (some 36, true)⟩, ⟨.binOp .eql 4 (.tmp 38) (.tmp 40) 4, some 41, some (some 36, true)⟩, ⟨.pick (.tmp 36) (.tmp 41) (.const (.bool false)), some 42, none⟩, oM 42 43, ⟨.fieldAddr 87 (.tmp 2) 2, some 44, some (some 43, true)⟩, ⟨.load 2 (.tmp 44), some 45, some (some 43, true)⟩, ⟨.fieldAddr 87 (.tmp 3) 2, some 46, some (some 43, true)⟩, ⟨.load 2 (.tmp 46), some 47, some (some 43, true)⟩, ⟨.binOp .eql 2 (.tmp 45) (.tmp 47) 2, some 48, some (some 43, true)⟩, ⟨.pick (.tmp 43) (.tmp 48) (.const (.bool false)), some 49, none⟩, oM 49 50, ⟨.fieldAddr 87 (.tmp 2) 3, some 51, some (some 50, true)⟩, ⟨.load 9 (.tmp 51), some 52, some (some 50, true)⟩, ⟨.fieldAddr 87 (.tmp 3) 3, some 53, some (some 50, true)⟩, ⟨.load 9 (.tmp 53), some 54, some (some 50, true)⟩, ⟨.binOp .eql 9 (.tmp 52) (.tmp 54) 9, some 55, some (some 50, true)⟩, ⟨.pick (.tmp 50) (.tmp 55) (.const (.bool false)), some 56, none⟩, oA 56 4] fun K hK => ?_
   try simp
   repeat' first | ((first | refine evL_c ?_ | (refine evL_g rfl ?_; try simp only [gs_tt, gs_ff, gs_tf, gs_ft]) | refine evL_u rfl ?_ | (with_reducible refine gsplit (fun hg => ?_) (fun hg => ?_) <;> try simp at hg)) <;> try simp [encV, binS, he1, he2, he3, he4, hm, hk]) | (with_reducible first | apply aI | intro _ | assumption) | omega
   all_goals (apply Fin.go hK; clear hK K)
   all_goals
    simp only [tN]
    apply Run.ret
    try simp only [Then_ret, Blok_ret]
    rw [hf] at hv
    first
     | (simp_all; done)
     | (cases e1 <;> cases e2 <;> cases e3 <;> cases e4 <;> simp_all; done)
end Go.Proofs.Ytimgbdkgjfbhkaa.Z
end
section
/- Terms that are alike. -/
namespace Go.Proofs.Ytimgbdkgjfbhkaa.Z
open Go Go.Fw
mutual
def eqT : TermT → TermT → Bool
 | .mk o k s n v, t => eqV v t.val && decide (o = t.op) && decide (s = t.slot) && decide (n.toList = t.prop.toList) && eqTs k t.kids
def eqTs : List TermT → List TermT → Bool
 | [], [] => true
 | x :: a, y :: b => eqT x y && eqTs a b
 | [], _ :: _ => false
 | _ :: _, [] => false
end
theorem eqT_eq (a b : TermT) : eqT a b = (eqV a.val b.val && decide (a.op = b.op) && decide (a.slot = b.slot) && decide (a.prop.toList = b.prop.toList) && eqTs a.kids b.kids) := by cases a; rw [eqT]; rfl
theorem eqTs_len {a b : List TermT} (h : a.length ≠ b.length) : eqTs a b = false := by
 induction a generalizing b with
 | nil => cases b with
   | nil => exact absurd rfl h
   | cons y b => rw [eqTs]
 | cons x a ih =>
   cases b with
   | nil => rw [eqTs]
   | cons y b => rw [eqTs, ih (by simpa using h), Bool.and_false]
theorem eqTs_step {a b : List TermT} {i : Nat} (ha : i < a.length) (hb : i < b.length) : eqTs (a.drop i) (b.drop i) = (eqT (rdI a i) (rdI b i) && eqTs (a.drop (i + 1)) (b.drop (i + 1))) := by
 rw [drop_rd ha, drop_rd hb, eqTs]
theorem reqTs1_ok (na nb : Bool) (a b : List TermT) (hp : ∀ i : Nat, i < a.length → i < b.length → Snd P 50 [.d (.ag (encT (rdI a i))), .d (.ag (encT (rdI b i)))] (.bool (eqT (rdI a i) (rdI b i))) []) : Snd P 31 [.d (.sl na (a.map encT)), .d (.sl nb (b.map encT))] (.bool (eqTs a b)) [] := by
 refine Snd.ok 0 rfl (by kernel_rfl) fun hok => ?_
 have hma : a.length ≤ 9223372036854775807 := by simp only [D.ok, List.length_map] at hok; exact hok.1
 clear hok
 obtain ⟨m, hm⟩ : ∃ m, a.length = m := ⟨_, rfl⟩
 obtain ⟨k, hk⟩ : ∃ m, b.length = m := ⟨_, rfl⟩
 rw [hm] at hma
 refine snd_of [] Try.func31 rfl (by kernel_rfl) Try.ntmps31 (by simp) ?_
 unfold Try.f31
 simp only [List.cons_append, List.nil_append, List.length_cons, List.length_nil, Nat.reduceAdd, Nat.reduceSub, List.replicate]
 apply Run.seq
 refine opsF oo13 fun K hK => ?_
 try simp
 repeat' first | (refine evL_c ?_; simp [hm, hk]) | (with_reducible first | apply aI | intro _ | assumption) | omega
 all_goals (apply Fin.go hK; clear hK K)
 simp only [tN]
 apply Run.seq
 apply Run.seq
 refine opsF [oM 0 7, oN 28 7 8, oM 1 9, oN 28 9 10, oB .neq 3 8 10 3 11] fun K hK => ?_
 try simp
 repeat' first | (refine evL_c ?_; simp [hm, hk]) | (with_reducible first | apply aI | intro _ | assumption) | omega
 all_goals (apply Fin.go hK; clear hK K)
 simp only [tN]
 refine Run.cond rfl (fun h11 => ?_) (fun h11 => ?_)
 ·try simp at h11
  apply Run.seq
  refine opsF oo13 fun K hK => ?_
  try simp
  repeat' first | (refine evL_c ?_; simp [hm, hk]) | (with_reducible first | apply aI | intro _ | assumption) | omega
  all_goals (apply Fin.go hK; clear hK K)
  simp only [tN]
  apply Run.ret
  try simp only [Then_ret, Blok_ret]
  first
   | (rw [eqTs_len (by omega)]; simp; done)
   | (rw [hz, eqTs_step (by omega) (by omega), hsb]; simp; done)
   | (rw [hz, show a.drop i = [] from List.drop_of_length_le (by omega), show b.drop i = [] from List.drop_of_length_le (by omega), eqTs]; simp; done)
 ·try simp at h11
  have hkm : k = m := by omega
  subst hkm
  apply Run.skip
  simp only [tN]
  apply Run.seq
  apply Run.seq
  refine opsF oo71 fun K hK => ?_
  try simp
  repeat' first | (refine evL_c ?_; simp [hm, hk]) | (with_reducible first | apply aI | intro _ | assumption) | omega
  all_goals (apply Fin.go hK; clear hK K)
  simp only [tN]
  apply Run.block
  refine Run.loopO [4, 5, 6, 12, 13, 14, 15, 16, 17, 18, 19, 20, 21, 22, 23, 24, 25, 26, 27, 28] (fun (i : Nat) => [(5, .int i)]) (fun (i : Nat) => []) (fun (i : Nat) => i ≤ k ∧ eqTs a b = eqTs (a.drop i) (b.drop i)) (fun (i : Nat) => k - i) 0 ⟨by omega, rfl⟩ (by simp) fun i ⟨hi, hz⟩ => ?_
  simp only [over, List.foldl, List.set]
  apply Run.seq
  apply Run.seq
  refine opsF [oM 5 12, oM 0 13, oN 28 13 14, oB .lss 3 12 14 3 15] fun K hK => ?_
  try simp
  repeat' first | (refine evL_c ?_; simp [hm, hk]) | (with_reducible first | apply aI | intro _ | assumption) | omega
  all_goals (apply Fin.go hK; clear hK K)
  simp only [tN]
  refine Run.cond rfl (fun h15 => ?_) (fun h15 => ?_)
  ·try simp at h15
   have hi1 : i < k := by omega
   have hT := hp i (by omega) (by omega)
   rw [encT_cells, encT_cells] at hT
   obtain ⟨sb, hsb⟩ : ∃ x, eqT (rdI a i) (rdI b i) = x := ⟨_, rfl⟩
   rw [hsb] at hT
   apply Run.skip
   simp only [tN]
   apply Run.seq
   apply Run.block
   apply Run.seq
   refine opsF [oM 0 18, oM 5 19, oI 28 18 19 20, oL 89 20 21, oM 1 22, oM 5 23, oI 28 22 23 24, oL 89 24 25, oC 50 #[.tmp 21, .tmp 25] #[89, 89] 26, oA 26 6] fun K hK => ?_
   try simp
   repeat' first | (refine ecallD (by exact hT) ?_) | (refine evL_c ?_; simp [hm, hk, hi1]) | (with_reducible first | apply aI | intro _ | assumption) | omega
   all_goals (apply Fin.go hK; clear hK K)
   simp only [tN]
   apply Run.seq
   refine opsF [oM 6 27, ⟨.unOp .not 4 (.tmp 27), some 28, none⟩] fun K hK => ?_
   try simp
   repeat' first | (refine evL_c ?_; simp [hm, hk, hi1]) | (with_reducible first | apply aI | intro _ | assumption) | omega
   all_goals (apply Fin.go hK; clear hK K)
   simp only [tN]
   refine Run.cond rfl (fun h28 => ?_) (fun h28 => ?_)
   ·try simp at h28
    subst h28
    apply Run.seq
    refine opsF oo13 fun K hK => ?_
    try simp
    repeat' first | (refine evL_c ?_; simp [hm, hk, hi1]) | (with_reducible first | apply aI | intro _ | assumption) | omega
    all_goals (apply Fin.go hK; clear hK K)
    simp only [tN]
    apply Run.ret
    try simp only [Then_ret, Blok_ret]
    first
     | (rw [eqTs_len (by omega)]; simp; done)
     | (rw [hz, eqTs_step (by omega) (by omega), hsb]; simp; done)
     | (rw [hz, show a.drop i = [] from List.drop_of_length_le (by omega), show b.drop i = [] from List.drop_of_length_le (by omega), eqTs]; simp; done)
   ·try simp at h28
    subst h28
    apply Run.skip
    simp only [Blok_normal]
    simp only [tN]
    refine opsF [oM 5 16, oK .add 3 16 1 3 17, oA 17 5] fun K hK => ?_
    try simp
    repeat' first | (refine evL_c ?_; simp [hm, hk, hi1]) | (with_reducible first | apply aI | intro _ | assumption) | omega
    all_goals (apply Fin.go hK; clear hK K)
    refine ⟨i + 1, ⟨by omega, by rw [hz, eqTs_step (by omega) (by omega), hsb]; rfl⟩, by omega, ?_⟩
    simp (disch := omega) [wrap_id]
  ·try simp at h15
   refine Run.exit ?_
   simp (decide := true) only [Then_exit, Blok_exit, if_true, if_false]
   simp only [tN]
   apply Run.seq
   refine opsF oo55 fun K hK => ?_
   try simp
   repeat' first | (refine evL_c ?_; simp [hm, hk]) | (with_reducible first | apply aI | intro _ | assumption) | omega
   all_goals (apply Fin.go hK; clear hK K)
   simp only [tN]
   apply Run.ret
   try simp only [Then_ret, Blok_ret]
   first
    | (rw [eqTs_len (by omega)]; simp; done)
    | (rw [hz, eqTs_step (by omega) (by omega), hsb]; simp; done)
    | (rw [hz, show a.drop i = [] from List.drop_of_length_le (by omega), show b.drop i = [] from List.drop_of_length_le (by omega), eqTs]; simp; done)
set_option maxHeartbeats 8000000 in
theorem reqT1_ok (a b : TermT) (IH : Snd P 31 [.d (.sl false (a.kids.map encT)), .d (.sl false (b.kids.map encT))] (.bool (eqTs a.kids b.kids)) []) : Snd P 50 [.d (.ag (encT a)), .d (.ag (encT b))] (.bool (eqT a b)) [] := by
 obtain ⟨e1, he1⟩ : ∃ x, decide (a.op = b.op) = x := ⟨_, rfl⟩
 obtain ⟨e2, he2⟩ : ∃ x, decide (a.slot = b.slot) = x := ⟨_, rfl⟩
 obtain ⟨e3, he3⟩ : ∃ x, decide (a.prop.toList = b.prop.toList) = x := ⟨_, rfl⟩
 obtain ⟨e4, he4⟩ : ∃ x, eqV a.val b.val = x := ⟨_, rfl⟩
 obtain ⟨e5, he5⟩ : ∃ x, eqTs a.kids b.kids = x := ⟨_, rfl⟩
 obtain ⟨r, hr⟩ : ∃ x, eqT a b = x := ⟨_, rfl⟩
 have hv := hr
 rw [eqT_eq, he1, he2, he3, he4, he5] at hv
 rw [hr]
 rw [he5] at IH
 have hV := reqV_ok a.val b.val
 rw [he4] at hV
 simp only [encV] at hV
 refine snd_of [] Try.func50 rfl (by kernel_rfl) Try.ntmps50 (by simp) ?_
 unfold Try.f50
 simp only [List.cons_append, List.nil_append, List.length_cons, List.length_nil, Nat.reduceAdd, Nat.reduceSub, List.replicate]
 apply Run.seq
 refine opsF [⟨.box 89 (.tmp 0), some 2, none⟩, ⟨.box 89 (.tmp 1), some 3, none⟩, ⟨.assign (.const (.bool false)), some 4, none⟩] fun K hK => ?_
 try simp
 repeat' first | (refine evL_c ?_; simp [binS, he1, he2, he3]) | (with_reducible first | apply aI | intro _ | assumption) | omega
 all_goals (apply Fin.go hK; clear hK K)
 simp only [tN]
 apply Run.seq
 refine opsF [oF 89 2 4 6, oL 87 6 7, oF 89 3 4 8, oL 87 8 9, oC 86 #[.tmp 7, .tmp 9] #[87, 87] 10, oA 10 5] fun K hK => ?_
 try simp
 repeat' first | (refine ecallD (by exact hV) ?_) | (refine evL_c ?_; simp [binS, he1, he2, he3]) | (with_reducible first | apply aI | intro _ | assumption) | omega
 all_goals (apply Fin.go hK; clear hK K)
 simp only [tN]
 apply Run.seq
 refine opsF [oM 5 11, oM 11 12, ⟨.fieldAddr 89 (.tmp 2) 0, some 13, some (some 12, true)⟩, ⟨.load 84 (.tmp 13), some 14, some (some 12, true)⟩, ⟨.fieldAddr 89 (.tmp 3) 0, some 15, some (some 12, true)⟩, ⟨.load 84 (.tmp 15), some 16, some (some 12, true)⟩, ⟨.binOp .eql 84 (.tmp 14) (.tmp 16) 84, some 17, some (some 12, true)⟩, ⟨.pick (.tmp 12) (.tmp 17) (.const (.bool false)), some 18, none⟩, oM 18 19, ⟨.fieldAddr 89 (.tmp 2) 2, some 20, some (some 19, true)⟩, ⟨.load 3 (.tmp 20), some 21, some (some 19, true)⟩, ⟨.fieldAddr 89 (.tmp 3) 2, some 22, some (some 19, true)⟩, ⟨.load 3 (.tmp 22), some 23, some (some 19, true)⟩, ⟨.binOp .eql 3 (.tmp 21) (.tmp 23) 3, some 24, some (some 19, true)⟩, ⟨.pick (.tmp 19) (.tmp 24) (.const (.bool false)), some 25, none⟩, oM 25 26, ⟨.fieldAddr 89 (.tmp 2) 3, some 27, some (some 26, true)⟩, ⟨.load 9 (.tmp 27), some 28, some (some 26, true)⟩, ⟨.fieldAddr 89 (.tmp 3) 3, some 29, some (some 26, true)⟩, ⟨.load 9 (.tmp 29), some 30, some (some 26, true)⟩, ⟨.binOp .eql 9 (.tmp 28) (.tmp 30) 9, some 31, some (some 26, true)⟩, ⟨.pick (.tmp 26) (.tmp 31) (.const (.bool false)), some 32, none⟩, oM 32 33, ⟨.fieldAddr 89 (.tmp 2) 1, some 34, some (some 33, true)⟩, ⟨.load 28 (.tmp 34), some 35, some (some 33, true)⟩, ⟨.fieldAddr 89 (.tmp 3) 1, some 36, some (some 33, true)⟩, ⟨.load 28 (.tmp 36), some 37, some (some 33, true)⟩, ⟨.call { callee := .value (.func 31), args := #[.tmp 35, .tmp 37], argTypes := #[28, 28] }, some 38, some (some 33, true)⟩, ⟨.pick (.tmp 33) (.tmp 38) (.const (.bool false)), some 39, none⟩, oA 39 4] fun K hK => ?_
 try simp
 repeat' first | (refine ecallD (by exact IH) ?_) | ((first | refine evL_c ?_ | (refine evL_g rfl ?_; try simp only [gs_tt, gs_ff, gs_tf, gs_ft]) | refine evL_u rfl ?_ | (with_reducible refine gsplit (fun hg => ?_) (fun hg => ?_) <;> try simp at hg)) <;> try simp [binS, he1, he2, he3]) | (with_reducible first | apply aI | intro _ | assumption) | omega
 all_goals (apply Fin.go hK; clear hK K)
 all_goals
  simp only [tN]
  apply Run.ret
  try simp only [Then_ret, Blok_ret]
  first
   | (simp_all; done)
   | (cases e1 <;> cases e2 <;> cases e3 <;> cases e4 <;> simp_all; done)
theorem reqT_ok (a b : TermT) : Snd P 50 [.d (.ag (encT a)), .d (.ag (encT b))] (.bool (eqT a b)) [] :=
 reqT1_ok a b (reqTs1_ok false false a.kids b.kids fun i h1 h2 =>
  have := kidT_lt (rdI_mem (l := a.kids) (i := i) (by omega) (by omega))
  reqT_ok (rdI a.kids i) (rdI b.kids i))
termination_by SizeOf.sizeOf a
theorem reqTs_ok (na nb : Bool) (a b : List TermT) : Snd P 31 [.d (.sl na (a.map encT)), .d (.sl nb (b.map encT))] (.bool (eqTs a b)) [] := reqTs1_ok na nb a b fun i _ _ => reqT_ok _ _
end Go.Proofs.Ytimgbdkgjfbhkaa.Z
end
section
/- Plans that are alike; terms that are all safe. -/
namespace Go.Proofs.Ytimgbdkgjfbhkaa.Z
open Go Go.Fw
theorem eqIs_refl (l : List Int) : eqIs l l = true := by
 induction l with
 | nil => rfl
 | cons x r ih => rw [eqIs, ih]; simp
theorem eqV_refl (v : ValT) : eqV v v = true := by simp [eqV, eqIs_refl]
theorem kids_ltP {p q : PlanT} (h : q ∈ p.kids) : SizeOf.sizeOf q < SizeOf.sizeOf p := by
 cases p with
 | mk o k s e b t =>
   have := List.sizeOf_lt_of_mem (show q ∈ k from h)
   simp only [PlanT.mk.sizeOf_spec]
   omega
mutual
theorem eqT_refl : ∀ t : TermT, eqT t t = true
 | .mk o k s n v => by
   rw [eqT]
   simp [TermT.op, TermT.slot, TermT.prop, TermT.val, TermT.kids, eqV_refl, eqTs_refl k]
theorem eqTs_refl : ∀ l : List TermT, eqTs l l = true
 | [] => by rw [eqTs]
 | t :: r => by rw [eqTs, eqT_refl t, eqTs_refl r]; rfl
end
set_option maxHeartbeats 8000000 in
theorem samePP1_ok (p : PlanT) (IH : ∀ i : Nat, i < p.kids.length → Snd P 15 [.d (.ag (encP (rdI p.kids i))), .d (.ag (encP (rdI p.kids i)))] (.bool true) []) : Snd P 15 [.d (.ag (encP p)), .d (.ag (encP p))] (.bool true) [] := by
 refine Snd.ok 0 rfl (by kernel_rfl) fun hok => ?_
 obtain ⟨hkm, hem, -⟩ := encP_ok hok
 clear hok
 have hT := reqTs_ok false false p.terms p.terms
 rw [eqTs_refl] at hT
 obtain ⟨k, hk⟩ : ∃ m, p.kids.length = m := ⟨_, rfl⟩
 obtain ⟨e, he⟩ : ∃ m, p.edges.length = m := ⟨_, rfl⟩
 rw [hk] at hkm
 rw [he] at hem
 refine snd_of [] Try.func15 rfl (by kernel_rfl) Try.ntmps15 (by simp) ?_
 unfold Try.f15
 simp only [List.cons_append, List.nil_append, List.length_cons, List.length_nil, Nat.reduceAdd, Nat.reduceSub, List.replicate]
 apply Run.seq
 refine opsF [⟨.box 48 (.tmp 0), some 2, none⟩, ⟨.box 48 (.tmp 1), some 3, none⟩, ⟨.assign (.const (.bool false)), some 4, none⟩] fun K hK => ?_
 try simp
 repeat' first | (refine evL_c ?_; simp [hk, he]) | (with_reducible first | apply aI | intro _ | assumption) | omega
 all_goals (apply Fin.go hK; clear hK K)
 simp only [tN]
 apply Run.seq
 refine opsF [oF 48 2 5 9, oL 28 9 10, oF 48 3 5 11, oL 28 11 12, oC 31 #[.tmp 10, .tmp 12] #[28, 28] 13, oA 13 5] fun K hK => ?_
 try simp
 repeat' first | (refine ecallD (by exact hT) ?_) | (refine evL_c ?_; simp [hk, he]) | (with_reducible first | apply aI | intro _ | assumption) | omega
 all_goals (apply Fin.go hK; clear hK K)
 simp only [tN]
 apply Run.seq
 apply Run.seq
 refine opsF [oM 5 14, ⟨.unOp .not 4 (.tmp 14), some 15, none⟩, oM 15 16, ⟨.fieldAddr 48 (.tmp 2) 0, some 17, some (some 16, false)⟩, ⟨.load 44 (.tmp 17), some 18, some (some 16, false)⟩, ⟨.fieldAddr 48 (.tmp 3) 0, some 19, some (some 16, false)⟩, ⟨.load 44 (.tmp 19), some 20, some (some 16, false)⟩, ⟨.binOp .neq 44 (.tmp 18) (.tmp 20) 44, some 21, some (some 16, false)⟩, ⟨.pick (.tmp 16) (.const (.bool true)) (.tmp 21), some 22, none⟩, oM 22 23, ⟨.fieldAddr 48 (.tmp 2) 1, some 24, some (some 23, false)⟩, ⟨.load 45 (.tmp 24), some 25, some (some 23, false)⟩, ⟨.call { callee := .builtin .len, args := #[.tmp 25], argTypes := #[45] }, some 26, some (some 23, false)⟩, ⟨.fieldAddr 48 (.tmp 3) 1, some 27, some (some 23, false)⟩, ⟨.load 45 (.tmp 27), some 28, some (some 23, false)⟩, ⟨.call { callee := .builtin .len, args := #[.tmp 28], argTypes := #[45] }, some 29, some (some 23, false)⟩, ⟨.binOp .neq 3 (.tmp 26) (.tmp 29) 3, some 30, some (some 23, false)⟩, ⟨.pick (.tmp 23) (.const (.bool true)) (.tmp 30), some 31, none⟩, oM 31 32, ⟨.fieldAddr 48 (.tmp 2) 2, some 33, some (some 32, false)⟩, ⟨.load 3 (.tmp 33), some 34, some (some 32, false)⟩, ⟨.fieldAddr 48 (.tmp 3) 2, some 35, some (some 32, false)⟩, ⟨.load 3 (.tmp 35), some 36, some (some 32, false)⟩, ⟨.binOp .neq 3 (.tmp 34) (.tmp 36) 3, some 37, some (some 32, false)⟩, ⟨.pick (.tmp 32) (.const (.bool true)) (.tmp 37), some 38, none⟩, oM 38 39, ⟨.fieldAddr 48 (.tmp 2) 4, some 40, some (some 39, false)⟩, ⟨.load 4 (.tmp 40), some 41, some (some 39, false)⟩, ⟨.fieldAddr 48 (.tmp 3) 4, some 42, some (some 39, false)⟩, ⟨.load 4 (.tmp 42), some 43, some (some 39, false)⟩, ⟨.binOp .neq 4 (.tmp 41) (.tmp 43) 4, some 44, some (some 39, false)⟩, ⟨.pick (.tmp 39) (.const (.bool true)) (.tmp 44), some 45, none⟩, oM 45 46, ⟨.fieldAddr 48 (.tmp 2) 3, some 47, some (some 46, false)⟩, ⟨.load 46 (.tmp 47), some 48, some (some 46, false)⟩, ⟨.call { callee := .builtin .len, args := #[.tmp 48], argTypes := #[46] }, some 49, some (some 46, false)⟩, ⟨.fieldAddr 48 (.tmp 3) 3, some 50, some (some 46, false)⟩, ⟨.load 46 (.tmp 50), some 51, some (some 46, false)⟩, ⟨.call { callee := .builtin .len, args := #[.tmp 51], argTypes := #[46] }, some 52, some (some 46, false)⟩, ⟨.binOp .neq 3 (.tmp 49) (.tmp 52) 3, some 53, some (some 46, false)⟩, ⟨.pick (.tmp 46) (.const (.bool true)) (.tmp 53), some 54, none⟩] fun K hK => ?_
 try simp
 repeat' first | ((first | refine evL_c ?_ | (refine evL_g rfl ?_; try simp only [gs_tt, gs_ff, gs_tf, gs_ft]) | refine evL_u rfl ?_ | (with_reducible refine gsplit (fun hg => ?_) (fun hg => ?_) <;> try simp at hg)) <;> try simp [hk, he]) | (with_reducible first | apply aI | intro _ | assumption) | omega
 all_goals (apply Fin.go hK; clear hK K)
 all_goals
  simp only [tN]
  refine Run.cond rfl (fun h54 => ?_) (fun h54 => ?_)
  ·simp at h54
  ·skip
   apply Run.skip
   simp only [tN]
   apply Run.seq
   apply Run.seq
   refine opsF oo79 fun K hK => ?_
   try simp
   repeat' first | (refine evL_c ?_; simp [hk, he]) | (with_reducible first | apply aI | intro _ | assumption) | omega
   all_goals (apply Fin.go hK; clear hK K)
   simp only [tN]
   apply Run.block
   refine Run.loopO [4, 6, 55, 56, 57, 58, 59, 60, 61, 62, 63, 64, 65, 66, 67, 68, 69, 70, 71, 72] (fun (i : Nat) => [(6, .int i)]) (fun (i : Nat) => [(300, .vals ((encP p).map .d)), (400, .vals ((encP p).map .d))]) (fun (i : Nat) => i ≤ e) (fun (i : Nat) => e - i) 0 (by omega) (by simp) fun i hi => ?_
   simp only [over, List.foldl, List.set]
   apply Run.seq
   apply Run.seq
   refine opsF [oM 6 55, oF 48 2 3 56, oL 46 56 57, oN 46 57 58, oB .lss 3 55 58 3 59] fun K hK => ?_
   try simp
   repeat' first | (refine evL_c ?_; simp [hk, he]) | (with_reducible first | apply aI | intro _ | assumption) | omega
   all_goals (apply Fin.go hK; clear hK K)
   simp only [tN]
   refine Run.cond rfl (fun h59 => ?_) (fun h59 => ?_)
   ·try simp at h59
    have hi1 : i < e := by omega
    apply Run.skip
    simp only [tN]
    apply Run.seq
    apply Run.block
    apply Run.seq
    refine opsF [oF 48 2 3 62, oL 46 62 63, oM 6 64, oI 46 63 64 65, oL 3 65 66, oF 48 3 3 67, oL 46 67 68, oM 6 69, oI 46 68 69 70, oL 3 70 71, oB .neq 3 66 71 3 72] fun K hK => ?_
    try simp
    repeat' first | (refine evL_c ?_; simp [hk, he, hi1]) | (with_reducible first | apply aI | intro _ | assumption) | omega
    all_goals (apply Fin.go hK; clear hK K)
    simp only [tN]
    refine Run.cond rfl (fun h72 => ?_) (fun h72 => ?_)
    ·simp at h72
    ·skip
     apply Run.skip
     simp only [Blok_normal]
     simp only [tN]
     refine opsF [oM 6 60, oK .add 3 60 1 3 61, oA 61 6] fun K hK => ?_
     try simp
     repeat' first | (refine evL_c ?_; simp [hk, he, hi1]) | (with_reducible first | apply aI | intro _ | assumption) | omega
     all_goals (apply Fin.go hK; clear hK K)
     refine ⟨i + 1, by omega, by omega, ?_⟩
     simp (disch := omega) [wrap_id]
   ·try simp at h59
    refine Run.exit ?_
    simp (decide := true) only [Then_exit, Blok_exit, if_true, if_false]
    simp only [tN]
    apply Run.seq
    apply Run.seq
    refine opsF oo80 fun K hK => ?_
    try simp
    repeat' first | (refine evL_c ?_; simp [hk, he]) | (with_reducible first | apply aI | intro _ | assumption) | omega
    all_goals (apply Fin.go hK; clear hK K)
    simp only [tN]
    apply Run.block
    refine Run.loopO [4, 7, 8, 73, 74, 75, 76, 77, 78, 79, 80, 81, 82, 83, 84, 85, 86, 87, 88, 89, 90, 91, 92] (fun (j : Nat) => [(7, .int j)]) (fun (j : Nat) => [(300, .vals ((encP p).map .d)), (400, .vals ((encP p).map .d))]) (fun (j : Nat) => j ≤ k) (fun (j : Nat) => k - j) 0 (by omega) (by simp) fun j hj => ?_
    simp only [over, List.foldl, List.set]
    apply Run.seq
    apply Run.seq
    refine opsF [oM 7 73, oF 48 2 1 74, oL 45 74 75, oN 45 75 76, oB .lss 3 73 76 3 77] fun K hK => ?_
    try simp
    repeat' first | (refine evL_c ?_; simp [hk, he]) | (with_reducible first | apply aI | intro _ | assumption) | omega
    all_goals (apply Fin.go hK; clear hK K)
    simp only [tN]
    refine Run.cond rfl (fun h77 => ?_) (fun h77 => ?_)
    ·try simp at h77
     have hj1 : j < k := by omega
     have hI := IH j (by omega)
     rw [encP_cells] at hI
     apply Run.skip
     simp only [tN]
     apply Run.seq
     apply Run.block
     apply Run.seq
     refine opsF [oF 48 2 1 80, oL 45 80 81, oM 7 82, oI 45 81 82 83, oL 48 83 84, oF 48 3 1 85, oL 45 85 86, oM 7 87, oI 45 86 87 88, oL 48 88 89, oC 15 #[.tmp 84, .tmp 89] #[48, 48] 90, oA 90 8] fun K hK => ?_
     try simp
     repeat' first | (refine ecallD (by exact hI) ?_) | (refine evL_c ?_; simp [hk, he, hj1]) | (with_reducible first | apply aI | intro _ | assumption) | omega
     all_goals (apply Fin.go hK; clear hK K)
     simp only [tN]
     apply Run.seq
     refine opsF [oM 8 91, ⟨.unOp .not 4 (.tmp 91), some 92, none⟩] fun K hK => ?_
     try simp
     repeat' first | (refine evL_c ?_; simp [hk, he, hj1]) | (with_reducible first | apply aI | intro _ | assumption) | omega
     all_goals (apply Fin.go hK; clear hK K)
     simp only [tN]
     refine Run.cond rfl (fun h92 => ?_) (fun h92 => ?_)
     ·simp at h92
     ·skip
      apply Run.skip
      simp only [Blok_normal]
      simp only [tN]
      refine opsF [oM 7 78, oK .add 3 78 1 3 79, oA 79 7] fun K hK => ?_
      try simp
      repeat' first | (refine evL_c ?_; simp [hk, he, hj1]) | (with_reducible first | apply aI | intro _ | assumption) | omega
      all_goals (apply Fin.go hK; clear hK K)
      refine ⟨j + 1, by omega, by omega, ?_⟩
      simp (disch := omega) [wrap_id]
    ·try simp at h77
     refine Run.exit ?_
     simp (decide := true) only [Then_exit, Blok_exit, if_true, if_false]
     simp only [tN]
     apply Run.seq
     refine opsF oo55 fun K hK => ?_
     try simp
     repeat' first | (refine evL_c ?_; simp [hk, he]) | (with_reducible first | apply aI | intro _ | assumption) | omega
     all_goals (apply Fin.go hK; clear hK K)
     simp only [tN]
     apply Run.ret
     try simp only [Then_ret, Blok_ret]
     simp
theorem samePP_ok (p : PlanT) : Snd P 15 [.d (.ag (encP p)), .d (.ag (encP p))] (.bool true) [] :=
 samePP1_ok p fun i hi =>
  have := kids_ltP (p := p) (rdI_mem (l := p.kids) (i := i) (by omega) (by omega))
  samePP_ok (rdI p.kids i)
termination_by SizeOf.sizeOf p
end Go.Proofs.Ytimgbdkgjfbhkaa.Z
end
section
namespace Go.Proofs.Ytimgbdkgjfbhkaa.Z
open Go Go.Fw
attribute [-simp] litV lost
attribute [local simp] litV_agg litV_int litV_str litV_bool litV_slice litV_tup
set_option maxHeartbeats 8000000 in
theorem looks0_ok (c : CoreT) (r : ProgR) (W : Int) (h : 300 < W) (hW : Snd P 10 [.d (.ag (encPr r)), .int 300] (.int W) []) : Snd P 4 [.d (.ag (encPr r)), .d (.ag (encC c))] (.bool true) [] := by
 refine snd_of [] Try.func4 rfl (by kernel_rfl) Try.ntmps4 (by simp) ?_
 unfold Try.f4
 simp only [List.cons_append, List.nil_append, List.length_cons, List.length_nil, Nat.reduceAdd, Nat.reduceSub, List.replicate]
 apply Run.seq
 refine opsF oo135 fun K hK => ?_
 try simp
 repeat' first | (refine evL_c ?_; simp [h]) | (with_reducible first | apply aI | intro _ | assumption) | omega
 all_goals (apply Fin.go hK; clear hK K)
 simp only [tN]
 apply Run.seq
 refine opsF oo136 fun K hK => ?_
 try simp
 repeat' first | (refine ecallD (by exact head_ok) ?_) | (refine evL_c ?_; simp [h]) | (with_reducible first | apply aI | intro _ | assumption) | omega
 all_goals (apply Fin.go hK; clear hK K)
 simp only [tN]
 apply Run.seq
 apply Run.seq
 refine opsF oo137 fun K hK => ?_
 try simp
 repeat' first | (refine ecallD (by exact hW) ?_) | (refine evL_c ?_; simp [h]) | (with_reducible first | apply aI | intro _ | assumption) | omega
 all_goals (apply Fin.go hK; clear hK K)
 simp only [tN]
 refine Run.cond rfl (fun h20 => ?_) (fun h20 => ?_)
 ·skip
  apply Run.seq
  refine opsF [oM 5 21, oA 21 4] fun K hK => ?_
  try simp
  repeat' first | (refine evL_c ?_; simp [h]) | (with_reducible first | apply aI | intro _ | assumption) | omega
  all_goals (apply Fin.go hK; clear hK K)
  simp only [tN]
  apply Run.ret
  try simp only [Then_ret, Blok_ret]
  simp
 ·simp at h20
set_option maxHeartbeats 8000000 in
theorem looks1_ok (c : CoreT) (r : ProgR) (W : Int) (h : ¬ 300 < W) (hW : Snd P 10 [.d (.ag (encPr r)), .int 300] (.int W) []) (d : D) (a e g : Int) (q : PlanT)
 (h9 : Snd P 9 [.d (.ag (encPr r)), .d (.ag (encC c))] (.tup [.d d, .int a, .int e]) []) (h11 : Snd P 11 [.d (.ag (encPr r)), .d (.ag (encC c))] (.tup [.d d, .int a, .int e]) []) (h12 : Snd P 12 [.d d, .d d] (.bool true) [])
 (h13 : Snd P 13 [.d (.ag (encPr r)), .d (.ag (encC c))] (.tup [.d (.ag (encP q)), .int g]) []) (h14 : Snd P 14 [.d (.ag (encPr r)), .d (.ag (encC c))] (.tup [.d (.ag (encP q)), .int g]) []) (h15 : Snd P 15 [.d (.ag (encP q)), .d (.ag (encP q))] (.bool true) []) : Snd P 4 [.d (.ag (encPr r)), .d (.ag (encC c))] (.bool true) [] := by
 rw [encP_cells] at h13 h14 h15
 refine snd_of [] Try.func4 rfl (by kernel_rfl) Try.ntmps4 (by simp) ?_
 unfold Try.f4
 simp only [List.cons_append, List.nil_append, List.length_cons, List.length_nil, Nat.reduceAdd, Nat.reduceSub, List.replicate]
 apply Run.seq
 refine opsF oo135 fun K hK => ?_
 try simp
 repeat' first | (refine evL_c ?_; simp [h]) | (with_reducible first | apply aI | intro _ | assumption) | omega
 all_goals (apply Fin.go hK; clear hK K)
 simp only [tN]
 apply Run.seq
 refine opsF oo136 fun K hK => ?_
 try simp
 repeat' first | (refine ecallD (by exact head_ok) ?_) | (refine evL_c ?_; simp [h]) | (with_reducible first | apply aI | intro _ | assumption) | omega
 all_goals (apply Fin.go hK; clear hK K)
 simp only [tN]
 apply Run.seq
 apply Run.seq
 refine opsF oo137 fun K hK => ?_
 try simp
 repeat' first | (refine ecallD (by exact hW) ?_) | (refine evL_c ?_; simp [h]) | (with_reducible first | apply aI | intro _ | assumption) | omega
 all_goals (apply Fin.go hK; clear hK K)
 simp only [tN]
 refine Run.cond rfl (fun h20 => ?_) (fun h20 => ?_)
 ·simp at h20
 ·skip
  apply Run.skip
  simp only [tN]
  apply Run.seq
  refine opsF [oL 25 2 23, oL 32 3 24, oC 9 #[.tmp 23, .tmp 24] #[25, 32] 25, oM 25 22, oX 22 0 26, oX 22 1 27, oX 22 2 28, oA 26 6, oA 27 7, oA 28 8] fun K hK => ?_
  try simp
  repeat' first | (refine ecall (by exact h9) rfl ?_) | (refine evL_c ?_; simp [h]) | (with_reducible first | apply aI | intro _ | assumption) | omega
  all_goals (apply Fin.go hK; clear hK K)
  simp only [tN]
  apply Run.seq
  refine opsF [oL 25 2 30, oL 32 3 31, oC 11 #[.tmp 30, .tmp 31] #[25, 32] 32, oM 32 29, oX 29 0 33, oX 29 1 34, oX 29 2 35, oA 33 9, oA 34 10, oA 35 11] fun K hK => ?_
  try simp
  repeat' first | (refine ecall (by exact h11) rfl ?_) | (refine evL_c ?_; simp [h]) | (with_reducible first | apply aI | intro _ | assumption) | omega
  all_goals (apply Fin.go hK; clear hK K)
  simp only [tN]
  apply Run.seq
  refine opsF [oM 6 36, oM 9 37, oC 12 #[.tmp 36, .tmp 37] #[34, 34] 38, oA 38 12] fun K hK => ?_
  try simp
  repeat' first | (refine ecallD (by exact h12) ?_) | (refine evL_c ?_; simp [h]) | (with_reducible first | apply aI | intro _ | assumption) | omega
  all_goals (apply Fin.go hK; clear hK K)
  simp only [tN]
  apply Run.seq
  refine opsF [oL 25 2 40, oL 32 3 41, oC 13 #[.tmp 40, .tmp 41] #[25, 32] 42, oM 42 39, oX 39 0 43, oX 39 1 44, ⟨.alloc 48, some 13, none⟩, oS 48 13 43, oA 44 14] fun K hK => ?_
  try simp
  repeat' first | (refine ecall (by exact h13) rfl ?_) | (refine evL_c ?_; simp [h]) | (with_reducible first | apply aI | intro _ | assumption) | omega
  all_goals (apply Fin.go hK; clear hK K)
  simp only [tN]
  apply Run.seq
  refine opsF [oL 25 2 46, oL 32 3 47, oC 14 #[.tmp 46, .tmp 47] #[25, 32] 48, oM 48 45, oX 45 0 49, oX 45 1 50, ⟨.alloc 48, some 15, none⟩, oS 48 15 49, oA 50 16] fun K hK => ?_
  try simp
  repeat' first | (refine ecall (by exact h14) rfl ?_) | (refine evL_c ?_; simp [h]) | (with_reducible first | apply aI | intro _ | assumption) | omega
  all_goals (apply Fin.go hK; clear hK K)
  simp only [tN]
  apply Run.seq
  refine opsF [oM 5 51, oM 51 52, ⟨.move (.tmp 12), some 53, some (some 52, true)⟩, ⟨.pick (.tmp 52) (.tmp 53) (.const (.bool false)), some 54, none⟩, oM 54 55, ⟨.move (.tmp 7), some 56, some (some 55, true)⟩, ⟨.move (.tmp 10), some 57, some (some 55, true)⟩, ⟨.binOp .eql 3 (.tmp 56) (.tmp 57) 3, some 58, some (some 55, true)⟩, ⟨.pick (.tmp 55) (.tmp 58) (.const (.bool false)), some 59, none⟩, oM 59 60, ⟨.move (.tmp 8), some 61, some (some 60, true)⟩, ⟨.move (.tmp 11), some 62, some (some 60, true)⟩, ⟨.binOp .eql 35 (.tmp 61) (.tmp 62) 35, some 63, some (some 60, true)⟩, ⟨.pick (.tmp 60) (.tmp 63) (.const (.bool false)), some 64, none⟩, oM 64 65, ⟨.move (.tmp 14), some 66, some (some 65, true)⟩, ⟨.move (.tmp 16), some 67, some (some 65, true)⟩, ⟨.binOp .eql 35 (.tmp 66) (.tmp 67) 35, some 68, some (some 65, true)⟩, ⟨.pick (.tmp 65) (.tmp 68) (.const (.bool false)), some 69, none⟩, oM 69 70, ⟨.load 48 (.tmp 13), some 71, some (some 70, true)⟩, ⟨.load 48 (.tmp 15), some 72, some (some 70, true)⟩, ⟨.call { callee := .value (.func 15), args := #[.tmp 71, .tmp 72], argTypes := #[48, 48] }, some 73, some (some 70, true)⟩, ⟨.pick (.tmp 70) (.tmp 73) (.const (.bool false)), some 74, none⟩, oA 74 4] fun K hK => ?_
  try simp
  repeat' first | (refine ecallD (by exact h15) ?_) | ((first | refine evL_c ?_ | (refine evL_g rfl ?_; try simp only [gs_tt, gs_ff, gs_tf, gs_ft]) | refine evL_u rfl ?_ | (with_reducible refine gsplit (fun hg => ?_) (fun hg => ?_) <;> try simp at hg)) <;> try simp [h]) | (with_reducible first | apply aI | intro _ | assumption) | omega
  all_goals (apply Fin.go hK; clear hK K)
  all_goals
   simp only [tN]
   apply Run.ret
   try simp only [Then_ret, Blok_ret]
   simp
theorem eqBs_self (a : List Bool) : eqBs a a = true := (eqBs_iff a a).2 rfl
theorem same_self (c : CoreT) (r : ProgR) : Snd P 12 [.d (checkS c r).1, .d (checkS c r).1] (.bool true) [] := by
 have key : ∀ l : List Bool, Snd P 12 [.d (.sl false (l.map encB)), .d (.sl false (l.map encB))] (.bool true) [] := fun l => by
  have := sameBools_ok false false l l
  rw [eqBs_self] at this
  exact this
 have hn : Snd P 12 [.d (.lit (.slice none 0 0)), .d (.lit (.slice none 0 0))] (.bool true) [] := snd_sub (key []) ⟨DSub.nil, DSub.nil, trivial⟩
 unfold checkS
 split
 ·unfold boundD
  split
  ·cases bndT c (planS c r).1 with
   | none => exact hn
   | some b => exact key b
  ·exact hn
 ·exact hn
theorem looks_ok (c : CoreT) (r : ProgR) (hw : wP r.pipes ≤ 1100000) (ht : r.tabs.length ≤ 1100000) (hc : c.wher.length ≤ 1100000) (hT : ∀ t ∈ r.tabs, t.length ≤ 1100000) : Snd P 4 [.d (.ag (encPr r)), .d (.ag (encC c))] (.bool true) [] := by
 have hW := weight_ok r 300 (by omega) (by omega) hw ht hT
 by_cases h : 300 < weightS r 300
 ·exact looks0_ok c r _ h hW
 ·have h11 := rcheck_ok c r hw ht
  rw [check_agree] at h11
  exact looks1_ok c r _ h hW _ _ _ _ _ (check_ok c r hw ht hc) h11 (same_self c r) (Plan_ok c r hw ht hc) (rPlan_ok c r hw ht) (samePP_ok _)
end Go.Proofs.Ytimgbdkgjfbhkaa.Z
end
