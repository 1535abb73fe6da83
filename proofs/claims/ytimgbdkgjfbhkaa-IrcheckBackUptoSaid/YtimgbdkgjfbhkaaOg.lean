/- Texts of this claim, put together: Wc, Va, Vb, Uh, Wd, We, Uk, Wf. -/
import Derived.Test.YtimgbdkgjfbhkaaOf
import Derived.Test.YtimgbdkgjfbhkaaRows
import Derived.WalkKit
import Derived.ProofKit
import Derived.OpenShut
import Derived.ShutString
import Derived.ChangeOld
import Derived.Below
import Derived.Lib.SmallJoins
import Derived.Deep.Fields
import Derived.Deep.Slices
set_option linter.unusedVariables false
set_option linter.unusedSimpArgs false
set_option maxRecDepth 100000
namespace Go.Proofs.Ytimgbdkgjfbhkaa.Z
open Go Go.Fw
abbrev oo100 : List LOp := [⟨.box 48 (.tmp 0), some 1, none⟩, ⟨.alloc 48, some 2, none⟩]
abbrev oo101 : List LOp := [oF 48 1 3 18, oL 46 18 19, oF 48 3 3 20, oS 46 20 19]
abbrev oo102 : List LOp := [oF 48 1 4 21, oL 4 21 22, oF 48 3 4 23, oS 4 23 22]
abbrev oo103 : List LOp := [oM 5 15, oK .add 3 15 1 3 16, oA 16 5]
abbrev oo104 : List LOp := [⟨.assign (.const (.int .i64 0)), some 2, none⟩]
abbrev oo105 : List LOp := [⟨.box 48 (.tmp 0), some 3, none⟩, ⟨.box 25 (.tmp 1), some 4, none⟩, ⟨.box 32 (.tmp 2), some 5, none⟩, ⟨.assign (.const (.bool false)), some 6, none⟩]
abbrev oo106 : List LOp := [oC 8 #[] #[] 26, oA 26 7]
abbrev oo107 : List LOp := [oL 48 3 27, oC 16 #[.tmp 27, .const (.int .i64 300)] #[48, 3] 28, oK .gtr 3 28 300 3 29, oM 29 30, ⟨.load 25 (.tmp 4), some 31, some (some 30, false)⟩, ⟨.call { callee := .value (.func 10), args := #[.tmp 31, .const (.int .i64 300)], argTypes := #[25, 3] }, some 32, some (some 30, false)⟩, ⟨.binOp .gtr 3 (.tmp 32) (.const (.int .i64 300)) 3, some 33, some (some 30, false)⟩, ⟨.pick (.tmp 30) (.const (.bool true)) (.tmp 33), some 34, none⟩]
end Go.Proofs.Ytimgbdkgjfbhkaa.Z
section
namespace Go.Proofs.Ytimgbdkgjfbhkaa.Z
open Go Go.Fw
attribute [-simp] litV lost
attribute [local simp] litV_agg litV_int litV_str litV_bool litV_slice litV_tup
theorem bareT_at (p : PlanT) : (bareT p).op = p.op ∧ (bareT p).kids = p.kids.map bareT ∧ (bareT p).slot = (bareO p []).slot ∧ (bareT p).edges = (bareO p []).edges ∧ (bareT p).back = (bareO p []).back ∧ (bareT p).terms = (bareO p []).terms := by
 rw [bareT_eq, bareL_eq]
 refine ⟨(bareO_op p _).1, (bareO_op p _).2, ?_⟩
 unfold bareO
 repeat' split
 all_goals exact ⟨rfl, rfl, rfl, rfl⟩
theorem kids_leQ (p : PlanT) : p.kids.length ≤ partsP p := by
 have key : ∀ l : List PlanT, l.length ≤ partsL l := fun l => by
  induction l with
  | nil => simp
  | cons q r ih =>
    have : 1 ≤ partsP q := by cases q; rw [partsP]; omega
    simp only [List.length_cons, partsL]; omega
 have := key p.kids
 obtain ⟨o, k, s, e, b, t⟩ := p
 simp only [PlanT.kids] at this ⊢
 rw [partsP]; omega
set_option maxHeartbeats 8000000 in
theorem bare1_ok (p : PlanT) (hkm : p.kids.length ≤ 1100000) (IH : ∀ i : Nat, i < p.kids.length → Snd P 18 [.d (.ag (encP (rdI p.kids (i : Nat))))] (.d (.ag (encP (bareT (rdI p.kids (i : Nat)))))) []) : Snd P 18 [.d (.ag (encP p))] (.d (.ag (encP (bareT p)))) [] := by
 obtain ⟨b1, b2, b3, b4, b5, b6⟩ := bareT_at p
 obtain ⟨B, hB⟩ : ∃ z, bareT p = z := ⟨_, rfl⟩
 obtain ⟨Q, hQ⟩ : ∃ z, bareO p [] = z := ⟨_, rfl⟩
 rw [hB] at b1 b2 b3 b4 b5 b6
 rw [hQ] at b3 b4 b5 b6
 rw [hB]
 obtain ⟨Ls, hLs⟩ : ∃ z, p.kids.map (fun q => encP (bareT q)) = z := ⟨_, rfl⟩
 obtain ⟨k, hk⟩ : ∃ m, p.kids.length = m := ⟨_, rfl⟩
 rw [hk] at hkm IH
 have hLl : Ls.length = k := by rw [← hLs, List.length_map, hk]
 have hBk : B.kids.map encP = Ls := by rw [b2, List.map_map, ← hLs]; rfl
 refine snd_of [] Try.func18 rfl (by kernel_rfl) Try.ntmps18 (by simp) ?_
 unfold Try.f18
 simp only [List.cons_append, List.nil_append, List.length_cons, List.length_nil, Nat.reduceAdd, Nat.reduceSub, List.replicate]
 apply Run.seq
 refine opsF oo100 fun K hK => ?_
 try simp
 repeat' first | (refine evL_c ?_; simp [hk]) | (with_reducible refine And.intro ?_ ?_) | ((refine Nat.le_trans (Nat.mul_le_mul_right _ (show _ ≤ 1100001 by omega)) (by decide))) | intro _ | (with_reducible assumption) | omega
 all_goals (apply Fin.go hK; clear hK K)
 simp only [tN]
 apply Run.seq
 refine opsF [oF 48 1 0 5, oL 44 5 6, ⟨.build 48 #[(0, .tmp 6)], some 7, none⟩, ⟨.alloc 48, some 3, none⟩, oS 48 3 7] fun K hK => ?_
 try simp
 repeat' first | (refine evL_c ?_; simp [hk]) | (with_reducible refine And.intro ?_ ?_) | ((refine Nat.le_trans (Nat.mul_le_mul_right _ (show _ ≤ 1100001 by omega)) (by decide))) | intro _ | (with_reducible assumption) | omega
 all_goals (apply Fin.go hK; clear hK K)
 simp only [tN]
 (try (refine Run.subB 400 3 (.d (.sl false [])) rfl rfl nil_sl ?_; simp))
 (try (refine Run.subB 400 5 (.d (.sl false [])) rfl rfl nil_sl ?_; simp))
 refine Run.cut [8, 9, 10, 11, 12, 13, 14, 15, 16, 17, 18, 19, 20, 21, 22, 23, 24, 25, 26, 27, 28, 29, 30, 31, 32, 33, 34, 35, 36] [] [(200, .vals ((encP p).map .d)), (300, .vals [.int 0, vnil, .int 0, vnil, .bool false, vnil]), (400, .vals [.d (.int p.op), vnil, .d (.int Q.slot), .d (.sl false (Q.edges.map encI)), .d (.bool Q.back), .d (.sl false (Q.terms.map encT))])] ?_ ?_
 ·apply Run.seq
  refine opsF [oF 48 1 0 8, oL 44 8 9] fun K hK => ?_
  try simp
  repeat' first | (refine evL_c ?_; simp [hk]) | (with_reducible refine And.intro ?_ ?_) | ((refine Nat.le_trans (Nat.mul_le_mul_right _ (show _ ≤ 1100001 by omega)) (by decide))) | intro _ | (with_reducible assumption) | omega
  all_goals (apply Fin.go hK; clear hK K)
  simp only [tN]
  apply Run.block
  apply Run.seq
  refine opsF [oK .eql 44 9 1 44 11, oA 11 10] fun K hK => ?_
  try simp
  repeat' first | (refine evL_c ?_; simp [hk]) | (with_reducible refine And.intro ?_ ?_) | ((refine Nat.le_trans (Nat.mul_le_mul_right _ (show _ ≤ 1100001 by omega)) (by decide))) | intro _ | (with_reducible assumption) | omega
  all_goals (apply Fin.go hK; clear hK K)
  simp only [tN]
  refine Run.cond rfl (fun h10 => ?_) (fun h10 => ?_)
  ·try simp at h10
   refine opsF [oF 48 1 2 12, oL 3 12 13, oF 48 3 2 14, oS 3 14 13] fun K hK => ?_
   try simp
   repeat' first | (refine evL_c ?_; simp [hk]) | (with_reducible refine And.intro ?_ ?_) | ((refine Nat.le_trans (Nat.mul_le_mul_right _ (show _ ≤ 1100001 by omega)) (by decide))) | intro _ | (with_reducible assumption) | omega
   all_goals (apply Fin.go hK; clear hK K)
   try simp only [Blok_normal]
   subst hQ
   first
    | (simp [bareO, h10, PlanT.slot, PlanT.edges, PlanT.back, PlanT.terms]; done)
    | (simp [bareO, h15, PlanT.slot, PlanT.edges, PlanT.back, PlanT.terms]; done)
    | (simp [bareO, h15, h15b, PlanT.slot, PlanT.edges, PlanT.back, PlanT.terms]; done)
    | (simp [bareO, h10, h15, h15b, h24, PlanT.slot, PlanT.edges, PlanT.back, PlanT.terms]; done)
    | (simp [bareO, h10, h15, h15b, h24, h32, PlanT.slot, PlanT.edges, PlanT.back, PlanT.terms]; done)
  ·try simp at h10
   apply Run.seq
   apply Run.seq
   refine opsF [oK .eql 44 9 2 44 16, oA 16 15] fun K hK => ?_
   try simp
   repeat' first | (refine evL_c ?_; simp [hk]) | (with_reducible refine And.intro ?_ ?_) | ((refine Nat.le_trans (Nat.mul_le_mul_right _ (show _ ≤ 1100001 by omega)) (by decide))) | intro _ | (with_reducible assumption) | omega
   all_goals (apply Fin.go hK; clear hK K)
   simp only [tN]
   refine Run.cond rfl (fun h15 => ?_) (fun h15 => ?_)
   ·try simp at h15
    apply Run.skip
    simp only [tN]
    refine Run.cond rfl (fun h15b => ?_) (fun h15b => ?_)
    ·skip
     apply Run.seq
     refine opsF oo101 fun K hK => ?_
     try simp
     repeat' first | (refine evL_c ?_; simp [hk]) | (with_reducible refine And.intro ?_ ?_) | ((refine Nat.le_trans (Nat.mul_le_mul_right _ (show _ ≤ 1100001 by omega)) (by decide))) | intro _ | (with_reducible assumption) | omega
     all_goals (apply Fin.go hK; clear hK K)
     simp only [tN]
     refine opsF oo102 fun K hK => ?_
     try simp
     repeat' first | (refine evL_c ?_; simp [hk]) | (with_reducible refine And.intro ?_ ?_) | ((refine Nat.le_trans (Nat.mul_le_mul_right _ (show _ ≤ 1100001 by omega)) (by decide))) | intro _ | (with_reducible assumption) | omega
     all_goals (apply Fin.go hK; clear hK K)
     try simp only [Blok_normal]
     subst hQ
     first
      | (simp [bareO, h10, PlanT.slot, PlanT.edges, PlanT.back, PlanT.terms]; done)
      | (simp [bareO, h15, PlanT.slot, PlanT.edges, PlanT.back, PlanT.terms]; done)
      | (simp [bareO, h15, h15b, PlanT.slot, PlanT.edges, PlanT.back, PlanT.terms]; done)
      | (simp [bareO, h10, h15, h15b, h24, PlanT.slot, PlanT.edges, PlanT.back, PlanT.terms]; done)
      | (simp [bareO, h10, h15, h15b, h24, h32, PlanT.slot, PlanT.edges, PlanT.back, PlanT.terms]; done)
    ·simp [h15] at h15b
   ·try simp at h15
    refine opsF [oK .eql 44 9 3 44 17, oA 17 15] fun K hK => ?_
    try simp
    repeat' first | (refine evL_c ?_; simp [hk]) | (with_reducible refine And.intro ?_ ?_) | ((refine Nat.le_trans (Nat.mul_le_mul_right _ (show _ ≤ 1100001 by omega)) (by decide))) | intro _ | (with_reducible assumption) | omega
    all_goals (apply Fin.go hK; clear hK K)
    simp only [tN]
    refine Run.cond rfl (fun h15b => ?_) (fun h15b => ?_)
    ·try simp at h15b
     apply Run.seq
     refine opsF oo101 fun K hK => ?_
     try simp
     repeat' first | (refine evL_c ?_; simp [hk]) | (with_reducible refine And.intro ?_ ?_) | ((refine Nat.le_trans (Nat.mul_le_mul_right _ (show _ ≤ 1100001 by omega)) (by decide))) | intro _ | (with_reducible assumption) | omega
     all_goals (apply Fin.go hK; clear hK K)
     simp only [tN]
     refine opsF oo102 fun K hK => ?_
     try simp
     repeat' first | (refine evL_c ?_; simp [hk]) | (with_reducible refine And.intro ?_ ?_) | ((refine Nat.le_trans (Nat.mul_le_mul_right _ (show _ ≤ 1100001 by omega)) (by decide))) | intro _ | (with_reducible assumption) | omega
     all_goals (apply Fin.go hK; clear hK K)
     try simp only [Blok_normal]
     subst hQ
     first
      | (simp [bareO, h10, PlanT.slot, PlanT.edges, PlanT.back, PlanT.terms]; done)
      | (simp [bareO, h15, PlanT.slot, PlanT.edges, PlanT.back, PlanT.terms]; done)
      | (simp [bareO, h15, h15b, PlanT.slot, PlanT.edges, PlanT.back, PlanT.terms]; done)
      | (simp [bareO, h10, h15, h15b, h24, PlanT.slot, PlanT.edges, PlanT.back, PlanT.terms]; done)
      | (simp [bareO, h10, h15, h15b, h24, h32, PlanT.slot, PlanT.edges, PlanT.back, PlanT.terms]; done)
    ·try simp at h15b
     apply Run.seq
     refine opsF [oK .eql 44 9 5 44 25, oA 25 24] fun K hK => ?_
     try simp
     repeat' first | (refine evL_c ?_; simp [hk]) | (with_reducible refine And.intro ?_ ?_) | ((refine Nat.le_trans (Nat.mul_le_mul_right _ (show _ ≤ 1100001 by omega)) (by decide))) | intro _ | (with_reducible assumption) | omega
     all_goals (apply Fin.go hK; clear hK K)
     simp only [tN]
     refine Run.cond rfl (fun h24 => ?_) (fun h24 => ?_)
     ·try simp at h24
      apply Run.seq
      refine opsF [oF 48 1 2 26, oL 3 26 27, oF 48 3 2 28, oS 3 28 27] fun K hK => ?_
      try simp
      repeat' first | (refine evL_c ?_; simp [hk]) | (with_reducible refine And.intro ?_ ?_) | ((refine Nat.le_trans (Nat.mul_le_mul_right _ (show _ ≤ 1100001 by omega)) (by decide))) | intro _ | (with_reducible assumption) | omega
      all_goals (apply Fin.go hK; clear hK K)
      simp only [tN]
      refine opsF [oF 48 1 3 29, oL 46 29 30, oF 48 3 3 31, oS 46 31 30] fun K hK => ?_
      try simp
      repeat' first | (refine evL_c ?_; simp [hk]) | (with_reducible refine And.intro ?_ ?_) | ((refine Nat.le_trans (Nat.mul_le_mul_right _ (show _ ≤ 1100001 by omega)) (by decide))) | intro _ | (with_reducible assumption) | omega
      all_goals (apply Fin.go hK; clear hK K)
      try simp only [Blok_normal]
      subst hQ
      first
       | (simp [bareO, h10, PlanT.slot, PlanT.edges, PlanT.back, PlanT.terms]; done)
       | (simp [bareO, h15, PlanT.slot, PlanT.edges, PlanT.back, PlanT.terms]; done)
       | (simp [bareO, h15, h15b, PlanT.slot, PlanT.edges, PlanT.back, PlanT.terms]; done)
       | (simp [bareO, h10, h15, h15b, h24, PlanT.slot, PlanT.edges, PlanT.back, PlanT.terms]; done)
       | (simp [bareO, h10, h15, h15b, h24, h32, PlanT.slot, PlanT.edges, PlanT.back, PlanT.terms]; done)
     ·try simp at h24
      apply Run.seq
      refine opsF [oK .eql 44 9 6 44 33, oA 33 32] fun K hK => ?_
      try simp
      repeat' first | (refine evL_c ?_; simp [hk]) | (with_reducible refine And.intro ?_ ?_) | ((refine Nat.le_trans (Nat.mul_le_mul_right _ (show _ ≤ 1100001 by omega)) (by decide))) | intro _ | (with_reducible assumption) | omega
      all_goals (apply Fin.go hK; clear hK K)
      simp only [tN]
      refine Run.cond rfl (fun h32 => ?_) (fun h32 => ?_)
      ·try simp at h32
       refine opsF [oF 48 1 5 34, oL 28 34 35, oF 48 3 5 36, oS 28 36 35] fun K hK => ?_
       try simp
       repeat' first | (refine evL_c ?_; simp [hk]) | (with_reducible refine And.intro ?_ ?_) | ((refine Nat.le_trans (Nat.mul_le_mul_right _ (show _ ≤ 1100001 by omega)) (by decide))) | intro _ | (with_reducible assumption) | omega
       all_goals (apply Fin.go hK; clear hK K)
       try simp only [Blok_normal]
       subst hQ
       first
        | (simp [bareO, h10, PlanT.slot, PlanT.edges, PlanT.back, PlanT.terms]; done)
        | (simp [bareO, h15, PlanT.slot, PlanT.edges, PlanT.back, PlanT.terms]; done)
        | (simp [bareO, h15, h15b, PlanT.slot, PlanT.edges, PlanT.back, PlanT.terms]; done)
        | (simp [bareO, h10, h15, h15b, h24, PlanT.slot, PlanT.edges, PlanT.back, PlanT.terms]; done)
        | (simp [bareO, h10, h15, h15b, h24, h32, PlanT.slot, PlanT.edges, PlanT.back, PlanT.terms]; done)
      ·try simp at h32
       apply Run.skip
       try simp only [Blok_normal]
       subst hQ
       first
        | (simp [bareO, h10, PlanT.slot, PlanT.edges, PlanT.back, PlanT.terms]; done)
        | (simp [bareO, h15, PlanT.slot, PlanT.edges, PlanT.back, PlanT.terms]; done)
        | (simp [bareO, h15, h15b, PlanT.slot, PlanT.edges, PlanT.back, PlanT.terms]; done)
        | (simp [bareO, h10, h15, h15b, h24, PlanT.slot, PlanT.edges, PlanT.back, PlanT.terms]; done)
        | (simp [bareO, h10, h15, h15b, h24, h32, PlanT.slot, PlanT.edges, PlanT.back, PlanT.terms]; done)
 ·simp only [over, List.foldl, List.set]
  refine Run.vir 5400 6 (by omega) ?_
  simp
  refine Run.subB 400 1 (.rs 5400 6 0 0) rfl rfl (nil_rs 5400 6) ?_
  simp
  apply Run.seq
  apply Run.seq
  refine opsF oo3 fun K hK => ?_
  try simp
  repeat' first | (refine evL_c ?_; simp [hk]) | (with_reducible refine And.intro ?_ ?_) | ((refine Nat.le_trans (Nat.mul_le_mul_right _ (show _ ≤ 1100001 by omega)) (by decide))) | intro _ | (with_reducible assumption) | omega
  all_goals (apply Fin.go hK; clear hK K)
  simp only [tN]
  apply Run.block
  refine Run.loopO [4, 37, 38, 39, 40, 41, 42, 43, 44, 45, 46, 47, 48, 49, 50, 51, 52, 53, 54] (fun (i : Nat) => [(4, .int i)]) (fun (i : Nat) => [(200, .vals ((encP p).map .d)), (300, .vals [.int 0, vnil, .int 0, vnil, .bool false, vnil]), (400, .vals [.d (.int p.op), .rs 5400 6 0 i, .d (.int Q.slot), .d (.sl false (Q.edges.map encI)), .d (.bool Q.back), .d (.sl false (Q.terms.map encT))]), (5400, .data 6 (Ls.take i))]) (fun (i : Nat) => i ≤ k) (fun (i : Nat) => k - i) 0 (by omega) (by simp) fun i hi => ?_
  simp only [over, List.foldl, List.set]
  apply Run.seq
  apply Run.seq
  refine opsF [oM 4 37, oF 48 1 1 38, oL 45 38 39, oN 45 39 40, oB .lss 3 37 40 3 41] fun K hK => ?_
  try simp
  repeat' first | (refine evL_c ?_; simp [hk]) | (with_reducible refine And.intro ?_ ?_) | ((refine Nat.le_trans (Nat.mul_le_mul_right _ (show _ ≤ 1100001 by omega)) (by decide))) | intro _ | (with_reducible assumption) | omega
  all_goals (apply Fin.go hK; clear hK K)
  simp only [tN]
  refine Run.cond rfl (fun h41 => ?_) (fun h41 => ?_)
  ·try simp at h41
   have hi1 : i < k := by omega
   have hi2 : (i : Int) < k := by omega
   have hI := IH i hi1
   rw [encP_cells, encP_cells] at hI
   have htk : List.take i (Ls.take i) = Ls.take i := List.take_of_length_le (by simp; omega)
   have hml : (Ls.take i).length = i := by simp; omega
   have hstep : Ls.take (i + 1) = Ls.take i ++ [encP (bareT (rdI p.kids (i : Nat)))] := by
    rw [← hLs, ← List.map_take, ← List.map_take, take_rd (by omega : i < p.kids.length), List.map_append]; rfl
   rw [encP_cells (bareT (rdI p.kids (i : Nat)))] at hstep
   apply Run.skip
   simp only [tN]
   apply Run.seq
   apply Run.block
   refine opsF [oF 48 3 1 44, oL 45 44 45, oF 48 1 1 46, oL 45 46 47, oM 4 48, oI 45 47 48 49, oL 48 49 50, oC 18 #[.tmp 50] #[48] 51, ⟨.buildSlice 45 1 #[(0, .tmp 51)], some 52, none⟩, ⟨.call { callee := .builtin .append, args := #[.tmp 45, .tmp 52], argTypes := #[45, 45] }, some 53, none⟩, oF 48 3 1 54, oS 45 54 53] fun K hK => ?_
   try simp
   repeat' first | (refine ecallD (by exact hI) ?_) | (refine evL_c ?_; simp [hk, hi1, hi2, hml]) | (with_reducible refine And.intro ?_ ?_) | ((refine Nat.le_trans (Nat.mul_le_mul_right _ (show _ ≤ 1100001 by omega)) (by decide))) | intro _ | (with_reducible assumption) | omega
   all_goals (apply Fin.go hK; clear hK K)
   try simp only [Blok_normal]
   simp only [tN]
   refine opsF [oM 4 42, oK .add 3 42 1 3 43, oA 43 4] fun K hK => ?_
   try simp
   repeat' first | (refine evL_c ?_; simp [hk, hi1, hi2, hml]) | (with_reducible refine And.intro ?_ ?_) | ((refine Nat.le_trans (Nat.mul_le_mul_right _ (show _ ≤ 1100001 by omega)) (by decide))) | intro _ | (with_reducible assumption) | omega
   all_goals (apply Fin.go hK; clear hK K)
   refine ⟨i + 1, by omega, by omega, ?_⟩
   simp (disch := omega) [wrap_id, hml, htk, hstep]
  ·try simp at h41
   have hik : i = k := by omega
   subst hik
   have htf : Ls.take i = Ls := List.take_of_length_le (by omega)
   refine Run.exit ?_
   simp (decide := true) only [Then_exit, Blok_exit, if_true, if_false]
   simp only [tN]
   refine Run.fra 5400 ?_
   try simp [V.fra, V.fraL, fraS, frz, hk, hLl, htf]
   apply Run.seq
   refine opsF [oL 48 3 55, oS 48 2 55] fun K hK => ?_
   try simp
   repeat' first | (refine evL_c ?_; simp [hk]) | (with_reducible refine And.intro ?_ ?_) | ((refine Nat.le_trans (Nat.mul_le_mul_right _ (show _ ≤ 1100001 by omega)) (by decide))) | intro _ | (with_reducible assumption) | omega
   all_goals (apply Fin.go hK; clear hK K)
   simp only [tN]
   apply Run.ret
   try simp only [Then_ret, Blok_ret]
   simp [b1, hBk, b3, b4, b5, b6, htf]
theorem sameInts_ok (na nb : Bool) (a b : List Int) : Snd P 34 [.d (.sl na (a.map encI)), .d (.sl nb (b.map encI))] (.bool (eqIs a b)) [] := by
 refine Snd.ok 0 rfl (by kernel_rfl) fun hok => ?_
 have hma : a.length ≤ 9223372036854775807 := by simp only [D.ok, List.length_map] at hok; exact hok.1
 clear hok
 obtain ⟨m, hm⟩ : ∃ m, a.length = m := ⟨_, rfl⟩
 obtain ⟨k, hk⟩ : ∃ m, b.length = m := ⟨_, rfl⟩
 rw [hm] at hma
 refine snd_of [] Try.func34 rfl (by kernel_rfl) Try.ntmps34 (by simp) ?_
 unfold Try.f34
 simp only [List.cons_append, List.nil_append, List.length_cons, List.length_nil, Nat.reduceAdd, Nat.reduceSub, List.replicate]
 apply Run.seq
 refine opsF oo11 fun K hK => ?_
 try simp
 repeat' first | (refine evL_c ?_; simp [hm, hk]) | (with_reducible first | apply aI | intro _ | assumption) | omega
 all_goals (apply Fin.go hK; clear hK K)
 simp only [tN]
 apply Run.seq
 apply Run.seq
 refine opsF oo53 fun K hK => ?_
 try simp
 repeat' first | (refine evL_c ?_; simp [hm, hk]) | (with_reducible first | apply aI | intro _ | assumption) | omega
 all_goals (apply Fin.go hK; clear hK K)
 simp only [tN]
 refine Run.cond rfl (fun h10 => ?_) (fun h10 => ?_)
 ·try simp at h10
  apply Run.seq
  refine opsF oo11 fun K hK => ?_
  try simp
  repeat' first | (refine evL_c ?_; simp [hm, hk]) | (with_reducible first | apply aI | intro _ | assumption) | omega
  all_goals (apply Fin.go hK; clear hK K)
  simp only [tN]
  apply Run.ret
  try simp only [Then_ret, Blok_ret]
  first
   | (rw [eqIs_len (by omega)]; simp; done)
   | (rw [hz, eqIs_step (by omega) (by omega), decide_eq_false h25]; simp; done)
   | (rw [hz, show a.drop i = [] from List.drop_of_length_le (by omega), show b.drop i = [] from List.drop_of_length_le (by omega), eqIs]; simp; done)
 ·try simp at h10
  have hkm : k = m := by omega
  subst hkm
  apply Run.skip
  simp only [tN]
  apply Run.seq
  apply Run.seq
  refine opsF oo70 fun K hK => ?_
  try simp
  repeat' first | (refine evL_c ?_; simp [hm, hk]) | (with_reducible first | apply aI | intro _ | assumption) | omega
  all_goals (apply Fin.go hK; clear hK K)
  simp only [tN]
  apply Run.block
  refine Run.loopO [4, 5, 11, 12, 13, 14, 15, 16, 17, 18, 19, 20, 21, 22, 23, 24, 25] (fun (i : Nat) => [(5, .int i)]) (fun (i : Nat) => []) (fun (i : Nat) => i ≤ k ∧ eqIs a b = eqIs (a.drop i) (b.drop i)) (fun (i : Nat) => k - i) 0 ⟨by omega, rfl⟩ (by simp) fun i ⟨hi, hz⟩ => ?_
  simp only [over, List.foldl, List.set]
  apply Run.seq
  apply Run.seq
  refine opsF [oM 5 11, oM 0 12, oN 46 12 13, oB .lss 3 11 13 3 14] fun K hK => ?_
  try simp
  repeat' first | (refine evL_c ?_; simp [hm, hk]) | (with_reducible first | apply aI | intro _ | assumption) | omega
  all_goals (apply Fin.go hK; clear hK K)
  simp only [tN]
  refine Run.cond rfl (fun h14 => ?_) (fun h14 => ?_)
  ·try simp at h14
   have hi1 : i < k := by omega
   apply Run.skip
   simp only [tN]
   apply Run.seq
   apply Run.block
   apply Run.seq
   refine opsF [oM 0 17, oM 5 18, oI 46 17 18 19, oL 3 19 20, oM 1 21, oM 5 22, oI 46 21 22 23, oL 3 23 24, oB .neq 3 20 24 3 25] fun K hK => ?_
   try simp
   repeat' first | (refine evL_c ?_; simp [hm, hk, hi1]) | (with_reducible first | apply aI | intro _ | assumption) | omega
   all_goals (apply Fin.go hK; clear hK K)
   simp only [tN]
   refine Run.cond rfl (fun h25 => ?_) (fun h25 => ?_)
   ·try simp at h25
    apply Run.seq
    refine opsF oo11 fun K hK => ?_
    try simp
    repeat' first | (refine evL_c ?_; simp [hm, hk, hi1]) | (with_reducible first | apply aI | intro _ | assumption) | omega
    all_goals (apply Fin.go hK; clear hK K)
    simp only [tN]
    apply Run.ret
    try simp only [Then_ret, Blok_ret]
    first
     | (rw [eqIs_len (by omega)]; simp; done)
     | (rw [hz, eqIs_step (by omega) (by omega), decide_eq_false h25]; simp; done)
     | (rw [hz, show a.drop i = [] from List.drop_of_length_le (by omega), show b.drop i = [] from List.drop_of_length_le (by omega), eqIs]; simp; done)
   ·try simp at h25
    apply Run.skip
    try simp only [Blok_normal]
    simp only [tN]
    refine opsF oo103 fun K hK => ?_
    try simp
    repeat' first | (refine evL_c ?_; simp [hm, hk, hi1]) | (with_reducible first | apply aI | intro _ | assumption) | omega
    all_goals (apply Fin.go hK; clear hK K)
    refine ⟨i + 1, ⟨by omega, by rw [hz, eqIs_step (by omega) (by omega), decide_eq_true h25]; rfl⟩, by omega, ?_⟩
    simp (disch := omega) [wrap_id]
  ·try simp at h14
   refine Run.exit ?_
   simp (decide := true) only [Then_exit, Blok_exit, if_true, if_false]
   simp only [tN]
   apply Run.seq
   refine opsF oo54 fun K hK => ?_
   try simp
   repeat' first | (refine evL_c ?_; simp [hm, hk]) | (with_reducible first | apply aI | intro _ | assumption) | omega
   all_goals (apply Fin.go hK; clear hK K)
   simp only [tN]
   apply Run.ret
   try simp only [Then_ret, Blok_ret]
   first
    | (rw [eqIs_len (by omega)]; simp; done)
    | (rw [hz, eqIs_step (by omega) (by omega), decide_eq_false h25]; simp; done)
    | (rw [hz, show a.drop i = [] from List.drop_of_length_le (by omega), show b.drop i = [] from List.drop_of_length_le (by omega), eqIs]; simp; done)
theorem sameStep_ok (s : StepR) : Snd P 35 [.d (.ag (encR s)), .d (.ag (encR s))] (.bool true) [] := by
 have h34 := sameInts_ok false false s.edges s.edges
 have h31 := reqTs_ok false false s.terms s.terms
 rw [eqIs_refl] at h34
 rw [eqTs_refl] at h31
 refine snd_of [] Try.func35 rfl (by kernel_rfl) Try.ntmps35 (by simp) ?_
 unfold Try.f35
 simp only [List.cons_append, List.nil_append, List.length_cons, List.length_nil, Nat.reduceAdd, Nat.reduceSub, List.replicate]
 apply Run.seq
 refine opsF [⟨.box 75 (.tmp 0), some 2, none⟩, ⟨.box 75 (.tmp 1), some 3, none⟩, ⟨.assign (.const (.bool false)), some 4, none⟩] fun K hK => ?_
 try simp
 repeat' first | (refine evL_c ?_; simp) | (with_reducible first | apply aI | intro _ | assumption) | omega
 all_goals (apply Fin.go hK; clear hK K)
 simp only [tN]
 apply Run.seq
 refine opsF [oF 75 2 2 7, oL 46 7 8, oF 75 3 2 9, oL 46 9 10, oC 34 #[.tmp 8, .tmp 10] #[46, 46] 11, oA 11 5] fun K hK => ?_
 try simp
 repeat' first | (refine ecallD (by exact h34) ?_) | (refine evL_c ?_; simp) | (with_reducible first | apply aI | intro _ | assumption) | omega
 all_goals (apply Fin.go hK; clear hK K)
 simp only [tN]
 apply Run.seq
 refine opsF [oF 75 2 4 12, oL 28 12 13, oF 75 3 4 14, oL 28 14 15, oC 31 #[.tmp 13, .tmp 15] #[28, 28] 16, oA 16 6] fun K hK => ?_
 try simp
 repeat' first | (refine ecallD (by exact h31) ?_) | (refine evL_c ?_; simp) | (with_reducible first | apply aI | intro _ | assumption) | omega
 all_goals (apply Fin.go hK; clear hK K)
 simp only [tN]
 apply Run.seq
 refine opsF [oM 5 17, oM 17 18, ⟨.move (.tmp 6), some 19, some (some 18, true)⟩, ⟨.pick (.tmp 18) (.tmp 19) (.const (.bool false)), some 20, none⟩, oM 20 21, ⟨.fieldAddr 75 (.tmp 2) 0, some 22, some (some 21, true)⟩, ⟨.load 73 (.tmp 22), some 23, some (some 21, true)⟩, ⟨.fieldAddr 75 (.tmp 3) 0, some 24, some (some 21, true)⟩, ⟨.load 73 (.tmp 24), some 25, some (some 21, true)⟩, ⟨.binOp .eql 73 (.tmp 23) (.tmp 25) 73, some 26, some (some 21, true)⟩, ⟨.pick (.tmp 21) (.tmp 26) (.const (.bool false)), some 27, none⟩, oM 27 28, ⟨.fieldAddr 75 (.tmp 2) 1, some 29, some (some 28, true)⟩, ⟨.load 3 (.tmp 29), some 30, some (some 28, true)⟩, ⟨.fieldAddr 75 (.tmp 3) 1, some 31, some (some 28, true)⟩, ⟨.load 3 (.tmp 31), some 32, some (some 28, true)⟩, ⟨.binOp .eql 3 (.tmp 30) (.tmp 32) 3, some 33, some (some 28, true)⟩, ⟨.pick (.tmp 28) (.tmp 33) (.const (.bool false)), some 34, none⟩, oM 34 35, ⟨.fieldAddr 75 (.tmp 2) 3, some 36, some (some 35, true)⟩, ⟨.load 4 (.tmp 36), some 37, some (some 35, true)⟩, ⟨.fieldAddr 75 (.tmp 3) 3, some 38, some (some 35, true)⟩, ⟨.load 4 (.tmp 38), some 39, some (some 35, true)⟩, ⟨.binOp .eql 4 (.tmp 37) (.tmp 39) 4, some 40, some (some 35, true)⟩, ⟨.pick (.tmp 35) (.tmp 40) (.const (.bool false)), some 41, none⟩, oM 41 42, ⟨.fieldAddr 75 (.tmp 2) 5, some 43, some (some 42, true)⟩, ⟨.load 3 (.tmp 43), some 44, some (some 42, true)⟩, ⟨.fieldAddr 75 (.tmp 3) 5, some 45, some (some 42, true)⟩, ⟨.load 3 (.tmp 45), some 46, some (some 42, true)⟩, ⟨.binOp .eql 3 (.tmp 44) (.tmp 46) 3, some 47, some (some 42, true)⟩, ⟨.pick (.tmp 42) (.tmp 47) (.const (.bool false)), some 48, none⟩, oA 48 4] fun K hK => ?_
 try simp
 repeat' first | ((first | refine evL_c ?_ | (refine evL_g rfl ?_; try simp only [gs_tt, gs_ff, gs_tf, gs_ft]) | refine evL_u rfl ?_ | (with_reducible refine gsplit (fun hg => ?_) (fun hg => ?_) <;> try simp at hg)) <;> try simp) | (with_reducible first | apply aI | intro _ | assumption) | omega
 all_goals (apply Fin.go hK; clear hK K)
 all_goals
  simp only [tN]
  apply Run.ret
  try simp only [Then_ret, Blok_ret]
  simp
set_option maxHeartbeats 8000000 in
theorem same_ok (r : ProgR) : Snd P 19 [.d (.ag (encPr r)), .d (.ag (encPr r))] (.bool true) [] := by
 refine Snd.ok 0 rfl (by kernel_rfl) fun hok => ?_
 have hk1 : r.tabs.length ≤ 9223372036854775807 ∧ r.pipes.length ≤ 9223372036854775807 ∧ ∀ x ∈ r.pipes, x.steps.length ≤ 9223372036854775807 := by
  simp only [encPr, encTa, D.ok, D.okL, List.length_map, okR_map] at hok
  refine ⟨hok.1.1, hok.2.1.1, fun x hx => ?_⟩
  have := hok.2.1.2 x hx
  simp only [encPi, D.ok, D.okL, List.length_map] at this
  exact this.2.1.1
 clear hok
 obtain ⟨hnt1, hn1, hst1⟩ := hk1
 obtain ⟨n, hn⟩ : ∃ z, r.pipes.length = z := ⟨_, rfl⟩
 obtain ⟨nt, hnt⟩ : ∃ z, r.tabs.length = z := ⟨_, rfl⟩
 rw [hn] at hn1
 rw [hnt] at hnt1
 refine snd_of [] Try.func19 rfl (by kernel_rfl) Try.ntmps19 (by simp) ?_
 unfold Try.f19
 simp only [List.cons_append, List.nil_append, List.length_cons, List.length_nil, Nat.reduceAdd, Nat.reduceSub, List.replicate]
 apply Run.seq
 refine opsF [⟨.box 25 (.tmp 0), some 2, none⟩, ⟨.box 25 (.tmp 1), some 3, none⟩, ⟨.assign (.const (.bool false)), some 4, none⟩] fun K hK => ?_
 try simp
 repeat' first | (refine evL_c ?_; simp [hn, hnt]) | (with_reducible first | apply aI | intro _ | assumption) | omega
 all_goals (apply Fin.go hK; clear hK K)
 simp only [tN]
 apply Run.seq
 apply Run.seq
 refine opsF [oF 25 2 0 12, oL 22 12 13, oN 22 13 14, oF 25 3 0 15, oL 22 15 16, oN 22 16 17, oB .neq 3 14 17 3 18, oM 18 19, ⟨.fieldAddr 25 (.tmp 2) 1, some 20, some (some 19, false)⟩, ⟨.load 23 (.tmp 20), some 21, some (some 19, false)⟩, ⟨.call { callee := .builtin .len, args := #[.tmp 21], argTypes := #[23] }, some 22, some (some 19, false)⟩, ⟨.fieldAddr 25 (.tmp 3) 1, some 23, some (some 19, false)⟩, ⟨.load 23 (.tmp 23), some 24, some (some 19, false)⟩, ⟨.call { callee := .builtin .len, args := #[.tmp 24], argTypes := #[23] }, some 25, some (some 19, false)⟩, ⟨.binOp .neq 3 (.tmp 22) (.tmp 25) 3, some 26, some (some 19, false)⟩, ⟨.pick (.tmp 19) (.const (.bool true)) (.tmp 26), some 27, none⟩] fun K hK => ?_
 try simp
 repeat' first | ((first | refine evL_c ?_ | (refine evL_g rfl ?_; try simp only [gs_tt, gs_ff, gs_tf, gs_ft]) | refine evL_u rfl ?_ | (with_reducible refine gsplit (fun hg => ?_) (fun hg => ?_) <;> try simp at hg)) <;> try simp [hn, hnt]) | (with_reducible first | apply aI | intro _ | assumption) | omega
 all_goals (apply Fin.go hK; clear hK K)
 all_goals
  simp only [tN]
  refine Run.cond rfl (fun h27 => ?_) (fun h27 => ?_)
  ·simp at h27
  ·skip
   apply Run.skip
   simp only [tN]
   apply Run.seq
   apply Run.seq
   refine opsF oo70 fun K hK => ?_
   try simp
   repeat' first | (refine evL_c ?_; simp [hn, hnt]) | (with_reducible first | apply aI | intro _ | assumption) | omega
   all_goals (apply Fin.go hK; clear hK K)
   simp only [tN]
   apply Run.block
   refine Run.loopO [4, 5, 6, 28, 29, 30, 31, 32, 33, 34, 35, 36, 37, 38, 39, 40, 41, 42, 43, 44, 45, 46, 47] (fun (i : Nat) => [(5, .int i)]) (fun (i : Nat) => [(300, .vals ((encPr r).map .d)), (400, .vals ((encPr r).map .d))]) (fun (i : Nat) => i ≤ nt) (fun (i : Nat) => nt - i) 0 (by omega) (by simp [hn, hnt]) fun i hi => ?_
   simp only [over, List.foldl, List.set]
   apply Run.seq
   apply Run.seq
   refine opsF [oM 5 28, oF 25 2 0 29, oL 22 29 30, oN 22 30 31, oB .lss 3 28 31 3 32] fun K hK => ?_
   try simp
   repeat' first | (refine evL_c ?_; simp [hn, hnt]) | (with_reducible first | apply aI | intro _ | assumption) | omega
   all_goals (apply Fin.go hK; clear hK K)
   simp only [tN]
   refine Run.cond rfl (fun h32 => ?_) (fun h32 => ?_)
   ·try simp at h32
    have hi1 : i < nt := by omega
    have h34 := sameInts_ok false false (rdI r.tabs (i : Nat)) (rdI r.tabs (i : Nat))
    rw [eqIs_refl] at h34
    apply Run.skip
    simp only [tN]
    apply Run.seq
    apply Run.block
    apply Run.seq
    refine opsF [oF 25 2 0 35, oL 22 35 36, oM 5 37, oI 22 36 37 38, oL 46 38 39, oF 25 3 0 40, oL 22 40 41, oM 5 42, oI 22 41 42 43, oL 46 43 44, oC 34 #[.tmp 39, .tmp 44] #[46, 46] 45, oA 45 6] fun K hK => ?_
    try simp
    repeat' first | (refine ecallD (by exact h34) ?_) | (refine evL_c ?_; simp [hn, hnt, hi1]) | (with_reducible first | apply aI | intro _ | assumption) | omega
    all_goals (apply Fin.go hK; clear hK K)
    simp only [tN]
    apply Run.seq
    refine opsF [oM 6 46, ⟨.unOp .not 4 (.tmp 46), some 47, none⟩] fun K hK => ?_
    try simp
    repeat' first | (refine evL_c ?_; simp [hn, hnt, hi1]) | (with_reducible first | apply aI | intro _ | assumption) | omega
    all_goals (apply Fin.go hK; clear hK K)
    simp only [tN]
    refine Run.cond rfl (fun h47 => ?_) (fun h47 => ?_)
    ·simp at h47
    ·skip
     apply Run.skip
     try simp only [Blok_normal]
     simp only [tN]
     refine opsF [oM 5 33, oK .add 3 33 1 3 34, oA 34 5] fun K hK => ?_
     try simp
     repeat' first | (refine evL_c ?_; simp [hn, hnt, hi1]) | (with_reducible first | apply aI | intro _ | assumption) | omega
     all_goals (apply Fin.go hK; clear hK K)
     refine ⟨i + 1, by omega, by omega, ?_⟩
     simp (disch := omega) [wrap_id, hn, hnt]
   ·try simp at h32
    refine Run.exit ?_
    simp (decide := true) only [Then_exit, Blok_exit, if_true, if_false]
    simp only [tN]
    apply Run.seq
    apply Run.seq
    refine opsF oo80 fun K hK => ?_
    try simp
    repeat' first | (refine evL_c ?_; simp [hn, hnt]) | (with_reducible first | apply aI | intro _ | assumption) | omega
    all_goals (apply Fin.go hK; clear hK K)
    simp only [tN]
    apply Run.block
    refine Run.loopO [4, 7, 8, 9, 10, 11, 48, 49, 50, 51, 52, 53, 54, 55, 56, 57, 58, 59, 60, 61, 62, 63, 64, 65, 66, 67, 68, 69, 70, 71, 72, 73, 74, 75, 76, 77, 78, 79, 80, 81, 82, 83, 84, 85, 86, 87, 88, 89, 90, 91, 92, 93, 94, 95, 96, 97, 98, 99, 100, 101, 102, 103, 104, 105] (fun (i : Nat) => [(7, .int i)]) (fun (i : Nat) => [(300, .vals ((encPr r).map .d)), (400, .vals ((encPr r).map .d))]) (fun (i : Nat) => i ≤ n) (fun (i : Nat) => n - i) 0 (by omega) (by simp [hn, hnt]) fun k hk2 => ?_
    simp only [over, List.foldl, List.set]
    apply Run.seq
    apply Run.seq
    refine opsF [oM 7 48, oF 25 2 1 49, oL 23 49 50, oN 23 50 51, oB .lss 3 48 51 3 52] fun K hK => ?_
    try simp
    repeat' first | (refine evL_c ?_; simp [hn, hnt]) | (with_reducible first | apply aI | intro _ | assumption) | omega
    all_goals (apply Fin.go hK; clear hK K)
    simp only [tN]
    refine Run.cond rfl (fun h52 => ?_) (fun h52 => ?_)
    ·try simp at h52
     have hi2 : k < n := by omega
     have hxm := hst1 _ (rdI_mem (l := r.pipes) (i := (k : Nat)) (by omega) (by omega))
     obtain ⟨x, hx⟩ : ∃ z, rdI r.pipes (k : Nat) = z := ⟨_, rfl⟩
     rw [hx] at hxm
     obtain ⟨m, hm⟩ : ∃ z, x.steps.length = z := ⟨_, rfl⟩
     rw [hm] at hxm
     apply Run.skip
     simp only [tN]
     apply Run.seq
     apply Run.block
     apply Run.seq
     refine opsF [oF 25 2 1 55, oL 23 55 56, oM 7 57, oI 23 56 57 58, oL 41 58 59, ⟨.alloc 41, some 8, none⟩, oS 41 8 59] fun K hK => ?_
     try simp
     repeat' first | (refine evL_c ?_; simp [hn, hnt, hi2, hx, hm]) | (with_reducible first | apply aI | intro _ | assumption) | omega
     all_goals (apply Fin.go hK; clear hK K)
     simp only [tN]
     apply Run.seq
     refine opsF [oF 25 3 1 60, oL 23 60 61, oM 7 62, oI 23 61 62 63, oL 41 63 64, ⟨.alloc 41, some 9, none⟩, oS 41 9 64] fun K hK => ?_
     try simp
     repeat' first | (refine evL_c ?_; simp [hn, hnt, hi2, hx, hm]) | (with_reducible first | apply aI | intro _ | assumption) | omega
     all_goals (apply Fin.go hK; clear hK K)
     simp only [tN]
     apply Run.seq
     apply Run.seq
     refine opsF [oF 41 8 0 65, oL 3 65 66, oF 41 9 0 67, oL 3 67 68, oB .neq 3 66 68 3 69, oM 69 70, ⟨.fieldAddr 41 (.tmp 8) 2, some 71, some (some 70, false)⟩, ⟨.load 3 (.tmp 71), some 72, some (some 70, false)⟩, ⟨.fieldAddr 41 (.tmp 9) 2, some 73, some (some 70, false)⟩, ⟨.load 3 (.tmp 73), some 74, some (some 70, false)⟩, ⟨.binOp .neq 3 (.tmp 72) (.tmp 74) 3, some 75, some (some 70, false)⟩, ⟨.pick (.tmp 70) (.const (.bool true)) (.tmp 75), some 76, none⟩, oM 76 77, ⟨.fieldAddr 41 (.tmp 8) 1, some 78, some (some 77, false)⟩, ⟨.load 39 (.tmp 78), some 79, some (some 77, false)⟩, ⟨.call { callee := .builtin .len, args := #[.tmp 79], argTypes := #[39] }, some 80, some (some 77, false)⟩, ⟨.fieldAddr 41 (.tmp 9) 1, some 81, some (some 77, false)⟩, ⟨.load 39 (.tmp 81), some 82, some (some 77, false)⟩, ⟨.call { callee := .builtin .len, args := #[.tmp 82], argTypes := #[39] }, some 83, some (some 77, false)⟩, ⟨.binOp .neq 3 (.tmp 80) (.tmp 83) 3, some 84, some (some 77, false)⟩, ⟨.pick (.tmp 77) (.const (.bool true)) (.tmp 84), some 85, none⟩] fun K hK => ?_
     try simp
     repeat' first | ((first | refine evL_c ?_ | (refine evL_g rfl ?_; try simp only [gs_tt, gs_ff, gs_tf, gs_ft]) | refine evL_u rfl ?_ | (with_reducible refine gsplit (fun hg => ?_) (fun hg => ?_) <;> try simp at hg)) <;> try simp [hn, hnt, hi2, hx, hm]) | (with_reducible first | apply aI | intro _ | assumption) | omega
     all_goals (apply Fin.go hK; clear hK K)
     all_goals
      simp only [tN]
      refine Run.cond rfl (fun h85 => ?_) (fun h85 => ?_)
      ·simp at h85
      ·skip
       apply Run.skip
       simp only [tN]
       apply Run.seq
       refine opsF [⟨.assign (.const (.int .i64 0)), some 10, none⟩] fun K hK => ?_
       try simp
       repeat' first | (refine evL_c ?_; simp [hn, hnt, hi2, hx, hm]) | (with_reducible first | apply aI | intro _ | assumption) | omega
       all_goals (apply Fin.go hK; clear hK K)
       simp only [tN]
       apply Run.block
       refine Run.loopO [4, 10, 11, 86, 87, 88, 89, 90, 91, 92, 93, 94, 95, 96, 97, 98, 99, 100, 101, 102, 103, 104, 105] (fun (j : Nat) => [(10, .int j)]) (fun (j : Nat) => [(300, .vals ((encPr r).map .d)), (400, .vals ((encPr r).map .d)), (900, .vals ((encPi x).map .d)), (1000, .vals ((encPi x).map .d))]) (fun (j : Nat) => j ≤ m) (fun (j : Nat) => m - j) 0 (by omega) (by simp [hn, hnt, hm]) fun j hj => ?_
       simp only [over, List.foldl, List.set]
       apply Run.seq
       apply Run.seq
       refine opsF [oM 10 86, oF 41 8 1 87, oL 39 87 88, oN 39 88 89, oB .lss 3 86 89 3 90] fun K hK => ?_
       try simp
       repeat' first | (refine evL_c ?_; simp [hn, hnt, hi2, hx, hm]) | (with_reducible first | apply aI | intro _ | assumption) | omega
       all_goals (apply Fin.go hK; clear hK K)
       simp only [tN]
       refine Run.cond rfl (fun h90 => ?_) (fun h90 => ?_)
       ·try simp at h90
        have hi3 : j < m := by omega
        have h35 := sameStep_ok (rdI x.steps (j : Nat))
        apply Run.skip
        simp only [tN]
        apply Run.seq
        apply Run.block
        apply Run.seq
        refine opsF [oF 41 8 1 93, oL 39 93 94, oM 10 95, oI 39 94 95 96, oL 75 96 97, oF 41 9 1 98, oL 39 98 99, oM 10 100, oI 39 99 100 101, oL 75 101 102, oC 35 #[.tmp 97, .tmp 102] #[75, 75] 103, oA 103 11] fun K hK => ?_
        try simp
        repeat' first | (refine ecallD (by exact h35) ?_) | (refine evL_c ?_; simp [hn, hnt, hi2, hx, hm, hi3]) | (with_reducible first | apply aI | intro _ | assumption) | omega
        all_goals (apply Fin.go hK; clear hK K)
        simp only [tN]
        apply Run.seq
        refine opsF [oM 11 104, ⟨.unOp .not 4 (.tmp 104), some 105, none⟩] fun K hK => ?_
        try simp
        repeat' first | (refine evL_c ?_; simp [hn, hnt, hi2, hx, hm, hi3]) | (with_reducible first | apply aI | intro _ | assumption) | omega
        all_goals (apply Fin.go hK; clear hK K)
        simp only [tN]
        refine Run.cond rfl (fun h105 => ?_) (fun h105 => ?_)
        ·simp at h105
        ·skip
         apply Run.skip
         try simp only [Blok_normal]
         simp only [tN]
         refine opsF [oM 10 91, oK .add 3 91 1 3 92, oA 92 10] fun K hK => ?_
         try simp
         repeat' first | (refine evL_c ?_; simp [hn, hnt, hi2, hx, hm, hi3]) | (with_reducible first | apply aI | intro _ | assumption) | omega
         all_goals (apply Fin.go hK; clear hK K)
         refine ⟨j + 1, by omega, by omega, ?_⟩
         simp (disch := omega) [wrap_id, hn, hnt, hm]
       ·try simp at h90
        refine Run.exit ?_
        simp (decide := true) only [Then_exit, Blok_exit, if_true, if_false]
        try simp only [Blok_normal]
        simp only [tN]
        refine opsF [oM 7 53, oK .add 3 53 1 3 54, oA 54 7] fun K hK => ?_
        try simp
        repeat' first | (refine evL_c ?_; simp [hn, hnt, hi2, hx, hm]) | (with_reducible first | apply aI | intro _ | assumption) | omega
        all_goals (apply Fin.go hK; clear hK K)
        refine ⟨k + 1, by omega, by omega, ?_⟩
        simp (disch := omega) [wrap_id, hn, hnt]
    ·try simp at h52
     refine Run.exit ?_
     simp (decide := true) only [Then_exit, Blok_exit, if_true, if_false]
     simp only [tN]
     apply Run.seq
     refine opsF oo54 fun K hK => ?_
     try simp
     repeat' first | (refine evL_c ?_; simp [hn, hnt]) | (with_reducible first | apply aI | intro _ | assumption) | omega
     all_goals (apply Fin.go hK; clear hK K)
     simp only [tN]
     apply Run.ret
     try simp only [Then_ret, Blok_ret]
     simp
theorem bare_ok (p : PlanT) (hf : partsP p ≤ 1100000) : Snd P 18 [.d (.ag (encP p))] (.d (.ag (encP (bareT p)))) [] :=
 bare1_ok p (by have := kids_leQ p; omega) fun i hi => by
  have := parts_kid hi
  have hlt : SizeOf.sizeOf (rdI p.kids (i : Nat)) < SizeOf.sizeOf p := kids_ltQ (rdI_mem (by omega) (by omega))
  exact bare_ok _ (by omega)
termination_by SizeOf.sizeOf p
decreasing_by all_goals assumption
end Go.Proofs.Ytimgbdkgjfbhkaa.Z
end
section
namespace Go.Proofs.Ytimgbdkgjfbhkaa.Z
open Go Go.Fw
attribute [-simp] litV
attribute [local simp] litV_agg litV_int litV_str litV_bool litV_slice litV_tup
theorem partsL_len : ∀ l : List PlanT, l.length ≤ partsL l
 | [] => Nat.zero_le _
 | p :: r => by have := partsL_len r; have := keep_plan p; simp only [List.length_cons, partsL]; omega
def kindS (op : Int) : Int := if op = 1 then 2 else if op = 2 then 3 else if op = 3 then 5 else if op = 4 then 6 else 0
set_option maxHeartbeats 4000000 in
theorem cloned1_ok (p : PlanT) (hf : partsP p ≤ 1100000) (IH : ∀ i : Nat, i < p.kids.length → Snd P 29 [.d (.ag (encP (rdI p.kids i)))] (.d (.ag (encP (rdI p.kids i)))) []) : Snd P 29 [.d (.ag (encP p))] (.d (.ag (encP p))) [] := by
 have hpe := partsP_eq p
 have hkl := partsL_len p.kids
 have hE := cloneI_ok p.edges (by omega)
 have hT := cloneT_ok p.terms (by omega)
 obtain ⟨m, hm⟩ : ∃ m, p.kids.length = m := ⟨_, rfl⟩
 rw [hm] at hkl
 refine snd_of [] Try.func29 rfl (by kernel_rfl) Try.ntmps29 (by simp) ?_
 unfold Try.f29
 simp only [List.cons_append, List.nil_append, List.length_cons, List.length_nil, Nat.reduceAdd, Nat.reduceSub, List.replicate]
 apply Run.seq
 refine opsF oo100 fun K hK => ?_
 try simp
 repeat' first | (refine evL_c ?_; simp [hm]) | (with_reducible first | apply aI | intro _ | assumption) | omega
 all_goals (apply Fin.go hK; clear hK K)
 simp only [tN]
 apply Run.seq
 refine opsF [oF 48 1 3 6, oL 46 6 7, oC 47 #[.tmp 7] #[46] 8, oF 48 1 5 9, oL 28 9 10, oC 48 #[.tmp 10] #[28] 11, oF 48 1 3 12, oS 46 12 8, oF 48 1 5 13, oS 28 13 11] fun K hK => ?_
 try simp
 repeat' first | (refine ecallD (by exact hE) ?_) | (refine ecallD (by exact hT) ?_) | (refine evL_c ?_; simp [hm]) | (with_reducible first | apply aI | intro _ | assumption) | omega
 all_goals (apply Fin.go hK; clear hK K)
 simp only [tN]
 apply Run.seq
 refine opsF [oF 48 1 1 14, oL 45 14 15, oA 15 3] fun K hK => ?_
 try simp
 repeat' first | (refine evL_c ?_; simp [hm]) | (with_reducible first | apply aI | intro _ | assumption) | omega
 all_goals (apply Fin.go hK; clear hK K)
 simp only [tN]
 apply Run.seq
 refine opsF [oF 48 1 1 16, ⟨.store 45 (.tmp 16) (.const (.slice none 0 0)), none, none⟩] fun K hK => ?_
 try simp
 repeat' first | (refine evL_c ?_; simp [hm]) | (with_reducible first | apply aI | intro _ | assumption) | omega
 all_goals (apply Fin.go hK; clear hK K)
 simp only [tN]
 refine Run.vir 2900 6 (by omega) ?_
 simp
 refine Run.subB 200 1 (.rs 2900 6 0 0) rfl rfl (nil_rs 2900 6) ?_
 simp
 apply Run.seq
 apply Run.seq
 refine opsF [oM 3 17, oN 45 17 18, ⟨.move (.const (.int .i64 0)), some 19, none⟩] fun K hK => ?_
 try simp
 repeat' first | (refine evL_c ?_; simp [hm]) | (with_reducible first | apply aI | intro _ | assumption) | omega
 all_goals (apply Fin.go hK; clear hK K)
 simp only [tN]
 apply Run.block
 refine Run.loopO [5, 19, 20, 21, 22, 23, 24, 25, 26, 27, 28, 29, 30] (fun (i : Nat) => [(19, .int i)]) (fun (i : Nat) => [(200, .vals [.int p.op, .rs 2900 6 0 i, .int p.slot, .d (.sl false (p.edges.map encI)), .bool p.back, .d (.sl false (p.terms.map encT))]), (300, .vals [.int 0, vnil, .int 0, vnil, .bool false, vnil]), (2900, .data 6 ((p.kids.take i).map encP))]) (fun (i : Nat) => i ≤ m) (fun (i : Nat) => m - i) 0 (by omega) (by simp) fun i hi => ?_
 simp only [over, List.foldl, List.set]
 obtain ⟨fl, hfl⟩ : ∃ x, p.kids.take i = x := ⟨_, rfl⟩
 have hfll : fl.length = i := by rw [← hfl, List.length_take]; omega
 rw [hfl]
 have hta : (fl.map encP).take i = fl.map encP := List.take_of_length_le (by simp [hfll])
 apply Run.seq
 refine opsF [oB .lss 3 19 18 3 20] fun K hK => ?_
 try simp
 repeat' first | (refine evL_c ?_; simp [hm]) | (with_reducible first | apply aI | intro _ | assumption) | omega
 all_goals (apply Fin.go hK; clear hK K)
 simp only [tN]
 apply Run.seq
 refine Run.cond rfl (fun h20 => ?_) (fun h20 => ?_)
 ·try simp at h20
  have hi1 : i < m := by omega
  have hi2 : (i : Int) < m := by omega
  have hI := IH i (by omega)
  obtain ⟨q, hq⟩ : ∃ z, rdI p.kids (i : Nat) = z := ⟨_, rfl⟩
  rw [hq, encP_cells] at hI
  apply Run.skip
  simp only [tN]
  apply Run.seq
  apply Run.block
  apply Run.seq
  refine opsF [oI 45 17 19 21, oL 48 21 22, ⟨.alloc 48, some 5, none⟩, oS 48 5 22] fun K hK => ?_
  try simp
  repeat' first | (refine evL_c ?_; simp [hm, hi1, hi2, hta, hq, hfll]) | (with_reducible first | apply aI | intro _ | assumption) | omega
  all_goals (apply Fin.go hK; clear hK K)
  simp only [tN]
  refine opsF [oF 48 1 1 23, oL 45 23 24, oL 48 5 25, oC 29 #[.tmp 25] #[48] 26, ⟨.buildSlice 45 1 #[(0, .tmp 26)], some 27, none⟩, ⟨.call { callee := .builtin .append, args := #[.tmp 24, .tmp 27], argTypes := #[45, 45] }, some 28, none⟩, oF 48 1 1 29, oS 45 29 28] fun K hK => ?_
  try simp
  repeat' first | (refine ecallD (by exact hI) ?_) | (refine evL_c ?_; simp [hm, hi1, hi2, hta, hq, hfll]) | (with_reducible first | apply aI | intro _ | assumption) | omega
  all_goals (apply Fin.go hK; clear hK K)
  simp only [Blok_normal]
  simp only [tN]
  refine opsF [oK .add 3 19 1 3 30, oM 30 19] fun K hK => ?_
  try simp
  repeat' first | (refine evL_c ?_; simp [hm, hi1, hi2, hta, hq, hfll]) | (with_reducible first | apply aI | intro _ | assumption) | omega
  all_goals (apply Fin.go hK; clear hK K)
  refine ⟨i + 1, by omega, by omega, ?_⟩
  rw [take_rd (by omega), hfl, hq]
  simp (disch := omega) [hm, hta, wrap_id]
 ·try simp at h20
  have hi3 : i = m := by omega
  subst hi3
  have hfin : fl = p.kids := by rw [← hfl]; exact List.take_of_length_le (by omega)
  rw [hfin] at hta
  refine Run.exit ?_
  simp (decide := true) only [Then_exit, Blok_exit, if_true, if_false]
  simp only [tN]
  apply Run.seq
  refine Run.fra 2900 ?_
  simp [V.fra, V.fraL, fraS, frz, hfll, hta, hm, hfin]
  refine opsF [oL 48 1 31, oS 48 2 31] fun K hK => ?_
  try simp
  repeat' first | (refine evL_c ?_; simp [hm, hfll, hta, hfin]) | (with_reducible first | apply aI | intro _ | assumption) | omega
  all_goals (apply Fin.go hK; clear hK K)
  simp only [tN]
  apply Run.ret
  try simp only [Then_ret, Blok_ret]
  simp
theorem cloned_ok (p : PlanT) (hf : partsP p ≤ 1100000) : Snd P 29 [.d (.ag (encP p))] (.d (.ag (encP p))) [] :=
 cloned1_ok p hf fun i hi =>
  have := kids_lt (kid_mem (p := p) hi)
  cloned_ok (rdI p.kids i) (kid_fine hf hi)
termination_by SizeOf.sizeOf p
end Go.Proofs.Ytimgbdkgjfbhkaa.Z
end
section
namespace Go.Proofs.Ytimgbdkgjfbhkaa.Z
open Go Go.Fw
attribute [-simp] litV
attribute [local simp] litV_agg litV_int litV_str litV_bool litV_slice litV_tup
def eqBs : List Bool → List Bool → Bool
 | [], [] => true
 | x :: a, y :: b => decide (x = y) && eqBs a b
 | _, _ => false
theorem eqBs_len {a b : List Bool} (h : a.length ≠ b.length) : eqBs a b = false := by
 induction a generalizing b with
 | nil => cases b <;> simp_all [eqBs]
 | cons x a ih =>
   cases b with
   | nil => rfl
   | cons y b => rw [eqBs, ih (by simpa using h), Bool.and_false]
theorem eqBs_step {a b : List Bool} {i : Nat} (ha : i < a.length) (hb : i < b.length) : eqBs (a.drop i) (b.drop i) = (decide (rdI a i = rdI b i) && eqBs (a.drop (i + 1)) (b.drop (i + 1))) := by
 rw [drop_rd ha, drop_rd hb, eqBs]
theorem eqBs_iff (a b : List Bool) : eqBs a b = true ↔ a = b := by
 induction a generalizing b with
 | nil => cases b <;> simp [eqBs]
 | cons x a ih => cases b <;> simp [eqBs, ih]
theorem planS_zero {c : CoreT} {r : ProgR} (he : (planS c r).2.2 ≠ 0) : (planS c r).1 = zeroQ := by
 unfold planS at he ⊢
 split
 ·rfl
 ·rename_i h
  rw [if_neg h] at he
  split
  ·rfl
  ·rename_i h2
   rw [if_neg h2] at he
   rcases hR : pipesS c r.tabs [] [] r.pipes with ⟨R1, R2, R3⟩
   rw [hR] at he
   simp only at he ⊢
   split
   ·rfl
   ·rename_i h3; rw [if_neg h3] at he; exact absurd rfl he
theorem planS_any (c : CoreT) (r : ProgR) (hw : wP r.pipes ≤ 1100000) : partsP (planS c r).1 ≤ 1100000 := by
 by_cases he : (planS c r).2.2 = 0
 ·exact planS_parts c r hw he
 ·rw [planS_zero he]; decide
theorem plan1_ok (c : CoreT) (r : ProgR) (q : PlanT) (a e : Int) (h : Snd P 27 [.d (.ag (encPr r)), .d (.ag (encC c))] (.tup [.d (.ag (encP q)), .int a, .int e]) []) (hq : Snd P 29 [.d (.ag (encP q))] (.d (.ag (encP q))) []) : Snd P 13 [.d (.ag (encPr r)), .d (.ag (encC c))] (.tup [.d (.ag (encP q)), .int e]) [] := by
 rw [encP_cells] at h hq
 refine snd_of [] Try.func13 rfl (by kernel_rfl) Try.ntmps13 (by simp) ?_
 unfold Try.f13
 simp only [List.cons_append, List.nil_append, List.length_cons, List.length_nil, Nat.reduceAdd, Nat.reduceSub, List.replicate]
 apply Run.seq
 refine opsF [⟨.box 25 (.tmp 0), some 2, none⟩, ⟨.box 32 (.tmp 1), some 3, none⟩, ⟨.alloc 48, some 4, none⟩, ⟨.assign (.const (.int .i64 0)), some 5, none⟩] fun K hK => ?_
 try simp
 repeat' first | (refine evL_c ?_; simp) | (with_reducible first | apply aI | intro _ | assumption) | omega
 all_goals (apply Fin.go hK; clear hK K)
 simp only [tN]
 apply Run.seq
 refine opsF [oL 25 2 10, oL 32 3 11, oC 27 #[.tmp 10, .tmp 11] #[25, 32] 12, oM 12 9, oX 9 0 13, oX 9 1 14, oX 9 2 15, ⟨.alloc 48, some 6, none⟩, oS 48 6 13, oA 14 7, oA 15 8] fun K hK => ?_
 try simp
 repeat' first | (refine ecall (by exact h) rfl ?_) | (refine evL_c ?_; simp) | (with_reducible first | apply aI | intro _ | assumption) | omega
 all_goals (apply Fin.go hK; clear hK K)
 simp only [tN]
 apply Run.seq
 refine opsF [oL 48 6 16, oC 29 #[.tmp 16] #[48] 17, oM 8 18, oS 48 4 17, oA 18 5] fun K hK => ?_
 try simp
 repeat' first | (refine ecallD (by exact hq) ?_) | (refine evL_c ?_; simp) | (with_reducible first | apply aI | intro _ | assumption) | omega
 all_goals (apply Fin.go hK; clear hK K)
 simp only [tN]
 apply Run.ret
 try simp only [Then_ret, Blok_ret]
 simp
theorem sameBools_ok (na nb : Bool) (a b : List Bool) : Snd P 12 [.d (.sl na (a.map encB)), .d (.sl nb (b.map encB))] (.bool (eqBs a b)) [] := by
 refine Snd.ok 0 rfl (by kernel_rfl) fun hok => ?_
 have hma : a.length ≤ 9223372036854775807 := by simp only [D.ok, List.length_map] at hok; exact hok.1
 clear hok
 obtain ⟨m, hm⟩ : ∃ m, a.length = m := ⟨_, rfl⟩
 obtain ⟨k, hk⟩ : ∃ m, b.length = m := ⟨_, rfl⟩
 rw [hm] at hma
 refine snd_of [] Try.func12 rfl (by kernel_rfl) Try.ntmps12 (by simp) ?_
 unfold Try.f12
 simp only [List.cons_append, List.nil_append, List.length_cons, List.length_nil, Nat.reduceAdd, Nat.reduceSub, List.replicate]
 apply Run.seq
 refine opsF oo11 fun K hK => ?_
 try simp
 repeat' first | (refine evL_c ?_; simp [hm, hk]) | (with_reducible first | apply aI | intro _ | assumption) | omega
 all_goals (apply Fin.go hK; clear hK K)
 simp only [tN]
 apply Run.seq
 apply Run.seq
 refine opsF [oM 0 6, oN 34 6 7, oM 1 8, oN 34 8 9, oB .neq 3 7 9 3 10] fun K hK => ?_
 try simp
 repeat' first | (refine evL_c ?_; simp [hm, hk]) | (with_reducible first | apply aI | intro _ | assumption) | omega
 all_goals (apply Fin.go hK; clear hK K)
 simp only [tN]
 refine Run.cond rfl (fun h10 => ?_) (fun h10 => ?_)
 ·try simp at h10
  apply Run.seq
  refine opsF oo11 fun K hK => ?_
  try simp
  repeat' first | (refine evL_c ?_; simp [hm, hk]) | (with_reducible first | apply aI | intro _ | assumption) | omega
  all_goals (apply Fin.go hK; clear hK K)
  simp only [tN]
  apply Run.ret
  try simp only [Then_ret, Blok_ret]
  first
   | (rw [eqBs_len (by omega)]; simp; done)
   | (rw [hz, eqBs_step (by omega) (by omega), decide_eq_false h25]; simp; done)
   | (rw [hz, show a.drop i = [] from List.drop_of_length_le (by omega), show b.drop i = [] from List.drop_of_length_le (by omega), eqBs]; simp; done)
 ·try simp at h10
  have hkm : k = m := by omega
  subst hkm
  apply Run.skip
  simp only [tN]
  apply Run.seq
  apply Run.seq
  refine opsF oo70 fun K hK => ?_
  try simp
  repeat' first | (refine evL_c ?_; simp [hm, hk]) | (with_reducible first | apply aI | intro _ | assumption) | omega
  all_goals (apply Fin.go hK; clear hK K)
  simp only [tN]
  apply Run.block
  refine Run.loopO [4, 5, 11, 12, 13, 14, 15, 16, 17, 18, 19, 20, 21, 22, 23, 24, 25] (fun (i : Nat) => [(5, .int i)]) (fun (i : Nat) => []) (fun (i : Nat) => i ≤ k ∧ eqBs a b = eqBs (a.drop i) (b.drop i)) (fun (i : Nat) => k - i) 0 ⟨by omega, rfl⟩ (by simp) fun i ⟨hi, hz⟩ => ?_
  simp only [over, List.foldl, List.set]
  apply Run.seq
  apply Run.seq
  refine opsF [oM 5 11, oM 0 12, oN 34 12 13, oB .lss 3 11 13 3 14] fun K hK => ?_
  try simp
  repeat' first | (refine evL_c ?_; simp [hm, hk]) | (with_reducible first | apply aI | intro _ | assumption) | omega
  all_goals (apply Fin.go hK; clear hK K)
  simp only [tN]
  refine Run.cond rfl (fun h14 => ?_) (fun h14 => ?_)
  ·try simp at h14
   have hi1 : i < k := by omega
   apply Run.skip
   simp only [tN]
   apply Run.seq
   apply Run.block
   apply Run.seq
   refine opsF [oM 0 17, oM 5 18, oI 34 17 18 19, oL 4 19 20, oM 1 21, oM 5 22, oI 34 21 22 23, oL 4 23 24, oB .neq 4 20 24 4 25] fun K hK => ?_
   try simp
   repeat' first | (refine evL_c ?_; simp [hm, hk, hi1]) | (with_reducible first | apply aI | intro _ | assumption) | omega
   all_goals (apply Fin.go hK; clear hK K)
   simp only [tN]
   refine Run.cond rfl (fun h25 => ?_) (fun h25 => ?_)
   ·try simp at h25
    apply Run.seq
    refine opsF oo11 fun K hK => ?_
    try simp
    repeat' first | (refine evL_c ?_; simp [hm, hk, hi1]) | (with_reducible first | apply aI | intro _ | assumption) | omega
    all_goals (apply Fin.go hK; clear hK K)
    simp only [tN]
    apply Run.ret
    try simp only [Then_ret, Blok_ret]
    first
     | (rw [eqBs_len (by omega)]; simp; done)
     | (rw [hz, eqBs_step (by omega) (by omega), decide_eq_false h25]; simp; done)
     | (rw [hz, show a.drop i = [] from List.drop_of_length_le (by omega), show b.drop i = [] from List.drop_of_length_le (by omega), eqBs]; simp; done)
   ·try simp at h25
    apply Run.skip
    simp only [Blok_normal]
    simp only [tN]
    refine opsF oo103 fun K hK => ?_
    try simp
    repeat' first | (refine evL_c ?_; simp [hm, hk, hi1]) | (with_reducible first | apply aI | intro _ | assumption) | omega
    all_goals (apply Fin.go hK; clear hK K)
    refine ⟨i + 1, ⟨by omega, by rw [hz, eqBs_step (by omega) (by omega), decide_eq_true h25]; rfl⟩, by omega, ?_⟩
    simp (disch := omega) [wrap_id]
  ·try simp at h14
   refine Run.exit ?_
   simp (decide := true) only [Then_exit, Blok_exit, if_true, if_false]
   simp only [tN]
   apply Run.seq
   refine opsF oo54 fun K hK => ?_
   try simp
   repeat' first | (refine evL_c ?_; simp [hm, hk]) | (with_reducible first | apply aI | intro _ | assumption) | omega
   all_goals (apply Fin.go hK; clear hK K)
   simp only [tN]
   apply Run.ret
   try simp only [Then_ret, Blok_ret]
   first
    | (rw [eqBs_len (by omega)]; simp; done)
    | (rw [hz, eqBs_step (by omega) (by omega), decide_eq_false h25]; simp; done)
    | (rw [hz, show a.drop i = [] from List.drop_of_length_le (by omega), show b.drop i = [] from List.drop_of_length_le (by omega), eqBs]; simp; done)
theorem Plan_ok (c : CoreT) (r : ProgR) (hw : wP r.pipes ≤ 1100000) (ht : r.tabs.length ≤ 1100000) (hc : c.wher.length ≤ 1100000) : Snd P 13 [.d (.ag (encPr r)), .d (.ag (encC c))] (.tup [.d (.ag (encP (planS c r).1)), .int (planS c r).2.2]) [] :=
 plan1_ok c r _ _ _ (plan_ok c r hw ht hc) (cloned_ok _ (planS_any c r hw))
end Go.Proofs.Ytimgbdkgjfbhkaa.Z
end
section
namespace Go.Fw
open Go
variable {P : Program}
theorem Snd.up {f : FuncId} {args args0 : List V} {s0 : Store} {r : V} (h : Snd P f args0 r []) (ha : V.finL [] s0 args = args0) (hs : s0.all (fun x => decide (x.1 < 90)) = true) : SndW P f args s0 r [] := by
 subst ha
 refine ⟨h.1, fun w X m0 vs hX hS hargs => ?_⟩
 have hZ : ∀ b, Reach (fun j => if (getB s0 j).isSome then m0 j else none) b ↔ Own m0 s0 b := by
  intro b
  constructor
  ·rintro ⟨j, hj⟩
   simp only at hj
   split at hj
   ·rename_i h1
    obtain ⟨c, hc⟩ := Option.isSome_iff_exists.1 h1
    exact ⟨j, c, hc, hj⟩
   ·cases hj
  ·rintro ⟨j, c, h1, h2⟩
   exact ⟨j, by simp [h1, h2]⟩
 have hrel : Rel w (fun j => if (getB s0 j).isSome then m0 j else none) X m0 args s0 { tmps := vs.toArray, defers := [] } w := by
  refine ⟨by simpa using hargs, hS, rfl, ⟨rfl, rfl, rfl, Nat.le_refl _, fun _ _ _ => rfl, fun _ cs _ _ q => ⟨cs, q, rfl⟩⟩, fun b hb => .inl ((hZ b).2 hb), fun b hb => ⟨(hX b hb).1, fun q => (hX b hb).2 ((hZ b).1 q)⟩, fun i hi hs => by simp [hs]⟩
 have hm : finM [] m0 = fun _ => none := by funext j; simp [finM]
 have hl : ∀ b, Live X (finM [] m0) (finS [] s0 [] 0) b → X b := fun b hb => hb.resolve_right fun q => by
  obtain ⟨id, _, hk, _⟩ := own_fin q; cases hk
 have hfin : All2 (VRel w X (fun _ => none)) (V.finL [] s0 args) vs := by
  refine ⟨hargs.len.trans (finL_len _ _ _).symm, fun j x v h1 h2 => ?_⟩
  rw [finL_at] at h1
  obtain ⟨y, hy, rfl⟩ := Option.map_eq_some_iff.1 h1
  have := fin_rel hrel (keep := []) (hargs.at_ j y v hy h2)
  rw [hm] at this hl
  exact VRel.mono' (fun _ _ _ q => q) (fun _ cs _ _ q => ⟨cs, q, rfl⟩) (fun b hb => .inl (.inl hb)) this
 refine (h.2 w X vs (fun b hb => (hX b hb).1) hfin).mono fun x w' hx => ?_
 obtain ⟨v, m', h1, h2, h3, h4, h5⟩ := hx
 exact ⟨v, m', h1, ⟨h2.os, h2.tape, h2.output, h2.size, fun b hb _ => h2.block b hb id, h2.sizes⟩, h3, h4, fun b hb => .inr (h5 b hb), fun j _ hj => by cases hj⟩
end Go.Fw
namespace Go.Proofs.Ytimgbdkgjfbhkaa.Z
open Go Go.Fw
attribute [-simp] litV
attribute [local simp] litV_agg litV_int litV_str litV_bool litV_slice litV_tup
theorem DSub.sl {nn : Bool} {l r : List (List D)} (hlen : l.length = r.length) (h : ∀ (i : Nat) (x y : List D), l[i]? = some x → r[i]? = some y → SubL x y) : DSub (.sl nn l) (.sl nn r) := fun w L v hv => by
 have back : ∀ {i : Nat} {y : List D}, r[i]? = some y → ∃ x, l[i]? = some x ∧ SubL x y := fun {i y} hy => by
  have hlt : i < l.length := by rw [hlen]; exact (List.getElem?_eq_some_iff.1 hy).1
  exact ⟨_, List.getElem?_eq_getElem hlt, h i _ y (List.getElem?_eq_getElem hlt) hy⟩
 have cell : ∀ {x y : List D} {j : Nat} {d : D}, SubL x y → y[j]? = some d → ∃ c, x[j]? = some c ∧ DSub c d := fun {x y j d} hs hd => by
  have hlt : j < x.length := by rw [hs.len]; exact (List.getElem?_eq_some_iff.1 hd).1
  exact ⟨_, List.getElem?_eq_getElem hlt, hs.at_ (List.getElem?_eq_getElem hlt) hd⟩
 cases hv with
 | slE nn A cap hn =>
   obtain rfl : r = [] := List.length_eq_zero_iff.1 (by simpa using hlen.symm)
   exact .slE nn A cap hn
 | sl nn rows b off cap sz vals hb hc hm hz hv ho hr =>
   rw [hlen]
   refine .sl nn r b off cap sz vals (fun i j y d q1 q2 => ?_) (by omega) (by omega) (fun y hy => ?_) (fun i j y d q1 q2 => ?_) (fun i j y d q1 q2 => ?_) (fun i j y d q1 q2 => ?_)
   ·obtain ⟨x, p1, p2⟩ := back q1
    obtain ⟨c, p3, _⟩ := cell p2 q2
    exact hb i j x c p1 p3
   ·obtain ⟨i, hi⟩ := List.getElem?_of_mem hy
    obtain ⟨x, p1, p2⟩ := back hi
    rw [← p2.len]; exact hz x (List.mem_of_getElem? p1)
   ·obtain ⟨x, p1, p2⟩ := back q1
    obtain ⟨c, p3, _⟩ := cell p2 q2
    exact hv i j x c p1 p3
   ·obtain ⟨x, p1, p2⟩ := back q1
    obtain ⟨c, p3, _⟩ := cell p2 q2
    exact ho i j x c p1 p3
   ·obtain ⟨x, p1, p2⟩ := back q1
    obtain ⟨c, p3, p4⟩ := cell p2 q2
    exact p4 _ _ _ (hr i j x c p1 p3)
def headC : CoreT := ⟨[⟨"".toUTF8, -1⟩], [], [], .lit (.slice none 0 0), false, .lit (.slice none 0 0), 0⟩
def headR : ProgR := ⟨[], [⟨0, [], -1⟩]⟩
theorem headC_check : checkS headC headR = (.sl false [[.bool true]], 0, 0) := by rfl
theorem headN_check : (checkS headC ⟨[], []⟩).2 = (-1, 181) := by rfl
theorem head_ok : Snd P 8 [] (.bool true) [] := by
 have h1 := snd_sub (args := [.d (.ag [.lit (.slice none 0 0), .sl false [[.int 0, .lit (.slice none 0 0), .int (-1)]]]), .d (.ag [.sl false [[.str ByteArray.empty, .int (-1)]], .sl false [], .sl false [], .lit (.slice none 0 0), .bool false, .lit (.slice none 0 0), .int 0])]) (check_ok headC headR (by decide) (by decide) (by decide)) ⟨DSub.ag ⟨DSub.nil, DSub.sl rfl (fun i x y hx hy => by
   cases i with
   | zero => cases hx; cases hy; exact ⟨.refl _, DSub.nil, .refl _, trivial⟩
   | succ i => cases hx), trivial⟩, .refl _, trivial⟩
 rw [headC_check] at h1
 have h2 := snd_sub (args := [.d (.ag [.lit (.slice none 0 0), .lit (.slice none 0 0)]), .d (.ag [.sl false [[.str ByteArray.empty, .int (-1)]], .sl false [], .sl false [], .lit (.slice none 0 0), .bool false, .lit (.slice none 0 0), .int 0])]) (check_ok headC ⟨[], []⟩ (by decide) (by decide) (by decide)) ⟨DSub.ag ⟨DSub.nil, DSub.nil, trivial⟩, .refl _, trivial⟩
 obtain ⟨d2, hd2⟩ : ∃ z, (checkS headC ⟨[], []⟩).1 = z := ⟨_, rfl⟩
 rw [headN_check, hd2] at h2
 have h1w := Snd.up (s0 := [(0, .data 3 [[.int 0, .lit (.slice none 0 0), .int (-1)]])]) (args := [.ag [.d (.lit (.slice none 0 0)), .rs 0 3 0 1], .d (.ag [.sl false [[.str ByteArray.empty, .int (-1)]], .sl false [], .sl false [], .lit (.slice none 0 0), .bool false, .lit (.slice none 0 0), .int 0])]) h1 rfl rfl
 have hrow0 : Fw.rowAt [[D.bool true]] 0 = [D.bool true] := rfl
 refine snd_of [] Try.func8 rfl (by kernel_rfl) Try.ntmps8 (by simp) ?_
 unfold Try.f8
 simp only [List.cons_append, List.nil_append, List.length_cons, List.length_nil, Nat.reduceAdd, Nat.reduceSub, List.replicate]
 apply Run.seq
 refine opsF [⟨.assign (.const (.bool false)), some 0, none⟩] fun K hK => ?_
 try simp
 repeat' first | (refine evL_c ?_; simp [hrow0]) | (with_reducible first | apply aI | intro _ | assumption) | omega
 all_goals (apply Fin.go hK; clear hK K)
 simp only [tN]
 apply Run.seq
 refine opsF [⟨.build 70 #[(1, .const (.int .i64 (-1)))], some 8, none⟩, ⟨.buildSlice 26 1 #[(0, .tmp 8)], some 9, none⟩, ⟨.build 32 #[(0, .tmp 9)], some 10, none⟩, ⟨.alloc 32, some 1, none⟩, oS 32 1 10] fun K hK => ?_
 try simp
 repeat' first | (refine evL_c ?_; simp [hrow0]) | (with_reducible first | apply aI | intro _ | assumption) | omega
 all_goals (apply Fin.go hK; clear hK K)
 simp only [tN]
 refine Run.fra 1000 ?_
 simp [V.fra, V.fraL, fraS, frz]
 refine Run.subB 200 1 (.d (.sl false [])) rfl rfl nil_sl ?_
 try simp
 refine Run.subB 200 2 (.d (.sl false [])) rfl rfl nil_sl ?_
 try simp
 apply Run.seq
 refine opsT [⟨.build 41 #[(2, .const (.int .i64 (-1)))], some 12, none⟩, ⟨.buildSlice 23 1 #[(0, .tmp 12)], some 13, none⟩, ⟨.build 25 #[(1, .tmp 13)], some 14, none⟩, oL 32 1 15, oC 9 #[.tmp 14, .tmp 15] #[25, 32] 16, oM 16 11, oX 11 0 17, oX 11 1 18, oX 11 2 19, oA 17 2, oA 18 3, oA 19 4] fun K hK => ?_
 try simp
 repeat' first | (refine ecallW [1400] (by exact h1w) (by simp) (by simp) (by rfl) ?_) | (refine evL_c ?_; simp [hrow0]) | (with_reducible first | apply aI | intro _ | assumption) | omega
 all_goals (apply Fin.go hK; clear hK K)
 simp only [tN]
 apply Run.seq
 refine opsF [⟨.build 25 #[], some 21, none⟩, oL 32 1 22, oC 9 #[.tmp 21, .tmp 22] #[25, 32] 23, oM 23 20, oX 20 0 24, oX 20 1 25, oX 20 2 26, oA 24 5, oA 25 6, oA 26 7] fun K hK => ?_
 try simp
 repeat' first | (refine ecall (by exact h2) rfl ?_) | (refine evL_c ?_; simp [hrow0]) | (with_reducible first | apply aI | intro _ | assumption) | omega
 all_goals (apply Fin.go hK; clear hK K)
 simp only [tN]
 apply Run.seq
 refine opsF [oM 4 27, oK .eql 35 27 0 35 28, oM 28 29, ⟨.move (.tmp 2), some 30, some (some 29, true)⟩, ⟨.call { callee := .builtin .len, args := #[.tmp 30], argTypes := #[34] }, some 31, some (some 29, true)⟩, ⟨.binOp .eql 3 (.tmp 31) (.const (.int .i64 1)) 3, some 32, some (some 29, true)⟩, ⟨.pick (.tmp 29) (.tmp 32) (.const (.bool false)), some 33, none⟩, oM 33 34, ⟨.move (.tmp 2), some 35, some (some 34, true)⟩, ⟨.indexAddr 34 (.tmp 35) (.const (.int .i64 0)), some 36, some (some 34, true)⟩, ⟨.load 4 (.tmp 36), some 37, some (some 34, true)⟩, ⟨.pick (.tmp 34) (.tmp 37) (.const (.bool false)), some 38, none⟩, oM 38 39, ⟨.move (.tmp 6), some 40, some (some 39, true)⟩, ⟨.binOp .eql 3 (.tmp 40) (.const (.int .i64 (-1))) 3, some 41, some (some 39, true)⟩, ⟨.pick (.tmp 39) (.tmp 41) (.const (.bool false)), some 42, none⟩, oM 42 43, ⟨.move (.tmp 7), some 44, some (some 43, true)⟩, ⟨.binOp .eql 35 (.tmp 44) (.const (.int .i64 181)) 35, some 45, some (some 43, true)⟩, ⟨.pick (.tmp 43) (.tmp 45) (.const (.bool false)), some 46, none⟩, oA 46 0] fun K hK => ?_
 try simp
 repeat' first | ((first | refine evL_c ?_ | (refine evL_g rfl ?_; try simp only [gs_tt, gs_ff, gs_tf, gs_ft]) | refine evL_u rfl ?_ | (with_reducible refine gsplit (fun hg => ?_) (fun hg => ?_) <;> try simp at hg)) <;> try simp [hrow0]) | (with_reducible first | apply aI | intro _ | assumption) | omega
 all_goals (apply Fin.go hK; clear hK K)
 all_goals
  simp only [tN]
  apply Run.ret
  try simp only [Then_ret, Blok_ret]
  simp
end Go.Proofs.Ytimgbdkgjfbhkaa.Z
end
section
namespace Go.Proofs.Ytimgbdkgjfbhkaa.Z
open Go Go.Fw
attribute [-simp] litV lost
attribute [local simp] litV_agg litV_int litV_str litV_bool litV_slice litV_tup
set_option maxHeartbeats 8000000 in
theorem back0_ok (p : PlanT) (r : ProgR) (c : CoreT) (W1 W2 : Int) (hW1 : Snd P 16 [.d (.ag (encP p)), .int 300] (.int W1) []) (hW2 : Snd P 10 [.d (.ag (encPr r)), .int 300] (.int W2) []) (hor : (decide (300 < W1) || decide (300 < W2)) = true) : Snd P 5 [.d (.ag (encP p)), .d (.ag (encPr r)), .d (.ag (encC c))] (.bool true) [] := by
 rw [encP_cells] at hW1
 refine snd_of [] Try.func5 rfl (by kernel_rfl) Try.ntmps5 (by simp) ?_
 unfold Try.f5
 simp only [List.cons_append, List.nil_append, List.length_cons, List.length_nil, Nat.reduceAdd, Nat.reduceSub, List.replicate]
 apply Run.seq
 refine opsF oo105 fun K hK => ?_
 try simp
 repeat' first | (refine evL_c ?_; simp) | (with_reducible first | apply aI | intro _ | assumption) | omega
 all_goals (apply Fin.go hK; clear hK K)
 simp only [tN]
 apply Run.seq
 refine opsF oo106 fun K hK => ?_
 try simp
 repeat' first | (refine ecallD (by exact head_ok) ?_) | (refine evL_c ?_; simp) | (with_reducible first | apply aI | intro _ | assumption) | omega
 all_goals (apply Fin.go hK; clear hK K)
 simp only [tN]
 apply Run.seq
 refine Run.cut0 [27, 28, 29, 30, 31, 32, 33, 34] [(34, .bool (decide (300 < W1) || decide (300 < W2)))] ?_ ?_
 ·refine opsF oo107 fun K hK => ?_
  try simp
  repeat' first | (refine ecallD (by exact hW1) ?_) | (refine ecallD (by exact hW2) ?_) | ((first | refine evL_c ?_ | (refine evL_g rfl ?_; try simp only [gs_tt, gs_ff, gs_tf, gs_ft]) | refine evL_u rfl ?_ | (with_reducible refine gsplit (fun hg => ?_) (fun hg => ?_) <;> try simp at hg)) <;> try simp) | (with_reducible first | apply aI | intro _ | assumption) | omega
  all_goals (apply Fin.go hK; clear hK K)
  all_goals
   (try simp) <;> (first | omega | (simp; done) | (simp_all; done) | grind)
 ·simp only [over, List.foldl, List.set]
  refine Run.cond rfl (fun h34 => ?_) (fun h34 => ?_)
  ·skip
   apply Run.seq
   refine opsF [oM 7 35, oA 35 6] fun K hK => ?_
   try simp
   repeat' first | (refine evL_c ?_; simp) | (with_reducible first | apply aI | intro _ | assumption) | omega
   all_goals (apply Fin.go hK; clear hK K)
   simp only [tN]
   apply Run.ret
   try simp only [Then_ret, Blok_ret]
   simp
  ·rw [hor] at h34
   cases h34
set_option maxHeartbeats 8000000 in
theorem back1_ok (p : PlanT) (r : ProgR) (c : CoreT) (W1 W2 : Int) (hW1 : Snd P 16 [.d (.ag (encP p)), .int 300] (.int W1) []) (hW2 : Snd P 10 [.d (.ag (encPr r)), .int 300] (.int W2) []) (hor : (decide (300 < W1) || decide (300 < W2)) = false)
 (X0 X1 : D) (n : Int) (q0 : PlanT) (h17 : Snd P 17 [.d (.ag (encP p)), .d (.ag (encC c))] (.tup [.d (.ag [X0, X1]), .int n]) []) (h13 : n = 0 → Snd P 13 [.d (.ag [X0, X1]), .d (.ag (encC c))] (.tup [.d (.ag (encP q0)), .int 0]) [])
 (h18 : Snd P 18 [.d (.ag (encP p))] (.d (.ag (encP q0))) []) (h15 : Snd P 15 [.d (.ag (encP q0)), .d (.ag (encP q0))] (.bool true) [])
 (d : D) (a e : Int) (h9 : Snd P 9 [.d (.ag (encPr r)), .d (.ag (encC c))] (.tup [.d d, .int a, .int e]) [])
 (q : PlanT) (T0 : List (List D)) (Y1 : D) (a2 : Int) (hT0 : T0.length = r.tabs.length)
 (g13 : e = 0 → Snd P 13 [.d (.ag (encPr r)), .d (.ag (encC c))] (.tup [.d (.ag (encP q)), .int 0]) [])
 (g17 : e = 0 → Snd P 17 [.d (.ag (encP q)), .d (.ag (encC c))] (.tup [.d (.ag [.sl false T0, Y1]), .int 0]) [])
 (g9 : e = 0 → Snd P 9 [.d (.ag [.sl false T0, Y1]), .d (.ag (encC c))] (.tup [.d d, .int a2, .int 0]) [])
 (k13 : e = 0 → Snd P 13 [.d (.ag [.sl false T0, Y1]), .d (.ag (encC c))] (.tup [.d (.ag (encP q)), .int 0]) [])
 (g12 : Snd P 12 [.d d, .d d] (.bool true) []) (g15 : Snd P 15 [.d (.ag (encP q)), .d (.ag (encP q))] (.bool true) []) (g19 : e = 0 → Snd P 19 [.d (.ag [.sl false T0, Y1]), .d (.ag [.sl false T0, Y1])] (.bool true) []) : Snd P 5 [.d (.ag (encP p)), .d (.ag (encPr r)), .d (.ag (encC c))] (.bool true) [] := by
 rw [encP_cells] at hW1
 rw [encP_cells] at h17 h18 h15 g15
 rw [encP_cells] at h18
 obtain ⟨nt, hnt⟩ : ∃ z, r.tabs.length = z := ⟨_, rfl⟩
 rw [hnt] at hT0
 refine snd_of [] Try.func5 rfl (by kernel_rfl) Try.ntmps5 (by simp) ?_
 unfold Try.f5
 simp only [List.cons_append, List.nil_append, List.length_cons, List.length_nil, Nat.reduceAdd, Nat.reduceSub, List.replicate]
 apply Run.seq
 refine opsF oo105 fun K hK => ?_
 try simp
 repeat' first | (refine evL_c ?_; simp [hnt]) | (with_reducible first | apply aI | intro _ | assumption) | omega
 all_goals (apply Fin.go hK; clear hK K)
 simp only [tN]
 apply Run.seq
 refine opsF oo106 fun K hK => ?_
 try simp
 repeat' first | (refine ecallD (by exact head_ok) ?_) | (refine evL_c ?_; simp [hnt]) | (with_reducible first | apply aI | intro _ | assumption) | omega
 all_goals (apply Fin.go hK; clear hK K)
 simp only [tN]
 apply Run.seq
 refine Run.cut0 [27, 28, 29, 30, 31, 32, 33, 34] [(34, .bool (decide (300 < W1) || decide (300 < W2)))] ?_ ?_
 ·refine opsF oo107 fun K hK => ?_
  try simp
  repeat' first | (refine ecallD (by exact hW1) ?_) | (refine ecallD (by exact hW2) ?_) | ((first | refine evL_c ?_ | (refine evL_g rfl ?_; try simp only [gs_tt, gs_ff, gs_tf, gs_ft]) | refine evL_u rfl ?_ | (with_reducible refine gsplit (fun hg => ?_) (fun hg => ?_) <;> try simp at hg)) <;> try simp [hnt]) | (with_reducible first | apply aI | intro _ | assumption) | omega
  all_goals (apply Fin.go hK; clear hK K)
  all_goals
   (try simp) <;> (first | omega | (simp; done) | (simp_all; done) | grind)
 ·simp only [over, List.foldl, List.set]
  refine Run.cond rfl (fun h34 => ?_) (fun h34 => ?_)
  ·rw [hor] at h34
   cases h34
  ·skip
   apply Run.skip
   simp only [tN]
   apply Run.seq
   refine opsF [oL 48 3 37, oL 32 5 38, oC 17 #[.tmp 37, .tmp 38] #[48, 32] 39, oM 39 36, oX 36 0 40, oX 36 1 41, ⟨.alloc 25, some 8, none⟩, oS 25 8 40, oA 41 9] fun K hK => ?_
   try simp
   repeat' first | (refine ecall (by exact h17) rfl ?_) | (refine evL_c ?_; simp [hnt]) | (with_reducible first | apply aI | intro _ | assumption) | omega
   all_goals (apply Fin.go hK; clear hK K)
   simp only [tN]
   refine Run.cut [6, 10, 11, 12, 42, 43, 44, 45, 46, 47, 48, 49, 50, 51, 52, 53, 54, 55, 56, 57, 58, 59] [] [(400, .vals ((encP p).map .d)), (500, .vals ((encPr r).map .d)), (600, .vals ((encC c).map .d))] ?_ ?_
   ·apply Run.seq
    refine opsF [oM 9 42, oK .eql 35 42 0 35 43] fun K hK => ?_
    try simp
    repeat' first | (refine evL_c ?_; simp [hnt]) | (with_reducible first | apply aI | intro _ | assumption) | omega
    all_goals (apply Fin.go hK; clear hK K)
    simp only [tN]
    refine Run.cond rfl (fun h43 => ?_) (fun h43 => ?_)
    ·try simp at h43
     have x13 := h13 h43
     clear h13
     rw [encP_cells] at x13
     subst h43
     apply Run.seq
     refine opsF [oL 25 8 45, oL 32 5 46, oC 13 #[.tmp 45, .tmp 46] #[25, 32] 47, oM 47 44, oX 44 0 48, oX 44 1 49, ⟨.alloc 48, some 10, none⟩, oS 48 10 48, oA 49 11] fun K hK => ?_
     try simp
     repeat' first | (refine ecall (by exact x13) rfl ?_) | (refine evL_c ?_; simp [hnt]) | (with_reducible first | apply aI | intro _ | assumption) | omega
     all_goals (apply Fin.go hK; clear hK K)
     simp only [tN]
     apply Run.seq
     refine opsF [oL 48 10 50, oL 48 3 51, oC 18 #[.tmp 51] #[48] 52, oC 15 #[.tmp 50, .tmp 52] #[48, 48] 53, oA 53 12] fun K hK => ?_
     try simp
     repeat' first | (refine ecallD (by exact h18) ?_) | (refine ecallD (by exact h15) ?_) | (refine evL_c ?_; simp [hnt]) | (with_reducible first | apply aI | intro _ | assumption) | omega
     all_goals (apply Fin.go hK; clear hK K)
     simp only [tN]
     apply Run.seq
     refine opsF [oM 11 54, oK .neq 35 54 0 35 55, oM 55 56, ⟨.move (.tmp 12), some 57, some (some 56, false)⟩, ⟨.unOp .not 4 (.tmp 57), some 58, some (some 56, false)⟩, ⟨.pick (.tmp 56) (.const (.bool true)) (.tmp 58), some 59, none⟩] fun K hK => ?_
     try simp
     repeat' first | ((first | refine evL_c ?_ | (refine evL_g rfl ?_; try simp only [gs_tt, gs_ff, gs_tf, gs_ft]) | refine evL_u rfl ?_ | (with_reducible refine gsplit (fun hg => ?_) (fun hg => ?_) <;> try simp at hg)) <;> try simp [hnt]) | (with_reducible first | apply aI | intro _ | assumption) | omega
     all_goals (apply Fin.go hK; clear hK K)
     all_goals
      simp only [tN]
      refine Run.cond rfl (fun h59 => ?_) (fun h59 => ?_)
      ·simp at h59
      ·skip
       apply Run.skip
       simp
    ·try simp at h43
     apply Run.skip
     simp
   ·simp only [over, List.foldl, List.set]
    apply Run.seq
    refine opsF [oL 25 4 61, oL 32 5 62, oC 9 #[.tmp 61, .tmp 62] #[25, 32] 63, oM 63 60, oX 60 0 64, oX 60 1 65, oX 60 2 66, oA 64 13, oA 65 14, oA 66 15] fun K hK => ?_
    try simp
    repeat' first | (refine ecall (by exact h9) rfl ?_) | (refine evL_c ?_; simp [hnt]) | (with_reducible first | apply aI | intro _ | assumption) | omega
    all_goals (apply Fin.go hK; clear hK K)
    simp only [tN]
    apply Run.seq
    apply Run.seq
    refine opsF [oM 15 67, oK .eql 35 67 0 35 68] fun K hK => ?_
    try simp
    repeat' first | (refine evL_c ?_; simp [hnt]) | (with_reducible first | apply aI | intro _ | assumption) | omega
    all_goals (apply Fin.go hK; clear hK K)
    simp only [tN]
    refine Run.cond rfl (fun h68 => ?_) (fun h68 => ?_)
    ·try simp at h68
     have y13 := g13 h68
     have y17 := g17 h68
     have y9 := g9 h68
     have z13 := k13 h68
     have y19 := g19 h68
     clear g13 g17 g9 k13 g19
     rw [encP_cells] at y13 y17 z13
     subst h68
     apply Run.seq
     refine opsF [oL 25 4 70, oL 32 5 71, oC 13 #[.tmp 70, .tmp 71] #[25, 32] 72, oM 72 69, oX 69 0 73, oX 69 1 74, ⟨.alloc 48, some 16, none⟩, oS 48 16 73, oA 74 17] fun K hK => ?_
     try simp
     repeat' first | (refine ecall (by exact y13) rfl ?_) | (refine evL_c ?_; simp [hnt]) | (with_reducible first | apply aI | intro _ | assumption) | omega
     all_goals (apply Fin.go hK; clear hK K)
     simp only [tN]
     apply Run.seq
     refine opsF [oL 48 16 76, oL 32 5 77, oC 17 #[.tmp 76, .tmp 77] #[48, 32] 78, oM 78 75, oX 75 0 79, oX 75 1 80, ⟨.alloc 25, some 18, none⟩, oS 25 18 79, oA 80 19] fun K hK => ?_
     try simp
     repeat' first | (refine ecall (by exact y17) rfl ?_) | (refine evL_c ?_; simp [hnt]) | (with_reducible first | apply aI | intro _ | assumption) | omega
     all_goals (apply Fin.go hK; clear hK K)
     simp only [tN]
     apply Run.seq
     refine opsF [oL 25 18 82, oL 32 5 83, oC 9 #[.tmp 82, .tmp 83] #[25, 32] 84, oM 84 81, oX 81 0 85, oX 81 1 86, oX 81 2 87, oA 85 20, oA 86 21, oA 87 22] fun K hK => ?_
     try simp
     repeat' first | (refine ecall (by exact y9) rfl ?_) | (refine evL_c ?_; simp [hnt]) | (with_reducible first | apply aI | intro _ | assumption) | omega
     all_goals (apply Fin.go hK; clear hK K)
     simp only [tN]
     apply Run.seq
     refine opsF [oL 25 18 89, oL 32 5 90, oC 13 #[.tmp 89, .tmp 90] #[25, 32] 91, oM 91 88, oX 88 0 92, oX 88 1 93, ⟨.alloc 48, some 23, none⟩, oS 48 23 92, oA 93 24] fun K hK => ?_
     try simp
     repeat' first | (refine ecall (by exact z13) rfl ?_) | (refine evL_c ?_; simp [hnt]) | (with_reducible first | apply aI | intro _ | assumption) | omega
     all_goals (apply Fin.go hK; clear hK K)
     simp only [tN]
     apply Run.seq
     refine opsF [oM 13 94, oM 20 95, oC 12 #[.tmp 94, .tmp 95] #[34, 34] 96, oA 96 25] fun K hK => ?_
     try simp
     repeat' first | (refine ecallD (by exact g12) ?_) | (refine evL_c ?_; simp [hnt]) | (with_reducible first | apply aI | intro _ | assumption) | omega
     all_goals (apply Fin.go hK; clear hK K)
     simp only [tN]
     apply Run.seq
     apply Run.seq
     refine opsF [oM 19 97, oK .neq 35 97 0 35 98, oM 98 99, ⟨.move (.tmp 22), some 100, some (some 99, false)⟩, ⟨.binOp .neq 35 (.tmp 100) (.const (.int .i64 0)) 35, some 101, some (some 99, false)⟩, ⟨.pick (.tmp 99) (.const (.bool true)) (.tmp 101), some 102, none⟩, oM 102 103, ⟨.move (.tmp 25), some 104, some (some 103, false)⟩, ⟨.unOp .not 4 (.tmp 104), some 105, some (some 103, false)⟩, ⟨.pick (.tmp 103) (.const (.bool true)) (.tmp 105), some 106, none⟩] fun K hK => ?_
     try simp
     repeat' first | ((first | refine evL_c ?_ | (refine evL_g rfl ?_; try simp only [gs_tt, gs_ff, gs_tf, gs_ft]) | refine evL_u rfl ?_ | (with_reducible refine gsplit (fun hg => ?_) (fun hg => ?_) <;> try simp at hg)) <;> try simp [hnt]) | (with_reducible first | apply aI | intro _ | assumption) | omega
     all_goals (apply Fin.go hK; clear hK K)
     all_goals
      simp only [tN]
      refine Run.cond rfl (fun h106 => ?_) (fun h106 => ?_)
      ·simp at h106
      ·skip
       apply Run.skip
       simp only [tN]
       apply Run.seq
       refine opsF [oM 7 107, oM 107 108, ⟨.load 48 (.tmp 16), some 109, some (some 108, true)⟩, ⟨.load 48 (.tmp 23), some 110, some (some 108, true)⟩, ⟨.call { callee := .value (.func 15), args := #[.tmp 109, .tmp 110], argTypes := #[48, 48] }, some 111, some (some 108, true)⟩, ⟨.pick (.tmp 108) (.tmp 111) (.const (.bool false)), some 112, none⟩, oM 112 113, ⟨.fieldAddr 25 (.tmp 18) 0, some 114, some (some 113, true)⟩, ⟨.load 22 (.tmp 114), some 115, some (some 113, true)⟩, ⟨.call { callee := .builtin .len, args := #[.tmp 115], argTypes := #[22] }, some 116, some (some 113, true)⟩, ⟨.fieldAddr 25 (.tmp 4) 0, some 117, some (some 113, true)⟩, ⟨.load 22 (.tmp 117), some 118, some (some 113, true)⟩, ⟨.call { callee := .builtin .len, args := #[.tmp 118], argTypes := #[22] }, some 119, some (some 113, true)⟩, ⟨.binOp .eql 3 (.tmp 116) (.tmp 119) 3, some 120, some (some 113, true)⟩, ⟨.pick (.tmp 113) (.tmp 120) (.const (.bool false)), some 121, none⟩, oM 121 122, ⟨.load 25 (.tmp 18), some 123, some (some 122, true)⟩, ⟨.load 25 (.tmp 18), some 124, some (some 122, true)⟩, ⟨.call { callee := .value (.func 19), args := #[.tmp 123, .tmp 124], argTypes := #[25, 25] }, some 125, some (some 122, true)⟩, ⟨.pick (.tmp 122) (.tmp 125) (.const (.bool false)), some 126, none⟩, oA 126 6] fun K hK => ?_
       try simp
       repeat' first | (refine ecallD (by exact g15) ?_) | (refine ecallD (by exact y19) ?_) | ((first | refine evL_c ?_ | (refine evL_g rfl ?_; try simp only [gs_tt, gs_ff, gs_tf, gs_ft]) | refine evL_u rfl ?_ | (with_reducible refine gsplit (fun hg => ?_) (fun hg => ?_) <;> try simp at hg)) <;> try simp [hnt, hT0]) | (with_reducible first | apply aI | intro _ | assumption) | omega
       all_goals (apply Fin.go hK; clear hK K)
       all_goals
        simp only [tN]
        apply Run.ret
        try simp only [Then_ret, Blok_ret]
        simp
    ·try simp at h68
     apply Run.skip
     simp only [tN]
     apply Run.seq
     refine opsF [oM 7 127, oA 127 6] fun K hK => ?_
     try simp
     repeat' first | (refine evL_c ?_; simp [hnt]) | (with_reducible first | apply aI | intro _ | assumption) | omega
     all_goals (apply Fin.go hK; clear hK K)
     simp only [tN]
     apply Run.ret
     try simp only [Then_ret, Blok_ret]
     simp
end Go.Proofs.Ytimgbdkgjfbhkaa.Z
end
section
namespace Go.Proofs.Ytimgbdkgjfbhkaa.Z
open Go Go.Fw
theorem eqBs_self (a : List Bool) : eqBs a a = true := (eqBs_iff a a).2 rfl
theorem same_self (c : CoreT) (r : ProgR) : Snd P 12 [.d (checkS c r).1, .d (checkS c r).1] (.bool true) [] := by
 have key : ∀ l : List Bool, Snd P 12 [.d (.sl false (l.map encB)), .d (.sl false (l.map encB))] (.bool true) [] := fun l => by
  have := sameBools_ok false false l l
  rw [eqBs_self] at this
  exact this
 have hn : Snd P 12 [.d (.lit (.slice none 0 0)), .d (.lit (.slice none 0 0))] (.bool true) [] := snd_sub (key []) ⟨DSub.nil, DSub.nil, trivial⟩
 unfold checkS
 split
 ·unfold boundD
  split
  ·cases bndT c (planS c r).1 with
   | none => exact hn
   | some b => exact key b
  ·exact hn
 ·exact hn
def OkZ (s : StepR) : Prop := (s.op = 4 ∨ s.op = 5 → s.edges = []) ∧ (s.op ≠ 4 → s.terms = [])
theorem stepZ_ok (p : PlanT) : OkZ (stepZ p) := by
 unfold stepZ
 repeat' split
 all_goals simp [OkZ]
def OkP (x : PipeR) : Prop := ∀ s ∈ x.steps, OkZ s
theorem onQ_ok {x : PipeR} {s : StepR} (hx : OkP x) (hs : OkZ s) : OkP (onQ x s) := fun u hu => by
 rcases List.mem_append.1 hu with hu | hu
 ·exact hx u hu
 ·rw [List.mem_singleton.1 hu]; exact hs
theorem get_ok {xs : List PipeR} (h : ∀ x ∈ xs, OkP x) (i : Nat) : OkP (xs.getD i default) := by
 rw [List.getD_eq_getElem?_getD]
 cases hi : xs[i]? with
 | none => intro s hs; cases hs
 | some x => exact h x (List.mem_of_getElem? hi)
mutual
theorem pipeQ_okP (c : CoreT) : ∀ (p : PlanT) (st : StQ), (∀ x ∈ st.2, OkP x) → OkP (pipeQ c p st).1 ∧ ∀ x ∈ (pipeQ c p st).2.2, OkP x
 | .mk o k s e b t, st, h => by
   obtain ⟨h1, h2⟩ := pipeQL_okP c k st h
   rw [pipeQ, pipeOQ]
   split
   ·exact ⟨fun s hs => by simp at hs, h2⟩
   split
   ·refine ⟨onQ_ok (get_ok h1 0) ⟨fun _ => rfl, fun _ => rfl⟩, fun x hx => ?_⟩
    rcases List.mem_append.1 hx with hx | hx
    ·exact h2 x hx
    ·rw [List.mem_singleton.1 hx]; exact get_ok h1 1
   ·exact ⟨onQ_ok (get_ok h1 0) (stepZ_ok _), h2⟩
theorem pipeQL_okP (c : CoreT) : ∀ (l : List PlanT) (st : StQ), (∀ x ∈ st.2, OkP x) → (∀ x ∈ (pipeQL c l st).1, OkP x) ∧ ∀ x ∈ (pipeQL c l st).2.2, OkP x
 | [], st, h => by rw [pipeQL]; exact ⟨fun x hx => by simp at hx, h⟩
 | p :: r, st, h => by
   obtain ⟨h1, h2⟩ := pipeQ_okP c p st h
   obtain ⟨h3, h4⟩ := pipeQL_okP c r _ h2
   rw [pipeQL]
   refine ⟨fun x hx => ?_, h4⟩
   rcases List.mem_cons.1 hx with rfl | hx
   ·exact h1
   ·exact h3 x hx
end
theorem comp_okP (c : CoreT) (p : PlanT) : ∀ x ∈ (compQ c p).pipes, OkP x := fun x hx => by
 obtain ⟨h1, h2⟩ := pipeQ_okP c p ([], []) (by simp)
 rcases List.mem_append.1 hx with hx | hx
 ·exact h2 x hx
 ·rw [List.mem_singleton.1 hx]; exact h1
theorem sub_step {s : StepR} (h : OkZ s) : SubL (encK (toK s)) (encR s) := by
 have key : ∀ x : D, x = nilD → DSub x (.sl false []) := fun x e => e ▸ DSub.nil
 refine ⟨.refl _, .refl _, ?_, .refl _, ?_, .refl _, trivial⟩
 ·show DSub (if s.op = 4 ∨ s.op = 5 then nilD else .sl false (s.edges.map encI)) (.sl false (s.edges.map encI))
  split
  ·rename_i h2; rw [h.1 h2]; exact DSub.nil
  ·exact .refl _
 ·show DSub (if s.op = 4 then .sl false (s.terms.map encT) else nilD) (.sl false (s.terms.map encT))
  split
  ·exact .refl _
  ·rename_i h2; rw [h.2 h2]; exact DSub.nil
theorem sub_pipe {x : PipeR} (h : OkP x) : SubL (encW (toW x)) (encPi x) := by
 refine ⟨.refl _, DSub.sl (by simp [toW]) (fun i a b ha hb => ?_), .refl _, trivial⟩
 simp only [toW, List.getElem?_map, Option.map_eq_some_iff] at ha hb
 obtain ⟨y, ⟨z, hz, rfl⟩, rfl⟩ := ha
 obtain ⟨z2, hz2, rfl⟩ := hb
 rw [hz] at hz2
 cases hz2
 exact sub_step (h z (List.mem_of_getElem? hz))
abbrev outD (c : CoreT) (p : PlanT) : D := .ag [.sl false ((compT c p).1.map encTb), .sl false ((compT c p).2.map encW)]
theorem sub_comp (c : CoreT) (p : PlanT) : DSub (outD c p) (.ag (encPr (compQ c p))) := by
 unfold outD
 rw [compT_Q]
 refine DSub.ag ⟨.refl _, DSub.sl (by simp) (fun i a b ha hb => ?_), trivial⟩
 simp only [List.getElem?_map, Option.map_eq_some_iff] at ha hb
 obtain ⟨y, ⟨z, hz, rfl⟩, rfl⟩ := ha
 obtain ⟨z2, hz2, rfl⟩ := hb
 rw [hz] at hz2
 cases hz2
 exact sub_pipe (comp_okP c p z (List.mem_of_getElem? hz))
theorem wP_app' (a b : List PipeR) : wP (a ++ b) = wP a + wP b := by
 induction a with
 | nil => simp [wP]
 | cons x r ih => simp only [List.cons_append, wP, ih]; omega
theorem wL_app (a b : List StepR) : wL (a ++ b) = wL a + wL b := by
 induction a with
 | nil => simp [wL]
 | cons x r ih => simp only [List.cons_append, wL, ih]; omega
theorem stepZ_w (p : PlanT) : wS (stepZ p) + partsL p.kids ≤ partsP p := by
 obtain ⟨o, k, s, e, b, t⟩ := p
 unfold stepZ
 repeat' split
 all_goals (simp [wS, partsP, PlanT.kids, PlanT.edges, PlanT.terms, cntL]; try omega)
theorem pipeQ_w (c : CoreT) (p : PlanT) (hr : (bndT c p).isSome = true) (st : StQ) : wP (pipeQ c p st).2.2 + 1 + wL (pipeQ c p st).1.steps ≤ wP st.2 + partsP p := by
 have hw := bnd_wants hr
 have hkid : ∀ i : Nat, i < p.kids.length → (bndT c (rdI p.kids (i : Nat))).isSome = true := fun i hi => bnd_kids hr _ (rdI_mem (by omega) (by omega))
 have hlt : ∀ i : Nat, i < p.kids.length → SizeOf.sizeOf (rdI p.kids (i : Nat)) < SizeOf.sizeOf p := fun i hi => kids_ltQ (rdI_mem (by omega) (by omega))
 have one : p.kids.length = 1 → p.op ≠ 1 → p.op ≠ 4 → wP (pipeQ c p st).2.2 + 1 + wL (pipeQ c p st).1.steps ≤ wP st.2 + partsP p := fun hk h1 h4 => by
  have ih := pipeQ_w c (rdI p.kids (0 : Nat)) (hkid 0 (by omega)) st
  have hq : pipeQ c p st = (onQ (pipeQ c (rdI p.kids 0) st).1 (stepZ p), (pipeQ c (rdI p.kids 0) st).2) := by
   rw [pipeQ_one hk, pipeOQ, if_neg h1, if_neg h4]; rfl
  have hz := stepZ_w p
  have hpl : partsL p.kids = partsP (rdI p.kids 0) := by
   obtain ⟨q, hq⟩ := List.length_eq_one_iff.1 hk
   rw [hq, partsL, partsL]; rfl
  rw [hq]
  simp only [onQ, wL_app, wL]
  simp only [Int.natCast_zero] at ih
  omega
 rcases wants_cases hw with h | h | h | h | h | h
 ·have hk : p.kids = [] := by
   rw [h] at hw
   exact List.length_eq_zero_iff.1 (Option.some.inj (hw.symm : some p.kids.length = some 0))
  have hq : pipeQ c p st = (⟨p.slot, [], -1⟩, st) := by rw [pipeQ_eq, hk, pipeQL, pipeOQ, if_pos h]
  rw [hq]
  have : 1 ≤ partsP p := by cases p; rw [partsP]; omega
  simp only [wL]; omega
 ·exact one (by rw [h] at hw; exact Option.some.inj (hw.symm)) (by omega) (by omega)
 ·exact one (by rw [h] at hw; exact Option.some.inj (hw.symm)) (by omega) (by omega)
 ·have hk : p.kids.length = 2 := by rw [h] at hw; exact Option.some.inj (hw.symm)
  have ih0 := pipeQ_w c (rdI p.kids (0 : Nat)) (hkid 0 (by omega)) st
  have ih1 := pipeQ_w c (rdI p.kids (1 : Nat)) (hkid 1 (by omega)) (pipeQ c (rdI p.kids 0) st).2
  have h2 := parts_two hk
  rw [pipeQ_two hk, pipeOQ, if_neg (by omega), if_pos h]
  simp only [onQ, wL_app, wL, wP_app', wP, List.getD_cons_zero, List.getD_cons_succ]
  have hp : wS (probeQ ((pipeQ c (rdI p.kids 1) (pipeQ c (rdI p.kids 0) st).2).2.1.length)) = 1 := rfl
  rw [hp]
  simp only [Int.natCast_zero, Int.natCast_one] at ih0 ih1
  omega
 ·exact one (by rw [h] at hw; exact Option.some.inj (hw.symm)) (by omega) (by omega)
 ·exact one (by rw [h] at hw; exact Option.some.inj (hw.symm)) (by omega) (by omega)
termination_by SizeOf.sizeOf p
decreasing_by all_goals first | exact hlt 0 (by omega) | exact hlt 1 (by omega)
theorem comp_w {c : CoreT} {p : PlanT} (hr : (bndT c p).isSome = true) : wP (compQ c p).pipes ≤ partsP p := by
 have := pipeQ_w c p hr ([], [])
 unfold compQ
 simp only [wP_app', wP] at this ⊢
 omega
theorem Compile_all (c : CoreT) (p : PlanT) (hP : patS c.nodes c.edges = true) (hf : partsP p ≤ 1100000) (hr : (bndT c p).isSome = true) : Snd P 17 [.d (.ag (encP p)), .d (.ag (encC c))] (.tup [.d (outD c p), .int 0]) [] := by
 obtain ⟨b, hb⟩ := Option.isSome_iff_exists.1 hr
 have h := pipeT_len c p ([], [])
 simp only [List.length_nil] at h
 exact compA_ok c p _ _ _ (bound_some hP (by omega) hb) (pipe_ok c hP p (by omega) hr ([], []) (by simp; omega) (by simp; omega)) (by omega) (by omega)
theorem comp_bounds {c : CoreT} {p : PlanT} (hP : patS c.nodes c.edges = true) (hf : partsP p ≤ 1100000) (hr : (bndT c p).isSome = true) : wP (compQ c p).pipes ≤ 1100000 ∧ (compQ c p).tabs.length ≤ 1100000 := by
 have h1 := comp_w hr
 have h2 := planS_right (c := c) (r := compQ c p) (by rw [comp_plan hP hr])
 have h3 := wP_len (compQ c p).pipes
 exact ⟨by omega, by omega⟩
theorem sub13 {c : CoreT} {p : PlanT} {f : FuncId} {v : V} (h : Snd P f [.d (.ag (encPr (compQ c p))), .d (.ag (encC c))] v []) : Snd P f [.d (outD c p), .d (.ag (encC c))] v [] := snd_sub h ⟨sub_comp c p, .refl _, trivial⟩
theorem back_ok (p : PlanT) (r : ProgR) (c : CoreT) (hf : partsP p ≤ 1100000) (hw : wP r.pipes ≤ 1100000) (ht : r.tabs.length ≤ 1100000) (hc : c.wher.length ≤ 1100000) (hT : ∀ t ∈ r.tabs, t.length ≤ 1100000) : Snd P 5 [.d (.ag (encP p)), .d (.ag (encPr r)), .d (.ag (encC c))] (.bool true) [] := by
 have hW1 := parts_ok p (by omega) 300 (by omega) (by omega)
 have hW2 := weight_ok r 300 (by omega) (by omega) hw ht hT
 cases hor : (decide (300 < partsR p 300) || decide (300 < weightS r 300)) with
 | true => exact back0_ok p r c _ _ hW1 hW2 hor
 | false =>
   have h9 := check_ok c r hw ht hc
   obtain ⟨X0, X1, n, h17, h13⟩ : ∃ (X0 X1 : D) (n : Int), Snd P 17 [.d (.ag (encP p)), .d (.ag (encC c))] (.tup [.d (.ag [X0, X1]), .int n]) [] ∧ (n = 0 → Snd P 13 [.d (.ag [X0, X1]), .d (.ag (encC c))] (.tup [.d (.ag (encP (bareT p))), .int 0]) []) := by
    by_cases hb : patS c.nodes c.edges = true ∧ (bndT c p).isSome = true
    ·refine ⟨_, _, 0, Compile_all c p hb.1 hf hb.2, fun _ => ?_⟩
     obtain ⟨k1, k2⟩ := comp_bounds hb.1 hf hb.2
     have hp := Plan_ok c (compQ c p) k1 k2 hc
     rw [comp_plan hb.1 hb.2] at hp
     exact sub13 hp
    ·obtain ⟨n, h1, -, h2⟩ := CompileN_ok c p hf hb
     exact ⟨_, _, n, h2, fun e => absurd e h1⟩
   by_cases he : (checkS c r).2.2 = 0
   ·have he2 : (planS c r).2.2 = 0 := by rw [← checkS_e]; exact he
    obtain ⟨f1, f2, f3, f4⟩ := plan_facts he2
    obtain ⟨b1, b2⟩ := back_law he2
    have hpq := planS_parts c r hw he2
    obtain ⟨k1, k2⟩ := comp_bounds f1 hpq f2
    have hp := Plan_ok c (compQ c (planS c r).1) k1 k2 hc
    rw [b1] at hp
    have hk := check_ok c (compQ c (planS c r).1) k1 k2 hc
    have hd : checkS c (compQ c (planS c r).1) = ((checkS c r).1, 0, 0) := by
     unfold checkS
     rw [b1, he2]
     simp
    rw [hd] at hk
    have hpr := Plan_ok c r hw ht hc
    rw [he2] at hpr
    have h19 := same_ok (compQ c (planS c r).1)
    refine back1_ok p r c _ _ hW1 hW2 hor X0 X1 n (bareT p) h17 h13 (bare_ok p hf) (samePP_ok _) _ _ _ h9 (planS c r).1 ((compT c (planS c r).1).1.map encTb) (.sl false ((compT c (planS c r).1).2.map encW)) 0 ?_ (fun _ => hpr) (fun _ => Compile_all c _ f1 hpq f2) (fun _ => sub13 hk) (fun _ => sub13 hp) (same_self c r) (samePP_ok _) (fun _ => snd_sub h19 ⟨sub_comp _ _, sub_comp _ _, trivial⟩)
    rw [List.length_map, compT_Q]; exact b2
   ·exact back1_ok p r c _ _ hW1 hW2 hor X0 X1 n (bareT p) h17 h13 (bare_ok p hf) (samePP_ok _) _ _ _ h9 zeroQ (r.tabs.map fun _ => []) nilD 0 (by simp) (fun e => absurd e he) (fun e => absurd e he) (fun e => absurd e he) (fun e => absurd e he) (same_self c r) (samePP_ok _) (fun e => absurd e he)
end Go.Proofs.Ytimgbdkgjfbhkaa.Z
end
section
namespace Go.Proofs.Ytimgbdkgjfbhkaa.Z
open Go Go.Fw Go.ChangeShapes Go.WideShapes Go.ChangeAt Go.RowKit Go.Joins Go.Deep
def lay (P : Program) (t : TypeId) : List (Nat × TypeId) := match P.underlying t with
 | some (.struct fs) => fs.toList.map fun f => (f.offset, f.type)
 | _ => []
abbrev CR (w : World) (ds : List D) (cs : List Value) : Prop := All2 (fun x v => v.oneCell = true ∧ DRel w (fun _ => False) x v) ds cs
theorem CR.one {w : World} {x : D} {v : Value} (h1 : v.oneCell = true) (h2 : DRel w (fun _ => False) x v) : CR w [x] [v] := All2.cons ⟨h1, h2⟩ All2.nil
theorem ok_wf {n : Int} (h : (Lit.int .i64 n).wf = true) : okLit (.int .i64 n) = true := by
 have := bounds_i64 h
 simp; omega
theorem ok_strl {s : ByteArray} (h : s.size ≤ maxLen) : okLit (.string s) = true := by
 have : s.size ≤ 9223372036854775807 := Nat.le_trans h (by decide)
 simp [this]
section
variable {H : Type} {enc : TypeId × Value → H} {P : Program} {w : World} {base : Nat} {spare : Nat → Bool} {held : Bool} {fuel : Nat} {t : TypeId} {cs : List Value} {x : DataW H × List MemPlace}
theorem rd_struct {l : List (Nat × TypeId)} (hl : lay P t = l) (h0 : l ≠ []) (h : DataW.trod enc P w base spare held fuel t cs = some x) :
  ∃ (xs : List (DataW H × List MemPlace)) (n : Nat), fuel = n + 1 ∧ x.1 = .agg (xs.map (·.1)) ∧ cs.length = P.cellsOf t ∧ xs.length = l.length ∧
   ∀ (i o : Nat) (ty : TypeId), l[i]? = some (o, ty) → DataW.trod enc P w base spare held n ty ((cs.drop o).take (P.cellsOf ty)) = xs[i]? := by
 unfold lay at hl
 split at hl
 ·rename_i fs hu
  obtain ⟨xs, n, h1, h2, h3, h4, h5⟩ := DataW.trod_struct hu h
  subst hl
  refine ⟨xs, n, h1, by rw [h2], h3, by simp [h4], fun i o ty hi => ?_⟩
  rw [List.getElem?_map, Array.getElem?_toList] at hi
  obtain ⟨f, hf, e⟩ := Option.map_eq_some_iff.1 hi
  cases e
  exact h5 i f hf
 ·exact absurd hl.symm h0
theorem rd_int (ht : P.underlying t = some (.int .i64)) (h : DataW.trod enc P w base spare held fuel t cs = some x) : ∃ v : Int, CR w (encI v) cs ∧ 1 ≤ Rows.uptoBulk x.1 := by
 obtain ⟨n, rfl, rfl, hw⟩ := DataW.trod_int ht h
 exact ⟨n, CR.one rfl (.lit _ (ok_wf hw)), by simp [Rows.uptoBulk]⟩
theorem rd_raw {e : TypeId} (ht : P.underlying t = some (.slice e)) (h : DataW.trod enc P w base spare held fuel t cs = some x) : ∃ v : Value, cs = [v] ∧ v.oneCell = true ∧ okLit v = true := by
 rcases DataW.trod_slice ht h with ⟨rfl, rfl⟩ | ⟨a, len, cap, elems, rest, n, hf, rfl, rfl, _⟩
 ·exact ⟨_, rfl, rfl, rfl⟩
 ·exact ⟨_, rfl, rfl, rfl⟩
theorem sum_bulk {α : Type} (μ : α → Nat) (l : List α) (es : List (DataW H × List MemPlace)) (hl : l.length = es.length) (h : ∀ (i : Nat) (v : α) (x : DataW H × List MemPlace), l[i]? = some v → es[i]? = some x → μ v ≤ Rows.uptoBulk x.1) : (l.map μ).sum ≤ Rows.uptoBulkAll (es.map (·.1)) := by
 induction l generalizing es with
 | nil => simp
 | cons v r ih =>
   cases es with
   | nil => simp at hl
   | cons x t =>
     have h1 := h 0 v x rfl rfl
     have h2 := ih t (by simpa using hl) fun i v x hv hx => h (i + 1) v x (by simpa using hv) (by simpa using hx)
     simp only [List.map_cons, List.sum_cons, Rows.uptoBulkAll]
     omega
theorem rd_slice {α : Type} [Inhabited α] (en : α → List D) (μ : α → Nat) {e : TypeId} {sz : Nat} (ht : P.underlying t = some (.slice e)) (hsz : P.cellsOf e = sz) (h0 : 0 < sz)
  (hel : ∀ n, fuel = n + 1 → ∀ cs x, DataW.trod enc P w base spare held n e cs = some x → ∃ v, CR w (en v) cs ∧ μ v ≤ Rows.uptoBulk x.1) (h : DataW.trod enc P w base spare held fuel t cs = some x) :
  ∃ (sv : Value) (l : List α), cs = [sv] ∧ sv.oneCell = true ∧ DRel w (fun _ => False) (.sl false (l.map en)) sv ∧ (l.map μ).sum + 1 ≤ Rows.uptoBulk x.1 := by
 rcases DataW.trod_slice ht h with ⟨rfl, rfl⟩ | ⟨a, len, cap, elems, rest, n, hf, rfl, rfl, hb, hl, hm, hlen, hi, _, _⟩
 ·exact ⟨.slice none 0 0, [], rfl, rfl, .slE false none 0 (by simp), by simp [Rows.uptoBulk]⟩
 ·obtain ⟨f, hF⟩ := choose_lt (α := α) (n := len) (p := fun i v => ∃ c, CR w (en v) c ∧ c.length = sz ∧ (∀ j u, c[j]? = some u → w.cell? (a.add (i * sz + j)) = some u) ∧ ∀ x, elems[i]? = some x → μ v ≤ Rows.uptoBulk x.1) (fun i hlt => by
   have h1 := hi i hlt
   rw [List.getElem?_eq_getElem (by omega)] at h1
   obtain ⟨c, h2, h3⟩ := Option.bind_eq_some_iff.1 h1
   obtain ⟨_, h4, h5⟩ := World.cells?_some h2
   obtain ⟨v, hk, hp⟩ := hel n hf c _ h3
   refine ⟨v, c, hk, h4.trans hsz, fun j u hu => ?_, fun x hx => ?_⟩
   ·have hj : j < P.cellsOf e := by
     rw [← h4]
     exact (List.getElem?_eq_some_iff.1 hu).1
    have h6 := h5 j hj
    rw [hu, Go.Deep.add_add, hsz] at h6
    exact h6
   ·rw [List.getElem?_eq_getElem (by omega)] at hx
    rw [← Option.some.inj hx]; exact hp)
  have hbk : (((List.range len).map f).map μ).sum + 1 ≤ Rows.uptoBulk (DataW.slice (elems.map (·.1)) (rest.map (·.1))) := by
   have := sum_bulk μ ((List.range len).map f) elems (by simp [hlen]) fun i v x hv hx => by
    rw [List.getElem?_map] at hv
    obtain ⟨k, hk, rfl⟩ := Option.map_eq_some_iff.1 hv
    have hlt : i < len := by have := (List.getElem?_eq_some_iff.1 hk).1; simpa using this
    have : k = i := by rw [List.getElem?_range hlt] at hk; exact (Option.some.inj hk).symm
    subst this
    obtain ⟨c, _, _, _, h4⟩ := hF k hlt
    exact h4 x hx
   simp only [Rows.uptoBulk]; omega
  by_cases hz : len = 0
  ·subst hz
   exact ⟨.slice (some a) 0 cap, [], rfl, rfl, .slE false (some a) cap (by simp), by simpa using hbk⟩
  ·refine ⟨.slice (some a) len cap, (List.range len).map f, rfl, rfl, ?_, hbk⟩
   obtain ⟨b, off, spot⟩ := a
   have hsp : spot = none := by
    obtain ⟨c, h1, h2, h3, _⟩ := hF 0 (by omega)
    obtain ⟨u, hu⟩ : ∃ u, c[0]? = some u := ⟨c[0], List.getElem?_eq_getElem (by omega)⟩
    have := h3 0 u hu
    cases spot with
    | none => rfl
    | some q =>
      simp [World.cell?, Addr.add] at this
      split at this
      ·cases this
      ·cases this
   subst hsp
   have key : ∀ i j r y, (((List.range len).map f).map en)[i]? = some r → r[j]? = some y → ∃ u, w.cell? ⟨b, off + i * sz + j, none⟩ = some u ∧ u.oneCell = true ∧ DRel w (fun _ => False) y u := fun i j r y hr hy => by
    rw [List.getElem?_map, List.getElem?_map] at hr
    obtain ⟨v, hv, rfl⟩ := Option.map_eq_some_iff.1 hr
    obtain ⟨k, hk, rfl⟩ := Option.map_eq_some_iff.1 hv
    have hlt : i < len := by have := (List.getElem?_eq_some_iff.1 hk).1; simpa using this
    have : k = i := by rw [List.getElem?_range hlt] at hk; exact (Option.some.inj hk).symm
    subst this
    obtain ⟨c, h1, _, h3, _⟩ := hF k hlt
    obtain ⟨u, hu, ho, hd⟩ := h1.get hy
    have := h3 j u hu
    have e : (Addr.add ⟨b, off, none⟩ (k * sz + j)) = ⟨b, off + k * sz + j, none⟩ := by
     unfold Addr.add
     split
     ·rename_i q; rw [Nat.add_assoc, q]; rfl
     ·simp [Nat.add_assoc]
    rw [e] at this
    exact ⟨u, this, ho, hd⟩
   have hlen2 : (((List.range len).map f).map en).length = len := by simp
   have := DRel.sl (w := w) (L := fun _ => False) false (((List.range len).map f).map en) b off cap sz (fun i j => (w.cell? ⟨b, off + i * sz + j, none⟩).getD (.bool false)) (fun _ _ _ _ _ _ h => h) (by rw [hlen2]; exact hl) (by rw [hlen2]; exact Nat.le_trans hl (Nat.le_trans hm (by decide)))
    (fun r hr => by
      obtain ⟨v, hv, rfl⟩ := List.mem_map.1 hr
      obtain ⟨i, hi, rfl⟩ := List.mem_map.1 hv
      obtain ⟨c, h1, h2, _⟩ := hF i (by simpa using hi)
      rw [← h1.len, h2])
    (fun i j r y hr hy => by obtain ⟨u, h1, _⟩ := key i j r y hr hy; simp [h1])
    (fun i j r y hr hy => by obtain ⟨u, h1, h2, _⟩ := key i j r y hr hy; simpa [h1] using h2)
    (fun i j r y hr hy => by obtain ⟨u, h1, _, h3⟩ := key i j r y hr hy; simpa [h1] using h3)
   rw [hlen2] at this
   exact this
theorem cntL_sum (l : List TermT) : cntL l = (l.map cntT).sum := by
 induction l with
 | nil => rfl
 | cons t r ih => rw [cntL, ih]; rfl
theorem partsL_sum (l : List PlanT) : partsL l = (l.map partsP).sum := by
 induction l with
 | nil => rfl
 | cons t r ih => rw [partsL, ih]; rfl
theorem sum_len (l : List Int) : (l.map fun _ => 1).sum = l.length := by
 induction l with
 | nil => rfl
 | cons t r ih => simp only [List.map_cons, List.sum_cons, List.length_cons, ih]; omega
theorem sum_one (l : List TermT) : (l.map fun t => 1 + cntT t).sum = l.length + (l.map cntT).sum := by
 induction l with
 | nil => rfl
 | cons t r ih => simp only [List.map_cons, List.sum_cons, List.length_cons]; omega
theorem wL_sum (l : List StepR) : wL l = (l.map wS).sum := by
 induction l with
 | nil => rfl
 | cons t r ih => rw [wL, ih]; rfl
theorem wP_sum (l : List PipeR) : wP l = (l.map fun x => 1 + wL x.steps).sum := by
 induction l with
 | nil => rfl
 | cons t r ih => rw [wP, ih]; rfl
def tbW (l : List (List Int)) : Nat := (l.map fun l => l.length + 1).sum
theorem tbW_len (l : List (List Int)) : l.length ≤ tbW l := by
 induction l with
 | nil => exact Nat.le_refl _
 | cons t r ih => simp only [tbW, List.map_cons, List.sum_cons, List.length_cons] at ih ⊢; omega
theorem tbW_mem {l : List (List Int)} {t : List Int} (h : t ∈ l) : t.length ≤ tbW l := by
 induction l with
 | nil => cases h
 | cons x r ih =>
   simp only [tbW, List.map_cons, List.sum_cons] at ih ⊢
   rcases List.mem_cons.1 h with rfl | h
   ·omega
   ·have := ih h; omega
end
section
variable {H : Type} {enc : TypeId × Value → H} {w : World} {base : Nat} {spare : Nat → Bool} {held : Bool}
theorem lay_V : lay Try.prog 87 = [(0, 85), (1, 4), (2, 2), (3, 9), (4, 59)] := by kernel_rfl
set_option maxRecDepth 100000 in
theorem rd_V {fuel : Nat} {cs : List Value} {x : DataW H × List MemPlace} (h : DataW.trod enc Try.prog w base spare held fuel 87 cs = some x) : ∃ v : ValT, CR w (encV v) cs ∧ 1 ≤ Rows.uptoBulk x.1 := by
 obtain ⟨xs, n, hn, hx, hl, hlen, hg⟩ := rd_struct lay_V (by simp) h
 obtain ⟨c0, c1, c2, c3, c4, rfl⟩ : ∃ c0 c1 c2 c3 c4, cs = [c0, c1, c2, c3, c4] := by
  have hl2 : cs.length = 5 := hl.trans (show Try.prog.cellsOf 87 = 5 from by kernel_rfl)
  match cs, hl2 with
  | [c0, c1, c2, c3, c4], _ => exact ⟨c0, c1, c2, c3, c4, rfl⟩
 obtain ⟨y0, y1, y2, y3, y4, rfl⟩ : ∃ y0 y1 y2 y3 y4, xs = [y0, y1, y2, y3, y4] := by
  match xs, hlen with
  | [y0, y1, y2, y3, y4], _ => exact ⟨y0, y1, y2, y3, y4, rfl⟩
 have g0 := hg 0 0 85 rfl
 rw [show Try.prog.cellsOf 85 = 1 from by kernel_rfl] at g0
 have g1 := hg 1 1 4 rfl
 rw [show Try.prog.cellsOf 4 = 1 from by kernel_rfl] at g1
 have g2 := hg 2 2 2 rfl
 rw [show Try.prog.cellsOf 2 = 1 from by kernel_rfl] at g2
 have g3 := hg 3 3 9 rfl
 rw [show Try.prog.cellsOf 9 = 1 from by kernel_rfl] at g3
 have g4 := hg 4 4 59 rfl
 rw [show Try.prog.cellsOf 59 = 1 from by kernel_rfl] at g4
 simp only [List.drop_zero, List.drop_succ_cons, List.take_succ_cons, List.take_zero, List.getElem?_cons_zero, List.getElem?_cons_succ] at g0 g1 g2 g3 g4
 simp only [List.map_cons, List.map_nil] at hx
 obtain ⟨a0, e0, _, w0⟩ := DataW.trod_int (show Try.prog.underlying 85 = some (.int .i64) from by kernel_rfl) g0
 simp at e0
 subst e0
 obtain ⟨a1, e1, _⟩ := DataW.trod_bool (show Try.prog.underlying 4 = some .bool from by kernel_rfl) g1
 simp at e1
 subst e1
 obtain ⟨a2, e2, _, w2⟩ := DataW.trod_int (show Try.prog.underlying 2 = some (.int .i64) from by kernel_rfl) g2
 simp at e2
 subst e2
 obtain ⟨a3, e3, _, w3⟩ := DataW.trod_string (show Try.prog.underlying 9 = some .string from by kernel_rfl) g3
 simp at e3
 subst e3
 obtain ⟨s4, l4, e4, o4, r4, b4⟩ := rd_slice encI (fun _ => 1) (sz := 1) (show Try.prog.underlying 59 = some (.slice 2) from by kernel_rfl) (by kernel_rfl) (by omega) (fun m hm cs x hx => rd_int (show Try.prog.underlying 2 = some (.int .i64) from by kernel_rfl) hx) g4
 simp at e4
 subst e4
 refine ⟨⟨a0, a1, a2, a3, l4⟩, ?_, ?_⟩
 ·exact (CR.one rfl (.lit _ (ok_wf w0))).append ((CR.one rfl (.lit _ rfl)).append ((CR.one rfl (.lit _ (ok_wf w2))).append ((CR.one rfl (.lit _ (ok_strl w3))).append (CR.one o4 r4))))
 ·rw [hx]; simp only [Rows.uptoBulk, Rows.uptoBulkAll]
  omega
theorem lay_N : lay Try.prog 70 = [(0, 9), (1, 3)] := by kernel_rfl
set_option maxRecDepth 100000 in
theorem rd_N {fuel : Nat} {cs : List Value} {x : DataW H × List MemPlace} (h : DataW.trod enc Try.prog w base spare held fuel 70 cs = some x) : ∃ v : NodeT, CR w (encN v) cs ∧ 1 ≤ Rows.uptoBulk x.1 := by
 obtain ⟨xs, n, hn, hx, hl, hlen, hg⟩ := rd_struct lay_N (by simp) h
 obtain ⟨c0, c1, rfl⟩ : ∃ c0 c1, cs = [c0, c1] := by
  have hl2 : cs.length = 2 := hl.trans (show Try.prog.cellsOf 70 = 2 from by kernel_rfl)
  match cs, hl2 with
  | [c0, c1], _ => exact ⟨c0, c1, rfl⟩
 obtain ⟨y0, y1, rfl⟩ : ∃ y0 y1, xs = [y0, y1] := by
  match xs, hlen with
  | [y0, y1], _ => exact ⟨y0, y1, rfl⟩
 have g0 := hg 0 0 9 rfl
 rw [show Try.prog.cellsOf 9 = 1 from by kernel_rfl] at g0
 have g1 := hg 1 1 3 rfl
 rw [show Try.prog.cellsOf 3 = 1 from by kernel_rfl] at g1
 simp only [List.drop_zero, List.drop_succ_cons, List.take_succ_cons, List.take_zero, List.getElem?_cons_zero, List.getElem?_cons_succ] at g0 g1
 simp only [List.map_cons, List.map_nil] at hx
 obtain ⟨a0, e0, _, w0⟩ := DataW.trod_string (show Try.prog.underlying 9 = some .string from by kernel_rfl) g0
 simp at e0
 subst e0
 obtain ⟨a1, e1, _, w1⟩ := DataW.trod_int (show Try.prog.underlying 3 = some (.int .i64) from by kernel_rfl) g1
 simp at e1
 subst e1
 refine ⟨⟨a0, a1⟩, ?_, ?_⟩
 ·exact (CR.one rfl (.lit _ (ok_strl w0))).append (CR.one rfl (.lit _ (ok_wf w1)))
 ·rw [hx]; simp only [Rows.uptoBulk, Rows.uptoBulkAll]
  omega
theorem lay_E : lay Try.prog 98 = [(0, 9), (1, 3), (2, 3), (3, 3), (4, 96), (5, 3), (6, 3)] := by kernel_rfl
set_option maxRecDepth 100000 in
theorem rd_E {fuel : Nat} {cs : List Value} {x : DataW H × List MemPlace} (h : DataW.trod enc Try.prog w base spare held fuel 98 cs = some x) : ∃ v : EdgeT, CR w (encE v) cs ∧ 1 ≤ Rows.uptoBulk x.1 := by
 obtain ⟨xs, n, hn, hx, hl, hlen, hg⟩ := rd_struct lay_E (by simp) h
 obtain ⟨c0, c1, c2, c3, c4, c5, c6, rfl⟩ : ∃ c0 c1 c2 c3 c4 c5 c6, cs = [c0, c1, c2, c3, c4, c5, c6] := by
  have hl2 : cs.length = 7 := hl.trans (show Try.prog.cellsOf 98 = 7 from by kernel_rfl)
  match cs, hl2 with
  | [c0, c1, c2, c3, c4, c5, c6], _ => exact ⟨c0, c1, c2, c3, c4, c5, c6, rfl⟩
 obtain ⟨y0, y1, y2, y3, y4, y5, y6, rfl⟩ : ∃ y0 y1 y2 y3 y4 y5 y6, xs = [y0, y1, y2, y3, y4, y5, y6] := by
  match xs, hlen with
  | [y0, y1, y2, y3, y4, y5, y6], _ => exact ⟨y0, y1, y2, y3, y4, y5, y6, rfl⟩
 have g0 := hg 0 0 9 rfl
 rw [show Try.prog.cellsOf 9 = 1 from by kernel_rfl] at g0
 have g1 := hg 1 1 3 rfl
 rw [show Try.prog.cellsOf 3 = 1 from by kernel_rfl] at g1
 have g2 := hg 2 2 3 rfl
 rw [show Try.prog.cellsOf 3 = 1 from by kernel_rfl] at g2
 have g3 := hg 3 3 3 rfl
 rw [show Try.prog.cellsOf 3 = 1 from by kernel_rfl] at g3
 have g4 := hg 4 4 96 rfl
 rw [show Try.prog.cellsOf 96 = 1 from by kernel_rfl] at g4
 have g5 := hg 5 5 3 rfl
 rw [show Try.prog.cellsOf 3 = 1 from by kernel_rfl] at g5
 have g6 := hg 6 6 3 rfl
 rw [show Try.prog.cellsOf 3 = 1 from by kernel_rfl] at g6
 simp only [List.drop_zero, List.drop_succ_cons, List.take_succ_cons, List.take_zero, List.getElem?_cons_zero, List.getElem?_cons_succ] at g0 g1 g2 g3 g4 g5 g6
 simp only [List.map_cons, List.map_nil] at hx
 obtain ⟨a0, e0, _, w0⟩ := DataW.trod_string (show Try.prog.underlying 9 = some .string from by kernel_rfl) g0
 simp at e0
 subst e0
 obtain ⟨a1, e1, _, w1⟩ := DataW.trod_int (show Try.prog.underlying 3 = some (.int .i64) from by kernel_rfl) g1
 simp at e1
 subst e1
 obtain ⟨a2, e2, _, w2⟩ := DataW.trod_int (show Try.prog.underlying 3 = some (.int .i64) from by kernel_rfl) g2
 simp at e2
 subst e2
 obtain ⟨a3, e3, _, w3⟩ := DataW.trod_int (show Try.prog.underlying 3 = some (.int .i64) from by kernel_rfl) g3
 simp at e3
 subst e3
 obtain ⟨a4, e4, _, w4⟩ := DataW.trod_int (show Try.prog.underlying 96 = some (.int .i64) from by kernel_rfl) g4
 simp at e4
 subst e4
 obtain ⟨a5, e5, _, w5⟩ := DataW.trod_int (show Try.prog.underlying 3 = some (.int .i64) from by kernel_rfl) g5
 simp at e5
 subst e5
 obtain ⟨a6, e6, _, w6⟩ := DataW.trod_int (show Try.prog.underlying 3 = some (.int .i64) from by kernel_rfl) g6
 simp at e6
 subst e6
 refine ⟨⟨a0, a1, a2, a3, a4, a5, a6⟩, ?_, ?_⟩
 ·exact (CR.one rfl (.lit _ (ok_strl w0))).append ((CR.one rfl (.lit _ (ok_wf w1))).append ((CR.one rfl (.lit _ (ok_wf w2))).append ((CR.one rfl (.lit _ (ok_wf w3))).append ((CR.one rfl (.lit _ (ok_wf w4))).append ((CR.one rfl (.lit _ (ok_wf w5))).append (CR.one rfl (.lit _ (ok_wf w6))))))))
 ·rw [hx]; simp only [Rows.uptoBulk, Rows.uptoBulkAll]
  omega
theorem lay_T : lay Try.prog 89 = [(0, 84), (1, 28), (2, 3), (3, 9), (4, 87)] := by kernel_rfl
set_option maxRecDepth 100000 in
theorem rd_T : ∀ (fuel : Nat) {cs : List Value} {x : DataW H × List MemPlace}, DataW.trod enc Try.prog w base spare held fuel 89 cs = some x → ∃ v : TermT, CR w (encT v) cs ∧ (1 + cntT v) ≤ Rows.uptoBulk x.1 := by
 intro fuel
 induction fuel using Nat.strongRecOn with
 | _ fuel ih =>
 intro cs x h
 obtain ⟨xs, n, hn, hx, hl, hlen, hg⟩ := rd_struct lay_T (by simp) h
 obtain ⟨c0, c1, c2, c3, c4, c5, c6, c7, c8, rfl⟩ : ∃ c0 c1 c2 c3 c4 c5 c6 c7 c8, cs = [c0, c1, c2, c3, c4, c5, c6, c7, c8] := by
  have hl2 : cs.length = 9 := hl.trans (show Try.prog.cellsOf 89 = 9 from by kernel_rfl)
  match cs, hl2 with
  | [c0, c1, c2, c3, c4, c5, c6, c7, c8], _ => exact ⟨c0, c1, c2, c3, c4, c5, c6, c7, c8, rfl⟩
 obtain ⟨y0, y1, y2, y3, y4, rfl⟩ : ∃ y0 y1 y2 y3 y4, xs = [y0, y1, y2, y3, y4] := by
  match xs, hlen with
  | [y0, y1, y2, y3, y4], _ => exact ⟨y0, y1, y2, y3, y4, rfl⟩
 have g0 := hg 0 0 84 rfl
 rw [show Try.prog.cellsOf 84 = 1 from by kernel_rfl] at g0
 have g1 := hg 1 1 28 rfl
 rw [show Try.prog.cellsOf 28 = 1 from by kernel_rfl] at g1
 have g2 := hg 2 2 3 rfl
 rw [show Try.prog.cellsOf 3 = 1 from by kernel_rfl] at g2
 have g3 := hg 3 3 9 rfl
 rw [show Try.prog.cellsOf 9 = 1 from by kernel_rfl] at g3
 have g4 := hg 4 4 87 rfl
 rw [show Try.prog.cellsOf 87 = 5 from by kernel_rfl] at g4
 simp only [List.drop_zero, List.drop_succ_cons, List.take_succ_cons, List.take_zero, List.getElem?_cons_zero, List.getElem?_cons_succ] at g0 g1 g2 g3 g4
 simp only [List.map_cons, List.map_nil] at hx
 obtain ⟨a0, e0, _, w0⟩ := DataW.trod_int (show Try.prog.underlying 84 = some (.int .i64) from by kernel_rfl) g0
 simp at e0
 subst e0
 obtain ⟨s1, l1, e1, o1, r1, b1⟩ := rd_slice encT (fun t => 1 + cntT t) (sz := 9) (show Try.prog.underlying 28 = some (.slice 89) from by kernel_rfl) (by kernel_rfl) (by omega) (fun m hm cs x hx => ih m (by omega) hx) g1
 simp at e1
 subst e1
 obtain ⟨a2, e2, _, w2⟩ := DataW.trod_int (show Try.prog.underlying 3 = some (.int .i64) from by kernel_rfl) g2
 simp at e2
 subst e2
 obtain ⟨a3, e3, _, w3⟩ := DataW.trod_string (show Try.prog.underlying 9 = some .string from by kernel_rfl) g3
 simp at e3
 subst e3
 obtain ⟨v4, r4, b4⟩ := rd_V g4
 refine ⟨(.mk a0 l1 a2 a3 v4), ?_, ?_⟩
 ·rw [encT_cells]
  exact (CR.one rfl (.lit _ (ok_wf w0))).append ((CR.one o1 r1).append ((CR.one rfl (.lit _ (ok_wf w2))).append ((CR.one rfl (.lit _ (ok_strl w3))).append (r4))))
 ·rw [hx]; simp only [Rows.uptoBulk, Rows.uptoBulkAll]
  rw [cntT, cntL_sum]; rw [sum_one] at b1; omega
theorem lay_P : lay Try.prog 48 = [(0, 44), (1, 45), (2, 3), (3, 46), (4, 4), (5, 28)] := by kernel_rfl
set_option maxRecDepth 100000 in
theorem rd_P : ∀ (fuel : Nat) {cs : List Value} {x : DataW H × List MemPlace}, DataW.trod enc Try.prog w base spare held fuel 48 cs = some x → ∃ v : PlanT, CR w (encP v) cs ∧ (partsP v) ≤ Rows.uptoBulk x.1 := by
 intro fuel
 induction fuel using Nat.strongRecOn with
 | _ fuel ih =>
 intro cs x h
 obtain ⟨xs, n, hn, hx, hl, hlen, hg⟩ := rd_struct lay_P (by simp) h
 obtain ⟨c0, c1, c2, c3, c4, c5, rfl⟩ : ∃ c0 c1 c2 c3 c4 c5, cs = [c0, c1, c2, c3, c4, c5] := by
  have hl2 : cs.length = 6 := hl.trans (show Try.prog.cellsOf 48 = 6 from by kernel_rfl)
  match cs, hl2 with
  | [c0, c1, c2, c3, c4, c5], _ => exact ⟨c0, c1, c2, c3, c4, c5, rfl⟩
 obtain ⟨y0, y1, y2, y3, y4, y5, rfl⟩ : ∃ y0 y1 y2 y3 y4 y5, xs = [y0, y1, y2, y3, y4, y5] := by
  match xs, hlen with
  | [y0, y1, y2, y3, y4, y5], _ => exact ⟨y0, y1, y2, y3, y4, y5, rfl⟩
 have g0 := hg 0 0 44 rfl
 rw [show Try.prog.cellsOf 44 = 1 from by kernel_rfl] at g0
 have g1 := hg 1 1 45 rfl
 rw [show Try.prog.cellsOf 45 = 1 from by kernel_rfl] at g1
 have g2 := hg 2 2 3 rfl
 rw [show Try.prog.cellsOf 3 = 1 from by kernel_rfl] at g2
 have g3 := hg 3 3 46 rfl
 rw [show Try.prog.cellsOf 46 = 1 from by kernel_rfl] at g3
 have g4 := hg 4 4 4 rfl
 rw [show Try.prog.cellsOf 4 = 1 from by kernel_rfl] at g4
 have g5 := hg 5 5 28 rfl
 rw [show Try.prog.cellsOf 28 = 1 from by kernel_rfl] at g5
 simp only [List.drop_zero, List.drop_succ_cons, List.take_succ_cons, List.take_zero, List.getElem?_cons_zero, List.getElem?_cons_succ] at g0 g1 g2 g3 g4 g5
 simp only [List.map_cons, List.map_nil] at hx
 obtain ⟨a0, e0, _, w0⟩ := DataW.trod_int (show Try.prog.underlying 44 = some (.int .i64) from by kernel_rfl) g0
 simp at e0
 subst e0
 obtain ⟨s1, l1, e1, o1, r1, b1⟩ := rd_slice encP partsP (sz := 6) (show Try.prog.underlying 45 = some (.slice 48) from by kernel_rfl) (by kernel_rfl) (by omega) (fun m hm cs x hx => ih m (by omega) hx) g1
 simp at e1
 subst e1
 obtain ⟨a2, e2, _, w2⟩ := DataW.trod_int (show Try.prog.underlying 3 = some (.int .i64) from by kernel_rfl) g2
 simp at e2
 subst e2
 obtain ⟨s3, l3, e3, o3, r3, b3⟩ := rd_slice encI (fun _ => 1) (sz := 1) (show Try.prog.underlying 46 = some (.slice 3) from by kernel_rfl) (by kernel_rfl) (by omega) (fun m hm cs x hx => rd_int (show Try.prog.underlying 3 = some (.int .i64) from by kernel_rfl) hx) g3
 simp at e3
 subst e3
 obtain ⟨a4, e4, _⟩ := DataW.trod_bool (show Try.prog.underlying 4 = some .bool from by kernel_rfl) g4
 simp at e4
 subst e4
 obtain ⟨s5, l5, e5, o5, r5, b5⟩ := rd_slice encT (fun t => 1 + cntT t) (sz := 9) (show Try.prog.underlying 28 = some (.slice 89) from by kernel_rfl) (by kernel_rfl) (by omega) (fun m hm cs x hx => rd_T m hx) g5
 simp at e5
 subst e5
 refine ⟨(.mk a0 l1 a2 l3 a4 l5), ?_, ?_⟩
 ·rw [encP_cells]
  exact (CR.one rfl (.lit _ (ok_wf w0))).append ((CR.one o1 r1).append ((CR.one rfl (.lit _ (ok_wf w2))).append ((CR.one o3 r3).append ((CR.one rfl (.lit _ rfl)).append (CR.one o5 r5)))))
 ·rw [hx]; simp only [Rows.uptoBulk, Rows.uptoBulkAll]
  rw [partsP, cntL_sum, partsL_sum]; rw [sum_one] at b5; rw [sum_len] at b3; omega
theorem lay_C : lay Try.prog 32 = [(0, 26), (1, 27), (2, 28), (3, 29), (4, 4), (5, 30), (6, 3)] := by kernel_rfl
set_option maxRecDepth 100000 in
theorem rd_C {fuel : Nat} {cs : List Value} {x : DataW H × List MemPlace} (h : DataW.trod enc Try.prog w base spare held fuel 32 cs = some x) : ∃ v : CoreT, CR w (encC v) cs ∧ v.wher.length ≤ Rows.uptoBulk x.1 := by
 obtain ⟨xs, n, hn, hx, hl, hlen, hg⟩ := rd_struct lay_C (by simp) h
 obtain ⟨c0, c1, c2, c3, c4, c5, c6, rfl⟩ : ∃ c0 c1 c2 c3 c4 c5 c6, cs = [c0, c1, c2, c3, c4, c5, c6] := by
  have hl2 : cs.length = 7 := hl.trans (show Try.prog.cellsOf 32 = 7 from by kernel_rfl)
  match cs, hl2 with
  | [c0, c1, c2, c3, c4, c5, c6], _ => exact ⟨c0, c1, c2, c3, c4, c5, c6, rfl⟩
 obtain ⟨y0, y1, y2, y3, y4, y5, y6, rfl⟩ : ∃ y0 y1 y2 y3 y4 y5 y6, xs = [y0, y1, y2, y3, y4, y5, y6] := by
  match xs, hlen with
  | [y0, y1, y2, y3, y4, y5, y6], _ => exact ⟨y0, y1, y2, y3, y4, y5, y6, rfl⟩
 have g0 := hg 0 0 26 rfl
 rw [show Try.prog.cellsOf 26 = 1 from by kernel_rfl] at g0
 have g1 := hg 1 1 27 rfl
 rw [show Try.prog.cellsOf 27 = 1 from by kernel_rfl] at g1
 have g2 := hg 2 2 28 rfl
 rw [show Try.prog.cellsOf 28 = 1 from by kernel_rfl] at g2
 have g3 := hg 3 3 29 rfl
 rw [show Try.prog.cellsOf 29 = 1 from by kernel_rfl] at g3
 have g4 := hg 4 4 4 rfl
 rw [show Try.prog.cellsOf 4 = 1 from by kernel_rfl] at g4
 have g5 := hg 5 5 30 rfl
 rw [show Try.prog.cellsOf 30 = 1 from by kernel_rfl] at g5
 have g6 := hg 6 6 3 rfl
 rw [show Try.prog.cellsOf 3 = 1 from by kernel_rfl] at g6
 simp only [List.drop_zero, List.drop_succ_cons, List.take_succ_cons, List.take_zero, List.getElem?_cons_zero, List.getElem?_cons_succ] at g0 g1 g2 g3 g4 g5 g6
 simp only [List.map_cons, List.map_nil] at hx
 obtain ⟨s0, l0, e0, o0, r0, b0⟩ := rd_slice encN (fun _ => 1) (sz := 2) (show Try.prog.underlying 26 = some (.slice 70) from by kernel_rfl) (by kernel_rfl) (by omega) (fun m hm cs x hx => rd_N hx) g0
 simp at e0
 subst e0
 obtain ⟨s1, l1, e1, o1, r1, b1⟩ := rd_slice encE (fun _ => 1) (sz := 7) (show Try.prog.underlying 27 = some (.slice 98) from by kernel_rfl) (by kernel_rfl) (by omega) (fun m hm cs x hx => rd_E hx) g1
 simp at e1
 subst e1
 obtain ⟨s2, l2, e2, o2, r2, b2⟩ := rd_slice encT (fun t => 1 + cntT t) (sz := 9) (show Try.prog.underlying 28 = some (.slice 89) from by kernel_rfl) (by kernel_rfl) (by omega) (fun m hm cs x hx => rd_T m hx) g2
 simp at e2
 subst e2
 obtain ⟨a3, e3, o3, k3⟩ := rd_raw (show Try.prog.underlying 29 = some (.slice 204) from by kernel_rfl) g3
 simp at e3
 subst e3
 obtain ⟨a4, e4, _⟩ := DataW.trod_bool (show Try.prog.underlying 4 = some .bool from by kernel_rfl) g4
 simp at e4
 subst e4
 obtain ⟨a5, e5, o5, k5⟩ := rd_raw (show Try.prog.underlying 30 = some (.slice 206) from by kernel_rfl) g5
 simp at e5
 subst e5
 obtain ⟨a6, e6, _, w6⟩ := DataW.trod_int (show Try.prog.underlying 3 = some (.int .i64) from by kernel_rfl) g6
 simp at e6
 subst e6
 refine ⟨⟨l0, l1, l2, .lit c3, a4, .lit c5, a6⟩, ?_, ?_⟩
 ·exact (CR.one o0 r0).append ((CR.one o1 r1).append ((CR.one o2 r2).append ((CR.one o3 (.lit _ k3)).append ((CR.one rfl (.lit _ rfl)).append ((CR.one o5 (.lit _ k5)).append (CR.one rfl (.lit _ (ok_wf w6))))))))
 ·rw [hx]; simp only [Rows.uptoBulk, Rows.uptoBulkAll]
  rw [sum_one] at b2; omega
theorem lay_R : lay Try.prog 75 = [(0, 73), (1, 3), (2, 46), (3, 4), (4, 28), (5, 3)] := by kernel_rfl
set_option maxRecDepth 100000 in
theorem rd_R {fuel : Nat} {cs : List Value} {x : DataW H × List MemPlace} (h : DataW.trod enc Try.prog w base spare held fuel 75 cs = some x) : ∃ v : StepR, CR w (encR v) cs ∧ (wS v) ≤ Rows.uptoBulk x.1 := by
 obtain ⟨xs, n, hn, hx, hl, hlen, hg⟩ := rd_struct lay_R (by simp) h
 obtain ⟨c0, c1, c2, c3, c4, c5, rfl⟩ : ∃ c0 c1 c2 c3 c4 c5, cs = [c0, c1, c2, c3, c4, c5] := by
  have hl2 : cs.length = 6 := hl.trans (show Try.prog.cellsOf 75 = 6 from by kernel_rfl)
  match cs, hl2 with
  | [c0, c1, c2, c3, c4, c5], _ => exact ⟨c0, c1, c2, c3, c4, c5, rfl⟩
 obtain ⟨y0, y1, y2, y3, y4, y5, rfl⟩ : ∃ y0 y1 y2 y3 y4 y5, xs = [y0, y1, y2, y3, y4, y5] := by
  match xs, hlen with
  | [y0, y1, y2, y3, y4, y5], _ => exact ⟨y0, y1, y2, y3, y4, y5, rfl⟩
 have g0 := hg 0 0 73 rfl
 rw [show Try.prog.cellsOf 73 = 1 from by kernel_rfl] at g0
 have g1 := hg 1 1 3 rfl
 rw [show Try.prog.cellsOf 3 = 1 from by kernel_rfl] at g1
 have g2 := hg 2 2 46 rfl
 rw [show Try.prog.cellsOf 46 = 1 from by kernel_rfl] at g2
 have g3 := hg 3 3 4 rfl
 rw [show Try.prog.cellsOf 4 = 1 from by kernel_rfl] at g3
 have g4 := hg 4 4 28 rfl
 rw [show Try.prog.cellsOf 28 = 1 from by kernel_rfl] at g4
 have g5 := hg 5 5 3 rfl
 rw [show Try.prog.cellsOf 3 = 1 from by kernel_rfl] at g5
 simp only [List.drop_zero, List.drop_succ_cons, List.take_succ_cons, List.take_zero, List.getElem?_cons_zero, List.getElem?_cons_succ] at g0 g1 g2 g3 g4 g5
 simp only [List.map_cons, List.map_nil] at hx
 obtain ⟨a0, e0, _, w0⟩ := DataW.trod_int (show Try.prog.underlying 73 = some (.int .i64) from by kernel_rfl) g0
 simp at e0
 subst e0
 obtain ⟨a1, e1, _, w1⟩ := DataW.trod_int (show Try.prog.underlying 3 = some (.int .i64) from by kernel_rfl) g1
 simp at e1
 subst e1
 obtain ⟨s2, l2, e2, o2, r2, b2⟩ := rd_slice encI (fun _ => 1) (sz := 1) (show Try.prog.underlying 46 = some (.slice 3) from by kernel_rfl) (by kernel_rfl) (by omega) (fun m hm cs x hx => rd_int (show Try.prog.underlying 3 = some (.int .i64) from by kernel_rfl) hx) g2
 simp at e2
 subst e2
 obtain ⟨a3, e3, _⟩ := DataW.trod_bool (show Try.prog.underlying 4 = some .bool from by kernel_rfl) g3
 simp at e3
 subst e3
 obtain ⟨s4, l4, e4, o4, r4, b4⟩ := rd_slice encT (fun t => 1 + cntT t) (sz := 9) (show Try.prog.underlying 28 = some (.slice 89) from by kernel_rfl) (by kernel_rfl) (by omega) (fun m hm cs x hx => rd_T m hx) g4
 simp at e4
 subst e4
 obtain ⟨a5, e5, _, w5⟩ := DataW.trod_int (show Try.prog.underlying 3 = some (.int .i64) from by kernel_rfl) g5
 simp at e5
 subst e5
 refine ⟨⟨a0, a1, l2, a3, l4, a5⟩, ?_, ?_⟩
 ·exact (CR.one rfl (.lit _ (ok_wf w0))).append ((CR.one rfl (.lit _ (ok_wf w1))).append ((CR.one o2 r2).append ((CR.one rfl (.lit _ rfl)).append ((CR.one o4 r4).append (CR.one rfl (.lit _ (ok_wf w5)))))))
 ·rw [hx]; simp only [Rows.uptoBulk, Rows.uptoBulkAll]
  simp only [wS]; rw [cntL_sum]; rw [sum_one] at b4; rw [sum_len] at b2; omega
theorem lay_I : lay Try.prog 41 = [(0, 3), (1, 39), (2, 3)] := by kernel_rfl
set_option maxRecDepth 100000 in
theorem rd_I {fuel : Nat} {cs : List Value} {x : DataW H × List MemPlace} (h : DataW.trod enc Try.prog w base spare held fuel 41 cs = some x) : ∃ v : PipeR, CR w (encPi v) cs ∧ (1 + wL v.steps) ≤ Rows.uptoBulk x.1 := by
 obtain ⟨xs, n, hn, hx, hl, hlen, hg⟩ := rd_struct lay_I (by simp) h
 obtain ⟨c0, c1, c2, rfl⟩ : ∃ c0 c1 c2, cs = [c0, c1, c2] := by
  have hl2 : cs.length = 3 := hl.trans (show Try.prog.cellsOf 41 = 3 from by kernel_rfl)
  match cs, hl2 with
  | [c0, c1, c2], _ => exact ⟨c0, c1, c2, rfl⟩
 obtain ⟨y0, y1, y2, rfl⟩ : ∃ y0 y1 y2, xs = [y0, y1, y2] := by
  match xs, hlen with
  | [y0, y1, y2], _ => exact ⟨y0, y1, y2, rfl⟩
 have g0 := hg 0 0 3 rfl
 rw [show Try.prog.cellsOf 3 = 1 from by kernel_rfl] at g0
 have g1 := hg 1 1 39 rfl
 rw [show Try.prog.cellsOf 39 = 1 from by kernel_rfl] at g1
 have g2 := hg 2 2 3 rfl
 rw [show Try.prog.cellsOf 3 = 1 from by kernel_rfl] at g2
 simp only [List.drop_zero, List.drop_succ_cons, List.take_succ_cons, List.take_zero, List.getElem?_cons_zero, List.getElem?_cons_succ] at g0 g1 g2
 simp only [List.map_cons, List.map_nil] at hx
 obtain ⟨a0, e0, _, w0⟩ := DataW.trod_int (show Try.prog.underlying 3 = some (.int .i64) from by kernel_rfl) g0
 simp at e0
 subst e0
 obtain ⟨s1, l1, e1, o1, r1, b1⟩ := rd_slice encR wS (sz := 6) (show Try.prog.underlying 39 = some (.slice 75) from by kernel_rfl) (by kernel_rfl) (by omega) (fun m hm cs x hx => rd_R hx) g1
 simp at e1
 subst e1
 obtain ⟨a2, e2, _, w2⟩ := DataW.trod_int (show Try.prog.underlying 3 = some (.int .i64) from by kernel_rfl) g2
 simp at e2
 subst e2
 refine ⟨⟨a0, l1, a2⟩, ?_, ?_⟩
 ·exact (CR.one rfl (.lit _ (ok_wf w0))).append ((CR.one o1 r1).append (CR.one rfl (.lit _ (ok_wf w2))))
 ·rw [hx]; simp only [Rows.uptoBulk, Rows.uptoBulkAll]
  rw [wL_sum]; omega
set_option maxRecDepth 100000 in
theorem rd_L {fuel : Nat} {cs : List Value} {x : DataW H × List MemPlace} (h : DataW.trod enc Try.prog w base spare held fuel 46 cs = some x) : ∃ v : List Int, CR w [.sl false (v.map encI)] cs ∧ v.length + 1 ≤ Rows.uptoBulk x.1 := by
 obtain ⟨s, l, e, o, r, b⟩ := rd_slice encI (fun _ => 1) (sz := 1) (show Try.prog.underlying 46 = some (.slice 3) from by kernel_rfl) (by kernel_rfl) (by omega) (fun m hm cs x hx => rd_int (show Try.prog.underlying 3 = some (.int .i64) from by kernel_rfl) hx) h
 rw [sum_len] at b
 exact ⟨l, by subst e; exact CR.one o r, b⟩
theorem lay_G : lay Try.prog 25 = [(0, 22), (1, 23)] := by kernel_rfl
set_option maxRecDepth 100000 in
theorem rd_G {fuel : Nat} {cs : List Value} {x : DataW H × List MemPlace} (h : DataW.trod enc Try.prog w base spare held fuel 25 cs = some x) : ∃ v : ProgR, CR w (encPr v) cs ∧ (tbW v.tabs + wP v.pipes) ≤ Rows.uptoBulk x.1 := by
 obtain ⟨xs, n, hn, hx, hl, hlen, hg⟩ := rd_struct lay_G (by simp) h
 obtain ⟨c0, c1, rfl⟩ : ∃ c0 c1, cs = [c0, c1] := by
  have hl2 : cs.length = 2 := hl.trans (show Try.prog.cellsOf 25 = 2 from by kernel_rfl)
  match cs, hl2 with
  | [c0, c1], _ => exact ⟨c0, c1, rfl⟩
 obtain ⟨y0, y1, rfl⟩ : ∃ y0 y1, xs = [y0, y1] := by
  match xs, hlen with
  | [y0, y1], _ => exact ⟨y0, y1, rfl⟩
 have g0 := hg 0 0 22 rfl
 rw [show Try.prog.cellsOf 22 = 1 from by kernel_rfl] at g0
 have g1 := hg 1 1 23 rfl
 rw [show Try.prog.cellsOf 23 = 1 from by kernel_rfl] at g1
 simp only [List.drop_zero, List.drop_succ_cons, List.take_succ_cons, List.take_zero, List.getElem?_cons_zero, List.getElem?_cons_succ] at g0 g1
 simp only [List.map_cons, List.map_nil] at hx
 obtain ⟨s0, l0, e0, o0, r0, b0⟩ := rd_slice (fun l : List Int => [D.sl false (l.map encI)]) (fun l : List Int => l.length + 1) (sz := 1) (show Try.prog.underlying 22 = some (.slice 46) from by kernel_rfl) (by kernel_rfl) (by omega) (fun m hm cs x hx => rd_L hx) g0
 simp at e0
 subst e0
 obtain ⟨s1, l1, e1, o1, r1, b1⟩ := rd_slice encPi (fun x => 1 + wL x.steps) (sz := 3) (show Try.prog.underlying 23 = some (.slice 41) from by kernel_rfl) (by kernel_rfl) (by omega) (fun m hm cs x hx => rd_I hx) g1
 simp at e1
 subst e1
 refine ⟨⟨l0, l1⟩, ?_, ?_⟩
 ·exact (CR.one o0 r0).append (CR.one o1 r1)
 ·rw [hx]; simp only [Rows.uptoBulk, Rows.uptoBulkAll]
  simp only [tbW]; rw [wP_sum]; omega
end
end Go.Proofs.Ytimgbdkgjfbhkaa.Z
end
section
namespace Go.Proofs.Ytimgbdkgjfbhkaa.lawIrcheckBack
open Go Go.Fw Go.ChangeShapes Go.WideShapes Go.ChangeAt Go.RowKit Go.Joins Go.Deep Go.Proofs.Ytimgbdkgjfbhkaa.Z
theorem own : ownKnob Try.prog.godebug = none := by kernel_rfl
theorem laidOut : laidOutB Try.prog = true := by kernel_rfl
theorem under_lay {P : Program} {t : TypeId} {l : List (Nat × TypeId)} (hl : lay P t = l) (h0 : l ≠ []) : ∃ fs, P.underlying t = some (.struct fs) := by
 unfold lay at hl
 split at hl
 ·exact ⟨_, ‹_›⟩
 ·exact absurd hl.symm h0
theorem vrel_ag {w : World} {m : Nat → Option Nat} {ds : List D} {cs : Array Value} (h : CR w ds cs.toList) : VRel w (fun _ => False) m (.d (.ag ds)) (.agg cs) := by
 have := DRel.ag (w := w) (L := fun _ => False) ds cs.toList h.len (fun v hv => by
  obtain ⟨j, hj⟩ := List.getElem?_of_mem hv
  have hlt : j < ds.length := by rw [← h.len]; exact (List.getElem?_eq_some_iff.1 hj).1
  exact (h.at_ j _ v (List.getElem?_eq_getElem hlt) hj).1) (fun j x v hx hv => (h.at_ j x v hx hv).2)
 rw [Array.toArray_toList] at this
 exact .d this
set_option maxRecDepth 100000 in
theorem contract (H : Type) (enc : TypeId × Value → H) (W : World) (base : Nat) (args : Array Value) (ds gs : List (DataW H)) (before : List MemPlace)
  (hval : ∀ (j : Nat) t v, Try.f5.params[j]? = some t → args[j]? = some v → Value.okWide Try.prog W .any base t v)
  (hW : DataW.Whole enc Try.prog Try.f5.params.toList Rows.ircheckBackSpec.vars false W args.toList ds gs before) (hk : Rows.uptoSmall H (ds ++ gs) = true) :
  Calls Try.prog 5 args W fun e W' => ∃ v, e = .returned v ∧ Rows.ircheckBackSpec.post enc Try.prog Try.f5 false true false false W args v W' := by
 have hW' := hW
 obtain ⟨p, q, hA0, hV, rfl, hfz, hnd⟩ := hW
 have hA : DataW.TrodAll enc Try.prog W 0 (fun _ => true) true Try.f5.params.toList args.toList ds p := hA0
 rw [show Try.f5.params = #[48, 25, 32] from by kernel_rfl] at hA hval
 obtain ⟨v0, vs0, d0, ds0, p0, q0, hargs, rfl, rfl, h0, r0⟩ := trodAll_cons hA
 obtain ⟨v1, vs1, d1, ds1, p1, q1, rfl, rfl, rfl, h1, r1⟩ := trodAll_cons r0
 obtain ⟨v2, vs2, d2, ds2, p2, q2, rfl, rfl, rfl, h2, r2⟩ := trodAll_cons r1
 obtain ⟨rfl, rfl, rfl⟩ := trodAll_nil r2
 obtain rfl : args = #[v0, v1, v2] := by cases args; simp_all
 obtain ⟨rfl, rfl⟩ := trodVars_none hV
 have k0 := h0
 have k1 := h1
 have k2 := h2
 have lt : ∀ {t v d ps}, DataW.Trod enc Try.prog W 0 (fun _ => true) true t v d ps → ∀ x ∈ ps, x.block < W.heap.size := fun h => by obtain ⟨m, hm⟩ := h; exact DataW.trod_lt m _ _ _ hm
 obtain ⟨fs0, u0⟩ := under_lay lay_P (by simp)
 obtain ⟨fs1, u1⟩ := under_lay lay_G (by simp)
 obtain ⟨fs2, u2⟩ := under_lay lay_C (by simp)
 obtain ⟨c0, rfl, -⟩ := okWide_struct u0 (hval 0 _ v0 rfl rfl)
 obtain ⟨c1, rfl, -⟩ := okWide_struct u1 (hval 1 _ v1 rfl rfl)
 obtain ⟨c2, rfl, -⟩ := okWide_struct u2 (hval 2 _ v2 rfl rfl)
 obtain ⟨f0, g0⟩ := h0
 obtain ⟨f1, g1⟩ := h1
 obtain ⟨f2, g2⟩ := h2
 simp only [Value.cells] at g0 g1 g2
 obtain ⟨pl, rp, bp⟩ := rd_P f0 g0
 obtain ⟨pr, ra, ba⟩ := rd_G g1
 obtain ⟨co, rc, bc⟩ := rd_C g2
 have hb : Rows.uptoBulkAll [d0, d1, d2] ≤ 1048576 := by
  have := of_decide_eq_true hk
  simpa using this
 simp only [Rows.uptoBulkAll] at hb
 simp only at bp ba bc
 have ht := tbW_len pr.tabs
 have hS := back_ok pl pr co (by omega) (by omega) (by omega) (by omega) (fun t h => by have := tbW_mem h; omega)
 have hC := hS.2 W (fun _ => False) [.agg c0, .agg c1, .agg c2] (fun _ h => h.elim)
  (All2.cons (vrel_ag rp) (All2.cons (vrel_ag ra) (All2.cons (vrel_ag rc) All2.nil)))
 refine hC.mono fun e W' hx => ?_
 obtain ⟨v, m', rfl, hx, hv, -⟩ := hx
 have hv := hv.lit_inv
 subst hv
 have bel : Below W.heap.size W W' := ⟨hx.os, hx.tape, hx.output, hx.size, fun k hk => hx.block k hk fun f => f⟩
 exact ⟨_, rfl, _, _, _, [], _, [], hW', trodAll_mk1 (shut_bool (show Try.prog.underlying 4 = some .bool from by kernel_rfl) _),
  (trodAll_cons_mk (Below.trod laidOut (by kernel_rfl) (of_decide_eq_true (by kernel_rfl)) k0 bel (lt k0))
    (trodAll_cons_mk (Below.trod laidOut (by kernel_rfl) (of_decide_eq_true (by kernel_rfl)) k1 bel (lt k1))
      (trodAll_cons_mk (Below.trod laidOut (by kernel_rfl) (of_decide_eq_true (by kernel_rfl)) k2 bel (lt k2))
        trodAll_mk0))), rfl, bel.frame _, fun h => by cases h⟩
set_option maxRecDepth 100000 in
theorem lifted (os : Os) (started : os.Started) (H : Type) (enc : TypeId × Value → H) (F : Stop.Interp) :
  ReturnsInHanded {} Try.checked os 5 .any ((Rows.OpenSpec.upto Rows.ircheckBackSpec).pre6 enc Try.prog Try.f5 Rows.ircheckBackUptoRow.domain false) (((Rows.OpenSpec.upto Rows.ircheckBackSpec).at F).post enc Try.prog Try.f5 false true false false) := by
 refine returnsInHanded_of_cond (C := Try.checked) (s := Rows.OpenSpec.upto Rows.ircheckBackSpec) (k := Rows.uptoSmall) rfl own started (by kernel_rfl) Try.func5
  (OpenSpec.witness (enc := enc) (C := Try.checked) (s := Rows.OpenSpec.upto Rows.ircheckBackSpec) (k := Rows.uptoSmall) rfl false ⟨#[], #[.agg #[.int .i64 0, .slice none 0 0, .int .i64 0, .slice none 0 0, .bool false, .slice none 0 0], .agg #[.slice none 0 0, .slice none 0 0], .agg #[.slice none 0 0, .slice none 0 0, .slice none 0 0, .slice none 0 0, .bool false, .slice none 0 0, .int .i64 0]], []⟩ 8 (by kernel_rfl) (by kernel_rfl) (by kernel_rfl)
    (x := ([.agg [.lit (.int .i64 0), .nil, .lit (.int .i64 0), .nil, .lit (.bool false), .nil], .agg [.nil, .nil], .agg [.nil, .nil, .nil, .nil, .lit (.bool false), .nil, .lit (.int .i64 0)]], [], [])) (by kernel_rfl) rfl (by kernel_rfl)) ?_
 intro W base args ds gs before hval hW _ hk _
 exact contract H enc W base args ds gs before hval hW hk
theorem proved : Rows.IrcheckBackUptoSaid :=
 OpenClaim.holds_of_cond 5 Try.f5 rfl rfl rfl rfl rfl rfl rfl ⟨rfl, rfl, rfl, rfl, rfl⟩ rfl rfl rfl rfl rfl (by kernel_rfl) Try.func5 (by kernel_rfl)
  (of_decide_eq_true (by kernel_rfl)) (by unfold Func.isWrapper; first | (rw [if_pos (by decide +kernel)]; kernel_rfl) | (rw [if_neg (by decide +kernel)]; exact ⟨rfl, rfl⟩))
  (fun os started H enc _ F => lifted os started H enc F)
#print axioms proved
end Go.Proofs.Ytimgbdkgjfbhkaa.lawIrcheckBack
end
