/- Texts of this claim, put together: Ub, Fza, Uc, Fzb, Ud, Fzc, Tf, Ue, Uf. -/
import Derived.Test.YtimgbdkgjfbhkaaOd
set_option linter.unusedVariables false
set_option linter.unusedSimpArgs false
set_option maxRecDepth 100000
namespace Go.Proofs.Ytimgbdkgjfbhkaa.Z
open Go Go.Fw
abbrev oo43 : List LOp := [⟨.box 48 (.tmp 1), some 5, none⟩, ⟨.box 75 (.tmp 2), some 6, none⟩, ⟨.alloc 48, some 8, none⟩, ⟨.assign (.const (.bool false)), some 9, none⟩]
abbrev oo44 : List LOp := [⟨.makeMap 160 none, some 12, none⟩, ⟨.insert 160 (.tmp 12) (.const (.int .i64 1)) (.const (.int .i64 2)), none, none⟩, ⟨.insert 160 (.tmp 12) (.const (.int .i64 2)) (.const (.int .i64 3)), none, none⟩, ⟨.insert 160 (.tmp 12) (.const (.int .i64 3)) (.const (.int .i64 5)), none, none⟩, ⟨.insert 160 (.tmp 12) (.const (.int .i64 4)) (.const (.int .i64 6)), none, none⟩, ⟨.insert 160 (.tmp 12) (.const (.int .i64 5)) (.const (.int .i64 4)), none, none⟩, oM 12 13, oA 13 10]
abbrev oo45 : List LOp := [oM 10 14, oF 75 6 0 15, oL 73 15 16, ⟨.lookup 160 (.tmp 14) (.tmp 16) false, some 17, none⟩, oL 48 5 18, ⟨.buildSlice 45 1 #[(0, .tmp 18)], some 19, none⟩, ⟨.build 48 #[(0, .tmp 17), (1, .tmp 19)], some 20, none⟩, ⟨.alloc 48, some 11, none⟩, oS 48 11 20]
abbrev oo46 : List LOp := [oF 75 6 0 21, oL 73 21 22]
abbrev oo47 : List LOp := [oK .eql 73 22 1 73 24, oA 24 23]
abbrev oo48 : List LOp := [oL 48 11 100, oS 48 8 100, ⟨.assign (.const (.bool true)), some 9, none⟩]
abbrev oo49 : List LOp := [oK .eql 73 22 2 73 25, oA 25 23]
abbrev oo50 : List LOp := [oK .eql 73 22 3 73 33, oA 33 32]
abbrev oo51 : List LOp := [oK .eql 73 22 4 73 41, oA 41 40]
abbrev oo52 : List LOp := [oK .eql 73 22 5 73 46, oA 46 45]
abbrev oo53 : List LOp := [oM 0 6, oN 46 6 7, oM 1 8, oN 46 8 9, oB .neq 3 7 9 3 10]
abbrev oo54 : List LOp := [⟨.assign (.const (.bool true)), some 4, none⟩]
abbrev oo55 : List LOp := [oF 75 6 5 47, oL 3 47 48, oK .lss 3 48 0 3 49, oM 49 50, ⟨.fieldAddr 75 (.tmp 6) 5, some 51, some (some 50, false)⟩, ⟨.load 3 (.tmp 51), some 52, some (some 50, false)⟩, ⟨.move (.tmp 3), some 53, some (some 50, false)⟩, ⟨.binOp .geq 3 (.tmp 52) (.tmp 53) 3, some 54, some (some 50, false)⟩, ⟨.pick (.tmp 50) (.const (.bool true)) (.tmp 54), some 55, none⟩, oM 55 56, ⟨.move (.tmp 0), some 57, some (some 56, false)⟩, ⟨.nilCheck (.tmp 57), some 58, some (some 56, false)⟩, ⟨.fieldAddr 120 (.tmp 58) 3, some 59, some (some 56, false)⟩, ⟨.load 118 (.tmp 59), some 60, some (some 56, false)⟩, ⟨.fieldAddr 75 (.tmp 6) 5, some 61, some (some 56, false)⟩, ⟨.load 3 (.tmp 61), some 62, some (some 56, false)⟩, ⟨.lookup 118 (.tmp 60) (.tmp 62) false, some 63, some (some 56, false)⟩, ⟨.pick (.tmp 56) (.const (.bool true)) (.tmp 63), some 64, none⟩]
abbrev oo56 : List LOp := [⟨.box 32 (.tmp 0), some 1, none⟩, ⟨.alloc 48, some 2, none⟩]
abbrev oo57 : List LOp := [oL 32 1 17, oC 42 #[.tmp 17] #[32] 18, ⟨.unOp .not 4 (.tmp 18), some 19, none⟩]
abbrev oo58 : List LOp := [oK .lss 3 79 2 3 80]
abbrev oo59 : List LOp := [⟨.index 130 (.tmp 78) (.tmp 79), some 81, none⟩, oA 81 13]
abbrev oo60 : List LOp := [⟨.assign (.const (.slice none 0 0)), some 14, none⟩]
abbrev oo61 : List LOp := [oF 32 1 2 82, oL 28 82 83, oN 28 83 84, ⟨.move (.const (.int .i64 0)), some 85, none⟩]
abbrev oo62 : List LOp := [oB .lss 3 85 84 3 86]
abbrev oo63 : List LOp := [oI 28 83 85 87, oL 89 87 88, ⟨.alloc 89, some 16, none⟩, oS 89 16 88]
abbrev oo64 : List LOp := [oL 89 16 89, oC 59 #[.tmp 89] #[89] 90, oM 13 91, oB .eql 4 90 91 4 92]
abbrev oo65 : List LOp := [oM 14 93, oL 89 16 94, ⟨.buildSlice 28 1 #[(0, .tmp 94)], some 95, none⟩, ⟨.call { callee := .builtin .append, args := #[.tmp 93, .tmp 95], argTypes := #[28, 28] }, some 96, none⟩, oA 96 14]
abbrev oo66 : List LOp := [oK .add 3 85 1 3 97, oM 97 85]
abbrev oo67 : List LOp := [oM 14 98, oN 28 98 99, oK .gtr 3 99 0 3 100]
abbrev oo68 : List LOp := [oL 48 4 101, ⟨.buildSlice 45 1 #[(0, .tmp 101)], some 102, none⟩, oM 14 103, ⟨.build 48 #[(0, .const (.int .i64 6)), (1, .tmp 102), (5, .tmp 103)], some 104, none⟩, oS 48 4 104]
abbrev oo69 : List LOp := [oK .add 3 79 1 3 105, oM 105 79]
abbrev oo70 : List LOp := [⟨.assign (.const (.int .i64 0)), some 5, none⟩]
abbrev oo71 : List LOp := [oB .lss 3 52 51 3 53]
abbrev oo72 : List LOp := [oK .add 3 21 1 3 97, oM 97 21]
abbrev oo73 : List LOp := [⟨.box 25 (.tmp 0), some 2, none⟩, ⟨.box 32 (.tmp 1), some 3, none⟩, ⟨.alloc 48, some 4, none⟩, ⟨.assign (.const (.int .i64 0)), some 5, none⟩, ⟨.assign (.const (.int .i64 0)), some 6, none⟩]
abbrev oo74 : List LOp := [oL 32 3 10, oC 36 #[.tmp 10] #[32] 11, oG 48 11 0 12, oK .eql 44 12 0 44 13]
abbrev oo75 : List LOp := [oF 25 2 1 15, oL 23 15 16, oN 23 16 17, oF 25 2 0 18, oL 22 18 19, oN 22 19 20, oK .add 3 20 1 3 21, oB .neq 3 17 21 3 22]
abbrev oo76 : List LOp := [oL 32 3 24, oL 25 2 25, ⟨.makeMap 118 none, some 26, none⟩, ⟨.build 120 #[(0, .tmp 24), (1, .tmp 25), (3, .tmp 26)], some 27, none⟩, ⟨.box 120 (.tmp 27), some 28, none⟩, oA 28 7]
abbrev oo77 : List LOp := [oM 7 30, oC 45 #[.tmp 30] #[117] 31, oM 31 29, oX 29 0 32, oX 29 1 33, oA 32 8, oA 33 9]
abbrev oo78 : List LOp := [oM 9 34, ⟨.unOp .not 4 (.tmp 34), some 35, none⟩, oM 35 36, ⟨.move (.tmp 7), some 37, some (some 36, false)⟩, ⟨.nilCheck (.tmp 37), some 38, some (some 36, false)⟩, ⟨.fieldAddr 120 (.tmp 38) 3, some 39, some (some 36, false)⟩, ⟨.load 118 (.tmp 39), some 40, some (some 36, false)⟩, ⟨.call { callee := .builtin .len, args := #[.tmp 40], argTypes := #[118] }, some 41, some (some 36, false)⟩, ⟨.fieldAddr 25 (.tmp 2) 0, some 42, some (some 36, false)⟩, ⟨.load 22 (.tmp 42), some 43, some (some 36, false)⟩, ⟨.call { callee := .builtin .len, args := #[.tmp 43], argTypes := #[22] }, some 44, some (some 36, false)⟩, ⟨.binOp .lss 3 (.tmp 41) (.tmp 44) 3, some 45, some (some 36, false)⟩, ⟨.pick (.tmp 36) (.const (.bool true)) (.tmp 45), some 46, none⟩]
end Go.Proofs.Ytimgbdkgjfbhkaa.Z
section
namespace Go.Proofs.Ytimgbdkgjfbhkaa.Z
open Go Go.Fw
attribute [-simp] lookV updV Blk.fgt Blk.ren Blk.men Blk.fin lost
attribute [local simp] look101 upd101
structure StepR where
 op : Int
 slot : Int
 edges : List Int
 back : Bool
 terms : List TermT
 table : Int
instance : Inhabited StepR := ⟨⟨0, 0, [], false, [], 0⟩⟩
def encR (s : StepR) : List D := [.int s.op, .int s.slot, .sl false (s.edges.map encI), .bool s.back, .sl false (s.terms.map encT), .int s.table]
attribute [simp] encR
def stepPl (op : Int) (p : PlanT) (slot : Int) (e : List Int) (b : Bool) (t : List TermT) : PlanT := .mk op [p] slot e b t
@[simp] theorem stepPl_op (op : Int) (p : PlanT) (sl : Int) (e : List Int) (b : Bool) (t : List TermT) : (stepPl op p sl e b t).op = op := rfl
@[simp] theorem stepPl_kids (op : Int) (p : PlanT) (sl : Int) (e : List Int) (b : Bool) (t : List TermT) : (stepPl op p sl e b t).kids = [p] := rfl
@[simp] theorem stepPl_slot (op : Int) (p : PlanT) (sl : Int) (e : List Int) (b : Bool) (t : List TermT) : (stepPl op p sl e b t).slot = sl := rfl
@[simp] theorem stepPl_edges (op : Int) (p : PlanT) (sl : Int) (e : List Int) (b : Bool) (t : List TermT) : (stepPl op p sl e b t).edges = e := rfl
@[simp] theorem stepPl_back (op : Int) (p : PlanT) (sl : Int) (e : List Int) (b : Bool) (t : List TermT) : (stepPl op p sl e b t).back = b := rfl
@[simp] theorem stepPl_terms (op : Int) (p : PlanT) (sl : Int) (e : List Int) (b : Bool) (t : List TermT) : (stepPl op p sl e b t).terms = t := rfl
set_option maxHeartbeats 8000000 in
theorem over1_ok (c : CoreT) (p : PlanT) (s : StepR) (i : Int) (tb pp : D) (np : Nat) (ps : List PlanT) (l : List Int) (hop : s.op = 1) : SndW P 81 [.pt 0 0 0 0, .d (.ag (encP p)), .d (.ag (encR s)), .int i] [(0, .vals ((encC c).map .d ++ [.d tb, .d pp, .rs 1 6 0 np, .mp 2])), (1, .data 6 (ps.map encP)), (2, mpK l)] (.tup [.d (.ag (encP (stepPl 2 p 0 s.edges s.back []))), .bool true]) [(0, .vals ((encC c).map .d ++ [.d tb, .d pp, .rs 1 6 0 np, .mp 2])), (1, .data 6 (ps.map encP)), (2, mpK l)] := by
 refine sndW_of [0, 1, 2] Try.func81 rfl (by kernel_rfl) Try.ntmps81 (by simp) (by simp) ?_
 unfold Try.f81
 simp only [List.cons_append, List.nil_append, List.length_cons, List.length_nil, Nat.reduceAdd, Nat.reduceSub, List.replicate]
 apply Run.seq
 refine opsF oo43 fun K hK => ?_
 try simp
 repeat' first | (refine evL_c ?_; simp [hop]) | (with_reducible first | apply aI | intro _ | assumption) | omega
 all_goals (apply Fin.go hK; clear hK K)
 simp only [tN]
 apply Run.seq
 refine opsF oo44 fun K hK => ?_
 try simp
 repeat' first | (refine evL_c ?_; simp [hop, updV, findK]) | (with_reducible first | apply aI | intro _ | assumption) | omega
 all_goals (apply Fin.go hK; clear hK K)
 simp only [tN]
 apply Run.seq
 refine opsF oo45 fun K hK => ?_
 try simp
 repeat' first | (refine evL_c ?_; simp [hop, lookV, lookR, findK]) | (with_reducible first | apply aI | intro _ | assumption) | omega
 all_goals (apply Fin.go hK; clear hK K)
 simp only [tN]
 apply Run.seq
 apply Run.seq
 refine opsF oo46 fun K hK => ?_
 try simp
 repeat' first | (refine evL_c ?_; simp [hop]) | (with_reducible first | apply aI | intro _ | assumption) | omega
 all_goals (apply Fin.go hK; clear hK K)
 simp only [tN]
 apply Run.block
 apply Run.seq
 apply Run.seq
 refine opsF oo47 fun K hK => ?_
 try simp
 repeat' first | (refine evL_c ?_; simp [hop]) | (with_reducible first | apply aI | intro _ | assumption) | omega
 all_goals (apply Fin.go hK; clear hK K)
 simp only [tN]
 refine Run.cond rfl (fun h23 => ?_) (fun h23 => ?_)
 ·skip
  apply Run.skip
  simp only [tN]
  refine Run.cond rfl (fun h23 => ?_) (fun h23 => ?_)
  ·skip
   refine Run.opsN [] [(26, 31), (28, 30)] [oF 75 6 2 26, oL 46 26 27, oF 75 6 3 28, oL 4 28 29, oF 48 11 3 30, oS 46 30 27, oF 48 11 4 31, oS 4 31 29] mixed (by decide) rfl fun K hK => ?_
   try simp
   repeat' first | (refine evL_c ?_; simp [hop]) | (with_reducible first | apply aI | intro _ | assumption) | omega
   all_goals (refine hK _ _ (by rfl) ?_; clear hK K)
   simp only [Blok_normal]
   simp only [tN]
   apply Run.seq
   refine opsF oo48 fun K hK => ?_
   try simp
   repeat' first | (refine evL_c ?_; simp [hop]) | (with_reducible first | apply aI | intro _ | assumption) | omega
   all_goals (apply Fin.go hK; clear hK K)
   simp only [tN]
   refine Run.fra 2000 ?_
   simp [V.fra, V.fraL, fraS, frz]
   refine Run.subB 900 5 (.d (.sl false [])) rfl rfl nil_sl ?_
   simp
   apply Run.ret
   try simp only [Then_ret, Blok_ret]
   simp
  ·simp at h23
 ·simp at h23
set_option maxHeartbeats 8000000 in
theorem over2_ok (c : CoreT) (p : PlanT) (s : StepR) (i : Int) (tb pp : D) (np : Nat) (ps : List PlanT) (l : List Int) (hop : s.op = 2) : SndW P 81 [.pt 0 0 0 0, .d (.ag (encP p)), .d (.ag (encR s)), .int i] [(0, .vals ((encC c).map .d ++ [.d tb, .d pp, .rs 1 6 0 np, .mp 2])), (1, .data 6 (ps.map encP)), (2, mpK l)] (.tup [.d (.ag (encP (stepPl 3 p 0 s.edges s.back []))), .bool true]) [(0, .vals ((encC c).map .d ++ [.d tb, .d pp, .rs 1 6 0 np, .mp 2])), (1, .data 6 (ps.map encP)), (2, mpK l)] := by
 refine sndW_of [0, 1, 2] Try.func81 rfl (by kernel_rfl) Try.ntmps81 (by simp) (by simp) ?_
 unfold Try.f81
 simp only [List.cons_append, List.nil_append, List.length_cons, List.length_nil, Nat.reduceAdd, Nat.reduceSub, List.replicate]
 apply Run.seq
 refine opsF oo43 fun K hK => ?_
 try simp
 repeat' first | (refine evL_c ?_; simp [hop]) | (with_reducible first | apply aI | intro _ | assumption) | omega
 all_goals (apply Fin.go hK; clear hK K)
 simp only [tN]
 apply Run.seq
 refine opsF oo44 fun K hK => ?_
 try simp
 repeat' first | (refine evL_c ?_; simp [hop, updV, findK]) | (with_reducible first | apply aI | intro _ | assumption) | omega
 all_goals (apply Fin.go hK; clear hK K)
 simp only [tN]
 apply Run.seq
 refine opsF oo45 fun K hK => ?_
 try simp
 repeat' first | (refine evL_c ?_; simp [hop, lookV, lookR, findK]) | (with_reducible first | apply aI | intro _ | assumption) | omega
 all_goals (apply Fin.go hK; clear hK K)
 simp only [tN]
 apply Run.seq
 apply Run.seq
 refine opsF oo46 fun K hK => ?_
 try simp
 repeat' first | (refine evL_c ?_; simp [hop]) | (with_reducible first | apply aI | intro _ | assumption) | omega
 all_goals (apply Fin.go hK; clear hK K)
 simp only [tN]
 apply Run.block
 apply Run.seq
 apply Run.seq
 refine opsF oo47 fun K hK => ?_
 try simp
 repeat' first | (refine evL_c ?_; simp [hop]) | (with_reducible first | apply aI | intro _ | assumption) | omega
 all_goals (apply Fin.go hK; clear hK K)
 simp only [tN]
 refine Run.cond rfl (fun h23 => ?_) (fun h23 => ?_)
 ·simp at h23
 ·skip
  refine opsF oo49 fun K hK => ?_
  try simp
  repeat' first | (refine evL_c ?_; simp [hop]) | (with_reducible first | apply aI | intro _ | assumption) | omega
  all_goals (apply Fin.go hK; clear hK K)
  simp only [tN]
  refine Run.cond rfl (fun h23 => ?_) (fun h23 => ?_)
  ·skip
   refine Run.opsN [] [(26, 31), (28, 30)] [oF 75 6 2 26, oL 46 26 27, oF 75 6 3 28, oL 4 28 29, oF 48 11 3 30, oS 46 30 27, oF 48 11 4 31, oS 4 31 29] mixed (by decide) rfl fun K hK => ?_
   try simp
   repeat' first | (refine evL_c ?_; simp [hop]) | (with_reducible first | apply aI | intro _ | assumption) | omega
   all_goals (refine hK _ _ (by rfl) ?_; clear hK K)
   simp only [Blok_normal]
   simp only [tN]
   apply Run.seq
   refine opsF oo48 fun K hK => ?_
   try simp
   repeat' first | (refine evL_c ?_; simp [hop]) | (with_reducible first | apply aI | intro _ | assumption) | omega
   all_goals (apply Fin.go hK; clear hK K)
   simp only [tN]
   refine Run.fra 2000 ?_
   simp [V.fra, V.fraL, fraS, frz]
   refine Run.subB 900 5 (.d (.sl false [])) rfl rfl nil_sl ?_
   simp
   apply Run.ret
   try simp only [Then_ret, Blok_ret]
   simp
  ·simp at h23
set_option maxHeartbeats 8000000 in
theorem over3_ok (c : CoreT) (p : PlanT) (s : StepR) (i : Int) (tb pp : D) (np : Nat) (ps : List PlanT) (l : List Int) (hop : s.op = 3) : SndW P 81 [.pt 0 0 0 0, .d (.ag (encP p)), .d (.ag (encR s)), .int i] [(0, .vals ((encC c).map .d ++ [.d tb, .d pp, .rs 1 6 0 np, .mp 2])), (1, .data 6 (ps.map encP)), (2, mpK l)] (.tup [.d (.ag (encP (stepPl 5 p s.slot s.edges false []))), .bool true]) [(0, .vals ((encC c).map .d ++ [.d tb, .d pp, .rs 1 6 0 np, .mp 2])), (1, .data 6 (ps.map encP)), (2, mpK l)] := by
 refine sndW_of [0, 1, 2] Try.func81 rfl (by kernel_rfl) Try.ntmps81 (by simp) (by simp) ?_
 unfold Try.f81
 simp only [List.cons_append, List.nil_append, List.length_cons, List.length_nil, Nat.reduceAdd, Nat.reduceSub, List.replicate]
 apply Run.seq
 refine opsF oo43 fun K hK => ?_
 try simp
 repeat' first | (refine evL_c ?_; simp [hop]) | (with_reducible first | apply aI | intro _ | assumption) | omega
 all_goals (apply Fin.go hK; clear hK K)
 simp only [tN]
 apply Run.seq
 refine opsF oo44 fun K hK => ?_
 try simp
 repeat' first | (refine evL_c ?_; simp [hop, updV, findK]) | (with_reducible first | apply aI | intro _ | assumption) | omega
 all_goals (apply Fin.go hK; clear hK K)
 simp only [tN]
 apply Run.seq
 refine opsF oo45 fun K hK => ?_
 try simp
 repeat' first | (refine evL_c ?_; simp [hop, lookV, lookR, findK]) | (with_reducible first | apply aI | intro _ | assumption) | omega
 all_goals (apply Fin.go hK; clear hK K)
 simp only [tN]
 apply Run.seq
 apply Run.seq
 refine opsF oo46 fun K hK => ?_
 try simp
 repeat' first | (refine evL_c ?_; simp [hop]) | (with_reducible first | apply aI | intro _ | assumption) | omega
 all_goals (apply Fin.go hK; clear hK K)
 simp only [tN]
 apply Run.block
 apply Run.seq
 apply Run.seq
 refine opsF oo47 fun K hK => ?_
 try simp
 repeat' first | (refine evL_c ?_; simp [hop]) | (with_reducible first | apply aI | intro _ | assumption) | omega
 all_goals (apply Fin.go hK; clear hK K)
 simp only [tN]
 refine Run.cond rfl (fun h23 => ?_) (fun h23 => ?_)
 ·simp at h23
 ·skip
  refine opsF oo49 fun K hK => ?_
  try simp
  repeat' first | (refine evL_c ?_; simp [hop]) | (with_reducible first | apply aI | intro _ | assumption) | omega
  all_goals (apply Fin.go hK; clear hK K)
  simp only [tN]
  refine Run.cond rfl (fun h23 => ?_) (fun h23 => ?_)
  ·simp at h23
  ·skip
   apply Run.seq
   refine opsF oo50 fun K hK => ?_
   try simp
   repeat' first | (refine evL_c ?_; simp [hop]) | (with_reducible first | apply aI | intro _ | assumption) | omega
   all_goals (apply Fin.go hK; clear hK K)
   simp only [tN]
   refine Run.cond rfl (fun h32 => ?_) (fun h32 => ?_)
   ·skip
    refine Run.opsN [] [(34, 39), (36, 38)] [oF 75 6 1 34, oL 3 34 35, oF 75 6 2 36, oL 46 36 37, oF 48 11 2 38, oS 3 38 35, oF 48 11 3 39, oS 46 39 37] mixed (by decide) rfl fun K hK => ?_
    try simp
    repeat' first | (refine evL_c ?_; simp [hop]) | (with_reducible first | apply aI | intro _ | assumption) | omega
    all_goals (refine hK _ _ (by rfl) ?_; clear hK K)
    simp only [Blok_normal]
    simp only [tN]
    apply Run.seq
    refine opsF oo48 fun K hK => ?_
    try simp
    repeat' first | (refine evL_c ?_; simp [hop]) | (with_reducible first | apply aI | intro _ | assumption) | omega
    all_goals (apply Fin.go hK; clear hK K)
    simp only [tN]
    refine Run.fra 2000 ?_
    simp [V.fra, V.fraL, fraS, frz]
    refine Run.subB 900 5 (.d (.sl false [])) rfl rfl nil_sl ?_
    simp
    apply Run.ret
    try simp only [Then_ret, Blok_ret]
    simp
   ·simp at h32
set_option maxHeartbeats 8000000 in
theorem over4_ok (c : CoreT) (p : PlanT) (s : StepR) (i : Int) (tb pp : D) (np : Nat) (ps : List PlanT) (l : List Int) (hop : s.op = 4) : SndW P 81 [.pt 0 0 0 0, .d (.ag (encP p)), .d (.ag (encR s)), .int i] [(0, .vals ((encC c).map .d ++ [.d tb, .d pp, .rs 1 6 0 np, .mp 2])), (1, .data 6 (ps.map encP)), (2, mpK l)] (.tup [.d (.ag (encP (stepPl 6 p 0 [] false s.terms))), .bool true]) [(0, .vals ((encC c).map .d ++ [.d tb, .d pp, .rs 1 6 0 np, .mp 2])), (1, .data 6 (ps.map encP)), (2, mpK l)] := by
 refine sndW_of [0, 1, 2] Try.func81 rfl (by kernel_rfl) Try.ntmps81 (by simp) (by simp) ?_
 unfold Try.f81
 simp only [List.cons_append, List.nil_append, List.length_cons, List.length_nil, Nat.reduceAdd, Nat.reduceSub, List.replicate]
 apply Run.seq
 refine opsF oo43 fun K hK => ?_
 try simp
 repeat' first | (refine evL_c ?_; simp [hop]) | (with_reducible first | apply aI | intro _ | assumption) | omega
 all_goals (apply Fin.go hK; clear hK K)
 simp only [tN]
 apply Run.seq
 refine opsF oo44 fun K hK => ?_
 try simp
 repeat' first | (refine evL_c ?_; simp [hop, updV, findK]) | (with_reducible first | apply aI | intro _ | assumption) | omega
 all_goals (apply Fin.go hK; clear hK K)
 simp only [tN]
 apply Run.seq
 refine opsF oo45 fun K hK => ?_
 try simp
 repeat' first | (refine evL_c ?_; simp [hop, lookV, lookR, findK]) | (with_reducible first | apply aI | intro _ | assumption) | omega
 all_goals (apply Fin.go hK; clear hK K)
 simp only [tN]
 apply Run.seq
 apply Run.seq
 refine opsF oo46 fun K hK => ?_
 try simp
 repeat' first | (refine evL_c ?_; simp [hop]) | (with_reducible first | apply aI | intro _ | assumption) | omega
 all_goals (apply Fin.go hK; clear hK K)
 simp only [tN]
 apply Run.block
 apply Run.seq
 apply Run.seq
 refine opsF oo47 fun K hK => ?_
 try simp
 repeat' first | (refine evL_c ?_; simp [hop]) | (with_reducible first | apply aI | intro _ | assumption) | omega
 all_goals (apply Fin.go hK; clear hK K)
 simp only [tN]
 refine Run.cond rfl (fun h23 => ?_) (fun h23 => ?_)
 ·simp at h23
 ·skip
  refine opsF oo49 fun K hK => ?_
  try simp
  repeat' first | (refine evL_c ?_; simp [hop]) | (with_reducible first | apply aI | intro _ | assumption) | omega
  all_goals (apply Fin.go hK; clear hK K)
  simp only [tN]
  refine Run.cond rfl (fun h23 => ?_) (fun h23 => ?_)
  ·simp at h23
  ·skip
   apply Run.seq
   refine opsF oo50 fun K hK => ?_
   try simp
   repeat' first | (refine evL_c ?_; simp [hop]) | (with_reducible first | apply aI | intro _ | assumption) | omega
   all_goals (apply Fin.go hK; clear hK K)
   simp only [tN]
   refine Run.cond rfl (fun h32 => ?_) (fun h32 => ?_)
   ·simp at h32
   ·skip
    apply Run.seq
    refine opsF oo51 fun K hK => ?_
    try simp
    repeat' first | (refine evL_c ?_; simp [hop]) | (with_reducible first | apply aI | intro _ | assumption) | omega
    all_goals (apply Fin.go hK; clear hK K)
    simp only [tN]
    refine Run.cond rfl (fun h40 => ?_) (fun h40 => ?_)
    ·skip
     refine opsF [oF 75 6 4 42, oL 28 42 43, oF 48 11 5 44, oS 28 44 43] fun K hK => ?_
     try simp
     repeat' first | (refine evL_c ?_; simp [hop]) | (with_reducible first | apply aI | intro _ | assumption) | omega
     all_goals (apply Fin.go hK; clear hK K)
     simp only [Blok_normal]
     simp only [tN]
     apply Run.seq
     refine opsF oo48 fun K hK => ?_
     try simp
     repeat' first | (refine evL_c ?_; simp [hop]) | (with_reducible first | apply aI | intro _ | assumption) | omega
     all_goals (apply Fin.go hK; clear hK K)
     simp only [tN]
     refine Run.fra 2000 ?_
     simp [V.fra, V.fraL, fraS, frz]
     refine Run.subB 900 3 (.d (.sl false [])) rfl rfl nil_sl ?_
     simp
     apply Run.ret
     try simp only [Then_ret, Blok_ret]
     simp
    ·simp at h40
set_option maxHeartbeats 8000000 in
theorem over0_ok (c : CoreT) (p : PlanT) (s : StepR) (i : Int) (tb pp : D) (np : Nat) (ps : List PlanT) (l : List Int) (ho1 : ¬ s.op = 1) (ho2 : ¬ s.op = 2) (ho3 : ¬ s.op = 3) (ho4 : ¬ s.op = 4) (ho5 : ¬ s.op = 5) : SndW P 81 [.pt 0 0 0 0, .d (.ag (encP p)), .d (.ag (encR s)), .int i] [(0, .vals ((encC c).map .d ++ [.d tb, .d pp, .rs 1 6 0 np, .mp 2])), (1, .data 6 (ps.map encP)), (2, mpK l)] (.tup [.d (.ag (encP (stepPl 0 p 0 [] false []))), .bool true]) [(0, .vals ((encC c).map .d ++ [.d tb, .d pp, .rs 1 6 0 np, .mp 2])), (1, .data 6 (ps.map encP)), (2, mpK l)] := by
 refine sndW_of [0, 1, 2] Try.func81 rfl (by kernel_rfl) Try.ntmps81 (by simp) (by simp) ?_
 unfold Try.f81
 simp only [List.cons_append, List.nil_append, List.length_cons, List.length_nil, Nat.reduceAdd, Nat.reduceSub, List.replicate]
 apply Run.seq
 refine opsF oo43 fun K hK => ?_
 try simp
 repeat' first | (refine evL_c ?_; simp [ho1, ho2, ho3, ho4, ho5]) | (with_reducible first | apply aI | intro _ | assumption) | omega
 all_goals (apply Fin.go hK; clear hK K)
 simp only [tN]
 apply Run.seq
 refine opsF oo44 fun K hK => ?_
 try simp
 repeat' first | (refine evL_c ?_; simp [ho1, ho2, ho3, ho4, ho5, updV, findK]) | (with_reducible first | apply aI | intro _ | assumption) | omega
 all_goals (apply Fin.go hK; clear hK K)
 simp only [tN]
 apply Run.seq
 refine opsF oo45 fun K hK => ?_
 try simp
 repeat' first | (refine evL_c ?_; simp [ho1, ho2, ho3, ho4, ho5, lookV, lookR, findK]) | (with_reducible first | apply aI | intro _ | assumption) | omega
 all_goals (apply Fin.go hK; clear hK K)
 simp only [tN]
 apply Run.seq
 apply Run.seq
 refine opsF oo46 fun K hK => ?_
 try simp
 repeat' first | (refine evL_c ?_; simp [ho1, ho2, ho3, ho4, ho5]) | (with_reducible first | apply aI | intro _ | assumption) | omega
 all_goals (apply Fin.go hK; clear hK K)
 simp only [tN]
 apply Run.block
 apply Run.seq
 apply Run.seq
 refine opsF oo47 fun K hK => ?_
 try simp
 repeat' first | (refine evL_c ?_; simp [ho1, ho2, ho3, ho4, ho5]) | (with_reducible first | apply aI | intro _ | assumption) | omega
 all_goals (apply Fin.go hK; clear hK K)
 simp only [tN]
 refine Run.cond rfl (fun h23 => ?_) (fun h23 => ?_)
 ·simp at h23
 ·skip
  refine opsF oo49 fun K hK => ?_
  try simp
  repeat' first | (refine evL_c ?_; simp [ho1, ho2, ho3, ho4, ho5]) | (with_reducible first | apply aI | intro _ | assumption) | omega
  all_goals (apply Fin.go hK; clear hK K)
  simp only [tN]
  refine Run.cond rfl (fun h23 => ?_) (fun h23 => ?_)
  ·simp at h23
  ·skip
   apply Run.seq
   refine opsF oo50 fun K hK => ?_
   try simp
   repeat' first | (refine evL_c ?_; simp [ho1, ho2, ho3, ho4, ho5]) | (with_reducible first | apply aI | intro _ | assumption) | omega
   all_goals (apply Fin.go hK; clear hK K)
   simp only [tN]
   refine Run.cond rfl (fun h32 => ?_) (fun h32 => ?_)
   ·simp at h32
   ·skip
    apply Run.seq
    refine opsF oo51 fun K hK => ?_
    try simp
    repeat' first | (refine evL_c ?_; simp [ho1, ho2, ho3, ho4, ho5]) | (with_reducible first | apply aI | intro _ | assumption) | omega
    all_goals (apply Fin.go hK; clear hK K)
    simp only [tN]
    refine Run.cond rfl (fun h40 => ?_) (fun h40 => ?_)
    ·simp at h40
    ·skip
     apply Run.seq
     refine opsF oo52 fun K hK => ?_
     try simp
     repeat' first | (refine evL_c ?_; simp [ho1, ho2, ho3, ho4, ho5]) | (with_reducible first | apply aI | intro _ | assumption) | omega
     all_goals (apply Fin.go hK; clear hK K)
     simp only [tN]
     refine Run.cond rfl (fun h45 => ?_) (fun h45 => ?_)
     ·simp at h45
     ·skip
      apply Run.skip
      simp only [Blok_normal]
      simp only [tN]
      apply Run.seq
      refine opsF oo48 fun K hK => ?_
      try simp
      repeat' first | (refine evL_c ?_; simp [ho1, ho2, ho3, ho4, ho5]) | (with_reducible first | apply aI | intro _ | assumption) | omega
      all_goals (apply Fin.go hK; clear hK K)
      simp only [tN]
      refine Run.fra 2000 ?_
      simp [V.fra, V.fraL, fraS, frz]
      refine Run.subB 900 3 (.d (.sl false [])) rfl rfl nil_sl ?_
      simp
      refine Run.subB 900 5 (.d (.sl false [])) rfl rfl nil_sl ?_
      simp
      apply Run.ret
      try simp only [Then_ret, Blok_ret]
      simp
end Go.Proofs.Ytimgbdkgjfbhkaa.Z
end
section
namespace Go.Fw
variable {P : Program}
def RoC (P : Program) (o : Oper) (E E' : St) : Prop := ∃ g args0 ids s0 x, o.dst.isSome = true ∧ callOf o.op (look E.e) = some (g, V.renL (rho ids (newId o.dst)) args0) ∧ (∀ y ∈ s0, getB E.s (ids.getD y.1 0) = some (y.2.ren (rho ids (newId o.dst)))) ∧
 okW ids s0 args0 (.d x) s0 = true ∧ SndW P g args0 s0 (.d x) s0 ∧ E' = ⟨put E.e o.dst (.d x), E.s⟩
def isRo (ro : Op → Bool) (o : Oper) : Bool := ro o.op && cls o.op == .c && o.guard.isNone
def StpN (P : Program) (im ro : Op → Bool) (all : List Oper) (o : Oper) (E E' : St) : Prop := if isRo ro o then RoC P o E E' else Stp P im all o E E'
def StepsN (P : Program) (im ro : Op → Bool) (all : List Oper) : List Nat → St → St → Prop
 | [], E, E' => E' = E
 | i :: r, E, E' => ∃ o, all[i]? = some o ∧ ∃ E1, StpN P im ro all o E E1 ∧ StepsN P im ro all r E1 E'
def reads (o : Oper) : Bool := cls o.op == .p || cls o.op == .r
def commR (im ro : Op → Bool) (all : List Oper) (x y : Oper) : Bool := (!isRo ro x && !isRo ro y && comm im all x y) || (apart all x y && ((isRo ro x && !isRo ro y && reads y) || (reads x && !isRo ro x && isRo ro y)))
def indepR (im ro : Op → Bool) (all : List Oper) : Bool := ahead all && (List.range all.length).all fun i => (List.range i).all fun j => dep all all.length j i || (match all[j]?, all[i]? with | some x, some y => commR im ro all x y | _, _ => true)
theorem reads_stp {im : Op → Bool} {all : List Oper} {o : Oper} (h : reads o = true) {E E' : St} : Stp P im all o E E' ↔ ∃ v, LocG P all o E.e E.s v [] ∧ E' = ⟨put E.e o.dst v, E.s⟩ := by
 simp only [reads, Bool.or_eq_true, beq_iff_eq] at h
 have hx : cls o.op ≠ .x := by rcases h with h | h <;> rw [h] <;> simp
 have hc : cls o.op ≠ .c := by rcases h with h | h <;> rw [h] <;> simp
 have hw : cls o.op ≠ .w := by rcases h with h | h <;> rw [h] <;> simp
 have hm : makes o = false := by unfold makes; rcases h with h | h <;> rw [h]
 rw [locG_of hx (fun _ => hc)]
 constructor
 ·rintro ⟨v, ext, hl, rfl⟩
  have : ext = [] := by
   have := locG_ext hw hl
   cases ext with
   | nil => rfl
   | cons z zs => have := (this z (by simp)).1; rw [hm] at this; cases this
  subst this
  exact ⟨v, hl, rfl⟩
 ·rintro ⟨v, hl, rfl⟩; exact ⟨v, [], hl, rfl⟩
theorem exchangeR {im ro : Op → Bool} {all : List Oper} {x y : Oper} (hc : commR im ro all x y = true) {E E1 E2 : St} (hfx : makes x = true → Fresh (mine x) E.e E.s) (hfy : makes y = true → Fresh (mine y) E.e E.s)
  (hd : makes x = true → makes y = true → ∀ i, mine x i = true → mine y i = false) (h1 : StpN P im ro all x E E1) (h2 : StpN P im ro all y E1 E2) : ∃ E1', StpN P im ro all y E E1' ∧ StpN P im ro all x E1' E2 := by
 simp only [commR, Bool.or_eq_true, Bool.and_eq_true, Bool.not_eq_true'] at hc
 unfold StpN at h1 h2 ⊢
 rcases hc with ⟨⟨q1, q2⟩, hc⟩ | ⟨ha, hc⟩
 ·rw [q1] at h1
  rw [q2] at h2
  simp only [q1, q2, Bool.false_eq_true, if_false] at h1 h2 ⊢
  exact exchange hc hfx hfy hd h1 h2
 simp only [apart, Bool.and_eq_true] at ha
 have hne : ∀ q, x.dst = some q → y.dst ≠ some q := fun q e => by
  have := ha.1; rw [e] at this; simp at this; exact this.2
 have hlx : ∀ q, looks all y q = true → x.dst ≠ some q := fun q hk e => by
  have := ha.1; rw [e] at this; simp [hk] at this
 have hly : ∀ q, looks all x q = true → y.dst ≠ some q := fun q hk e => by
  have := ha.2; rw [e] at this; simp [hk] at this
 have opx : ∀ (v : V), ∀ z ∈ x.op.operands, look (put E.e y.dst v) z = look E.e z := fun v z hz => by
  cases z with
  | tmp t => exact put_getD (hly t (by unfold looks; rw [Bool.or_eq_true]; exact .inl (List.any_eq_true.2 ⟨.tmp t, by simpa using hz, by simp⟩)))
  | _ => rfl
 have opy : ∀ (v : V), ∀ z ∈ y.op.operands, look (put E.e x.dst v) z = look E.e z := fun v z hz => by
  cases z with
  | tmp t => exact put_getD (hlx t (by unfold looks; rw [Bool.or_eq_true]; exact .inl (List.any_eq_true.2 ⟨.tmp t, by simpa using hz, by simp⟩)))
  | _ => rfl
 rcases hc with ⟨⟨q1, q2⟩, q3⟩ | ⟨⟨q3, q1⟩, q2⟩
 ·simp only [q1, q2, Bool.false_eq_true, if_true, if_false] at h1 h2 ⊢
  obtain ⟨g, args0, ids, s0, u, a1, a2, a3, a4, a5, rfl⟩ := h1
  obtain ⟨v, g1, rfl⟩ := (reads_stp q3).1 h2
  refine ⟨⟨put E.e y.dst v, E.s⟩, (reads_stp q3).2 ⟨v, (locG_congr fun k hk => put_getD (hlx k hk)).1 g1, rfl⟩, g, args0, ids, s0, u, a1, ?_, a3, a4, a5, ?_⟩
  ·simp only; rw [callOf_congr (opx v)]; exact a2
  ·simp only; rw [put_comm hne]
 ·simp only [q1, q2, Bool.false_eq_true, if_true, if_false] at h1 h2 ⊢
  obtain ⟨v, g1, rfl⟩ := (reads_stp q3).1 h1
  obtain ⟨g, args0, ids, s0, u, a1, a2, a3, a4, a5, rfl⟩ := h2
  refine ⟨⟨put E.e y.dst (.d u), E.s⟩, ⟨g, args0, ids, s0, u, a1, ?_, a3, a4, a5, rfl⟩, (reads_stp q3).2 ⟨v, (locG_congr fun k hk => put_getD (hly k hk)).2 g1, ?_⟩⟩
  ·simp only at a2; rw [callOf_congr (opy v)] at a2; exact a2
  ·simp only; rw [put_comm hne]
theorem stpN_fresh {im ro : Op → Bool} {all : List Oper} {o : Oper} {p : Nat → Bool} {E E' : St} (hf : Fresh p E.e E.s) (hp : ∀ i, mine o i = true → p i = false) (h : StpN P im ro all o E E') : Fresh p E'.e E'.s := by
 unfold StpN at h
 split at h
 ·obtain ⟨g, args0, ids, s0, u, a1, a2, a3, a4, a5, rfl⟩ := h
  exact ⟨put_menL hf.env rfl, hf.sto⟩
 ·exact stp_fresh hf hp h
theorem freshAll_stepN {im ro : Op → Bool} {all : List Oper} (ha : alone all = true) {R : List Nat} {E E' : St} {i : Nat} {o : Oper} (hi : all[i]? = some o) (hni : i ∉ R) (hf : FreshAll all R E) (h : StpN P im ro all o E E') : FreshAll all R E' := by
 intro j hj x hx hm
 exact stpN_fresh (hf j hj x hx hm) (fun k hk => alone_mine ha (fun e : j = i => hni (e ▸ hj)) hx hi hm k hk) h
theorem to_frontR {im ro : Op → Bool} {all : List Oper} (ha : alone all = true) {i : Nat} {o : Oper} (hi : all[i]? = some o) : ∀ {R : List Nat} {E E' : St}, R.Nodup → i ∈ R → FreshAll all R E → (∀ j ∈ R.takeWhile (· != i), ∀ x, all[j]? = some x → commR im ro all x o = true) → StepsN P im ro all R E E' →
  ∃ E1, StpN P im ro all o E E1 ∧ StepsN P im ro all (R.erase i) E1 E' := by
 intro R
 induction R with
 | nil => intro E E' _ h; cases h
 | cons j r ih =>
   intro E E' hnd hm hf hc hs
   obtain ⟨x, hx, E1, h1, h2⟩ := hs
   by_cases e : j = i
   ·subst e
    rw [hx] at hi; cases hi
    exact ⟨E1, h1, by simpa using h2⟩
   ·have hmr : i ∈ r := (List.mem_cons.1 hm).resolve_left (Ne.symm e)
    have hnd' := List.nodup_cons.1 hnd
    have hfr : FreshAll all r E1 := freshAll_stepN ha hx hnd'.1 (fun k hk => hf k (by simp [hk])) h1
    have htw : (j :: r).takeWhile (· != i) = j :: r.takeWhile (· != i) := by simp [e]
    rw [htw] at hc
    obtain ⟨E2, g1, g2⟩ := ih hnd'.2 hmr hfr (fun k hk => hc k (by simp [hk])) h2
    obtain ⟨E3, g3, g4⟩ := exchangeR (hc j (by simp) x hx) (hf j (by simp) x hx) (hf i hm o hi) (fun m1 m2 k hk => alone_mine ha (Ne.symm e) hi hx m2 k hk) h1 g1
    refine ⟨E3, g3, ?_⟩
    rw [List.erase_cons_tail (by simpa using e)]
    exact ⟨x, hx, E2, g4, g2⟩
section
variable {w0 : World} {L0 : Par} {X : Nat → Prop}
theorem Rel.same {m : Nat → Option Nat} {e : Env} {s s' : Store} {a : Act} {w : World} (h : Rel w0 L0 X m e s a w) (hs : ∀ i, getB s' i = getB s i) : Rel w0 L0 X m e s' a w := by
 have hown : ∀ b, Own m s' b → Own m s b := by
  rintro b ⟨i, blk, g1, g2⟩
  exact ⟨i, blk, by rw [← hs]; exact g1, g2⟩
 have hL : ∀ b, Live X m s' b → Live X m s b ∨ w.heap.size ≤ b := fun b hb => .inl (hb.imp_right (hown b))
 have hk : CellsKept (Live X m s) w w := fun _ _ _ q => q
 have hz : SizesKept w w := fun _ cs _ _ q => ⟨cs, q, rfl⟩
 refine ⟨⟨h.env.len, fun j x v q1 q2 => VRel.mono' hk hz hL (h.env.at_ j x v q1 q2)⟩, ⟨fun i blk hi => ?_, fun i j b q1 q2 q3 q4 => h.sto.inj i j b q1 q2 (by rw [← hs]; exact q3) (by rw [← hs]; exact q4)⟩, h.dfr, h.ext, fun b hb => h.liv b (hown b hb), h.old, fun i hi hq => h.par i hi (by rw [← hs]; exact hq)⟩
 rw [hs] at hi
 rcases h.sto.blk i blk hi with ⟨b, r1, r2⟩ | r
 ·exact .inl ⟨b, r1, BRel.mono (p := fun _ => false) hk hz hL (fun _ _ => rfl) rfl (by cases blk <;> first | exact menL_false _ | trivial) r2⟩
 ·exact .inr r
theorem stpN_op {im ro : Op → Bool} (hroi : ∀ op, ro op = true → im op = true) {all : List Oper} {i : Nat} {o : Oper} (hi : all[i]? = some o) {m : Nat → Option Nat} {a : Act} {w : World} {E E1 : St} (h : Rel w0 L0 X m E.e E.s a w) (hf : makes o = true → Fresh (mine o) E.e E.s) (hs : StpN P im ro all o E E1) {K : Act → World → Prop} {Q : Exit → Act → World → Prop}
  (hK : ∀ m' a' w', Rel w0 L0 X m' E1.e E1.s a' w' → K a' w') : wpOp P all.toArray Q i K a w := by
 unfold StpN at hs
 split at hs
 ·rename_i hro
  simp only [isRo, Bool.and_eq_true, beq_iff_eq, Option.isNone_iff_eq_none] at hro
  obtain ⟨⟨hr, hcl⟩, hg⟩ := hro
  obtain ⟨g, args0, ids, s0, u, a1, a2, a3, a4, a5, rfl⟩ := hs
  have ok := okW_iff a4
  have hst : Stp P im all o E ⟨put E.e o.dst (.d u), puts (dropS (lost ids s0) E.s) (renS (rho ids (newId o.dst)) s0)⟩ := by
   unfold Stp
   rw [show guardOf all E.e o.guard = some none by rw [hg]; rfl]
   show DoI P im o E _
   unfold DoI
   rw [hcl, hroi _ hr]
   exact ⟨g, args0, ids, s0, .d u, s0, a1, a2, a3, a4, a5, rfl⟩
  refine stp_op hi h hf hst fun m' a' w' hr' => hK m' a' w' (hr'.same fun i => ?_)
  simp only
  rw [getB_puts', getB_dropS]
  split
  ·rename_i b hb
   obtain ⟨j, b0, h1, h2, rfl⟩ := getB_renS hb
   have hj : j < ids.length := by
    have := List.all_eq_true.1 ok.keys _ (getB_mem h1)
    simpa using this
   have := a3 _ (getB_mem h1)
   rw [rho_lt hj] at h2
   rw [← h2]; exact this
  ·split
   ·rename_i hb hl
    simp only [lost, List.any_eq_true, Bool.and_eq_true, beq_iff_eq, List.mem_range] at hl
    obtain ⟨j, hj, _, hn⟩ := hl
    have := ok.all j hj
    rw [Option.isNone_iff_eq_none] at hn
    rw [hn] at this; cases this
   ·rfl
 ·exact stp_op hi h hf hs hK
theorem seq_opsR {im ro : Op → Bool} (hroi : ∀ op, ro op = true → im op = true) {all : List Oper} (ha : alone all = true) : ∀ {R : List Nat} {m : Nat → Option Nat} {a : Act} {w : World} {E E' : St}, R.Nodup → FreshAll all R E → Rel w0 L0 X m E.e E.s a w → StepsN P im ro all R E E' → ∀ {Q : Exit → Act → World → Prop}, (∀ m' a' w', Rel w0 L0 X m' E'.e E'.s a' w' → Q .normal a' w') → wpOps P all.toArray Q R a w := by
 intro R
 induction R with
 | nil => intro m a w E E' _ _ h hs Q hQ; cases hs; exact hQ m a w h
 | cons i r ih =>
   intro m a w E E' hnd hf h hs Q hQ
   obtain ⟨o, hi, E1, h1, h2⟩ := hs
   have hnd' := List.nodup_cons.1 hnd
   rw [wpOps_cons]
   exact stpN_op hroi hi h (hf i (by simp) o hi) h1 fun m' a' w' h' => ih hnd'.2 (freshAll_stepN ha hi hnd'.1 (fun k hk => hf k (by simp [hk])) h1) h' h2 hQ
theorem any_opsR {im ro : Op → Bool} (hroi : ∀ op, ro op = true → im op = true) {all : List Oper} (ha : alone all = true) (hi : indepR im ro all = true) : ∀ (fuel : Nat) {listed : Array Bool} {m : Nat → Option Nat} {a : Act} {w : World} {E E' : St}, listed.size = all.length → (undone all.length listed).length ≤ fuel →
  (∀ i o, all[i]? = some o → listed.getD i true = true → i < all.length → ∀ e ∈ o.after.toList, Region.binds .any e = true → listed.getD e.on false = true) →
  FreshAll all (undone all.length listed) E → Rel w0 L0 X m E.e E.s a w → StepsN P im ro all (undone all.length listed) E E' → ∀ {Q : Exit → Act → World → Prop}, (∀ m' a' w', Rel w0 L0 X m' E'.e E'.s a' w' → Q .normal a' w') → wpAny P .any all.toArray Q fuel listed a w := by
 simp only [indepR, Bool.and_eq_true] at hi
 obtain ⟨hah, hco⟩ := hi
 intro fuel
 have rdy : ∀ {listed : Array Bool}, listed.size = all.length → ∀ i, i ∈ Region.ready .any all.toArray listed ↔ i ∈ undone all.length listed ∧ ∃ o, all[i]? = some o ∧ ∀ e ∈ o.after.toList, Region.binds .any e = true → listed.getD e.on false = true := by
  intro listed hl i
  simp only [Region.ready, undone, List.mem_filter, List.size_toArray, List.getElem?_toArray, Bool.and_eq_true]
  constructor
  ·rintro ⟨h1, h2, h3⟩
   refine ⟨⟨h1, h2⟩, ?_⟩
   cases ho : all[i]? with
   | none => rw [ho] at h3; cases h3
   | some o =>
     rw [ho] at h3
     refine ⟨o, rfl, fun e he hb => ?_⟩
     simp only [Option.map_some, Option.getD_some, Array.all_eq_true_iff_forall_mem] at h3
     have := h3 e (by simpa using he)
     simpa [hb] using this
  ·rintro ⟨⟨h1, h2⟩, o, ho, h3⟩
   refine ⟨h1, h2, ?_⟩
   rw [ho]
   simp only [Option.map_some, Option.getD_some, Array.all_eq_true_iff_forall_mem]
   intro e he
   by_cases hb : Region.binds .any e = true
   ·simp [h3 e (by simpa using he) hb]
   ·simp [hb]
 -- as long as one is left, one may be taken
 have least : ∀ {listed : Array Bool}, listed.size = all.length → Region.ready .any all.toArray listed = [] → undone all.length listed = [] := by
  intro listed hl hr
  cases hu : undone all.length listed with
  | nil => rfl
  | cons i r =>
    exfalso
    have hmem : ∀ k, k ∈ undone all.length listed ↔ k < all.length ∧ listed.getD k true = false := fun k => by simp [undone]
    have hmin : ∀ k, k < i → listed.getD k false = true := by
     intro k hk
     have hii : i < all.length := ((hmem i).1 (by rw [hu]; simp)).1
     have hsort : (undone all.length listed).Pairwise (· < ·) := List.pairwise_lt_range.filter _
     rw [hu] at hsort
     have hks : k < listed.size := by omega
     cases hq : listed.getD k true with
     | true => simp [Array.getD, hks] at hq ⊢; exact hq
     | false =>
       have : k ∈ undone all.length listed := (hmem k).2 ⟨by omega, hq⟩
       rw [hu] at this
       rcases List.mem_cons.1 this with e | hm
       ·omega
       ·have := (List.pairwise_cons.1 hsort).1 k hm
        omega
    have hii : i < all.length := ((hmem i).1 (by rw [hu]; simp)).1
    have : i ∈ Region.ready .any all.toArray listed := (rdy hl i).2 ⟨by rw [hu]; simp, all[i], List.getElem?_eq_getElem hii, fun e he hb => by
     have h1 := List.all_eq_true.1 hah i (List.mem_range.2 hii)
     rw [List.getElem?_eq_getElem hii] at h1
     have h2 := List.all_eq_true.1 h1 e he
     simp only [hb, Bool.not_true, Bool.false_or, decide_eq_true_eq] at h2
     exact hmin _ h2⟩
    rw [hr] at this; cases this
 induction fuel with
 | zero =>
   intro listed m a w E E' hl hn hcl hf h hs Q hQ
   have hu : undone all.length listed = [] := List.eq_nil_of_length_eq_zero (by omega)
   rw [hu] at hs
   cases hs
   refine ⟨?_, hQ m a w h⟩
   cases hr : Region.ready .any all.toArray listed with
   | nil => rfl
   | cons i r =>
     have := ((rdy hl i).1 (by rw [hr]; simp)).1
     rw [hu] at this; cases this
 | succ n ih =>
   intro listed m a w E E' hl hn hcl hf h hs Q hQ
   refine ⟨fun hr => ?_, fun i hri => ?_⟩
   ·have hu := least hl hr
    rw [hu] at hs
    cases hs
    exact hQ m a w h
   ·obtain ⟨hu, o, ho, hd⟩ := (rdy hl i).1 hri
    have hii : i < all.length := (List.getElem?_eq_some_iff.1 ho).1
    have hnd : (undone all.length listed).Nodup := List.nodup_range.filter _
    have hsort : (undone all.length listed).Pairwise (· < ·) := List.pairwise_lt_range.filter _
    obtain ⟨E1, g1, g2⟩ := to_frontR ha ho hnd hu hf (fun j hj x hx => by
     have hju : j ∈ undone all.length listed := (List.takeWhile_prefix _).subset hj
     have hne : j ≠ i := by have := List.all_eq_true.1 List.all_takeWhile j hj; simpa using this
     have hji : j < i := by
      have : ∀ (R : List Nat), R.Pairwise (· < ·) → i ∈ R → j ∈ R.takeWhile (· != i) → j < i := by
       intro R
       induction R with
       | nil => intro _ h; cases h
       | cons k r ih =>
         intro hp hm hj
         have hp' := List.pairwise_cons.1 hp
         by_cases e : k = i
         ·simp [e] at hj
         ·have hmr : i ∈ r := (List.mem_cons.1 hm).resolve_left (Ne.symm e)
          simp only [List.takeWhile_cons, bne_iff_ne, ne_eq, e, not_false_eq_true, if_true, List.mem_cons] at hj
          rcases hj with rfl | hj
          ·exact hp'.1 i hmr
          ·exact ih hp'.2 hmr hj
      exact this _ hsort hu hj
     have h1 := List.all_eq_true.1 (List.all_eq_true.1 hco i (List.mem_range.2 hii)) j (List.mem_range.2 hji)
     simp only [hx, ho, Bool.or_eq_true] at h1
     rcases h1 with h1 | h1
     ·have := dep_listed hcl hl _ j i o ho hd h1
      have hjl : j < listed.size := by omega
      have h2 : listed.getD j true = false := by have := hju; simp only [undone, List.mem_filter, Bool.not_eq_true'] at this; exact this.2
      simp [Array.getD, hjl] at this h2
      rw [this] at h2; cases h2
     ·exact h1) hs
    refine stpN_op hroi ho h (hf i hu o ho) g1 fun m' a' w' h' => ?_
    have hue := undone_set (listed := listed) hl hii
    refine ih (by simpa using hl) ?_ ?_ ?_ h' (by rw [hue]; exact g2) hQ
    ·rw [hue, List.length_erase_of_mem hu]; omega
    ·intro k x hx hk hkl e he hb
     by_cases e1 : i = k
     ·subst e1
      rw [ho] at hx; cases hx
      have := hd e he hb
      have hne : e.on < all.length := by
       have hlt : e.on < listed.size := by
        rcases Nat.lt_or_ge e.on listed.size with h | h
        ·exact h
        ·simp [Array.getD, Nat.not_lt.2 h] at this
       omega
      simp [Array.getD_eq_getD_getElem?, Array.getElem?_setIfInBounds] at this ⊢
      split
      ·split <;> simp_all
      ·exact this
     ·have hk' : listed.getD k true = true := by
       simpa [Array.getD_eq_getD_getElem?, Array.getElem?_setIfInBounds, e1] using hk
      have := hcl k x hx hk' hkl e he hb
      simp [Array.getD_eq_getD_getElem?, Array.getElem?_setIfInBounds] at this ⊢
      split
      ·split <;> simp_all
      ·exact this
    ·rw [hue]
     have hf' : FreshAll all ((undone all.length listed).erase i) E := fun k hk => hf k (List.mem_of_mem_erase hk)
     exact freshAll_stepN ha ho (List.Nodup.not_mem_erase hnd) hf' g1
end
variable {E : St} {Q : Exit → St → Prop}
def okRegR (im ro : Op → Bool) (draw : Bool) (all : List Oper) : Bool := alone all && (!draw || indepR im ro all)
theorem Run.regionR {im ro : Op → Bool} (hroi : ∀ op, ro op = true → im op = true) {id : Nat} {ops : Array Oper} {draw : Bool} (hm : P.follows .mixedOrders = true) (hk : okRegR im ro draw ops.toList = true) {e : Env} {s : Store} {E' : St}
  (hs : StepsN P im ro ops.toList (List.range ops.toList.length) ⟨enterE ops.toList e, enterS ops.toList s⟩ E') (hq : Q .normal E') : Run P (.region id ops draw) ⟨e, s⟩ Q := fun w0 L0 X m a w hr => by
 simp only [okRegR, Bool.and_eq_true, Bool.or_eq_true, Bool.not_eq_true'] at hk
 obtain ⟨ha, hd⟩ := hk
 have henter : Rel w0 L0 X m (enterE ops.toList e) (enterS ops.toList s) a w ∧ FreshAll ops.toList (List.range ops.toList.length) ⟨enterE ops.toList e, enterS ops.toList s⟩ := by
  unfold enterE enterS
  by_cases h : (ks ops.toList).isEmpty = true
  ·simp only [h, if_true]
   refine ⟨hr, fun i _ o ho hm => ?_⟩
   have := ks_nil h o (List.mem_of_getElem? ho)
   rw [this] at hm; cases hm
  ·simp only [h, if_false]
   exact ⟨hr.fgt _, fresh_enter⟩
 obtain ⟨h1, h2⟩ := henter
 have fin : ∀ m' a' w', Rel w0 L0 X m' E'.e E'.s a' w' → ∃ E'' m'', Q .normal E'' ∧ Rel w0 L0 X m'' E''.e E''.s a' w' := fun m' a' w' h => ⟨E', m', hq, h⟩
 cases draw with
 | false =>
   refine wp_region ?_
   have := seq_opsR (P := P) hroi (w0 := w0) (L0 := L0) (X := X) ha List.nodup_range h2 h1 hs (Q := fun x a' w' => ∃ E' m', Q x E' ∧ Rel w0 L0 X m' E'.e E'.s a' w') fin
   simpa using this
 | true =>
   have hi : indepR im ro ops.toList = true := by rcases hd with h | h; exact absurd h (by simp); exact h
   refine wp_region_any hm ?_
   have hu : undone ops.toList.length (Array.replicate ops.size false) = List.range ops.toList.length := by
    unfold undone
    rw [List.filter_eq_self]
    intro k hk
    have := List.mem_range.1 hk
    simp at this
    simp [Array.getD, this]
   have h3 : Rel w0 L0 X m (enterE ops.toList e) (enterS ops.toList s) a { w with drawn := w.drawn + 1 } := by
    have hk : CellsKept (Live X m (enterS ops.toList s)) w { w with drawn := w.drawn + 1 } := fun _ _ _ q => q
    have hz : SizesKept w { w with drawn := w.drawn + 1 } := fun _ cs _ _ q => ⟨cs, q, rfl⟩
    refine ⟨⟨h1.env.len, fun j x v q1 q2 => VRel.mono' hk hz (fun b hb => .inl hb) (h1.env.at_ j x v q1 q2)⟩, ⟨fun i blk hi => ?_, h1.sto.inj⟩, h1.dfr, ⟨h1.ext.os, h1.ext.tape, h1.ext.output, h1.ext.size, h1.ext.block, h1.ext.sizes⟩, h1.liv, h1.old, h1.par⟩
    rcases h1.sto.blk i blk hi with ⟨b, r1, r2⟩ | r
    ·exact .inl ⟨b, r1, BRel.mono (p := fun _ => false) hk hz (fun b hb => .inl hb) (fun _ _ => rfl) rfl (by cases blk <;> first | exact menL_false _ | trivial) r2⟩
    ·exact .inr r
   have := any_opsR (P := P) hroi (w0 := w0) (L0 := L0) (X := X) ha hi ops.size (listed := Array.replicate ops.size false) (by simp) (by rw [hu]; simp) (fun i o ho hl hlt e he hb => by
    simp at hlt
    simp [Array.getD, hlt] at hl) (by rw [hu]; exact h2) h3 (by rw [hu]; exact hs) (Q := fun x a' w' => ∃ E' m', Q x E' ∧ Rel w0 L0 X m' E'.e E'.s a' w') fin
   simpa using this
def ERo (P : Program) (g : FuncId) (args : List V) (dst : Option Nat) (k : Env → Store → Prop) (e : Env) (s : Store) : Prop := ∃ ids args0 s0 x, dst.isSome = true ∧ args = V.renL (rho ids (newId dst)) args0 ∧ (∀ y ∈ s0, getB s (ids.getD y.1 0) = some (y.2.ren (rho ids (newId dst)))) ∧
 okW ids s0 args0 (.d x) s0 = true ∧ SndW P g args0 s0 (.d x) s0 ∧ k (put e dst (.d x)) s
def EvN (P : Program) (im ro : Op → Bool) (K : Env → Store → Prop) : List LOp → Env → Store → Prop
 | [], e, s => K e s
 | o :: os, e, s => if ro o.op && cls o.op == .c then (match callOf o.op (look e) with | some (g, args) => ERo P g args o.dst (EvN P im ro K os) e s | none => False) else exec P im (mkO o.op o.dst) (EvN P im ro K os) e s
theorem evN_steps {im ro : Op → Bool} {all : List Oper} {K : Env → Store → Prop} : ∀ {os : List Oper} {n : Nat} {e : Env} {s : Store}, (os.all fun o => o.guard.isNone) = true → all.drop n = os → EvN P im ro K (os.map fun o => ⟨o.op, o.dst, none⟩) e s → ∃ E', StepsN P im ro all (List.range' n os.length) ⟨e, s⟩ E' ∧ K E'.e E'.s := by
 intro os
 induction os with
 | nil => intro n e s _ _ h; exact ⟨⟨e, s⟩, rfl, h⟩
 | cons o r ih =>
   intro n e s hg hd h
   simp only [List.all_cons, Bool.and_eq_true, Option.isNone_iff_eq_none] at hg
   have hn : all[n]? = some o := by
    have : (all.drop n)[0]? = some o := by rw [hd]; rfl
    simpa using this
   have hd' : all.drop (n + 1) = r := by
    rw [← List.drop_drop, hd]; rfl
   have fin : ∀ {E1 : St}, StpN P im ro all o ⟨e, s⟩ E1 → EvN P im ro K (r.map fun o => ⟨o.op, o.dst, none⟩) E1.e E1.s → ∃ E', StepsN P im ro all (List.range' n (o :: r).length) ⟨e, s⟩ E' ∧ K E'.e E'.s := by
    intro E1 h1 h2
    obtain ⟨E', g1, g2⟩ := ih (by simpa using hg.2) hd' h2
    exact ⟨E', ⟨o, hn, E1, h1, g1⟩, g2⟩
   simp only [List.map_cons, EvN] at h
   have hiso : isRo ro o = (ro o.op && cls o.op == .c) := by simp [isRo, hg.1]
   split at h
   ·rename_i hro
    split at h
    ·rename_i g args hco
     obtain ⟨ids, args0, s0, x, h1, rfl, h3, h4, h5, h6⟩ := h
     refine fin (E1 := ⟨put e o.dst (.d x), s⟩) ?_ h6
     unfold StpN
     rw [if_pos (by rw [hiso]; exact hro)]
     exact ⟨g, args0, ids, s0, x, h1, hco, h3, h4, h5, rfl⟩
    ·exact h.elim
   ·rename_i hro
    obtain ⟨E1, g1, g2⟩ := exec_do h
    refine fin (E1 := E1) ?_ g2
    unfold StpN
    rw [if_neg (by rw [hiso]; exact hro)]
    unfold Stp
    rw [show guardOf all e o.guard = some none by rw [hg.1]; rfl]
    exact g1
def rop (l : List FuncId) (op : Op) : Bool := match op with
 | .call c => match c.callee with
   | .value (.func f) => l.contains f
   | _ => false
 | _ => false
theorem Run.opsR (l l2 : List FuncId) {id : Nat} {ops : Array Oper} {draw : Bool} (los : List LOp) (hm : P.follows .mixedOrders = true) (hd : (l.all fun f => !l2.contains f) = true) (hg : (ops.toList.all fun o => o.guard.isNone) = true) (hk : okRegR (imp l) (rop l2) draw ops.toList = true) (hl : (ops.toList.map fun o => (⟨o.op, o.dst, none⟩ : LOp)) = los) {e : Env} {s : Store}
  (h : ∀ K : Env → Store → Prop, Fin Q K → EvN P (imp l) (rop l2) K los (enterE ops.toList e) (enterS ops.toList s)) : Run P (.region id ops draw) ⟨e, s⟩ Q := by
 subst hl
 obtain ⟨E', h1, h2⟩ := evN_steps (P := P) (im := imp l) (ro := rop l2) (n := 0) hg (List.drop_zero ..) (h (fun e s => Q .normal ⟨e, s⟩) fun _ _ h => h)
 rw [← List.range_eq_range'] at h1
 refine Run.regionR (fun op hop => ?_) hm hk h1 h2
 unfold rop at hop
 unfold imp
 split at hop
 ·split at hop
  ·rename_i c f hc
   simp only [hc]
   cases hq : l.contains f with
   | false => rfl
   | true =>
     have := List.all_eq_true.1 hd f (by simpa using hq)
     rw [hop] at this; cases this
  ·cases hop
 ·cases hop
theorem evN_c {im ro : Op → Bool} {K : Env → Store → Prop} {op : Op} {dst : Option Nat} {os : List LOp} {e : Env} {s : Store} (hr : (ro op && cls op == .c) = false) (h : exec P im (mkO op dst) (EvN P im ro K os) e s) : EvN P im ro K (⟨op, dst, none⟩ :: os) e s := by
 simp only [EvN]; rw [if_neg (by rw [hr]; simp)]; exact h
theorem evN_r {im ro : Op → Bool} {K : Env → Store → Prop} {op : Op} {dst : Option Nat} {os : List LOp} {e : Env} {s : Store} (hr : (ro op && cls op == .c) = true) {g : FuncId} {args : List V} (hc : callOf op (look e) = some (g, args)) (h : ERo P g args dst (EvN P im ro K os) e s) : EvN P im ro K (⟨op, dst, none⟩ :: os) e s := by
 simp only [EvN]; rw [if_pos hr, hc]; exact h
theorem FinN.go {im ro : Op → Bool} {K : Env → Store → Prop} {e : Env} {s : Store} (h : Fin Q K) (hq : Q .normal ⟨e, s⟩) : EvN P im ro K [] e s := h e s hq
theorem ero (ids : List Nat) {g : FuncId} {args args0 : List V} {d : Nat} {k : Env → Store → Prop} {e : Env} {s s0 : Store} {x : D} (h : SndW P g args0 s0 (.d x) s0) (ha : V.renL (rho ids (100 * (d + 1))) args0 = args) (hs : ∀ y ∈ s0, getB s (ids.getD y.1 0) = some (y.2.ren (rho ids (100 * (d + 1)))))
  (hok : okW ids s0 args0 (.d x) s0 = true) (hk : k (put e (some d) (.d x)) s) : ERo P g args (some d) k e s := ⟨ids, args0, s0, x, rfl, ha.symm, hs, hok, h, hk⟩
end Go.Fw
end
section
namespace Go.Proofs.Ytimgbdkgjfbhkaa.Z
open Go Go.Fw
attribute [-simp] lookV updV Blk.fgt Blk.ren Blk.men Blk.fin lost
attribute [local simp] look101 upd101
def eqJ : List Int → List Int → Bool
 | [], [] => true
 | x :: a, y :: b => decide (x = y) && eqJ a b
 | _, _ => false
theorem eqJ_len {a b : List Int} (h : a.length ≠ b.length) : eqJ a b = false := by
 induction a generalizing b with
 | nil => cases b <;> simp_all [eqJ]
 | cons x a ih =>
   cases b with
   | nil => rfl
   | cons y b => rw [eqJ, ih (by simpa using h), Bool.and_false]
theorem eqJ_step {a b : List Int} {i : Nat} (ha : i < a.length) (hb : i < b.length) : eqJ (a.drop i) (b.drop i) = (decide (rdI a i = rdI b i) && eqJ (a.drop (i + 1)) (b.drop (i + 1))) := by
 rw [drop_rd ha, drop_rd hb, eqJ]
theorem eqJ_iff (a b : List Int) : eqJ a b = true ↔ a = b := by
 induction a generalizing b with
 | nil => cases b <;> simp [eqJ]
 | cons x a ih => cases b <;> simp [eqJ, ih]
def encTa (t : List (List Int)) : D := .sl false (t.map fun l => [.sl false (l.map encI)])
attribute [simp] encTa
def joinT (p q : PlanT) : PlanT := .mk 4 [p, q] 0 [] false []
@[simp] theorem joinT_op (p q : PlanT) : (joinT p q).op = 4 := rfl
@[simp] theorem joinT_kids (p q : PlanT) : (joinT p q).kids = [p, q] := rfl
@[simp] theorem joinT_slot (p q : PlanT) : (joinT p q).slot = 0 := rfl
@[simp] theorem joinT_edges (p q : PlanT) : (joinT p q).edges = [] := rfl
@[simp] theorem joinT_back (p q : PlanT) : (joinT p q).back = false := rfl
@[simp] theorem joinT_terms (p q : PlanT) : (joinT p q).terms = [] := rfl
theorem okR (c : CoreT) (tb pp : D) (np : Nat) (rows : List (List D)) (l : List Int) (cells : List D) {x : D} : okW [0, 1, 2] [(0, .vals ((encC c).map .d ++ [.d tb, .d pp, .rs 1 6 0 np, .mp 2])), (1, .data 6 rows), (2, mpK l)] [.pt 0 0 0 0, .d (.ag cells)] (.d x) [(0, .vals ((encC c).map .d ++ [.d tb, .d pp, .rs 1 6 0 np, .mp 2])), (1, .data 6 rows), (2, mpK l)] = true := by
 have e : List.range 3 = [0, 1, 2] := rfl
 simp [okW, badId, e, V.menL, V.men, getB]
theorem eqJ_ok (na nb : Bool) (a b : List Int) : Snd P 98 [.d (.sl na (a.map encI)), .d (.sl nb (b.map encI))] (.bool (eqJ a b)) [] := by
 refine Snd.ok 0 rfl (by kernel_rfl) fun hok => ?_
 have hma : a.length ≤ 9223372036854775807 := by simp only [D.ok, List.length_map] at hok; exact hok.1
 clear hok
 obtain ⟨m, hm⟩ : ∃ m, a.length = m := ⟨_, rfl⟩
 obtain ⟨k, hk⟩ : ∃ m, b.length = m := ⟨_, rfl⟩
 rw [hm] at hma
 refine snd_of [] Try.func98 rfl (by kernel_rfl) Try.ntmps98 (by simp) ?_
 unfold Try.f98
 simp only [List.cons_append, List.nil_append, List.length_cons, List.length_nil, Nat.reduceAdd, Nat.reduceSub, List.replicate]
 apply Run.seq
 refine opsF oo11 fun K hK => ?_
 try simp
 repeat' first | (refine evL_c ?_; simp [hm, hk]) | (with_reducible first | apply aI | intro _ | assumption) | omega
 all_goals (apply Fin.go hK; clear hK K)
 simp only [tN]
 apply Run.seq
 apply Run.seq
 refine opsF oo53 fun K hK => ?_
 try simp
 repeat' first | (refine evL_c ?_; simp [hm, hk]) | (with_reducible first | apply aI | intro _ | assumption) | omega
 all_goals (apply Fin.go hK; clear hK K)
 simp only [tN]
 refine Run.cond rfl (fun h10 => ?_) (fun h10 => ?_)
 ·try simp at h10
  apply Run.seq
  refine opsF oo11 fun K hK => ?_
  try simp
  repeat' first | (refine evL_c ?_; simp [hm, hk]) | (with_reducible first | apply aI | intro _ | assumption) | omega
  all_goals (apply Fin.go hK; clear hK K)
  simp only [tN]
  apply Run.ret
  try simp only [Then_ret, Blok_ret]
  first
   | (rw [eqJ_len (by omega)]; simp; done)
   | (rw [hz, eqJ_step (by omega) (by omega), decide_eq_false h24]; simp; done)
   | (rw [hz, show a.drop i = [] from List.drop_of_length_le (by omega), show b.drop i = [] from List.drop_of_length_le (by omega), eqJ]; simp; done)
 ·try simp at h10
  have hkm : k = m := by omega
  subst hkm
  apply Run.skip
  simp only [tN]
  apply Run.seq
  apply Run.seq
  refine opsF [oM 0 11, oN 46 11 12, ⟨.move (.const (.int .i64 0)), some 13, none⟩] fun K hK => ?_
  try simp
  repeat' first | (refine evL_c ?_; simp [hm, hk]) | (with_reducible first | apply aI | intro _ | assumption) | omega
  all_goals (apply Fin.go hK; clear hK K)
  simp only [tN]
  apply Run.block
  refine Run.loopO [4, 5, 13, 14, 15, 16, 17, 18, 19, 20, 21, 22, 23, 24, 25] (fun (i : Nat) => [(13, .int i)]) (fun (i : Nat) => []) (fun (i : Nat) => i ≤ k ∧ eqJ a b = eqJ (a.drop i) (b.drop i)) (fun (i : Nat) => k - i) 0 ⟨by omega, rfl⟩ (by simp) fun i ⟨hi, hz⟩ => ?_
  simp only [over, List.foldl, List.set]
  apply Run.seq
  refine opsF [oB .lss 3 13 12 3 14] fun K hK => ?_
  try simp
  repeat' first | (refine evL_c ?_; simp [hm, hk]) | (with_reducible first | apply aI | intro _ | assumption) | omega
  all_goals (apply Fin.go hK; clear hK K)
  simp only [tN]
  apply Run.seq
  refine Run.cond rfl (fun h14 => ?_) (fun h14 => ?_)
  ·try simp at h14
   have hi1 : i < k := by omega
   apply Run.skip
   simp only [tN]
   apply Run.seq
   apply Run.block
   apply Run.seq
   refine opsF [oM 13 15, oA 15 5] fun K hK => ?_
   try simp
   repeat' first | (refine evL_c ?_; simp [hm, hk, hi1]) | (with_reducible first | apply aI | intro _ | assumption) | omega
   all_goals (apply Fin.go hK; clear hK K)
   simp only [tN]
   apply Run.seq
   refine opsF [oM 0 16, oM 5 17, oI 46 16 17 18, oL 3 18 19, oM 1 20, oM 5 21, oI 46 20 21 22, oL 3 22 23, oB .neq 3 19 23 3 24] fun K hK => ?_
   try simp
   repeat' first | (refine evL_c ?_; simp [hm, hk, hi1]) | (with_reducible first | apply aI | intro _ | assumption) | omega
   all_goals (apply Fin.go hK; clear hK K)
   simp only [tN]
   refine Run.cond rfl (fun h24 => ?_) (fun h24 => ?_)
   ·try simp at h24
    apply Run.seq
    refine opsF oo11 fun K hK => ?_
    try simp
    repeat' first | (refine evL_c ?_; simp [hm, hk, hi1]) | (with_reducible first | apply aI | intro _ | assumption) | omega
    all_goals (apply Fin.go hK; clear hK K)
    simp only [tN]
    apply Run.ret
    try simp only [Then_ret, Blok_ret]
    first
     | (rw [eqJ_len (by omega)]; simp; done)
     | (rw [hz, eqJ_step (by omega) (by omega), decide_eq_false h24]; simp; done)
     | (rw [hz, show a.drop i = [] from List.drop_of_length_le (by omega), show b.drop i = [] from List.drop_of_length_le (by omega), eqJ]; simp; done)
   ·try simp at h24
    apply Run.skip
    simp only [Blok_normal]
    simp only [tN]
    refine opsF [oK .add 3 13 1 3 25, oM 25 13] fun K hK => ?_
    try simp
    repeat' first | (refine evL_c ?_; simp [hm, hk, hi1]) | (with_reducible first | apply aI | intro _ | assumption) | omega
    all_goals (apply Fin.go hK; clear hK K)
    refine ⟨i + 1, ⟨by omega, by rw [hz, eqJ_step (by omega) (by omega), decide_eq_true h24]; rfl⟩, by omega, ?_⟩
    simp (disch := omega) [wrap_id]
  ·try simp at h14
   refine Run.exit ?_
   simp (decide := true) only [Then_exit, Blok_exit, if_true, if_false]
   simp only [tN]
   apply Run.seq
   refine opsF oo54 fun K hK => ?_
   try simp
   repeat' first | (refine evL_c ?_; simp [hm, hk]) | (with_reducible first | apply aI | intro _ | assumption) | omega
   all_goals (apply Fin.go hK; clear hK K)
   simp only [tN]
   apply Run.ret
   try simp only [Then_ret, Blok_ret]
   first
    | (rw [eqJ_len (by omega)]; simp; done)
    | (rw [hz, eqJ_step (by omega) (by omega), decide_eq_false h24]; simp; done)
    | (rw [hz, show a.drop i = [] from List.drop_of_length_le (by omega), show b.drop i = [] from List.drop_of_length_le (by omega), eqJ]; simp; done)
set_option maxHeartbeats 8000000 in
theorem over5_bad (c : CoreT) (p : PlanT) (s : StepR) (i : Int) (pp : D) (tabs : List (List Int)) (ps : List PlanT) (l : List Int) (hop : s.op = 5) (hbad : (s.table < 0 ∨ i ≤ s.table) ∨ s.table ∈ l) : SndW P 81 [.pt 0 0 0 0, .d (.ag (encP p)), .d (.ag (encR s)), .int i] [(0, .vals ((encC c).map .d ++ [.d (encTa tabs), .d pp, .rs 1 6 0 ps.length, .mp 2])), (1, .data 6 (ps.map encP)), (2, mpK l)] (.tup [.d (.ag (encP p)), .bool false]) [(0, .vals ((encC c).map .d ++ [.d (encTa tabs), .d pp, .rs 1 6 0 ps.length, .mp 2])), (1, .data 6 (ps.map encP)), (2, mpK l)] := by
 obtain ⟨np, hnp⟩ : ∃ z, ps.length = z := ⟨_, rfl⟩
 rw [hnp]
 refine sndW_of [0, 1, 2] Try.func81 rfl (by kernel_rfl) Try.ntmps81 (by simp) (by simp) ?_
 unfold Try.f81
 simp only [List.cons_append, List.nil_append, List.length_cons, List.length_nil, Nat.reduceAdd, Nat.reduceSub, List.replicate]
 apply Run.seq
 refine opsF oo43 fun K hK => ?_
 try simp
 repeat' first | (refine evL_c ?_; simp [hop, look_K]) | (with_reducible first | apply aI | intro _ | assumption) | omega
 all_goals (apply Fin.go hK; clear hK K)
 simp only [tN]
 apply Run.seq
 refine opsF oo44 fun K hK => ?_
 try simp
 repeat' first | (refine evL_c ?_; simp [hop, look_K, updV, findK]) | (with_reducible first | apply aI | intro _ | assumption) | omega
 all_goals (apply Fin.go hK; clear hK K)
 simp only [tN]
 apply Run.seq
 refine opsF oo45 fun K hK => ?_
 try simp
 repeat' first | (refine evL_c ?_; simp [hop, look_K, lookV, lookR, findK]) | (with_reducible first | apply aI | intro _ | assumption) | omega
 all_goals (apply Fin.go hK; clear hK K)
 simp only [tN]
 apply Run.seq
 apply Run.seq
 refine opsF oo46 fun K hK => ?_
 try simp
 repeat' first | (refine evL_c ?_; simp [hop, look_K]) | (with_reducible first | apply aI | intro _ | assumption) | omega
 all_goals (apply Fin.go hK; clear hK K)
 simp only [tN]
 apply Run.block
 apply Run.seq
 apply Run.seq
 refine opsF oo47 fun K hK => ?_
 try simp
 repeat' first | (refine evL_c ?_; simp [hop, look_K]) | (with_reducible first | apply aI | intro _ | assumption) | omega
 all_goals (apply Fin.go hK; clear hK K)
 simp only [tN]
 refine Run.cond rfl (fun h23 => ?_) (fun h23 => ?_)
 ·simp at h23
 ·skip
  refine opsF oo49 fun K hK => ?_
  try simp
  repeat' first | (refine evL_c ?_; simp [hop, look_K]) | (with_reducible first | apply aI | intro _ | assumption) | omega
  all_goals (apply Fin.go hK; clear hK K)
  simp only [tN]
  refine Run.cond rfl (fun h23 => ?_) (fun h23 => ?_)
  ·simp at h23
  ·skip
   apply Run.seq
   refine opsF oo50 fun K hK => ?_
   try simp
   repeat' first | (refine evL_c ?_; simp [hop, look_K]) | (with_reducible first | apply aI | intro _ | assumption) | omega
   all_goals (apply Fin.go hK; clear hK K)
   simp only [tN]
   refine Run.cond rfl (fun h32 => ?_) (fun h32 => ?_)
   ·simp at h32
   ·skip
    apply Run.seq
    refine opsF oo51 fun K hK => ?_
    try simp
    repeat' first | (refine evL_c ?_; simp [hop, look_K]) | (with_reducible first | apply aI | intro _ | assumption) | omega
    all_goals (apply Fin.go hK; clear hK K)
    simp only [tN]
    refine Run.cond rfl (fun h40 => ?_) (fun h40 => ?_)
    ·simp at h40
    ·skip
     apply Run.seq
     refine opsF oo52 fun K hK => ?_
     try simp
     repeat' first | (refine evL_c ?_; simp [hop, look_K]) | (with_reducible first | apply aI | intro _ | assumption) | omega
     all_goals (apply Fin.go hK; clear hK K)
     simp only [tN]
     refine Run.cond rfl (fun h45 => ?_) (fun h45 => ?_)
     ·skip
      apply Run.seq
      apply Run.seq
      refine opsF oo55 fun K hK => ?_
      try simp
      repeat' first | ((first | refine evL_c ?_ | (refine evL_g rfl ?_; try simp only [gs_tt, gs_ff, gs_tf, gs_ft]) | refine evL_u rfl ?_ | (with_reducible refine gsplit (fun hg => ?_) (fun hg => ?_) <;> try simp at hg)) <;> try simp [hop, look_K]) | (with_reducible first | apply aI | intro _ | assumption) | omega
      all_goals (apply Fin.go hK; clear hK K)
      all_goals
       simp only [tN]
       refine Run.cond rfl (fun h64 => ?_) (fun h64 => ?_)
       ·skip
        apply Run.seq
        refine opsF [oL 48 5 65, oS 48 8 65, ⟨.assign (.const (.bool false)), some 9, none⟩] fun K hK => ?_
        try simp
        repeat' first | (refine evL_c ?_; simp [hop, look_K]) | (with_reducible first | apply aI | intro _ | assumption) | omega
        all_goals (apply Fin.go hK; clear hK K)
        simp only [tN]
        apply Run.ret
        try simp only [Then_ret, Blok_ret]
        simp
       ·exfalso
        (simp at h64) <;> grind
     ·simp at h45
set_option maxHeartbeats 8000000 in
theorem over5_ok (c : CoreT) (p : PlanT) (s : StepR) (i : Int) (pp : D) (tabs : List (List Int)) (ps : List PlanT) (l : List Int) (hop : s.op = 5) (h0 : 0 ≤ s.table) (h1 : s.table < i) (hip : i ≤ ps.length) (hil : i ≤ tabs.length) (hps : ps.length ≤ 1100000) (hna : s.table ∉ l) (hw : c.nodes.length + c.edges.length ≤ 16) (b0 b1 : List Bool) (hB0 : Snd P 24 [.d (.ag (encP p)), .d (.ag (encC c))] (.tup [.d (.sl false (b0.map encB)), .int 0]) []) (hb0 : b0.length = c.nodes.length + c.edges.length) (hB1 : Snd P 24 [.d (.ag (encP (rdI ps s.table))), .d (.ag (encC c))] (.tup [.d (.sl false (b1.map encB)), .int 0]) []) (hb1 : b1.length = c.nodes.length + c.edges.length) : SndW P 81 [.pt 0 0 0 0, .d (.ag (encP p)), .d (.ag (encR s)), .int i] [(0, .vals ((encC c).map .d ++ [.d (encTa tabs), .d pp, .rs 1 6 0 ps.length, .mp 2])), (1, .data 6 (ps.map encP)), (2, mpK l)] (.tup [.d (.ag (encP (if eqJ (keyN b0 b1 (c.nodes.length + c.edges.length)) (rdI tabs s.table) then joinT p (rdI ps s.table) else p))), .bool (eqJ (keyN b0 b1 (c.nodes.length + c.edges.length)) (rdI tabs s.table))]) [(0, .vals ((encC c).map .d ++ [.d (encTa tabs), .d pp, .rs 1 6 0 ps.length, .mp 2])), (1, .data 6 (ps.map encP)), (2, mpK (l ++ [s.table]))] := by
 obtain ⟨np, hnp⟩ : ∃ z, ps.length = z := ⟨_, rfl⟩
 rw [hnp] at hip
 rw [hnp]
 have hj2 : s.table.toNat < np := by omega
 have hj4 : rowN (ps.map encP) s.table.toNat = encP (rdI ps s.table) := by simp [rowN, rdI, List.getD_eq_getElem?_getD, hnp, hj2]
 have hj5 : Fw.rowAt (tabs.map fun l => [D.sl false (l.map encI)]) s.table = [.sl false ((rdI tabs s.table).map encI)] := by simp [Fw.rowAt, rowN, rdI, List.getD_eq_getElem?_getD, show s.table.toNat < tabs.length by omega]
 obtain ⟨nt, hnt⟩ : ∃ z, tabs.length = z := ⟨_, rfl⟩
 rw [hnt] at hil
 have hj6 : s.table.toNat < nt := by omega
 obtain ⟨q, hq⟩ : ∃ z, rdI ps s.table = z := ⟨_, rfl⟩
 obtain ⟨kk, hkk⟩ : ∃ z, keyN b0 b1 (c.nodes.length + c.edges.length) = z := ⟨_, rfl⟩
 obtain ⟨tt, htt⟩ : ∃ z, rdI tabs s.table = z := ⟨_, rfl⟩
 rw [hq] at hB1
 have hKy := keys_ok c (joinT p q) (.d (encTa tabs)) (.d pp) ⟨_, rfl⟩ ⟨_, rfl⟩ np ps (l ++ [s.table]) b0 b1 rfl hw hB0 hb0 hB1 hb1
 have hE := eqJ_ok false false kk tt
 rw [hkk] at hKy
 rw [hq, hkk, htt]
 rw [hq] at hj4
 rw [htt] at hj5
 rw [encP_cells] at hKy
 simp only [joinT_op, joinT_kids, joinT_slot, joinT_edges, joinT_back, joinT_terms, List.map_cons, List.map_nil, encP_cells] at hKy
 obtain ⟨r, hr⟩ : ∃ z, eqJ kk tt = z := ⟨_, rfl⟩
 rw [hr] at hE
 rw [hr]
 have hl1 : s.table ≤ 9223372036854775807 := by omega
 refine sndW_of [0, 1, 2] Try.func81 rfl (by kernel_rfl) Try.ntmps81 (by simp) (by simp) ?_
 unfold Try.f81
 simp only [List.cons_append, List.nil_append, List.length_cons, List.length_nil, Nat.reduceAdd, Nat.reduceSub, List.replicate]
 apply Run.seq
 refine opsF oo43 fun K hK => ?_
 try simp
 repeat' first | (refine evL_c ?_; simp [hop, look_K, upd_K, trAdd, hna, hnp, hnt, hj4, hj5, hj2, hj6]) | (with_reducible first | apply aI | intro _ | assumption) | omega
 all_goals (apply Fin.go hK; clear hK K)
 simp only [tN]
 apply Run.seq
 refine opsF oo44 fun K hK => ?_
 try simp
 repeat' first | (refine evL_c ?_; simp [hop, look_K, upd_K, trAdd, hna, hnp, hnt, hj4, hj5, hj2, hj6, updV, findK]) | (with_reducible first | apply aI | intro _ | assumption) | omega
 all_goals (apply Fin.go hK; clear hK K)
 simp only [tN]
 apply Run.seq
 refine opsF oo45 fun K hK => ?_
 try simp
 repeat' first | (refine evL_c ?_; simp [hop, look_K, upd_K, trAdd, hna, hnp, hnt, hj4, hj5, hj2, hj6, lookV, lookR, findK]) | (with_reducible first | apply aI | intro _ | assumption) | omega
 all_goals (apply Fin.go hK; clear hK K)
 simp only [tN]
 apply Run.seq
 apply Run.seq
 refine opsF oo46 fun K hK => ?_
 try simp
 repeat' first | (refine evL_c ?_; simp [hop, look_K, upd_K, trAdd, hna, hnp, hnt, hj4, hj5, hj2, hj6]) | (with_reducible first | apply aI | intro _ | assumption) | omega
 all_goals (apply Fin.go hK; clear hK K)
 simp only [tN]
 apply Run.block
 apply Run.seq
 apply Run.seq
 refine opsF oo47 fun K hK => ?_
 try simp
 repeat' first | (refine evL_c ?_; simp [hop, look_K, upd_K, trAdd, hna, hnp, hnt, hj4, hj5, hj2, hj6]) | (with_reducible first | apply aI | intro _ | assumption) | omega
 all_goals (apply Fin.go hK; clear hK K)
 simp only [tN]
 refine Run.cond rfl (fun h23 => ?_) (fun h23 => ?_)
 ·simp at h23
 ·skip
  refine opsF oo49 fun K hK => ?_
  try simp
  repeat' first | (refine evL_c ?_; simp [hop, look_K, upd_K, trAdd, hna, hnp, hnt, hj4, hj5, hj2, hj6]) | (with_reducible first | apply aI | intro _ | assumption) | omega
  all_goals (apply Fin.go hK; clear hK K)
  simp only [tN]
  refine Run.cond rfl (fun h23 => ?_) (fun h23 => ?_)
  ·simp at h23
  ·skip
   apply Run.seq
   refine opsF oo50 fun K hK => ?_
   try simp
   repeat' first | (refine evL_c ?_; simp [hop, look_K, upd_K, trAdd, hna, hnp, hnt, hj4, hj5, hj2, hj6]) | (with_reducible first | apply aI | intro _ | assumption) | omega
   all_goals (apply Fin.go hK; clear hK K)
   simp only [tN]
   refine Run.cond rfl (fun h32 => ?_) (fun h32 => ?_)
   ·simp at h32
   ·skip
    apply Run.seq
    refine opsF oo51 fun K hK => ?_
    try simp
    repeat' first | (refine evL_c ?_; simp [hop, look_K, upd_K, trAdd, hna, hnp, hnt, hj4, hj5, hj2, hj6]) | (with_reducible first | apply aI | intro _ | assumption) | omega
    all_goals (apply Fin.go hK; clear hK K)
    simp only [tN]
    refine Run.cond rfl (fun h40 => ?_) (fun h40 => ?_)
    ·simp at h40
    ·skip
     apply Run.seq
     refine opsF oo52 fun K hK => ?_
     try simp
     repeat' first | (refine evL_c ?_; simp [hop, look_K, upd_K, trAdd, hna, hnp, hnt, hj4, hj5, hj2, hj6]) | (with_reducible first | apply aI | intro _ | assumption) | omega
     all_goals (apply Fin.go hK; clear hK K)
     simp only [tN]
     refine Run.cond rfl (fun h45 => ?_) (fun h45 => ?_)
     ·skip
      apply Run.seq
      apply Run.seq
      refine opsF oo55 fun K hK => ?_
      try simp
      repeat' first | ((first | refine evL_c ?_ | (refine evL_g rfl ?_; try simp only [gs_tt, gs_ff, gs_tf, gs_ft]) | refine evL_u rfl ?_ | (with_reducible refine gsplit (fun hg => ?_) (fun hg => ?_) <;> try simp at hg)) <;> try simp [hop, look_K, upd_K, trAdd, hna, hnp, hnt, hj4, hj5, hj2, hj6]) | (with_reducible first | apply aI | intro _ | assumption) | omega
      all_goals (apply Fin.go hK; clear hK K)
      all_goals
       simp only [tN]
       refine Run.cond rfl (fun h64 => ?_) (fun h64 => ?_)
       ·exfalso
        (simp at h64) <;> grind
       ·skip
        apply Run.skip
        simp only [tN]
        apply Run.seq
        refine opsF [oM 0 66, oV 66 67, oF 120 67 3 68, oL 118 68 69, oF 75 6 5 70, oL 3 70 71, ⟨.mapUpdate 118 (.tmp 69) (.tmp 71) (.const (.bool true)), none, none⟩] fun K hK => ?_
        try simp
        repeat' first | (refine evL_c ?_; simp [hop, look_K, upd_K, trAdd, hna, hnp, hnt, hj4, hj5, hj2, hj6]) | (with_reducible first | apply aI | intro _ | assumption) | omega
        all_goals (apply Fin.go hK; clear hK K)
        simp only [tN]
        apply Run.seq
        refine opsF [oF 48 11 1 72, oL 45 72 73, oM 0 74, oV 74 75, oF 120 75 2 76, oL 45 76 77, oF 75 6 5 78, oL 3 78 79, oI 45 77 79 80, oL 48 80 81, ⟨.buildSlice 45 1 #[(0, .tmp 81)], some 82, none⟩, ⟨.call { callee := .builtin .append, args := #[.tmp 73, .tmp 82], argTypes := #[45, 45] }, some 83, none⟩, oF 48 11 1 84, oS 45 84 83] fun K hK => ?_
        try simp
        repeat' first | (refine evL_c ?_; simp [hop, look_K, upd_K, trAdd, hna, hnp, hnt, hj4, hj5, hj2, hj6]) | (with_reducible first | apply aI | intro _ | assumption) | omega
        all_goals (apply Fin.go hK; clear hK K)
        simp only [tN]
        refine Run.fra 8400 ?_
        simp [V.fra, V.fraL, fraS, frz]
        refine Run.subB 1200 3 (.d (.sl false [])) rfl rfl nil_sl ?_
        simp
        refine Run.subB 1200 5 (.d (.sl false [])) rfl rfl nil_sl ?_
        simp
        apply Run.seq
        refine Run.opsR [98] [99] [oM 0 85, oL 48 11 86, oC 99 #[.tmp 85, .tmp 86] #[117, 48] 87, oM 0 88, oV 88 89, oF 120 89 1 90, oF 25 90 0 91, oL 22 91 92, oF 75 6 5 93, oL 3 93 94, oI 22 92 94 95, oL 46 95 96, oC 98 #[.tmp 87, .tmp 96] #[46, 46] 97, ⟨.unOp .not 4 (.tmp 97), some 98, none⟩] mixed (by decide) (by decide) (by decide) rfl fun K hK => ?_
        try simp
        repeat' first | (refine ero [0, 1, 2] (by exact hKy) (by simp) (by simp) (okR _ _ _ _ _ _ _) ?_) | (refine ecallD (by exact hE) ?_) | ((refine evN_r rfl rfl ?_); simp [hop, look_K, upd_K, trAdd, hna, hnp, hnt, hj4, hj5, hj2, hj6]) | ((refine evN_c rfl ?_); simp [hop, look_K, upd_K, trAdd, hna, hnp, hnt, hj4, hj5, hj2, hj6]) | (refine evL_c ?_; simp [hop, look_K, upd_K, trAdd, hna, hnp, hnt, hj4, hj5, hj2, hj6]) | (with_reducible first | apply aI | intro _ | assumption) | omega
        all_goals (refine FinN.go hK ?_; clear hK K)
        simp only [tN]
        refine Run.cond rfl (fun h98 => ?_) (fun h98 => ?_)
        ·try simp at h98
         apply Run.seq
         refine opsF [oL 48 5 99, oS 48 8 99, ⟨.assign (.const (.bool false)), some 9, none⟩] fun K hK => ?_
         try simp
         repeat' first | (refine evL_c ?_; simp [hop, look_K, upd_K, trAdd, hna, hnp, hnt, hj4, hj5, hj2, hj6, h98]) | (with_reducible first | apply aI | intro _ | assumption) | omega
         all_goals (apply Fin.go hK; clear hK K)
         simp only [tN]
         apply Run.ret
         try simp only [Then_ret, Blok_ret]
         first
          | (simp [h98, trAdd, hna]; done)
        ·try simp at h98
         apply Run.skip
         simp only [Blok_normal]
         simp only [tN]
         apply Run.seq
         refine opsF oo48 fun K hK => ?_
         try simp
         repeat' first | (refine evL_c ?_; simp [hop, look_K, upd_K, trAdd, hna, hnp, hnt, hj4, hj5, hj2, hj6, h98]) | (with_reducible first | apply aI | intro _ | assumption) | omega
         all_goals (apply Fin.go hK; clear hK K)
         simp only [tN]
         apply Run.ret
         try simp only [Then_ret, Blok_ret]
         first
          | (simp [h98, trAdd, hna]; done)
     ·simp at h45
end Go.Proofs.Ytimgbdkgjfbhkaa.Z
end
section
namespace Go.Fw
variable {P : Program}
variable {E : St} {Q : Exit → St → Prop}
theorem evI_steps {im : Op → Bool} {all : List Oper} {K : Env → Store → Prop} : ∀ {R : List Nat} {los : List LOp} {e : Env} {s : Store}, R.map (fun i => (all[i]?).map fun o => (⟨o.op, o.dst, none⟩ : LOp)) = los.map some → (all.all fun o => o.guard.isNone) = true → EvL P im K los e s → ∃ E', Steps P im all R ⟨e, s⟩ E' ∧ K E'.e E'.s := by
 intro R
 induction R with
 | nil =>
   intro los e s hl _ h
   cases los with
   | nil => exact ⟨⟨e, s⟩, rfl, h⟩
   | cons x r => cases hl
 | cons i R ih =>
   intro los e s hl hg h
   cases los with
   | nil => cases hl
   | cons x r =>
     simp only [List.map_cons, List.cons.injEq] at hl
     obtain ⟨h1, h2⟩ := hl
     obtain ⟨o, ho, rfl⟩ := Option.map_eq_some_iff.1 h1
     obtain ⟨E1, g1, g2⟩ := exec_do (o := mkO o.op o.dst) h
     obtain ⟨E', g3, g4⟩ := ih h2 hg g2
     have hgo : o.guard = none := by
      have := List.all_eq_true.1 hg o (List.mem_of_getElem? ho)
      simpa using this
     refine ⟨E', ⟨o, ho, E1, ?_, g3⟩, g4⟩
     unfold Stp
     rw [show guardOf all e o.guard = some none by rw [hgo]; rfl]
     exact g1
theorem evL_two {im : Op → Bool} {A B : Env → Store → Prop} {e : Env} {s : Store} (h1 : A e s) (h2 : B e s) : EvL P im (fun e s => A e s ∧ B e s) [] e s := ⟨h1, h2⟩
theorem Run.coin {id : Nat} {ops : Array Oper} (l0 l1 l2 : List LOp) (hm : P.follows .mixedOrders = true) (ha : alone ops.toList = true) (hg : (ops.toList.all fun o => o.guard.isNone) = true) (hn : ops.size = 4)
  (r0 : Region.ready .any ops #[false, false, false, false] = [0]) (r1 : Region.ready .any ops #[true, false, false, false] = [1, 2]) (r2 : Region.ready .any ops #[true, true, false, false] = [2]) (r3 : Region.ready .any ops #[true, false, true, false] = [1]) (r4 : Region.ready .any ops #[true, true, true, false] = [3]) (r5 : Region.ready .any ops #[true, true, true, true] = [])
  (hl0 : [0].map (fun i => (ops.toList[i]?).map fun o => (⟨o.op, o.dst, none⟩ : LOp)) = l0.map some) (hl1 : [1, 2, 3].map (fun i => (ops.toList[i]?).map fun o => (⟨o.op, o.dst, none⟩ : LOp)) = l1.map some) (hl2 : [2, 1, 3].map (fun i => (ops.toList[i]?).map fun o => (⟨o.op, o.dst, none⟩ : LOp)) = l2.map some) {e : Env} {s : Store}
  (h : ∀ K : Env → Store → Prop, Fin Q K → EvL P (fun _ => false) (fun e s => EvL P (fun _ => false) K l1 e s ∧ EvL P (fun _ => false) K l2 e s) l0 (enterE ops.toList e) (enterS ops.toList s)) : Run P (.region id ops true) ⟨e, s⟩ Q := fun w0 L0 X m a w hr => by
 obtain ⟨F1, ⟨o0, i0, F1', t1, hF⟩, hh1, hh2⟩ := evI_steps (P := P) (im := fun _ => false) hl0 hg (h (fun e s => Q .normal ⟨e, s⟩) fun _ _ h => h)
 cases hF
 obtain ⟨F4, ⟨o1, i1, F2, t2, o2, i2, F3, t3, o3, i3, F4', t4, hF4⟩, q1⟩ := evI_steps (P := P) (im := fun _ => false) hl1 hg hh1
 cases hF4
 obtain ⟨G4, ⟨p2, j2, G2, u2, p1, j1, G3, u3, p3, j3, G4', u4, hG4⟩, q2⟩ := evI_steps (P := P) (im := fun _ => false) hl2 hg hh2
 cases hG4
 have henter : Rel w0 L0 X m (enterE ops.toList e) (enterS ops.toList s) a w ∧ FreshAll ops.toList (List.range ops.toList.length) ⟨enterE ops.toList e, enterS ops.toList s⟩ := by
  unfold enterE enterS
  by_cases h : (ks ops.toList).isEmpty = true
  ·simp only [h, if_true]
   refine ⟨hr, fun i _ o ho hm => ?_⟩
   have := ks_nil h o (List.mem_of_getElem? ho)
   rw [this] at hm; cases hm
  ·simp only [h, if_false]
   exact ⟨hr.fgt _, fresh_enter⟩
 obtain ⟨g1, g2⟩ := henter
 have hlen : ops.toList.length = 4 := by simpa using hn
 rw [hlen] at g2
 refine wp_region_any hm ?_
 have g3 : Rel w0 L0 X m (enterE ops.toList e) (enterS ops.toList s) a { w with drawn := w.drawn + 1 } := by
  have hk : CellsKept (Live X m (enterS ops.toList s)) w { w with drawn := w.drawn + 1 } := fun _ _ _ q => q
  have hz : SizesKept w { w with drawn := w.drawn + 1 } := fun _ cs _ _ q => ⟨cs, q, rfl⟩
  refine ⟨⟨g1.env.len, fun j x v q1 q2 => VRel.mono' hk hz (fun b hb => .inl hb) (g1.env.at_ j x v q1 q2)⟩, ⟨fun i blk hi => ?_, g1.sto.inj⟩, g1.dfr, ⟨g1.ext.os, g1.ext.tape, g1.ext.output, g1.ext.size, g1.ext.block, g1.ext.sizes⟩, g1.liv, g1.old, g1.par⟩
  rcases g1.sto.blk i blk hi with ⟨b, r1, r2⟩ | r
  ·exact .inl ⟨b, r1, BRel.mono (p := fun _ => false) hk hz (fun b hb => .inl hb) (fun _ _ => rfl) rfl (by cases blk <;> first | exact menL_false _ | trivial) r2⟩
  ·exact .inr r
 have rop : ops = ops.toList.toArray := by simp
 have nn : ∀ {listed : Array Bool} {i : Nat} {r : List Nat} {f : Nat} {a : Act} {w : World} {Q' : Exit → Act → World → Prop}, Region.ready .any ops listed = i :: r → (∀ k ∈ i :: r, wpOp P ops Q' k (wpAny P .any ops Q' f (listed.setIfInBounds k true)) a w) → wpAny P .any ops Q' (f + 1) listed a w := fun {listed i r f a w Q'} hr h => by
  refine ⟨fun e => ?_, fun k hk => ?_⟩
  ·rw [hr] at e; cases e
  ·rw [hr] at hk; exact h k hk
 have op : ∀ {i : Nat} {o : Oper} {E E1 : St} {R : List Nat}, ops.toList[i]? = some o → i ∈ R → FreshAll ops.toList R E → Stp P (fun _ => false) ops.toList o E E1 → ∀ {m : Nat → Option Nat} {a : Act} {w : World}, Rel w0 L0 X m E.e E.s a w → ∀ {K : Act → World → Prop} {Q' : Exit → Act → World → Prop}, (∀ m' a' w', Rel w0 L0 X m' E1.e E1.s a' w' → FreshAll ops.toList (R.erase i) E1 → K a' w') → R.Nodup → wpOp P ops Q' i K a w := fun {i o E E1 R} h1 h2 h3 h4 {m a w} h5 {K Q'} h6 hnd => by
  have hf : FreshAll ops.toList (R.erase i) E1 := freshAll_step ha h1 (List.Nodup.not_mem_erase hnd) (fun k hk => h3 k (List.mem_of_mem_erase hk)) h4
  have := stp_op (P := P) (Q := Q') h1 h5 (h3 i h2 o h1) h4 (K := K) fun m' a' w' hr' => h6 m' a' w' hr' hf
  rwa [← rop] at this
 have g2' : FreshAll ops.toList [0, 1, 2, 3] ⟨enterE ops.toList e, enterS ops.toList s⟩ := g2
 rw [hn]
 refine nn r0 fun k hk => ?_
 simp only [List.mem_singleton] at hk; subst hk
 refine op i0 (by simp) g2' t1 g3 (fun m1 a1 w1 k1 f1 => ?_) (by decide)
 refine nn r1 fun k hk => ?_
 simp only [List.mem_cons, List.not_mem_nil, or_false] at hk
 rcases hk with rfl | rfl
 ·refine op i1 (by decide) f1 t2 k1 (fun m2 a2 w2 k2 f2 => ?_) (by decide)
  refine nn r2 fun k hk => ?_
  simp only [List.mem_singleton] at hk; subst hk
  refine op i2 (by decide) f2 t3 k2 (fun m3 a3 w3 k3 f3 => ?_) (by decide)
  refine nn r4 fun k hk => ?_
  simp only [List.mem_singleton] at hk; subst hk
  refine op i3 (by decide) f3 t4 k3 (fun m4 a4 w4 k4 f4 => ?_) (by decide)
  exact ⟨r5, F4, m4, q1, k4⟩
 ·refine op j2 (by decide) f1 u2 k1 (fun m2 a2 w2 k2 f2 => ?_) (by decide)
  refine nn r3 fun k hk => ?_
  simp only [List.mem_singleton] at hk; subst hk
  refine op j1 (by decide) f2 u3 k2 (fun m3 a3 w3 k3 f3 => ?_) (by decide)
  refine nn r4 fun k hk => ?_
  simp only [List.mem_singleton] at hk; subst hk
  refine op j3 (by decide) f3 u4 k3 (fun m4 a4 w4 k4 f4 => ?_) (by decide)
  exact ⟨r5, G4, m4, q2, k4⟩
end Go.Fw
end
section
namespace Go.Proofs.Ytimgbdkgjfbhkaa.Z
open Go Go.Fw
attribute [-simp] lookV updV Blk.fgt Blk.ren Blk.men Blk.fin lost
structure PipeR where
 scan : Int
 steps : List StepR
 sink : Int
instance : Inhabited PipeR := ⟨⟨0, [], 0⟩⟩
def encPi (x : PipeR) : List D := [.int x.scan, .sl false (x.steps.map encR), .int x.sink]
structure ProgR where
 tabs : List (List Int)
 pipes : List PipeR
def encPr (r : ProgR) : List D := [encTa r.tabs, .sl false (r.pipes.map encPi)]
attribute [simp] encPi encPr
def overP (p : PlanT) (s : StepR) : PlanT :=
 if s.op = 1 then stepPl 2 p 0 s.edges s.back []
 else if s.op = 2 then stepPl 3 p 0 s.edges s.back []
 else if s.op = 3 then stepPl 5 p s.slot s.edges false []
 else if s.op = 4 then stepPl 6 p 0 [] false s.terms
 else stepPl 0 p 0 [] false []
def keysT (c : CoreT) (p q : PlanT) : List Int := keyN ((bndT c p).getD []) ((bndT c q).getD []) (c.nodes.length + c.edges.length)
def stepS (c : CoreT) (tabs : List (List Int)) (ps : List PlanT) (i : Int) (l : List Int) (p : PlanT) (s : StepR) : Option PlanT × List Int :=
 if s.op = 5 then
  if (s.table < 0 ∨ i ≤ s.table) ∨ s.table ∈ l then (none, l)
  else (if eqJ (keysT c p (rdI ps s.table)) (rdI tabs s.table) then some (joinT p (rdI ps s.table)) else none, l ++ [s.table])
 else (some (overP p s), l)
def stepsS (c : CoreT) (tabs : List (List Int)) (ps : List PlanT) (i : Int) : List Int → PlanT → List StepR → Option PlanT × List Int
 | l, p, [] => (some p, l)
 | l, p, s :: r => match stepS c tabs ps i l p s with
   | (none, l') => (none, l')
   | (some q, l') => if (bndT c q).isSome then stepsS c tabs ps i l' q r else (none, l')
def scanT (n : Int) : PlanT := .mk 1 [] n [] false []
@[simp] theorem scanT_op (n : Int) : (scanT n).op = 1 := rfl
@[simp] theorem scanT_kids (n : Int) : (scanT n).kids = [] := rfl
@[simp] theorem scanT_slot (n : Int) : (scanT n).slot = n := rfl
@[simp] theorem scanT_edges (n : Int) : (scanT n).edges = [] := rfl
@[simp] theorem scanT_back (n : Int) : (scanT n).back = false := rfl
@[simp] theorem scanT_terms (n : Int) : (scanT n).terms = [] := rfl
def sinkS (tabs : List (List Int)) (i : Nat) : Int := if i = tabs.length then -1 else i
def pipeS (c : CoreT) (tabs : List (List Int)) (ps : List PlanT) (l : List Int) (x : PipeR) : Option PlanT × List Int :=
 if x.sink ≠ sinkS tabs ps.length ∨ ¬ (bndT c (scanT x.scan)).isSome = true then (none, l) else stepsS c tabs ps ps.length l (scanT x.scan) x.steps
def pipesS (c : CoreT) (tabs : List (List Int)) : List PlanT → List Int → List PipeR → List PlanT × List Int × Bool
 | ps, l, [] => (ps, l, true)
 | ps, l, x :: r => match pipeS c tabs ps l x with
   | (none, l') => (ps, l', false)
   | (some q, l') => pipesS c tabs (ps ++ [q]) l' r
def wS (s : StepR) : Nat := 1 + s.terms.length + s.edges.length + cntL s.terms
def wL : List StepR → Nat
 | [] => 0
 | s :: r => wS s + wL r
def wP : List PipeR → Nat
 | [] => 0
 | x :: r => 1 + wL x.steps + wP r
def tot : Nat → List PlanT → List Int → Nat
 | _, [], _ => 0
 | j, p :: r, l => (if (j : Int) ∈ l then 0 else partsP p) + tot (j + 1) r l
theorem tot_app (l : List Int) (q : PlanT) : ∀ (ps : List PlanT) (j : Nat), tot j (ps ++ [q]) l ≤ tot j ps l + partsP q := by
 intro ps
 induction ps with
 | nil => intro j; simp only [List.nil_append, tot]; split <;> omega
 | cons p r ih => intro j; simp only [List.cons_append, tot]; have := ih (j + 1); omega
theorem tot_none {l : List Int} {t : Int} : ∀ (ps : List PlanT) (j : Nat), t < j → tot j ps (l ++ [t]) = tot j ps l := by
 intro ps
 induction ps with
 | nil => intro j _; rfl
 | cons p r ih =>
   intro j h
   simp only [tot]
   rw [ih (j + 1) (by omega)]
   have : ((j : Int) ∈ l ++ [t]) ↔ (j : Int) ∈ l := by simp; omega
   simp only [this]
theorem tot_ask {l : List Int} {t : Int} (ht : t ∉ l) : ∀ (ps : List PlanT) (j : Nat), (j : Int) ≤ t → t < j + ps.length → tot j ps (l ++ [t]) + partsP (rdI ps (t - j)) = tot j ps l := by
 intro ps
 induction ps with
 | nil => intro j h1 h2; simp at h2; omega
 | cons p r ih =>
   intro j h1 h2
   simp only [tot]
   by_cases e : (j : Int) = t
   ·subst e
    rw [tot_none r (j + 1) (by omega)]
    simp only [List.mem_append, List.mem_singleton, or_true, if_true, if_neg ht]
    simp [rdI]; omega
   ·have h3 := ih (j + 1) (by omega) (by simp at h2; omega)
    have h4 : rdI (p :: r) (t - j) = rdI r (t - (j + 1 : Nat)) := by
     have : (t - j).toNat = (t - (j + 1 : Nat)).toNat + 1 := by omega
     simp [rdI, this]
    have h5 : ((j : Int) ∈ l ++ [t]) ↔ (j : Int) ∈ l := by simp; omega
    rw [h4]
    simp only [h5]
    omega
theorem overP_parts (p : PlanT) (s : StepR) : partsP (overP p s) ≤ partsP p + wS s := by
 unfold overP wS
 split
 ·simp only [stepPl, partsP, partsL, cntL, List.length_nil]; omega
 split
 ·simp only [stepPl, partsP, partsL, cntL, List.length_nil]; omega
 split
 ·simp only [stepPl, partsP, partsL, cntL, List.length_nil]; omega
 split
 ·simp only [stepPl, partsP, partsL, cntL, List.length_nil]; omega
 ·simp only [stepPl, partsP, partsL, cntL, List.length_nil]; omega
theorem joinT_parts (p q : PlanT) : partsP (joinT p q) = 1 + partsP p + partsP q := by
 simp [joinT, partsP, partsL, cntL]; omega
theorem stepS_parts {c : CoreT} {tabs : List (List Int)} {ps : List PlanT} {l l' : List Int} {p q : PlanT} {s : StepR} {i : Int} (hi : i ≤ ps.length) (h : stepS c tabs ps i l p s = (some q, l')) : partsP q + tot 0 ps l' ≤ partsP p + tot 0 ps l + wS s := by
 unfold stepS at h
 split at h
 ·split at h
  ·cases h
  ·rename_i hb
   split at h
   ·cases h
    have h1 : s.table ∉ l := fun e => hb (.inr e)
    have := tot_ask (l := l) h1 ps 0 (by simp; omega) (by omega)
    rw [joinT_parts]
    simp at this
    unfold wS
    omega
   ·cases h
 ·cases h
  have := overP_parts p s
  omega
theorem keep_plan (p : PlanT) : partsP p ≥ 1 := by rw [partsP_eq]; omega
theorem tot_mem {l : List Int} {t : Int} (ht : t ∉ l) {ps : List PlanT} (h0 : 0 ≤ t) (h1 : t < ps.length) : partsP (rdI ps t) ≤ tot 0 ps l := by
 have := tot_ask (l := l) ht ps 0 (by simpa using h0) (by omega)
 simp at this
 omega
def sT (c : CoreT) (tabs : List (List Int)) (pp : D) (ps : List PlanT) (l : List Int) : Store := [(0, .vals ((encC c).map .d ++ [.d (encTa tabs), .d pp, .rs 1 6 0 ps.length, .mp 2])), (1, .data 6 (ps.map encP)), (2, mpK l)]
def overQ (p : PlanT) (x : Option PlanT × List Int) : PlanT := x.1.getD p
theorem over_ok (c : CoreT) (hP : patS c.nodes c.edges = true) (tabs : List (List Int)) (pp : D) (ps : List PlanT) (l : List Int) (p : PlanT) (s : StepR) (i : Int) (hip : i ≤ ps.length) (hil : i ≤ tabs.length) (hps : ps.length ≤ 1100000)
  (hp : (bndT c p).isSome = true) (hw : partsP p + tot 0 ps l ≤ 1100000) (hq : ∀ q ∈ ps, (bndT c q).isSome = true) : SndW P 81 [.pt 0 0 0 0, .d (.ag (encP p)), .d (.ag (encR s)), .int i] (sT c tabs pp ps l) (.tup [.d (.ag (encP (overQ p (stepS c tabs ps i l p s)))), .bool (stepS c tabs ps i l p s).1.isSome]) (sT c tabs pp ps (stepS c tabs ps i l p s).2) := by
 unfold stepS sT
 have hr := pat_rng hP
 split
 ·rename_i h5
  split
  ·rename_i hb; exact over5_bad c p s i pp tabs ps l h5 hb
  ·rename_i hb
   have h0 : 0 ≤ s.table := by omega
   have h1 : s.table < i := by omega
   have hna : s.table ∉ l := fun e => hb (.inr e)
   obtain ⟨b0, e0⟩ := Option.isSome_iff_exists.1 hp
   obtain ⟨b1, e1⟩ := Option.isSome_iff_exists.1 (hq (rdI ps s.table) (rdI_mem h0 (by omega)))
   have hm := tot_mem hna h0 (show s.table < ps.length by omega)
   have := over5_ok c p s i pp tabs ps l h5 h0 h1 hip hil hps hna (by omega) b0 b1 (bound_some hP (by omega) e0) (bndT_len c _ _ e0) (bound_some hP (by omega) e1) (bndT_len c _ _ e1)
   unfold keysT
   rw [e0, e1]
   simp only [Option.getD_some, overQ]
   rcases Bool.eq_false_or_eq_true (eqJ (keyN b0 b1 (c.nodes.length + c.edges.length)) (rdI tabs s.table)) with hr | hr
   ·simp only [hr, if_true, Option.getD_some, Option.isSome_some] at this ⊢; exact this
   ·simp only [hr, if_false, Bool.false_eq_true, Option.getD_none, Option.isSome_none] at this ⊢; exact this
 ·rename_i h5
  simp only [overQ, Option.getD_some, Option.isSome_some]
  unfold overP
  split
  ·rename_i h; exact over1_ok c p s i (encTa tabs) pp ps.length ps l h
  split
  ·rename_i h; exact over2_ok c p s i (encTa tabs) pp ps.length ps l h
  split
  ·rename_i h; exact over3_ok c p s i (encTa tabs) pp ps.length ps l h
  split
  ·rename_i h; exact over4_ok c p s i (encTa tabs) pp ps.length ps l h
  ·rename_i h1 h2 h3 h4; exact over0_ok c p s i (encTa tabs) pp ps.length ps l h1 h2 h3 h4 h5
theorem look1_ok (c : CoreT) (p : PlanT) (tb pp : D) (np : Nat) (rows : List (List D)) (l : List Int) (hP : patS c.nodes c.edges = true) (hw : partsP p ≤ 1100000) : SndW P 80 [.d (.ag (encP p)), .pt 3 0 0 0] [(0, .vals ((encC c).map .d ++ [.d tb, .d pp, .rs 1 6 0 np, .mp 2])), (1, .data 6 rows), (2, mpK l), (3, .vals [.pt 0 0 0 0])] (.bool (bndT c p).isSome) [(0, .vals ((encC c).map .d ++ [.d tb, .d pp, .rs 1 6 0 np, .mp 2])), (1, .data 6 rows), (2, mpK l), (3, .vals [.pt 0 0 0 0])] := by
 obtain ⟨d, e, hB, he⟩ : ∃ (d : D) (e : Int), Snd P 24 [.d (.ag (encP p)), .d (.ag (encC c))] (.tup [.d d, .int e]) [] ∧ (bndT c p).isSome = decide (e = 0) := by
  have hB := Bound_ok c p hw
  simp only [boundD, hP, if_true] at hB
  cases hr : bndT c p with
  | none => rw [hr] at hB; exact ⟨_, _, hB, rfl⟩
  | some b => rw [hr] at hB; exact ⟨_, _, hB, rfl⟩
 rw [encP_cells] at hB
 rw [he]
 refine sndW_of [0, 1, 2, 3] Try.func80 rfl (by kernel_rfl) Try.ntmps80 (by simp) (by simp) ?_
 unfold Try.f80
 simp only [List.cons_append, List.nil_append, List.length_cons, List.length_nil, Nat.reduceAdd, Nat.reduceSub, List.replicate]
 apply Run.seq
 refine opsF [⟨.box 48 (.tmp 0), some 2, none⟩, ⟨.assign (.const (.bool false)), some 3, none⟩] fun K hK => ?_
 try simp
 repeat' first | (refine evL_c ?_; simp) | (with_reducible first | apply aI | intro _ | assumption) | omega
 all_goals (apply Fin.go hK; clear hK K)
 simp only [tN]
 apply Run.seq
 refine opsF [oL 48 2 7, oL 117 1 8, oV 8 9, oF 120 9 0 10, oL 32 10 11, oC 24 #[.tmp 7, .tmp 11] #[48, 32] 12, oM 12 6, oX 6 0 13, oX 6 1 14, oA 13 4, oA 14 5] fun K hK => ?_
 try simp
 repeat' first | (refine ecall (by exact hB) rfl ?_) | (refine evL_c ?_; simp) | (with_reducible first | apply aI | intro _ | assumption) | omega
 all_goals (apply Fin.go hK; clear hK K)
 simp only [tN]
 apply Run.seq
 refine opsF [oM 5 15, oK .eql 35 15 0 35 16, oA 16 3] fun K hK => ?_
 try simp
 repeat' first | (refine evL_c ?_; simp) | (with_reducible first | apply aI | intro _ | assumption) | omega
 all_goals (apply Fin.go hK; clear hK K)
 simp only [tN]
 apply Run.ret
 try simp only [Then_ret, Blok_ret]
 simp
end Go.Proofs.Ytimgbdkgjfbhkaa.Z
end
section
namespace Go.Fw
variable {P : Program}
theorem toDs_fgt (p : Nat → Bool) : ∀ l : List V, toDs (V.fgtL p l) = toDs l := by
 intro l
 induction l with
 | nil => rfl
 | cons v r ih =>
   cases v <;> simp only [V.fgtL, V.fgt, toDs, ih] <;> (try rfl) <;> (split <;> rfl)
theorem fgtL_take (p : Nat → Bool) (n : Nat) (l : List V) : (V.fgtL p l).take n = V.fgtL p (l.take n) := by
 induction l generalizing n with
 | nil => simp [V.fgtL]
 | cons v r ih => cases n <;> simp [V.fgtL, ih]
theorem fgtL_drop (p : Nat → Bool) (n : Nat) (l : List V) : (V.fgtL p l).drop n = V.fgtL p (l.drop n) := by
 induction l generalizing n with
 | nil => simp [V.fgtL]
 | cons v r ih => cases n <;> simp [V.fgtL, ih]
theorem mkAg_fgt (p : Nat → Bool) (l : List V) : mkAg (V.fgtL p l) = (mkAg l).fgt p := by
 unfold mkAg
 rw [toDs_fgt]
 cases toDs l <;> rfl
theorem fgtL_map_d (p : Nat → Bool) (l : List D) : V.fgtL p (l.map .d) = l.map .d := by
 induction l with
 | nil => rfl
 | cons x r ih => simp [V.fgtL, V.fgt, ih]
theorem loadV_fgt (P : Program) (t : TypeId) (cells : List V) (off : Nat) (p : Nat → Bool) : loadV P t (V.fgtL p cells) off = (loadV P t cells off).map (V.fgt p) := by
 unfold loadV
 split
 ·unfold partV
  rw [fgtL_len, fgtL_drop, fgtL_take]
  split
  ·unfold one
   rw [fgtL_len, mkAg_fgt]
   simp only [if_true]
   split <;> rfl
  ·rfl
 ·exact fgtL_at p cells off
 ·rfl
def pairL (la : List Nat) (x y : Oper) : Option Nat := match loadAt x with
 | some a => if la.contains a && cls y.op == .x && y.guard.isNone then some a else none
 | none => none
def commL (im : Op → Bool) (la : List Nat) (all : List Oper) (j i : Nat) (x y : Oper) : Bool := comm im all x y || (apart all x y && match pairL la x y with
 | some a => x.dst != some a && y.dst != some a && (List.range all.length).all fun k => match all[k]? with
   | some z => (decide (k ≤ j) || k == i || z.dst != some a)
   | none => true
 | none => false)
def indepL (im : Op → Bool) (la : List Nat) (all : List Oper) : Bool := ahead all && (List.range all.length).all fun i => (List.range i).all fun j => dep all all.length j i || (match all[j]?, all[i]? with | some x, some y => commL im la all j i x y | _, _ => true)
def Vis (la : List Nat) (e : Env) : Prop := la.all (fun a => (e.getD a .top).at?.isSome) = true
theorem commL_apart {im : Op → Bool} {la : List Nat} {all : List Oper} {j i : Nat} {x y : Oper} (h : commL im la all j i x y = true) : apart all x y = true := by
 simp only [commL, Bool.or_eq_true, Bool.and_eq_true] at h
 rcases h with h | h
 ·simp only [comm, Bool.and_eq_true] at h; exact h.1
 ·exact h.1
theorem exchangeLA {im : Op → Bool} {all : List Oper} {x y : Oper} (ha : apart all x y = true) {a : Nat} (hla : loadAt x = some a) (hy : cls y.op = .x) (hyg : y.guard = none) (hxa : x.dst ≠ some a) (hya : y.dst ≠ some a) {E E1 E2 : St} {q : Option Nat} (hq : (E2.e.getD a .top).at? = some q) (h1 : Stp P im all x E E1) (h2 : Stp P im all y E1 E2) : ∃ E1', Stp P im all y E E1' ∧ Stp P im all x E1' E2 := by
 obtain ⟨⟨t, ex⟩, hxg⟩ : (∃ t, x.op = .load t (.tmp a)) ∧ x.guard = none := by
  unfold loadAt at hla
  split at hla
  ·rename_i hg
   refine ⟨?_, by simpa using hg⟩
   split at hla
   ·cases hla; exact ⟨_, by assumption⟩
   ·cases hla
  ·cases hla
 have hxr : cls x.op = .r := by rw [ex]; rfl
 have gx : ∀ e, guardOf all e x.guard = some none := fun e => by rw [hxg]; rfl
 have gy : ∀ e, guardOf all e y.guard = some none := fun e => by rw [hyg]; rfl
 have dx : ∀ {E E' : St}, Stp P im all x E E' ↔ ∃ c v, opR P x.op (look E.e) E.s = some (c, v) ∧ c ∧ E' = ⟨put E.e x.dst v, E.s⟩ := fun {E E'} => by
  unfold Stp; rw [gx]
  show DoI P im x E E' ↔ _
  rw [doI_do (fun _ => by rw [hxr]; simp)]
  unfold Do Loc
  rw [hxr]
  simp only
  constructor
  ·rintro ⟨v, s', ⟨c, q1, q2, rfl⟩, rfl⟩; exact ⟨c, v, q1, q2, rfl⟩
  ·rintro ⟨c, v, q1, q2, rfl⟩; exact ⟨v, _, ⟨c, q1, q2, rfl⟩, rfl⟩
 have dy : ∀ {E E' : St}, Stp P im all y E E' ↔ Do P y E E' := fun {E E'} => by
  unfold Stp; rw [gy]; exact doI_do (fun _ => by rw [hy]; simp)
 obtain ⟨c1, v, g1, gc1, rfl⟩ := dx.1 h1
 rw [dy] at h2
 unfold Do at h2
 rw [hy] at h2
 simp only at h2
 obtain ⟨cl, ho, hcal, k, c, sz, n, blk, g2, hc, rfl⟩ := h2
 simp only [apart, Bool.and_eq_true] at ha
 have hne : ∀ q, x.dst = some q → y.dst ≠ some q := fun q e => by
  have := ha.1; rw [e] at this; simp at this; exact this.2
 have hlx : ∀ q, looks all y q = true → x.dst ≠ some q := fun q hk e => by
  have := ha.1; rw [e] at this; simp [hk] at this
 have hargs : ∀ u ∈ cl.args, look (put E.e x.dst v) u = look E.e u := fun u hu => by
  cases u with
  | tmp t =>
    exact put_getD (hlx t (by
     unfold looks
     rw [Bool.or_eq_true, ho]
     exact .inl (List.any_eq_true.2 ⟨.tmp t, by simp only [Op.operands, Call.operands, Array.toList_append, List.mem_append]; exact .inr (by simpa using hu), by simp⟩)))
  | _ => rfl
 obtain ⟨q1, q2⟩ := append_congr (P := P) hargs E.s
 simp only at hq
 rw [put_getD hya] at hq
 have hq0 := at_fgtL hq
 rw [put_getD hxa] at hq0
 -- what it reads is not forgotten
 have hva : (E.e.getD a .top).fgt (hitO k (newId y.dst)) = E.e.getD a .top ∧ ∀ i sz r c, E.e.getD a .top = .pt i sz r c → hitO k (newId y.dst) i = false := by
  rw [fgtL_put, put_getD hxa, List.getD_eq_getElem?_getD, fgtL_at] at hq
  rw [List.getD_eq_getElem?_getD] at hq0 ⊢
  cases he : E.e[a]? with
  | none => rw [he] at hq0; cases hq0
  | some z =>
    rw [he] at hq hq0
    simp only [Option.map_some, Option.getD_some] at hq hq0 ⊢
    cases z with
    | pt i sz r c =>
      simp only [V.fgt] at hq ⊢
      cases hh : hitO k (newId y.dst) i with
      | true => rw [hh] at hq; cases hq
      | false => simp only [Bool.false_eq_true, if_false, true_and]; intro i' _ _ _ e; cases e; exact hh
    | d d => simp [V.fgt]
    | _ => cases hq0
 have hld : opR P x.op (look (put (V.fgtL (hitO k (newId y.dst)) E.e) y.dst (.rs (newId y.dst) sz 0 n))) (putB (fgtS (hitO k (newId y.dst)) E.s) (newId y.dst) blk) = some (c1, v.fgt (hitO k (newId y.dst))) := by
  have hlk : look (put (V.fgtL (hitO k (newId y.dst)) E.e) y.dst (.rs (newId y.dst) sz 0 n)) (.tmp a) = E.e.getD a .top := by
   rw [look_fgt (fun t ht => by cases ht; exact hya)]
   exact hva.1
  have hlk0 : look E.e (.tmp a) = E.e.getD a .top := rfl
  rw [ex] at g1 ⊢
  simp only [opR, hlk, hlk0] at g1 ⊢
  obtain ⟨_, hpt⟩ := hva
  generalize E.e.getD a .top = va at g1 hpt ⊢
  cases va with
  | pt i sz2 r c2 =>
    have hh := hpt i sz2 r c2 rfl
    have hni : i ≠ newId y.dst := fun e => by simp [hitO, e] at hh
    simp only [getB_putB, if_neg hni, getB_fgtS, hh, Bool.false_eq_true, if_false] at g1 ⊢
    cases hb : getB E.s i with
    | none => rw [hb] at g1; cases g1
    | some b =>
      rw [hb] at g1
      simp only [Option.map_some] at g1 ⊢
      cases b with
      | vals cells =>
        simp only [Blk.fgt] at g1 ⊢
        rw [loadV_fgt]
        cases hv : loadV P t cells (r * sz2 + c2) with
        | none => rw [hv] at g1; cases g1
        | some u =>
          rw [hv] at g1
          simp only [Option.some.injEq, Prod.mk.injEq, Option.map_some] at g1 ⊢
          exact ⟨g1.1, by rw [← g1.2]⟩
      | data n2 rows =>
        simp only [Blk.fgt] at g1 ⊢
        have hd := loadV_fgt P t ((rowN rows r).map .d) c2 (hitO k (newId y.dst))
        rw [fgtL_map_d] at hd
        cases hv : loadV P t ((rowN rows r).map .d) c2 with
        | none => rw [hv] at g1; cases g1
        | some u =>
          rw [hv] at g1 hd
          simp only [Option.map_some, Option.some.injEq] at hd
          simp only [Option.some.injEq, Prod.mk.injEq] at g1 ⊢
          exact ⟨g1.1, by rw [← g1.2]; exact hd⟩
      | mp ks vs => cases g1
  | d x =>
    cases x with
    | ip row c2 =>
      simp only at g1 ⊢
      have hd := loadV_fgt P t (row.map .d) c2 (hitO k (newId y.dst))
      rw [fgtL_map_d] at hd
      cases hv : loadV P t (row.map .d) c2 with
      | none => rw [hv] at g1; cases g1
      | some u =>
        rw [hv] at g1 hd
        simp only [Option.map_some, Option.some.injEq] at hd
        simp only [Option.some.injEq, Prod.mk.injEq] at g1 ⊢
        exact ⟨g1.1, by rw [← g1.2]; exact hd⟩
    | _ => cases g1
  | _ => cases g1
 refine ⟨⟨put (V.fgtL (hitO k (newId y.dst)) E.e) y.dst (.rs (newId y.dst) sz 0 n), putB (fgtS (hitO k (newId y.dst)) E.s) (newId y.dst) blk⟩, dy.2 ?_, dx.2 ⟨c1, _, hld, gc1, ?_⟩⟩
 ·unfold Do; rw [hy]
  refine ⟨cl, ho, hcal, k, c, sz, n, blk, ?_, hc, rfl⟩
  rcases g2 with ⟨al, w1, w2, w3⟩ | ⟨al, w1, w2⟩
  ·exact .inl ⟨al, q1.symm.trans w1, w2, w3⟩
  ·exact .inr ⟨al, q2.symm.trans w1, w2⟩
 ·simp only [fgtL_put]; rw [put_comm hne]
theorem to_frontL {im : Op → Bool} {la : List Nat} {all : List Oper} (ha : alone all = true) {i : Nat} {o : Oper} (hi : all[i]? = some o) : ∀ {R : List Nat} {E E' : St}, Vis la E'.e → R.Pairwise (· < ·) → i ∈ R → FreshAll all R E → (∀ j ∈ R.takeWhile (· != i), ∀ x, all[j]? = some x → commL im la all j i x o = true) → Steps P im all R E E' →
  ∃ E1, Stp P im all o E E1 ∧ Steps P im all (R.erase i) E1 E' := by
 intro R
 induction R with
 | nil => intro E E' _ _ h; cases h
 | cons j r ih =>
   intro E E' htwo hpw hm hf hc hs
   have hnd : (j :: r).Nodup := hpw.imp fun h => Nat.ne_of_lt h
   obtain ⟨x, hx, E1, h1, h2⟩ := hs
   by_cases e : j = i
   ·subst e
    rw [hx] at hi; cases hi
    exact ⟨E1, h1, by simpa using h2⟩
   ·have hmr : i ∈ r := (List.mem_cons.1 hm).resolve_left (Ne.symm e)
    have hnd' := List.nodup_cons.1 hnd
    have hpw' := List.pairwise_cons.1 hpw
    have hfr : FreshAll all r E1 := freshAll_step ha hx hnd'.1 (fun k hk => hf k (by simp [hk])) h1
    have htw : (j :: r).takeWhile (· != i) = j :: r.takeWhile (· != i) := by simp [e]
    rw [htw] at hc
    obtain ⟨E2, g1, g2⟩ := ih htwo hpw'.2 hmr hfr (fun k hk => hc k (by simp [hk])) h2
    have hcj := hc j (by simp) x hx
    have hex : ∃ E3, Stp P im all o E E3 ∧ Stp P im all x E3 E2 := by
     have hap := commL_apart hcj
     simp only [commL, Bool.or_eq_true, Bool.and_eq_true] at hcj
     rcases hcj with hcj | ⟨_, hcj⟩
     ·exact exchange hcj (hf j (by simp) x hx) (hf i hm o hi) (fun m1 m2 k hk => alone_mine ha (Ne.symm e) hi hx m2 k hk) h1 g1
     ·cases hp : pairL la x o with
      | none => rw [hp] at hcj; cases hcj
      | some a =>
        rw [hp] at hcj
        simp only [Bool.and_eq_true, bne_iff_ne, ne_eq, List.all_eq_true, List.mem_range] at hcj
        obtain ⟨⟨hxa, hoa⟩, hks⟩ := hcj
        have hlen : ∀ {k : Nat} {z : Oper}, all[k]? = some z → k < all.length := fun h => (List.getElem?_eq_some_iff.1 h).1
        have ln : ∀ k ∈ r.erase i, ∀ z, all[k]? = some z → z.dst ≠ some a := fun k hk z hz => by
         have hkr : k ∈ r := List.mem_of_mem_erase hk
         have hki : k ≠ i := fun e => List.Nodup.not_mem_erase hnd'.2 (e ▸ hk)
         have := hks k (hlen hz)
         rw [hz] at this
         simp only [Bool.or_eq_true, decide_eq_true_eq, beq_iff_eq, bne_iff_ne, ne_eq] at this
         rcases this with (h | h) | h
         ·have := hpw'.1 k hkr; omega
         ·exact absurd h hki
         ·exact h
        unfold pairL at hp
        split at hp
        ·rename_i a' hla
         split at hp
         ·rename_i hcd
          cases hp
          simp only [Bool.and_eq_true, beq_iff_eq, Option.isNone_iff_eq_none] at hcd
          obtain ⟨⟨hin, hcx⟩, hog⟩ := hcd
          have hv := List.all_eq_true.1 htwo a (by simpa using hin)
          obtain ⟨q, hq⟩ := Option.isSome_iff_exists.1 hv
          exact exchangeLA hap hla hcx hog hxa hoa (steps_at g2 ln hq) h1 g1
         ·cases hp
        ·cases hp
    obtain ⟨E3, g3, g4⟩ := hex
    refine ⟨E3, g3, ?_⟩
    rw [List.erase_cons_tail (by simpa using e)]
    exact ⟨x, hx, E2, g4, g2⟩
section
variable {w0 : World} {L0 : Par} {X : Nat → Prop}
theorem any_opsL {im : Op → Bool} {la : List Nat} {all : List Oper} (ha : alone all = true) (hi : indepL im la all = true) : ∀ (fuel : Nat) {listed : Array Bool} {m : Nat → Option Nat} {a : Act} {w : World} {E E' : St}, Vis la E'.e → listed.size = all.length → (undone all.length listed).length ≤ fuel →
  (∀ i o, all[i]? = some o → listed.getD i true = true → i < all.length → ∀ e ∈ o.after.toList, Region.binds .any e = true → listed.getD e.on false = true) →
  FreshAll all (undone all.length listed) E → Rel w0 L0 X m E.e E.s a w → Steps P im all (undone all.length listed) E E' → ∀ {Q : Exit → Act → World → Prop}, (∀ m' a' w', Rel w0 L0 X m' E'.e E'.s a' w' → Q .normal a' w') → wpAny P .any all.toArray Q fuel listed a w := by
 simp only [indepL, Bool.and_eq_true] at hi
 obtain ⟨hah, hco⟩ := hi
 intro fuel
 have rdy : ∀ {listed : Array Bool}, listed.size = all.length → ∀ i, i ∈ Region.ready .any all.toArray listed ↔ i ∈ undone all.length listed ∧ ∃ o, all[i]? = some o ∧ ∀ e ∈ o.after.toList, Region.binds .any e = true → listed.getD e.on false = true := by
  intro listed hl i
  simp only [Region.ready, undone, List.mem_filter, List.size_toArray, List.getElem?_toArray, Bool.and_eq_true]
  constructor
  ·rintro ⟨h1, h2, h3⟩
   refine ⟨⟨h1, h2⟩, ?_⟩
   cases ho : all[i]? with
   | none => rw [ho] at h3; cases h3
   | some o =>
     rw [ho] at h3
     refine ⟨o, rfl, fun e he hb => ?_⟩
     simp only [Option.map_some, Option.getD_some, Array.all_eq_true_iff_forall_mem] at h3
     have := h3 e (by simpa using he)
     simpa [hb] using this
  ·rintro ⟨⟨h1, h2⟩, o, ho, h3⟩
   refine ⟨h1, h2, ?_⟩
   rw [ho]
   simp only [Option.map_some, Option.getD_some, Array.all_eq_true_iff_forall_mem]
   intro e he
   by_cases hb : Region.binds .any e = true
   ·simp [h3 e (by simpa using he) hb]
   ·simp [hb]
 -- as long as one is left, one may be taken
 have least : ∀ {listed : Array Bool}, listed.size = all.length → Region.ready .any all.toArray listed = [] → undone all.length listed = [] := by
  intro listed hl hr
  cases hu : undone all.length listed with
  | nil => rfl
  | cons i r =>
    exfalso
    have hmem : ∀ k, k ∈ undone all.length listed ↔ k < all.length ∧ listed.getD k true = false := fun k => by simp [undone]
    have hmin : ∀ k, k < i → listed.getD k false = true := by
     intro k hk
     have hii : i < all.length := ((hmem i).1 (by rw [hu]; simp)).1
     have hsort : (undone all.length listed).Pairwise (· < ·) := List.pairwise_lt_range.filter _
     rw [hu] at hsort
     have hks : k < listed.size := by omega
     cases hq : listed.getD k true with
     | true => simp [Array.getD, hks] at hq ⊢; exact hq
     | false =>
       have : k ∈ undone all.length listed := (hmem k).2 ⟨by omega, hq⟩
       rw [hu] at this
       rcases List.mem_cons.1 this with e | hm
       ·omega
       ·have := (List.pairwise_cons.1 hsort).1 k hm
        omega
    have hii : i < all.length := ((hmem i).1 (by rw [hu]; simp)).1
    have : i ∈ Region.ready .any all.toArray listed := (rdy hl i).2 ⟨by rw [hu]; simp, all[i], List.getElem?_eq_getElem hii, fun e he hb => by
     have h1 := List.all_eq_true.1 hah i (List.mem_range.2 hii)
     rw [List.getElem?_eq_getElem hii] at h1
     have h2 := List.all_eq_true.1 h1 e he
     simp only [hb, Bool.not_true, Bool.false_or, decide_eq_true_eq] at h2
     exact hmin _ h2⟩
    rw [hr] at this; cases this
 induction fuel with
 | zero =>
   intro listed m a w E E' htwo hl hn hcl hf h hs Q hQ
   have hu : undone all.length listed = [] := List.eq_nil_of_length_eq_zero (by omega)
   rw [hu] at hs
   cases hs
   refine ⟨?_, hQ m a w h⟩
   cases hr : Region.ready .any all.toArray listed with
   | nil => rfl
   | cons i r =>
     have := ((rdy hl i).1 (by rw [hr]; simp)).1
     rw [hu] at this; cases this
 | succ n ih =>
   intro listed m a w E E' htwo hl hn hcl hf h hs Q hQ
   refine ⟨fun hr => ?_, fun i hri => ?_⟩
   ·have hu := least hl hr
    rw [hu] at hs
    cases hs
    exact hQ m a w h
   ·obtain ⟨hu, o, ho, hd⟩ := (rdy hl i).1 hri
    have hii : i < all.length := (List.getElem?_eq_some_iff.1 ho).1
    have hnd : (undone all.length listed).Nodup := List.nodup_range.filter _
    have hsort : (undone all.length listed).Pairwise (· < ·) := List.pairwise_lt_range.filter _
    obtain ⟨E1, g1, g2⟩ := to_frontL ha ho htwo hsort hu hf (fun j hj x hx => by
     have hju : j ∈ undone all.length listed := (List.takeWhile_prefix _).subset hj
     have hne : j ≠ i := by have := List.all_eq_true.1 List.all_takeWhile j hj; simpa using this
     have hji : j < i := by
      have : ∀ (R : List Nat), R.Pairwise (· < ·) → i ∈ R → j ∈ R.takeWhile (· != i) → j < i := by
       intro R
       induction R with
       | nil => intro _ h; cases h
       | cons k r ih =>
         intro hp hm hj
         have hp' := List.pairwise_cons.1 hp
         by_cases e : k = i
         ·simp [e] at hj
         ·have hmr : i ∈ r := (List.mem_cons.1 hm).resolve_left (Ne.symm e)
          simp only [List.takeWhile_cons, bne_iff_ne, ne_eq, e, not_false_eq_true, if_true, List.mem_cons] at hj
          rcases hj with rfl | hj
          ·exact hp'.1 i hmr
          ·exact ih hp'.2 hmr hj
      exact this _ hsort hu hj
     have h1 := List.all_eq_true.1 (List.all_eq_true.1 hco i (List.mem_range.2 hii)) j (List.mem_range.2 hji)
     simp only [hx, ho, Bool.or_eq_true] at h1
     rcases h1 with h1 | h1
     ·have := dep_listed hcl hl _ j i o ho hd h1
      have hjl : j < listed.size := by omega
      have h2 : listed.getD j true = false := by have := hju; simp only [undone, List.mem_filter, Bool.not_eq_true'] at this; exact this.2
      simp [Array.getD, hjl] at this h2
      rw [this] at h2; cases h2
     ·exact h1) hs
    refine stp_op ho h (hf i hu o ho) g1 fun m' a' w' h' => ?_
    have hue := undone_set (listed := listed) hl hii
    refine ih htwo (by simpa using hl) ?_ ?_ ?_ h' (by rw [hue]; exact g2) hQ
    ·rw [hue, List.length_erase_of_mem hu]; omega
    ·intro k x hx hk hkl e he hb
     by_cases e1 : i = k
     ·subst e1
      rw [ho] at hx; cases hx
      have := hd e he hb
      have hne : e.on < all.length := by
       have hlt : e.on < listed.size := by
        rcases Nat.lt_or_ge e.on listed.size with h | h
        ·exact h
        ·simp [Array.getD, Nat.not_lt.2 h] at this
       omega
      simp [Array.getD_eq_getD_getElem?, Array.getElem?_setIfInBounds] at this ⊢
      split
      ·split <;> simp_all
      ·exact this
     ·have hk' : listed.getD k true = true := by
       simpa [Array.getD_eq_getD_getElem?, Array.getElem?_setIfInBounds, e1] using hk
      have := hcl k x hx hk' hkl e he hb
      simp [Array.getD_eq_getD_getElem?, Array.getElem?_setIfInBounds] at this ⊢
      split
      ·split <;> simp_all
      ·exact this
    ·rw [hue]
     have hf' : FreshAll all ((undone all.length listed).erase i) E := fun k hk => hf k (List.mem_of_mem_erase hk)
     exact freshAll_step ha ho (List.Nodup.not_mem_erase hnd) hf' g1
end
variable {E : St} {Q : Exit → St → Prop}
def okRegL (im : Op → Bool) (la : List Nat) (draw : Bool) (all : List Oper) : Bool := alone all && (!draw || indepL im la all)
theorem Run.regionL {im : Op → Bool} (la : List Nat) {id : Nat} {ops : Array Oper} {draw : Bool} (hm : P.follows .mixedOrders = true) (hk : okRegL im la draw ops.toList = true) {e : Env} {s : Store} {E' : St}
  (hs : Steps P im ops.toList (List.range ops.toList.length) ⟨enterE ops.toList e, enterS ops.toList s⟩ E') (htwo : Vis la E'.e) (hq : Q .normal E') : Run P (.region id ops draw) ⟨e, s⟩ Q := fun w0 L0 X m a w hr => by
 simp only [okRegL, Bool.and_eq_true, Bool.or_eq_true, Bool.not_eq_true'] at hk
 obtain ⟨ha, hd⟩ := hk
 have henter : Rel w0 L0 X m (enterE ops.toList e) (enterS ops.toList s) a w ∧ FreshAll ops.toList (List.range ops.toList.length) ⟨enterE ops.toList e, enterS ops.toList s⟩ := by
  unfold enterE enterS
  by_cases h : (ks ops.toList).isEmpty = true
  ·simp only [h, if_true]
   refine ⟨hr, fun i _ o ho hm => ?_⟩
   have := ks_nil h o (List.mem_of_getElem? ho)
   rw [this] at hm; cases hm
  ·simp only [h, if_false]
   exact ⟨hr.fgt _, fresh_enter⟩
 obtain ⟨h1, h2⟩ := henter
 have fin : ∀ m' a' w', Rel w0 L0 X m' E'.e E'.s a' w' → ∃ E'' m'', Q .normal E'' ∧ Rel w0 L0 X m'' E''.e E''.s a' w' := fun m' a' w' h => ⟨E', m', hq, h⟩
 cases draw with
 | false =>
   refine wp_region ?_
   have := seq_ops (P := P) (w0 := w0) (L0 := L0) (X := X) ha List.nodup_range h2 h1 hs (Q := fun x a' w' => ∃ E' m', Q x E' ∧ Rel w0 L0 X m' E'.e E'.s a' w') fin
   simpa using this
 | true =>
   have hi : indepL im la ops.toList = true := by rcases hd with h | h; exact absurd h (by simp); exact h
   refine wp_region_any hm ?_
   have hu : undone ops.toList.length (Array.replicate ops.size false) = List.range ops.toList.length := by
    unfold undone
    rw [List.filter_eq_self]
    intro k hk
    have := List.mem_range.1 hk
    simp at this
    simp [Array.getD, this]
   have h3 : Rel w0 L0 X m (enterE ops.toList e) (enterS ops.toList s) a { w with drawn := w.drawn + 1 } := by
    have hk : CellsKept (Live X m (enterS ops.toList s)) w { w with drawn := w.drawn + 1 } := fun _ _ _ q => q
    have hz : SizesKept w { w with drawn := w.drawn + 1 } := fun _ cs _ _ q => ⟨cs, q, rfl⟩
    refine ⟨⟨h1.env.len, fun j x v q1 q2 => VRel.mono' hk hz (fun b hb => .inl hb) (h1.env.at_ j x v q1 q2)⟩, ⟨fun i blk hi => ?_, h1.sto.inj⟩, h1.dfr, ⟨h1.ext.os, h1.ext.tape, h1.ext.output, h1.ext.size, h1.ext.block, h1.ext.sizes⟩, h1.liv, h1.old, h1.par⟩
    rcases h1.sto.blk i blk hi with ⟨b, r1, r2⟩ | r
    ·exact .inl ⟨b, r1, BRel.mono (p := fun _ => false) hk hz (fun b hb => .inl hb) (fun _ _ => rfl) rfl (by cases blk <;> first | exact menL_false _ | trivial) r2⟩
    ·exact .inr r
   have := any_opsL (P := P) (la := la) (w0 := w0) (L0 := L0) (X := X) ha hi ops.size (listed := Array.replicate ops.size false) htwo (by simp) (by rw [hu]; simp) (fun i o ho hl hlt e he hb => by
    simp at hlt
    simp [Array.getD, hlt] at hl) (by rw [hu]; exact h2) h3 (by rw [hu]; exact hs) (Q := fun x a' w' => ∃ E' m', Q x E' ∧ Rel w0 L0 X m' E'.e E'.s a' w') fin
   simpa using this
theorem Run.opsA (l : List FuncId) (la : List Nat) {id : Nat} {ops : Array Oper} {draw : Bool} (los : List LOp) (hm : P.follows .mixedOrders = true) (hk : okRegL (imp l) la draw ops.toList = true) (hl : ops.toList.map (lite ops.toList) = los) {e : Env} {s : Store}
  (h : ∀ K : Env → Store → Prop, (∀ e s, Vis la e → Q .normal ⟨e, s⟩ → K e s) → EvL P (imp l) K los (enterE ops.toList e) (enterS ops.toList s)) : Run P (.region id ops draw) ⟨e, s⟩ Q := by
 have h0 : EvO P (imp l) ops.toList (fun e s => Vis la e ∧ Q .normal ⟨e, s⟩) ops.toList (enterE ops.toList e) (enterS ops.toList s) := by
  subst hl; exact evL_evO (h _ fun _ _ h1 h2 => ⟨h1, h2⟩)
 obtain ⟨E', h1, h2⟩ := evO_steps (P := P) (im := imp l) (n := 0) (List.drop_zero ..) h0
 rw [← List.range_eq_range'] at h1
 exact Run.regionL la hm hk h1 h2.1 h2.2
end Go.Fw
end
section
namespace Go.Proofs.Ytimgbdkgjfbhkaa.Z
open Go Go.Fw
@[simp] theorem ty_arr130 : arrOfT P 130 = some (2, 4) := by kernel_rfl
@[simp] theorem ty_pl130 : placesT P 130 = none := by kernel_rfl
@[simp] theorem ty_str130 : strT P 130 = false := by kernel_rfl
@[simp] theorem ty_zero130' : zeroOf P 130 = some [.bool false, .bool false] := by kernel_rfl
@[simp] theorem lost4 (a b c d : Nat) (s1 : Store) (id : Nat) : lost [a, b, c, d] s1 id = ((a == id && (getB s1 0).isNone) || (b == id && (getB s1 1).isNone) || (c == id && (getB s1 2).isNone) || (d == id && (getB s1 3).isNone)) := by
 have : List.range 4 = [0, 1, 2, 3] := rfl
 simp only [lost, List.length_cons, List.length_nil, Nat.reduceAdd, this, List.any_cons, List.any_nil, Bool.or_false, Bool.or_assoc]
 rfl
attribute [-simp] lookV updV Blk.fgt Blk.ren Blk.men Blk.fin lost
attribute [local simp] look101 upd101
def RX (x : Nat) : Prop := x = 0 ∨ x = 1 ∨ x = 2
theorem okJ (n : Int) (q q' : PlanT) (l l' : List Int) : okW [600, 2400, 500, 400] [(0, .vals [.mp 1]), (1, mpK l), (2, .vals ((encP q).map .d)), (3, .vals [.fn 57 []])] [.int n, .pt 0 0 0 0, .pt 2 0 0 0, .pt 3 0 0 0] (.tup []) [(0, .vals [.mp 1]), (1, mpK l'), (2, .vals ((encP q').map .d)), (3, .vals [.fn 57 []])] = true := by
 rw [encP_cells, encP_cells]
 have e : List.range 4 = [0, 1, 2, 3] := rfl
 simp [okW, badId, e, V.menL, V.men, getB]
theorem transN_ok (c : CoreT) (hP : patS c.nodes c.edges = false) : Snd P 36 [.d (.ag (encC c))] (.d (.ag (encP zeroQ))) [] := by
 have hP1 : Snd P 42 [.d (.ag (encC c))] (.bool false) [] := by rw [← hP]; exact pattern_ok c
 refine snd_of [] Try.func36 rfl (by kernel_rfl) Try.ntmps36 (by simp) ?_
 unfold Try.f36
 simp only [List.cons_append, List.nil_append, List.length_cons, List.length_nil, Nat.reduceAdd, Nat.reduceSub, List.replicate]
 apply Run.seq
 refine opsF oo56 fun K hK => ?_
 try simp
 repeat' first | (refine evL_c ?_; simp) | (with_reducible first | apply aI | intro _ | assumption) | omega
 all_goals (apply Fin.go hK; clear hK K)
 simp only [tN]
 apply Run.seq
 apply Run.seq
 refine opsF oo57 fun K hK => ?_
 try simp
 repeat' first | (refine ecallD (by exact hP1) ?_) | (refine evL_c ?_; simp) | (with_reducible first | apply aI | intro _ | assumption) | omega
 all_goals (apply Fin.go hK; clear hK K)
 simp only [tN]
 refine Run.cond rfl (fun h19 => ?_) (fun h19 => ?_)
 ·skip
  apply Run.seq
  refine opsF [⟨.build 48 #[], some 20, none⟩, oS 48 2 20] fun K hK => ?_
  try simp
  repeat' first | (refine evL_c ?_; simp) | (with_reducible first | apply aI | intro _ | assumption) | omega
  all_goals (apply Fin.go hK; clear hK K)
  simp only [tN]
  refine Run.subB 300 1 (.d (.sl false [])) rfl rfl nil_sl ?_
  simp
  refine Run.subB 300 3 (.d (.sl false [])) rfl rfl nil_sl ?_
  simp
  refine Run.subB 300 5 (.d (.sl false [])) rfl rfl nil_sl ?_
  simp
  apply Run.ret
  try simp only [Then_ret, Blok_ret]
  simp
 ·simp at h19
set_option maxHeartbeats 16000000 in
theorem transA_ok (c : CoreT) (hP : patS c.nodes c.edges = true) (hw : c.wher.length ≤ 1100000) : Snd P 36 [.d (.ag (encC c))] (.d (.ag (encP (filtB (nodesN c c.nodes.length).1 c.wher)))) [] := by
 have hP1 : Snd P 42 [.d (.ag (encC c))] (.bool true) [] := by rw [← hP]; exact pattern_ok c
 obtain ⟨hn1, hn8, hk8⟩ := pat_rng hP
 obtain ⟨n, hn⟩ : ∃ k, c.nodes.length = k := ⟨_, rfl⟩
 obtain ⟨k, hk⟩ : ∃ k, c.edges.length = k := ⟨_, rfl⟩
 obtain ⟨m, hm⟩ : ∃ k, c.wher.length = k := ⟨_, rfl⟩
 rw [hn] at hn1 hn8
 rw [hk] at hk8
 rw [hm] at hw
 have hsc := scanP_ok 0
 rw [encP_cells] at hsc
 obtain ⟨P0, hP0⟩ : ∃ x, (nodesN c n).1 = x := ⟨_, rfl⟩
 obtain ⟨P1, hP1x⟩ : ∃ x, filtO P0 (c.wher.filter safeT) = x := ⟨_, rfl⟩
 obtain ⟨P2, hP2x⟩ : ∃ x, filtO P1 (c.wher.filter fun t => !safeT t) = x := ⟨_, rfl⟩
 have hP1e : P1 = filtO P0 (c.wher.filter fun t => safeT t == true) := by rw [← hP1x]; congr 2; funext t; simp
 have hP2e : P2 = filtO P1 (c.wher.filter fun t => safeT t == false) := by rw [← hP2x]; congr 2; funext t; simp
 have hr : filtB (nodesN c c.nodes.length).1 c.wher = P2 := by rw [hn, hP0, filtB, hP1x, hP2x]
 rw [hr]
 refine snd_of [] Try.func36 rfl (by kernel_rfl) Try.ntmps36 (by simp) ?_
 unfold Try.f36
 simp only [List.cons_append, List.nil_append, List.length_cons, List.length_nil, Nat.reduceAdd, Nat.reduceSub, List.replicate]
 apply Run.seq
 refine opsF oo56 fun K hK => ?_
 try simp
 repeat' first | (refine evL_c ?_; simp [hn, hk]) | (with_reducible first | apply aI | intro _ | assumption) | omega
 all_goals (apply Fin.go hK; clear hK K)
 simp only [tN]
 apply Run.seq
 apply Run.seq
 refine opsF oo57 fun K hK => ?_
 try simp
 repeat' first | (refine ecallD (by exact hP1) ?_) | (refine evL_c ?_; simp [hn, hk]) | (with_reducible first | apply aI | intro _ | assumption) | omega
 all_goals (apply Fin.go hK; clear hK K)
 simp only [tN]
 refine Run.cond rfl (fun h19 => ?_) (fun h19 => ?_)
 ·simp at h19
 ·skip
  apply Run.skip
  simp only [tN]
  apply Run.seq
  refine opsF [⟨.alloc 128, some 3, none⟩, ⟨.store 128 (.tmp 3) (.func 57), none, none⟩] fun K hK => ?_
  try simp
  repeat' first | (refine evL_c ?_; simp [hn, hk]) | (with_reducible first | apply aI | intro _ | assumption) | omega
  all_goals (apply Fin.go hK; clear hK K)
  simp only [tN]
  apply Run.seq
  refine opsF [oL 128 3 21, ⟨.call { callee := .value (.tmp 21), args := #[.const (.int .i64 0)], argTypes := #[3] }, some 22, none⟩, ⟨.alloc 48, some 4, none⟩, oS 48 4 22] fun K hK => ?_
  try simp
  repeat' first | (refine ecallD (by exact hsc) ?_) | (refine evL_c ?_; simp [hn, hk]) | (with_reducible first | apply aI | intro _ | assumption) | omega
  all_goals (apply Fin.go hK; clear hK K)
  simp only [tN]
  refine Run.cut [5, 23, 24] [(5, .pt 600 0 0 0)] [(200, .vals ((encC c).map .d)), (300, .vals [.int 0, vnil, .int 0, vnil, .bool false, vnil]), (400, .vals [.fn 57 []]), (500, .vals ((encP (scanQ 0)).map .d)), (600, .vals [.mp 2400]), (2400, mpK [0])] ?_ ?_
  ·refine opsF [⟨.makeMap 118 none, some 23, none⟩, ⟨.insert 118 (.tmp 23) (.const (.int .i64 0)) (.const (.bool true)), none, none⟩, oM 23 24, ⟨.alloc 118, some 5, none⟩, oS 118 5 24] fun K hK => ?_
   try simp
   repeat' first | (refine evL_c ?_; simp [hn, hk, updB, findK]) | (with_reducible first | apply aI | intro _ | assumption) | omega
   all_goals (apply Fin.go hK; clear hK K)
   (try simp [hn, hk, mpK, updB, findK]) <;> (first | omega | (simp; done) | (rw [Bool.eq_iff_iff]; simp only [Bool.or_eq_true, Bool.and_eq_true, Bool.not_eq_true', decide_eq_true_eq, decide_eq_false_iff_not]; omega) | (simp_all; done) | grind)
  ·simp only [over, List.foldl, List.set]
   apply Run.seq
   refine opsF [⟨.makeFunc (Fn.func 58) #[] #[.tmp 5, .tmp 4, .tmp 3], some 25, none⟩, oA 25 6] fun K hK => ?_
   try simp
   repeat' first | (refine evL_c ?_; simp [hn, hk]) | (with_reducible first | apply aI | intro _ | assumption) | omega
   all_goals (apply Fin.go hK; clear hK K)
   simp only [tN]
   apply Run.seq
   apply Run.seq
   refine opsF [oF 32 1 1 26, oL 27 26 27, oN 27 27 28, ⟨.move (.const (.int .i64 0)), some 29, none⟩] fun K hK => ?_
   try simp
   repeat' first | (refine evL_c ?_; simp [hn, hk]) | (with_reducible first | apply aI | intro _ | assumption) | omega
   all_goals (apply Fin.go hK; clear hK K)
   simp only [tN]
   apply Run.block
   refine Run.loopO [7, 8, 9, 10, 29, 30, 31, 32, 33, 34, 35, 36, 37, 38, 39, 40, 41, 42, 43, 44, 45, 46, 47, 48, 49, 50, 51, 52, 53, 54, 55, 56, 57, 58, 59, 60, 61, 62, 63, 64, 65, 66, 67] (fun (i : Nat) => [(29, .int i)]) (fun (i : Nat) => [(200, .vals ((encC c).map .d)), (300, .vals [.int 0, vnil, .int 0, vnil, .bool false, vnil]), (400, .vals [.fn 57 []]), (500, .vals ((encP (edgesN c i).1).map .d)), (600, .vals [.mp 2400]), (2400, mpK (edgesN c i).2)]) (fun (i : Nat) => i ≤ k) (fun (i : Nat) => k - i) 0 (by omega) (by simp [edgesN, hn, hk]) fun i hi => ?_
   simp only [over, List.foldl, List.set]
   have hu : edgesN c (i + 1) = trEdge c i (edgesN c i) := rfl
   obtain ⟨⟨q, l⟩, hq⟩ : ∃ x, edgesN c i = x := ⟨_, rfl⟩
   rw [hq] at hu ⊢
   apply Run.seq
   refine opsF [oB .lss 3 29 28 3 30] fun K hK => ?_
   try simp
   repeat' first | (refine evL_c ?_; simp [hn, hk]) | (with_reducible first | apply aI | intro _ | assumption) | omega
   all_goals (apply Fin.go hK; clear hK K)
   simp only [tN]
   apply Run.seq
   refine Run.cond rfl (fun h30 => ?_) (fun h30 => ?_)
   ·try simp at h30
    have hi1 : i < k := by omega
    have hi2 : (i : Int) < k := by omega
    have hiN : (0 : Int) ≤ i := by omega
    obtain ⟨src, hsr⟩ : ∃ x, (rdI c.edges i).src = x := ⟨_, rfl⟩
    obtain ⟨dst, hdr⟩ : ∃ x, (rdI c.edges i).dst = x := ⟨_, rfl⟩
    obtain ⟨mo, hmd⟩ : ∃ x, (rdI c.edges i).mode = x := ⟨_, rfl⟩
    obtain ⟨bk, hbk⟩ : ∃ x, trBack c i l = x := ⟨_, rfl⟩
    have hbk2 : (!decide (src ∈ l) && decide (dst ∈ l)) = bk := by rw [← hbk, trBack, hsr, hdr]
    obtain ⟨⟨q1, l1⟩, hql⟩ : ∃ x, (if bk = true then (q, l) else trJoin (q, l) src) = x := ⟨_, rfl⟩
    have hJ := joinF_ok q l src
    apply Run.skip
    simp only [tN]
    apply Run.seq
    apply Run.block
    refine Run.cut [7, 8, 31, 32, 33] [(8, .pt 900 0 0 0), (7, .int i)] [(200, .vals ((encC c).map .d)), (300, .vals [.int 0, vnil, .int 0, vnil, .bool false, vnil]), (400, .vals [.fn 57 []]), (500, .vals ((encP q).map .d)), (600, .vals [.mp 2400]), (900, .vals ((encE (rdI c.edges i)).map .d)), (2400, mpK l)] ?_ ?_
    ·refine opsF [oM 29 31, oI 27 27 29 32, oL 98 32 33, ⟨.alloc 98, some 8, none⟩, oA 31 7, oS 98 8 33] fun K hK => ?_
     try simp
     repeat' first | (refine evL_c ?_; simp [hn, hk, hi1, hi2, hiN, hsr, hdr, hmd]) | (with_reducible first | apply aI | intro _ | assumption) | omega
     all_goals (apply Fin.go hK; clear hK K)
     (try simp [hn, hk, hi1, hi2, hiN, hsr, hdr, hmd]) <;> (first | omega | (simp; done) | (rw [Bool.eq_iff_iff]; simp only [Bool.or_eq_true, Bool.and_eq_true, Bool.not_eq_true', decide_eq_true_eq, decide_eq_false_iff_not]; omega) | (simp_all; done) | grind)
    ·simp only [over, List.foldl, List.set]
     refine Run.cut [9, 34, 35, 36, 37, 38, 39, 40, 41, 42, 43, 44] [(9, .bool bk)] [(200, .vals ((encC c).map .d)), (300, .vals [.int 0, vnil, .int 0, vnil, .bool false, vnil]), (400, .vals [.fn 57 []]), (500, .vals ((encP q).map .d)), (600, .vals [.mp 2400]), (900, .vals ((encE (rdI c.edges i)).map .d)), (2400, mpK l)] ?_ ?_
     ·refine opsF [oL 118 5 34, oF 98 8 2 35, oL 3 35 36, ⟨.lookup 118 (.tmp 34) (.tmp 36) false, some 37, none⟩, ⟨.unOp .not 4 (.tmp 37), some 38, none⟩, oM 38 39, ⟨.load 118 (.tmp 5), some 40, some (some 39, true)⟩, ⟨.fieldAddr 98 (.tmp 8) 3, some 41, some (some 39, true)⟩, ⟨.load 3 (.tmp 41), some 42, some (some 39, true)⟩, ⟨.lookup 118 (.tmp 40) (.tmp 42) false, some 43, some (some 39, true)⟩, ⟨.pick (.tmp 39) (.tmp 43) (.const (.bool false)), some 44, none⟩, oA 44 9] fun K hK => ?_
      try simp
      repeat' first | ((first | refine evL_c ?_ | (refine evL_g rfl ?_; try simp only [gs_tt, gs_ff, gs_tf, gs_ft]) | refine evL_u rfl ?_ | (with_reducible refine gsplit (fun hg => ?_) (fun hg => ?_) <;> try simp at hg)) <;> try simp [hn, hk, hi1, hi2, hiN, hsr, hdr, hmd, *]) | (with_reducible first | apply aI | intro _ | assumption) | omega
      all_goals (apply Fin.go hK; clear hK K)
      all_goals
       rw [← hbk2]
       (try simp [hn, hk, hi1, hi2, hiN, hsr, hdr, hmd]) <;> (first | omega | (simp; done) | (rw [Bool.eq_iff_iff]; simp only [Bool.or_eq_true, Bool.and_eq_true, Bool.not_eq_true', decide_eq_true_eq, decide_eq_false_iff_not]; omega) | (simp_all; done) | grind)
     ·simp only [over, List.foldl, List.set]
      refine Run.cut [45, 46, 47, 48, 49, 50] [] [(200, .vals ((encC c).map .d)), (300, .vals [.int 0, vnil, .int 0, vnil, .bool false, vnil]), (400, .vals [.fn 57 []]), (500, .vals ((encP q1).map .d)), (600, .vals [.mp 2400]), (900, .vals ((encE (rdI c.edges i)).map .d)), (2400, mpK l1)] ?_ ?_
      ·apply Run.seq
       refine opsF [oM 9 45, ⟨.unOp .not 4 (.tmp 45), some 46, none⟩] fun K hK => ?_
       try simp
       repeat' first | (refine evL_c ?_; simp [hn, hk, hi1, hi2, hiN, hsr, hdr, hmd]) | (with_reducible first | apply aI | intro _ | assumption) | omega
       all_goals (apply Fin.go hK; clear hK K)
       simp only [tN]
       refine Run.cond rfl (fun h46 => ?_) (fun h46 => ?_)
       ·try simp at h46
        refine opsT [oM 6 47, oF 98 8 2 48, oL 3 48 49, ⟨.call { callee := .value (.tmp 47), args := #[.tmp 49], argTypes := #[3] }, some 50, none⟩] fun K hK => ?_
        try simp
        repeat' first | (refine ecallW [600, 2400, 500, 400] (by exact hJ) (by simp) (by simp) (okJ _ _ _ _ _) ?_) | (refine evL_c ?_; simp [hn, hk, hi1, hi2, hiN, hsr, hdr, hmd]) | (with_reducible first | apply aI | intro _ | assumption) | omega
        all_goals (apply Fin.go hK; clear hK K)
        first
         | (rw [h46] at hql; simp at hql; simp [hn, hk, hi1, hi2, hiN, hsr, hdr, hmd, hql]; done)
         | (simp [h46] at hql; obtain ⟨rfl, rfl⟩ := hql; simp [hn, hk, hi1, hi2, hiN, hsr, hdr, hmd]; done)
       ·try simp at h46
        apply Run.skip
        first
         | (rw [h46] at hql; simp at hql; simp [hn, hk, hi1, hi2, hiN, hsr, hdr, hmd, hql]; done)
         | (simp [h46] at hql; obtain ⟨rfl, rfl⟩ := hql; simp [hn, hk, hi1, hi2, hiN, hsr, hdr, hmd]; done)
      ·simp only [over, List.foldl, List.set]
       apply Run.seq
       refine opsF [⟨.assign (.const (.int .i64 2)), some 10, none⟩] fun K hK => ?_
       try simp
       repeat' first | (refine evL_c ?_; simp [hn, hk, hi1, hi2, hiN, hsr, hdr, hmd]) | (with_reducible first | apply aI | intro _ | assumption) | omega
       all_goals (apply Fin.go hK; clear hK K)
       simp only [tN]
       refine Run.cut [10, 51, 52, 53] [(10, .int (if mo = 0 then 2 else 3))] [(200, .vals ((encC c).map .d)), (300, .vals [.int 0, vnil, .int 0, vnil, .bool false, vnil]), (400, .vals [.fn 57 []]), (500, .vals ((encP q1).map .d)), (600, .vals [.mp 2400]), (900, .vals ((encE (rdI c.edges i)).map .d)), (2400, mpK l1)] ?_ ?_
       ·apply Run.seq
        refine opsF [oF 98 8 4 51, oL 96 51 52, oK .neq 96 52 0 96 53] fun K hK => ?_
        try simp
        repeat' first | (refine evL_c ?_; simp [hn, hk, hi1, hi2, hiN, hsr, hdr, hmd]) | (with_reducible first | apply aI | intro _ | assumption) | omega
        all_goals (apply Fin.go hK; clear hK K)
        simp only [tN]
        refine Run.cond rfl (fun h53 => ?_) (fun h53 => ?_)
        ·try simp at h53
         refine opsF [⟨.assign (.const (.int .i64 3)), some 10, none⟩] fun K hK => ?_
         try simp
         repeat' first | (refine evL_c ?_; simp [hn, hk, hi1, hi2, hiN, hsr, hdr, hmd]) | (with_reducible first | apply aI | intro _ | assumption) | omega
         all_goals (apply Fin.go hK; clear hK K)
         simp [h53, hn, hk, hi1, hi2, hiN, hsr, hdr, hmd]
        ·try simp at h53
         apply Run.skip
         simp [h53, hn, hk, hi1, hi2, hiN, hsr, hdr, hmd]
       ·simp only [over, List.foldl, List.set]
        apply Run.seq
        refine opsF [oM 10 54, oL 48 4 55, ⟨.buildSlice 45 1 #[(0, .tmp 55)], some 56, none⟩, oM 7 57, ⟨.buildSlice 46 1 #[(0, .tmp 57)], some 58, none⟩, oM 9 59, ⟨.build 48 #[(0, .tmp 54), (1, .tmp 56), (3, .tmp 58), (4, .tmp 59)], some 60, none⟩, oS 48 4 60] fun K hK => ?_
        try simp
        repeat' first | (refine evL_c ?_; simp [hn, hk, hi1, hi2, hiN, hsr, hdr, hmd]) | (with_reducible first | apply aI | intro _ | assumption) | omega
        all_goals (apply Fin.go hK; clear hK K)
        simp only [tN]
        refine Run.fra 5700 ?_
        simp [V.fra, V.fraL, fraS, frz]
        refine Run.fra 5900 ?_
        simp [V.fra, V.fraL, fraS, frz]
        refine Run.subB 500 5 (.d (.sl false [])) rfl rfl nil_sl ?_
        simp
        refine opsF [oL 118 5 61, oF 98 8 2 62, oL 3 62 63, oL 118 5 64, oF 98 8 3 65, oL 3 65 66, ⟨.mapUpdate 118 (.tmp 61) (.tmp 63) (.const (.bool true)), none, none⟩, ⟨.mapUpdate 118 (.tmp 64) (.tmp 66) (.const (.bool true)), none, none⟩] fun K hK => ?_
        try simp
        repeat' first | (refine evL_c ?_; simp [hn, hk, hi1, hi2, hiN, hsr, hdr, hmd]) | (with_reducible first | apply aI | intro _ | assumption) | omega
        all_goals (apply Fin.go hK; clear hK K)
        simp only [Blok_normal]
        simp only [tN]
        refine opsF [oK .add 3 29 1 3 67, oM 67 29] fun K hK => ?_
        try simp
        repeat' first | (refine evL_c ?_; simp [hn, hk, hi1, hi2, hiN, hsr, hdr, hmd]) | (with_reducible first | apply aI | intro _ | assumption) | omega
        all_goals (apply Fin.go hK; clear hK K)
        refine ⟨i + 1, by omega, by omega, ?_⟩
        first
         | (have hu2 : edgesN c (i + 1) = (stepQ c q1 i bk, trAdd (trAdd l1 src) dst) := by rw [hu, trEdge, hbk, hsr, hdr, hql]
            simp (disch := omega) [hn, hk, hu2, wrap_id, hmd]; done)
   ·try simp at h30
    have hi3 : i = k := by omega
    subst hi3
    refine Run.exit ?_
    simp (decide := true) only [Then_exit, Blok_exit, if_true, if_false]
    simp only [tN]
    apply Run.seq
    apply Run.seq
    refine opsF [oF 32 1 0 68, oL 26 68 69, oN 26 69 70, ⟨.move (.const (.int .i64 0)), some 71, none⟩] fun K hK => ?_
    try simp
    repeat' first | (refine evL_c ?_; simp [hn, hk]) | (with_reducible first | apply aI | intro _ | assumption) | omega
    all_goals (apply Fin.go hK; clear hK K)
    simp only [tN]
    apply Run.block
    refine Run.loopO [11, 71, 72, 73, 74, 75, 76, 77] (fun (i2 : Nat) => [(71, .int i2)]) (fun (i2 : Nat) => [(200, .vals ((encC c).map .d)), (300, .vals [.int 0, vnil, .int 0, vnil, .bool false, vnil]), (400, .vals [.fn 57 []]), (500, .vals ((encP (nodesN c i2).1).map .d)), (600, .vals [.mp 2400]), (2400, mpK (nodesN c i2).2)]) (fun (i2 : Nat) => i2 ≤ n) (fun (i2 : Nat) => n - i2) 0 (by omega) (by simp [nodesN, hq, hn, hk]) fun i2 hi2 => ?_
    simp only [over, List.foldl, List.set]
    have hu : nodesN c (i2 + 1) = trJoin (nodesN c i2) i2 := rfl
    obtain ⟨⟨q2, l2⟩, hq2⟩ : ∃ x, nodesN c i2 = x := ⟨_, rfl⟩
    rw [hq2] at hu ⊢
    have hJ2 := joinF_ok q2 l2 i2
    apply Run.seq
    refine opsF [oB .lss 3 71 70 3 72] fun K hK => ?_
    try simp
    repeat' first | (refine evL_c ?_; simp [hn, hk]) | (with_reducible first | apply aI | intro _ | assumption) | omega
    all_goals (apply Fin.go hK; clear hK K)
    simp only [tN]
    apply Run.seq
    refine Run.cond rfl (fun h72 => ?_) (fun h72 => ?_)
    ·try simp at h72
     have hj1 : i2 < n := by omega
     have hj2 : (i2 : Int) < n := by omega
     apply Run.skip
     simp only [tN]
     apply Run.seq
     apply Run.block
     apply Run.seq
     refine opsF [oM 71 73, oA 73 11] fun K hK => ?_
     try simp
     repeat' first | (refine evL_c ?_; simp [hn, hk, hj1, hj2]) | (with_reducible first | apply aI | intro _ | assumption) | omega
     all_goals (apply Fin.go hK; clear hK K)
     simp only [tN]
     refine opsT [oM 6 74, oM 11 75, ⟨.call { callee := .value (.tmp 74), args := #[.tmp 75], argTypes := #[3] }, some 76, none⟩] fun K hK => ?_
     try simp
     repeat' first | (refine ecallW [600, 2400, 500, 400] (by exact hJ2) (by simp) (by simp) (okJ _ _ _ _ _) ?_) | (refine evL_c ?_; simp [hn, hk, hj1, hj2]) | (with_reducible first | apply aI | intro _ | assumption) | omega
     all_goals (apply Fin.go hK; clear hK K)
     simp only [Blok_normal]
     simp only [tN]
     refine opsF [oK .add 3 71 1 3 77, oM 77 71] fun K hK => ?_
     try simp
     repeat' first | (refine evL_c ?_; simp [hn, hk, hj1, hj2]) | (with_reducible first | apply aI | intro _ | assumption) | omega
     all_goals (apply Fin.go hK; clear hK K)
     refine ⟨i2 + 1, by omega, by omega, ?_⟩
     first
      | (simp (disch := omega) [hn, hk, hu, wrap_id]; done)
    ·try simp at h72
     have hj3 : i2 = n := by omega
     subst hj3
     rw [hq2] at hP0
     have hP0 : q2 = P0 := hP0
     refine Run.exit ?_
     simp (decide := true) only [Then_exit, Blok_exit, if_true, if_false]
     simp only [tN]
     apply Run.seq
     apply Run.seq
     refine opsF [⟨.build 130 #[(0, .const (.bool true)), (1, .const (.bool false))], some 78, none⟩, ⟨.move (.const (.int .i64 0)), some 79, none⟩] fun K hK => ?_
     try simp
     repeat' first | (refine evL_c ?_; simp [hn, hk]) | (with_reducible first | apply aI | intro _ | assumption) | omega
     all_goals (apply Fin.go hK; clear hK K)
     simp only [tN]
     apply Run.block
     refine Run.loopO [13, 14, 16, 79, 80, 81, 82, 83, 84, 85, 86, 87, 88, 89, 90, 91, 92, 93, 94, 95, 96, 97, 98, 99, 100, 101, 102, 103, 104, 105] (fun (x : Nat) => [(79, .int x)]) (fun (x : Nat) => [(200, .vals ((encC c).map .d)), (300, .vals [.int 0, vnil, .int 0, vnil, .bool false, vnil]), (500, .vals ((encP (match x with | 0 => P0 | 1 => P1 | _ => P2)).map .d))]) (fun (x : Nat) => RX x) (fun (x : Nat) => 2 - x) 0 (Or.inl rfl) (by simp [hP0, hn, hk]) fun x hx => ?_
     rcases hx with rfl | rfl | rfl
     ·simp only [over, List.foldl, List.set]
      obtain ⟨bb, hbb⟩ : ∃ b, true = b := ⟨_, rfl⟩
      obtain ⟨pc, hpc⟩ : ∃ b, P0 = b := ⟨_, rfl⟩
      have hpn : P1 = filtO pc (c.wher.filter fun t => safeT t == bb) := by rw [← hpc, ← hbb]; exact hP1e
      rw [hpc]
      apply Run.seq
      refine opsF oo58 fun K hK => ?_
      try simp
      repeat' first | (refine evL_c ?_; simp [hn, hk]) | (with_reducible first | apply aI | intro _ | assumption) | omega
      all_goals (apply Fin.go hK; clear hK K)
      simp only [tN]
      apply Run.seq
      refine Run.cond rfl (fun h80 => ?_) (fun h80 => ?_)
      ·skip
       apply Run.skip
       simp only [tN]
       apply Run.seq
       apply Run.block
       refine Run.cut [13, 81] [(13, .bool bb)] [(200, .vals ((encC c).map .d)), (300, .vals [.int 0, vnil, .int 0, vnil, .bool false, vnil]), (500, .vals ((encP pc).map .d))] ?_ ?_
       ·refine opsF oo59 fun K hK => ?_
        try simp
        repeat' first | (refine evL_c ?_; simp [hn, hk]) | (with_reducible first | apply aI | intro _ | assumption) | omega
        all_goals (apply Fin.go hK; clear hK K)
        (try simp [← hbb, hn, hk]) <;> (first | omega | (simp; done) | (rw [Bool.eq_iff_iff]; simp only [Bool.or_eq_true, Bool.and_eq_true, Bool.not_eq_true', decide_eq_true_eq, decide_eq_false_iff_not]; omega) | (simp_all; done) | grind)
       ·simp only [over, List.foldl, List.set]
        apply Run.seq
        refine opsF oo60 fun K hK => ?_
        try simp
        repeat' first | (refine evL_c ?_; simp [hn, hk]) | (with_reducible first | apply aI | intro _ | assumption) | omega
        all_goals (apply Fin.go hK; clear hK K)
        simp only [tN]
        refine Run.vir 9700 9 (by omega) ?_
        simp
        refine Run.subV 14 (.rs 9700 9 0 0) rfl (nil_rs 9700 9) ?_
        simp
        apply Run.seq
        apply Run.seq
        refine opsF oo61 fun K hK => ?_
        try simp
        repeat' first | (refine evL_c ?_; simp [hn, hk]) | (with_reducible first | apply aI | intro _ | assumption) | omega
        all_goals (apply Fin.go hK; clear hK K)
        simp only [tN]
        apply Run.block
        refine Run.loopO [14, 16, 85, 86, 87, 88, 89, 90, 91, 92, 93, 94, 95, 96, 97] (fun (i3 : Nat) => [(85, .int i3), (14, .rs 9700 9 0 ((c.wher.take i3).filter fun t => safeT t == bb).length)]) (fun (i3 : Nat) => [(200, .vals ((encC c).map .d)), (300, .vals [.int 0, vnil, .int 0, vnil, .bool false, vnil]), (500, .vals ((encP pc).map .d)), (9700, .data 9 (((c.wher.take i3).filter fun t => safeT t == bb).map encT))]) (fun (i3 : Nat) => i3 ≤ m) (fun (i3 : Nat) => m - i3) 0 (by omega) (by simp [hn, hk]) fun i3 hi3 => ?_
        simp only [over, List.foldl, List.set]
        have hs1 : i3 < m → (c.wher.take (i3 + 1)).filter (fun t => safeT t == bb) = if (safeT (rdI c.wher i3) == bb) = true then (c.wher.take i3).filter (fun t => safeT t == bb) ++ [rdI c.wher i3] else (c.wher.take i3).filter (fun t => safeT t == bb) := fun h => by
         rw [take_rd (by omega), List.filter_append]; cases q : (safeT (rdI c.wher i3) == bb) <;> simp [q]
        have hsl : ((c.wher.take i3).filter fun t => safeT t == bb).length ≤ i3 := Nat.le_trans (List.length_filter_le _ _) (by simp; omega)
        have hfin : i3 = m → c.wher.filter (fun t => safeT t == bb) = (c.wher.take i3).filter (fun t => safeT t == bb) := fun h => by
         rw [show c.wher.take i3 = c.wher from List.take_of_length_le (by omega)]
        obtain ⟨fl, hfl⟩ : ∃ x, (c.wher.take i3).filter (fun t => safeT t == bb) = x := ⟨_, rfl⟩
        rw [hfl] at hs1 hsl hfin
        rw [hfl]
        obtain ⟨a, ha⟩ : ∃ x, fl.length = x := ⟨_, rfl⟩
        rw [ha] at hsl
        have hta : (fl.map encT).take a = fl.map encT := List.take_of_length_le (by simp [ha])
        apply Run.seq
        refine opsF oo62 fun K hK => ?_
        try simp
        repeat' first | (refine evL_c ?_; simp [hn, hk]) | (with_reducible first | apply aI | intro _ | assumption) | omega
        all_goals (apply Fin.go hK; clear hK K)
        simp only [tN]
        apply Run.seq
        refine Run.cond rfl (fun h86 => ?_) (fun h86 => ?_)
        ·try simp [hm] at h86
         have ht1 : i3 < m := by omega
         have ht2 : (i3 : Int) < m := by omega
         have ht3 : (0 : Int) ≤ i3 := by omega
         have hT := safe_ok (rdI c.wher i3)
         rw [encT_cells] at hT
         obtain ⟨st, hst⟩ : ∃ x, (safeT (rdI c.wher i3)) = x := ⟨_, rfl⟩
         rw [hst] at hT
         apply Run.skip
         simp only [tN]
         apply Run.seq
         apply Run.block
         refine Run.cut [16, 87, 88] [(16, .pt 1700 0 0 0)] [(200, .vals ((encC c).map .d)), (300, .vals [.int 0, vnil, .int 0, vnil, .bool false, vnil]), (500, .vals ((encP pc).map .d)), (1700, .vals ((encT (rdI c.wher i3)).map .d)), (9700, .data 9 (fl.map encT))] ?_ ?_
         ·refine opsF oo63 fun K hK => ?_
          try simp
          repeat' first | (refine evL_c ?_; simp [hn, hk, hm, ht1, ht2, ht3, ha, hta]) | (with_reducible first | apply aI | intro _ | assumption) | omega
          all_goals (apply Fin.go hK; clear hK K)
          (try simp [hm, hn, hk, ht1, ht2, ht3, ha, hta]) <;> (first | omega | (simp; done) | (rw [Bool.eq_iff_iff]; simp only [Bool.or_eq_true, Bool.and_eq_true, Bool.not_eq_true', decide_eq_true_eq, decide_eq_false_iff_not]; omega) | (simp_all; done) | grind)
         ·simp only [over, List.foldl, List.set]
          apply Run.seq
          refine opsF oo64 fun K hK => ?_
          try simp
          repeat' first | (refine ecallD (by exact hT) ?_) | (refine evL_c ?_; simp [hn, hk, hm, ht1, ht2, ht3, ha, hta]) | (with_reducible first | apply aI | intro _ | assumption) | omega
          all_goals (apply Fin.go hK; clear hK K)
          simp only [tN]
          refine Run.cond rfl (fun h92 => ?_) (fun h92 => ?_)
          ·try simp at h92
           refine opsF oo65 fun K hK => ?_
           try simp
           repeat' first | (refine evL_c ?_; simp [hn, hk, hm, ht1, ht2, ht3, ha, hta]) | (with_reducible first | apply aI | intro _ | assumption) | omega
           all_goals (apply Fin.go hK; clear hK K)
           simp only [Blok_normal]
           simp only [tN]
           refine opsF oo66 fun K hK => ?_
           try simp
           repeat' first | (refine evL_c ?_; simp [hn, hk, hm, ht1, ht2, ht3, ha, hta]) | (with_reducible first | apply aI | intro _ | assumption) | omega
           all_goals (apply Fin.go hK; clear hK K)
           refine ⟨i3 + 1, by omega, by omega, ?_⟩
           first
            | (have hs1 := hs1 ht1; rw [if_pos (by rw [hst]; simpa using h92)] at hs1; simp (disch := omega) [hm, hn, hk, ha, hta, hs1, hfl, wrap_id]; done)
            | (have hs1 := hs1 ht1; rw [if_neg (by rw [hst]; simpa using h92)] at hs1; simp (disch := omega) [hm, hn, hk, ha, hta, hs1, hfl, wrap_id]; done)
          ·try simp at h92
           apply Run.skip
           simp only [Blok_normal]
           simp only [tN]
           refine opsF oo66 fun K hK => ?_
           try simp
           repeat' first | (refine evL_c ?_; simp [hn, hk, hm, ht1, ht2, ht3, ha, hta]) | (with_reducible first | apply aI | intro _ | assumption) | omega
           all_goals (apply Fin.go hK; clear hK K)
           refine ⟨i3 + 1, by omega, by omega, ?_⟩
           first
            | (have hs1 := hs1 ht1; rw [if_pos (by rw [hst]; simpa using h92)] at hs1; simp (disch := omega) [hm, hn, hk, ha, hta, hs1, hfl, wrap_id]; done)
            | (have hs1 := hs1 ht1; rw [if_neg (by rw [hst]; simpa using h92)] at hs1; simp (disch := omega) [hm, hn, hk, ha, hta, hs1, hfl, wrap_id]; done)
        ·try simp [hm] at h86
         have hfin := hfin (by omega)
         refine Run.exit ?_
         simp (decide := true) only [Then_exit, Blok_exit, if_true, if_false]
         simp only [tN]
         apply Run.seq
         refine opsF oo67 fun K hK => ?_
         try simp
         repeat' first | (refine evL_c ?_; simp [hn, hk, hm, ha]) | (with_reducible first | apply aI | intro _ | assumption) | omega
         all_goals (apply Fin.go hK; clear hK K)
         simp only [tN]
         refine Run.cond rfl (fun h100 => ?_) (fun h100 => ?_)
         ·try simp at h100
          refine opsF oo68 fun K hK => ?_
          try simp
          repeat' first | (refine evL_c ?_; simp [hn, hk, hm, ha]) | (with_reducible first | apply aI | intro _ | assumption) | omega
          all_goals (apply Fin.go hK; clear hK K)
          simp only [Blok_normal]
          simp only [tN]
          refine Run.fra 10300 ?_
          simp [V.fra, V.fraL, fraS, frz]
          refine Run.fra 9700 ?_
          simp [V.fra, V.fraL, fraS, frz, hta]
          try (refine Run.subB 500 3 (.d (.sl false [])) rfl rfl nil_sl ?_; simp)
          refine opsF oo69 fun K hK => ?_
          try simp
          repeat' first | (refine evL_c ?_; simp [hn, hk, hm, ha]) | (with_reducible first | apply aI | intro _ | assumption) | omega
          all_goals (apply Fin.go hK; clear hK K)
          refine ⟨1, Or.inr (Or.inl rfl), by omega, ?_⟩
          first
           | (have e : P1 = filtQ pc fl := by rw [hpn, hfin, filtO, if_neg (by omega)]
              simp (disch := omega) [wrap_id, e, ha, hta]; done)
           | (have e : P1 = pc := by rw [hpn, hfin, filtO, if_pos (by omega)]
              simp (disch := omega) [wrap_id, e]; done)
         ·try simp at h100
          apply Run.skip
          simp only [Blok_normal]
          simp only [tN]
          refine Run.fra 10300 ?_
          simp [V.fra, V.fraL, fraS, frz]
          refine Run.fra 9700 ?_
          simp [V.fra, V.fraL, fraS, frz, hta]
          try (refine Run.subB 500 3 (.d (.sl false [])) rfl rfl nil_sl ?_; simp)
          refine opsF oo69 fun K hK => ?_
          try simp
          repeat' first | (refine evL_c ?_; simp [hn, hk, hm, ha]) | (with_reducible first | apply aI | intro _ | assumption) | omega
          all_goals (apply Fin.go hK; clear hK K)
          refine ⟨1, Or.inr (Or.inl rfl), by omega, ?_⟩
          first
           | (have e : P1 = filtQ pc fl := by rw [hpn, hfin, filtO, if_neg (by omega)]
              simp (disch := omega) [wrap_id, e, ha, hta]; done)
           | (have e : P1 = pc := by rw [hpn, hfin, filtO, if_pos (by omega)]
              simp (disch := omega) [wrap_id, e]; done)
      ·simp at h80
     ·simp only [over, List.foldl, List.set]
      obtain ⟨bb, hbb⟩ : ∃ b, false = b := ⟨_, rfl⟩
      obtain ⟨pc, hpc⟩ : ∃ b, P1 = b := ⟨_, rfl⟩
      have hpn : P2 = filtO pc (c.wher.filter fun t => safeT t == bb) := by rw [← hpc, ← hbb]; exact hP2e
      rw [hpc]
      apply Run.seq
      refine opsF oo58 fun K hK => ?_
      try simp
      repeat' first | (refine evL_c ?_; simp [hn, hk]) | (with_reducible first | apply aI | intro _ | assumption) | omega
      all_goals (apply Fin.go hK; clear hK K)
      simp only [tN]
      apply Run.seq
      refine Run.cond rfl (fun h80 => ?_) (fun h80 => ?_)
      ·skip
       apply Run.skip
       simp only [tN]
       apply Run.seq
       apply Run.block
       refine Run.cut [13, 81] [(13, .bool bb)] [(200, .vals ((encC c).map .d)), (300, .vals [.int 0, vnil, .int 0, vnil, .bool false, vnil]), (500, .vals ((encP pc).map .d))] ?_ ?_
       ·refine opsF oo59 fun K hK => ?_
        try simp
        repeat' first | (refine evL_c ?_; simp [hn, hk]) | (with_reducible first | apply aI | intro _ | assumption) | omega
        all_goals (apply Fin.go hK; clear hK K)
        (try simp [← hbb, hn, hk]) <;> (first | omega | (simp; done) | (rw [Bool.eq_iff_iff]; simp only [Bool.or_eq_true, Bool.and_eq_true, Bool.not_eq_true', decide_eq_true_eq, decide_eq_false_iff_not]; omega) | (simp_all; done) | grind)
       ·simp only [over, List.foldl, List.set]
        apply Run.seq
        refine opsF oo60 fun K hK => ?_
        try simp
        repeat' first | (refine evL_c ?_; simp [hn, hk]) | (with_reducible first | apply aI | intro _ | assumption) | omega
        all_goals (apply Fin.go hK; clear hK K)
        simp only [tN]
        refine Run.vir 9700 9 (by omega) ?_
        simp
        refine Run.subV 14 (.rs 9700 9 0 0) rfl (nil_rs 9700 9) ?_
        simp
        apply Run.seq
        apply Run.seq
        refine opsF oo61 fun K hK => ?_
        try simp
        repeat' first | (refine evL_c ?_; simp [hn, hk]) | (with_reducible first | apply aI | intro _ | assumption) | omega
        all_goals (apply Fin.go hK; clear hK K)
        simp only [tN]
        apply Run.block
        refine Run.loopO [14, 16, 85, 86, 87, 88, 89, 90, 91, 92, 93, 94, 95, 96, 97] (fun (i3 : Nat) => [(85, .int i3), (14, .rs 9700 9 0 ((c.wher.take i3).filter fun t => safeT t == bb).length)]) (fun (i3 : Nat) => [(200, .vals ((encC c).map .d)), (300, .vals [.int 0, vnil, .int 0, vnil, .bool false, vnil]), (500, .vals ((encP pc).map .d)), (9700, .data 9 (((c.wher.take i3).filter fun t => safeT t == bb).map encT))]) (fun (i3 : Nat) => i3 ≤ m) (fun (i3 : Nat) => m - i3) 0 (by omega) (by simp [hn, hk]) fun i3 hi3 => ?_
        simp only [over, List.foldl, List.set]
        have hs1 : i3 < m → (c.wher.take (i3 + 1)).filter (fun t => safeT t == bb) = if (safeT (rdI c.wher i3) == bb) = true then (c.wher.take i3).filter (fun t => safeT t == bb) ++ [rdI c.wher i3] else (c.wher.take i3).filter (fun t => safeT t == bb) := fun h => by
         rw [take_rd (by omega), List.filter_append]; cases q : (safeT (rdI c.wher i3) == bb) <;> simp [q]
        have hsl : ((c.wher.take i3).filter fun t => safeT t == bb).length ≤ i3 := Nat.le_trans (List.length_filter_le _ _) (by simp; omega)
        have hfin : i3 = m → c.wher.filter (fun t => safeT t == bb) = (c.wher.take i3).filter (fun t => safeT t == bb) := fun h => by
         rw [show c.wher.take i3 = c.wher from List.take_of_length_le (by omega)]
        obtain ⟨fl, hfl⟩ : ∃ x, (c.wher.take i3).filter (fun t => safeT t == bb) = x := ⟨_, rfl⟩
        rw [hfl] at hs1 hsl hfin
        rw [hfl]
        obtain ⟨a, ha⟩ : ∃ x, fl.length = x := ⟨_, rfl⟩
        rw [ha] at hsl
        have hta : (fl.map encT).take a = fl.map encT := List.take_of_length_le (by simp [ha])
        apply Run.seq
        refine opsF oo62 fun K hK => ?_
        try simp
        repeat' first | (refine evL_c ?_; simp [hn, hk]) | (with_reducible first | apply aI | intro _ | assumption) | omega
        all_goals (apply Fin.go hK; clear hK K)
        simp only [tN]
        apply Run.seq
        refine Run.cond rfl (fun h86 => ?_) (fun h86 => ?_)
        ·try simp [hm] at h86
         have ht1 : i3 < m := by omega
         have ht2 : (i3 : Int) < m := by omega
         have ht3 : (0 : Int) ≤ i3 := by omega
         have hT := safe_ok (rdI c.wher i3)
         rw [encT_cells] at hT
         obtain ⟨st, hst⟩ : ∃ x, (safeT (rdI c.wher i3)) = x := ⟨_, rfl⟩
         rw [hst] at hT
         apply Run.skip
         simp only [tN]
         apply Run.seq
         apply Run.block
         refine Run.cut [16, 87, 88] [(16, .pt 1700 0 0 0)] [(200, .vals ((encC c).map .d)), (300, .vals [.int 0, vnil, .int 0, vnil, .bool false, vnil]), (500, .vals ((encP pc).map .d)), (1700, .vals ((encT (rdI c.wher i3)).map .d)), (9700, .data 9 (fl.map encT))] ?_ ?_
         ·refine opsF oo63 fun K hK => ?_
          try simp
          repeat' first | (refine evL_c ?_; simp [hn, hk, hm, ht1, ht2, ht3, ha, hta]) | (with_reducible first | apply aI | intro _ | assumption) | omega
          all_goals (apply Fin.go hK; clear hK K)
          (try simp [hm, hn, hk, ht1, ht2, ht3, ha, hta]) <;> (first | omega | (simp; done) | (rw [Bool.eq_iff_iff]; simp only [Bool.or_eq_true, Bool.and_eq_true, Bool.not_eq_true', decide_eq_true_eq, decide_eq_false_iff_not]; omega) | (simp_all; done) | grind)
         ·simp only [over, List.foldl, List.set]
          apply Run.seq
          refine opsF oo64 fun K hK => ?_
          try simp
          repeat' first | (refine ecallD (by exact hT) ?_) | (refine evL_c ?_; simp [hn, hk, hm, ht1, ht2, ht3, ha, hta]) | (with_reducible first | apply aI | intro _ | assumption) | omega
          all_goals (apply Fin.go hK; clear hK K)
          simp only [tN]
          refine Run.cond rfl (fun h92 => ?_) (fun h92 => ?_)
          ·try simp at h92
           refine opsF oo65 fun K hK => ?_
           try simp
           repeat' first | (refine evL_c ?_; simp [hn, hk, hm, ht1, ht2, ht3, ha, hta]) | (with_reducible first | apply aI | intro _ | assumption) | omega
           all_goals (apply Fin.go hK; clear hK K)
           simp only [Blok_normal]
           simp only [tN]
           refine opsF oo66 fun K hK => ?_
           try simp
           repeat' first | (refine evL_c ?_; simp [hn, hk, hm, ht1, ht2, ht3, ha, hta]) | (with_reducible first | apply aI | intro _ | assumption) | omega
           all_goals (apply Fin.go hK; clear hK K)
           refine ⟨i3 + 1, by omega, by omega, ?_⟩
           first
            | (have hs1 := hs1 ht1; rw [if_pos (by rw [hst]; simpa using h92)] at hs1; simp (disch := omega) [hm, hn, hk, ha, hta, hs1, hfl, wrap_id]; done)
            | (have hs1 := hs1 ht1; rw [if_neg (by rw [hst]; simpa using h92)] at hs1; simp (disch := omega) [hm, hn, hk, ha, hta, hs1, hfl, wrap_id]; done)
          ·try simp at h92
           apply Run.skip
           simp only [Blok_normal]
           simp only [tN]
           refine opsF oo66 fun K hK => ?_
           try simp
           repeat' first | (refine evL_c ?_; simp [hn, hk, hm, ht1, ht2, ht3, ha, hta]) | (with_reducible first | apply aI | intro _ | assumption) | omega
           all_goals (apply Fin.go hK; clear hK K)
           refine ⟨i3 + 1, by omega, by omega, ?_⟩
           first
            | (have hs1 := hs1 ht1; rw [if_pos (by rw [hst]; simpa using h92)] at hs1; simp (disch := omega) [hm, hn, hk, ha, hta, hs1, hfl, wrap_id]; done)
            | (have hs1 := hs1 ht1; rw [if_neg (by rw [hst]; simpa using h92)] at hs1; simp (disch := omega) [hm, hn, hk, ha, hta, hs1, hfl, wrap_id]; done)
        ·try simp [hm] at h86
         have hfin := hfin (by omega)
         refine Run.exit ?_
         simp (decide := true) only [Then_exit, Blok_exit, if_true, if_false]
         simp only [tN]
         apply Run.seq
         refine opsF oo67 fun K hK => ?_
         try simp
         repeat' first | (refine evL_c ?_; simp [hn, hk, hm, ha]) | (with_reducible first | apply aI | intro _ | assumption) | omega
         all_goals (apply Fin.go hK; clear hK K)
         simp only [tN]
         refine Run.cond rfl (fun h100 => ?_) (fun h100 => ?_)
         ·try simp at h100
          refine opsF oo68 fun K hK => ?_
          try simp
          repeat' first | (refine evL_c ?_; simp [hn, hk, hm, ha]) | (with_reducible first | apply aI | intro _ | assumption) | omega
          all_goals (apply Fin.go hK; clear hK K)
          simp only [Blok_normal]
          simp only [tN]
          refine Run.fra 10300 ?_
          simp [V.fra, V.fraL, fraS, frz]
          refine Run.fra 9700 ?_
          simp [V.fra, V.fraL, fraS, frz, hta]
          try (refine Run.subB 500 3 (.d (.sl false [])) rfl rfl nil_sl ?_; simp)
          refine opsF oo69 fun K hK => ?_
          try simp
          repeat' first | (refine evL_c ?_; simp [hn, hk, hm, ha]) | (with_reducible first | apply aI | intro _ | assumption) | omega
          all_goals (apply Fin.go hK; clear hK K)
          refine ⟨2, Or.inr (Or.inr rfl), by omega, ?_⟩
          first
           | (have e : P2 = filtQ pc fl := by rw [hpn, hfin, filtO, if_neg (by omega)]
              simp (disch := omega) [wrap_id, e, ha, hta]; done)
           | (have e : P2 = pc := by rw [hpn, hfin, filtO, if_pos (by omega)]
              simp (disch := omega) [wrap_id, e]; done)
         ·try simp at h100
          apply Run.skip
          simp only [Blok_normal]
          simp only [tN]
          refine Run.fra 10300 ?_
          simp [V.fra, V.fraL, fraS, frz]
          refine Run.fra 9700 ?_
          simp [V.fra, V.fraL, fraS, frz, hta]
          try (refine Run.subB 500 3 (.d (.sl false [])) rfl rfl nil_sl ?_; simp)
          refine opsF oo69 fun K hK => ?_
          try simp
          repeat' first | (refine evL_c ?_; simp [hn, hk, hm, ha]) | (with_reducible first | apply aI | intro _ | assumption) | omega
          all_goals (apply Fin.go hK; clear hK K)
          refine ⟨2, Or.inr (Or.inr rfl), by omega, ?_⟩
          first
           | (have e : P2 = filtQ pc fl := by rw [hpn, hfin, filtO, if_neg (by omega)]
              simp (disch := omega) [wrap_id, e, ha, hta]; done)
           | (have e : P2 = pc := by rw [hpn, hfin, filtO, if_pos (by omega)]
              simp (disch := omega) [wrap_id, e]; done)
      ·simp at h80
     ·simp only [over, List.foldl, List.set]
      apply Run.seq
      refine opsF oo58 fun K hK => ?_
      try simp
      repeat' first | (refine evL_c ?_; simp [hn, hk]) | (with_reducible first | apply aI | intro _ | assumption) | omega
      all_goals (apply Fin.go hK; clear hK K)
      simp only [tN]
      apply Run.seq
      refine Run.cond rfl (fun h80 => ?_) (fun h80 => ?_)
      ·simp at h80
      ·skip
       refine Run.exit ?_
       simp (decide := true) only [Then_exit, Blok_exit, if_true, if_false]
       simp only [tN]
       apply Run.seq
       refine opsF [oL 48 4 106, oS 48 2 106] fun K hK => ?_
       try simp
       repeat' first | (refine evL_c ?_; simp [hn, hk]) | (with_reducible first | apply aI | intro _ | assumption) | omega
       all_goals (apply Fin.go hK; clear hK K)
       simp only [tN]
       apply Run.ret
       try simp only [Then_ret, Blok_ret]
       simp
theorem trans_ok (c : CoreT) (hw : c.wher.length ≤ 1100000) : Snd P 36 [.d (.ag (encC c))] (.d (.ag (encP (transS c)))) [] := by
 unfold transS
 cases hP : patS c.nodes c.edges with
 | false => exact transN_ok c hP
 | true => exact transA_ok c hP hw
end Go.Proofs.Ytimgbdkgjfbhkaa.Z
end
section
namespace Go.Proofs.Ytimgbdkgjfbhkaa.Z
open Go Go.Fw
attribute [-simp] lookV updV Blk.fgt Blk.ren Blk.men Blk.fin lost
theorem litV_agg (l : List Value) : litV (.agg l.toArray) = if oneCells l then .d (.ag (litsD l)) else .d (.lit (.agg l.toArray)) := rfl
theorem litV_int (k : IntKind) (n : Int) : litV (.int k n) = if okLit (.int k n) then .d (.lit (.int k n)) else .top := rfl
theorem litV_str (s : ByteArray) : litV (.string s) = if okLit (.string s) then .d (.lit (.string s)) else .top := rfl
theorem litV_bool (b : Bool) : litV (.bool b) = .d (.lit (.bool b)) := rfl
theorem litV_slice (a : Option Addr) (n m : Nat) : litV (.slice a n m) = .d (.lit (.slice a n m)) := rfl
theorem litV_tup (l : Array Value) : litV (.tuple l) = .d (.lit (.tuple l)) := rfl
attribute [-simp] litV
attribute [local simp] litV_agg litV_int litV_str litV_bool litV_slice litV_tup
theorem wL_len : ∀ l : List StepR, l.length ≤ wL l
 | [] => Nat.le_refl _
 | s :: r => by have := wL_len r; simp only [wL, wS, List.length_cons]; omega
theorem wP_len : ∀ l : List PipeR, l.length ≤ wP l
 | [] => Nat.le_refl _
 | s :: r => by have := wP_len r; simp only [wP, List.length_cons]; omega
theorem good_iff {a : Prop} [Decidable a] {b : Bool} : (!decide a || !b) = true ↔ (¬ a ∨ ¬ b = true) := by cases b <;> simp
theorem stepsS_no {c : CoreT} {tabs : List (List Int)} {ps : List PlanT} {i : Int} {l l2 : List Int} {p : PlanT} {o : Option PlanT} {s : StepR} {r : List StepR} (h : stepS c tabs ps i l p s = (o, l2)) (hb : (o.isSome && (bndT c (overQ p (o, l2))).isSome) = false) : stepsS c tabs ps i l p (s :: r) = (none, l2) := by
 rw [stepsS, h]
 cases o with
 | none => rfl
 | some q =>
   have hb : (bndT c q).isSome = false := by simpa only [overQ, Option.isSome_some, Bool.true_and, Option.getD_some] using hb
   simp only [hb, Bool.false_eq_true, if_false]
theorem stepsS_yes {c : CoreT} {tabs : List (List Int)} {ps : List PlanT} {i : Int} {l l2 : List Int} {p : PlanT} {o : Option PlanT} {s : StepR} {r : List StepR} (h : stepS c tabs ps i l p s = (o, l2)) (hb : (o.isSome && (bndT c (overQ p (o, l2))).isSome) = true) : stepsS c tabs ps i l p (s :: r) = stepsS c tabs ps i l2 (overQ p (o, l2)) r := by
 rw [stepsS, h]
 cases o with
 | none => simp at hb
 | some q =>
   have hb : (bndT c q).isSome = true := by simpa only [overQ, Option.isSome_some, Bool.true_and, Option.getD_some] using hb
   simp only [hb, if_true, overQ, Option.getD_some]
theorem pipesS_bad {c : CoreT} {tabs : List (List Int)} {ps : List PlanT} {l : List Int} {x : PipeR} {r : List PipeR} {i : Nat} (hi : ps.length = i) (h : (!decide (x.sink = sinkS tabs i) || !(bndT c (scanT x.scan)).isSome) = true) : pipesS c tabs ps l (x :: r) = (ps, l, false) := by
 rw [pipesS, pipeS, hi, if_pos (good_iff.1 h)]
theorem pipesS_stop {c : CoreT} {tabs : List (List Int)} {ps : List PlanT} {l l2 : List Int} {x : PipeR} {r : List PipeR} {i : Nat} (hi : ps.length = i) (h : (!decide (x.sink = sinkS tabs i) || !(bndT c (scanT x.scan)).isSome) = false) (hs : stepsS c tabs ps i l (scanT x.scan) x.steps = (none, l2)) : pipesS c tabs ps l (x :: r) = (ps, l2, false) := by
 rw [pipesS, pipeS, hi, if_neg (fun e => by rw [good_iff.2 e] at h; cases h), hs]
theorem pipesS_go {c : CoreT} {tabs : List (List Int)} {ps : List PlanT} {l l2 : List Int} {x : PipeR} {r : List PipeR} {i : Nat} {q : PlanT} (hi : ps.length = i) (h : (!decide (x.sink = sinkS tabs i) || !(bndT c (scanT x.scan)).isSome) = false) (hs : stepsS c tabs ps i l (scanT x.scan) x.steps = (some q, l2)) : pipesS c tabs ps l (x :: r) = pipesS c tabs (ps ++ [q]) l2 r := by
 rw [pipesS, pipeS, hi, if_neg (fun e => by rw [good_iff.2 e] at h; cases h), hs]
theorem pipesS_len {c : CoreT} {tabs : List (List Int)} : ∀ (r : List PipeR) (ps : List PlanT) (l : List Int), (if (pipesS c tabs ps l r).2.2 then (pipesS c tabs ps l r).1.length = ps.length + r.length else (pipesS c tabs ps l r).1.length < ps.length + r.length)
 | [], ps, l => by simp [pipesS]
 | x :: r, ps, l => by
   rw [pipesS]
   rcases pipeS c tabs ps l x with ⟨o, l'⟩
   cases o with
   | none => simp
   | some q =>
     have := pipesS_len (c := c) (tabs := tabs) r (ps ++ [q]) l'
     simp only [List.length_append, List.length_cons, List.length_nil] at this ⊢
     split at this <;> rename_i e <;> simp only [e, if_true, if_false, Bool.false_eq_true] <;> omega
theorem pipesS_all {c : CoreT} {tabs : List (List Int)} {r : List PipeR} {R1 : List PlanT} {R2 : List Int} {R3 : Bool} (h : pipesS c tabs [] [] r = (R1, R2, R3)) : decide (R1.length = r.length) = R3 := by
 have := pipesS_len (c := c) (tabs := tabs) r [] []
 rw [h] at this
 cases R3 <;> simp at this ⊢ <;> omega
theorem overQ_parts {c : CoreT} {tabs : List (List Int)} {ps : List PlanT} {i : Int} {l l2 : List Int} {p : PlanT} {o : Option PlanT} {s : StepR} (hi : i ≤ ps.length) (h : stepS c tabs ps i l p s = (o, l2)) (w : Nat) (hw : partsP p + tot 0 ps l + wS s + w ≤ 1100000) : partsP (overQ p (o, l2)) ≤ 1100000 ∧ (o.isSome = true → partsP (overQ p (o, l2)) + tot 0 ps l2 + w ≤ 1100000) := by
 cases o with
 | none => exact ⟨by simp only [overQ, Option.getD_none]; omega, by simp⟩
 | some q => have := stepS_parts hi h; simp only [overQ, Option.getD_some]; exact ⟨by omega, fun _ => by omega⟩
theorem okO (c : CoreT) (tb pp : D) (np : Nat) (rows : List (List D)) (l l' : List Int) (a b : List D) (n : Int) (y : Bool) {x : D} : okW [0, 9500, 1] [(0, .vals ((encC c).map .d ++ [.d tb, .d pp, .rs 1 6 0 np, .mp 2])), (1, .data 6 rows), (2, mpK l)] [.pt 0 0 0 0, .d (.ag a), .d (.ag b), .int n] (.tup [.d x, .bool y]) [(0, .vals ((encC c).map .d ++ [.d tb, .d pp, .rs 1 6 0 np, .mp 2])), (1, .data 6 rows), (2, mpK l')] = true := by
 have e : List.range 3 = [0, 1, 2] := rfl
 simp [okW, badId, e, V.menL, V.men, getB]
theorem okL (c : CoreT) (tb pp : D) (np : Nat) (rows : List (List D)) (l : List Int) (a : List D) {x : D} : okW [0, 9500, 1, 200] [(0, .vals ((encC c).map .d ++ [.d tb, .d pp, .rs 1 6 0 np, .mp 2])), (1, .data 6 rows), (2, mpK l), (3, .vals [.pt 0 0 0 0])] [.d (.ag a), .pt 3 0 0 0] (.d x) [(0, .vals ((encC c).map .d ++ [.d tb, .d pp, .rs 1 6 0 np, .mp 2])), (1, .data 6 rows), (2, mpK l), (3, .vals [.pt 0 0 0 0])] = true := by
 have e : List.range 4 = [0, 1, 2, 3] := rfl
 simp [okW, badId, e, V.menL, V.men, getB]
set_option maxHeartbeats 16000000 in
theorem look_ok (c : CoreT) (hP : patS c.nodes c.edges = true) (tabs : List (List Int)) (pipes : List PipeR) (hlen : pipes.length = tabs.length + 1) (hw0 : wP pipes ≤ 1100000) (R1 : List PlanT) (R2 : List Int) (R3 : Bool) (hR : pipesS c tabs [] [] pipes = (R1, R2, R3)) : SndW P 45 [.pt 0 0 0 0] [(0, .vals ((encC c).map .d ++ [.d (encTa tabs), .d (.sl false (pipes.map encPi)), vnil, .mp 1])), (1, mpK [])] (.tup [.int (if R3 then (tabs.length : Int) else R1.length), .bool R3]) [(0, .vals ((encC c).map .d ++ [.d (encTa tabs), .d (.sl false (pipes.map encPi)), .rs 2 6 0 R1.length, .mp 1])), (1, mpK R2), (2, .data 6 (R1.map encP))] := by
 obtain ⟨n, hn⟩ : ∃ z, pipes.length = z := ⟨_, rfl⟩
 obtain ⟨nt, hnt⟩ : ∃ z, tabs.length = z := ⟨_, rfl⟩
 have hn1 := wP_len pipes
 rw [hn] at hn1 hlen
 rw [hnt] at hlen
 have hR3 := pipesS_all hR
 obtain ⟨r1, hr1⟩ : ∃ z, R1.length = z := ⟨_, rfl⟩
 rw [hr1, hn] at hR3
 have hR4 : decide ((r1 : Int) = (n : Int)) = R3 := by rw [← hR3]; exact decide_eq_decide.2 (by omega)
 rw [hr1, hnt]
 refine sndW_of [0, 1, 9500] Try.func45 rfl (by kernel_rfl) Try.ntmps45 (by simp) (by simp) ?_
 unfold Try.f45
 simp only [List.cons_append, List.nil_append, List.length_cons, List.length_nil, Nat.reduceAdd, Nat.reduceSub, List.replicate]
 apply Run.seq
 refine opsF [⟨.box 117 (.tmp 0), some 1, none⟩, ⟨.assign (.const (.int .i64 0)), some 2, none⟩, ⟨.assign (.const (.bool false)), some 3, none⟩] fun K hK => ?_
 try simp
 repeat' first | (refine evL_c ?_; simp [hn, hnt]) | (with_reducible first | apply aI | intro _ | assumption) | omega
 all_goals (apply Fin.go hK; clear hK K)
 simp only [tN]
 refine Run.scope 0 _ rfl ?_
 apply Run.seq
 refine opsF [⟨.makeFunc (Fn.func 80) #[] #[.tmp 1], some 14, none⟩, oA 14 4] fun K hK => ?_
 try simp
 repeat' first | (refine evL_c ?_; simp [hn, hnt]) | (with_reducible first | apply aI | intro _ | assumption) | omega
 all_goals (apply Fin.go hK; clear hK K)
 simp only [tN]
 apply Run.seq
 refine opsF oo70 fun K hK => ?_
 try simp
 repeat' first | (refine evL_c ?_; simp [hn, hnt]) | (with_reducible first | apply aI | intro _ | assumption) | omega
 all_goals (apply Fin.go hK; clear hK K)
 simp only [tN]
 apply Run.seq
 refine Run.label ?_
 simp only [tN]
 refine Run.cut [5, 6, 7, 8, 9, 11, 12, 13, 15, 16, 17, 18, 19, 20, 21, 22, 23, 24, 25, 26, 27, 28, 29, 30, 31, 32, 33, 34, 35, 36, 37, 38, 39, 40, 41, 42, 43, 44, 45, 46, 47, 48, 49, 50, 51, 52, 53, 54, 55, 56, 57, 58, 59, 60, 61, 62, 63, 64, 65, 66, 67, 68, 69, 70, 71, 72, 73, 74, 75, 76, 77, 78, 79, 80, 81, 82, 83, 84, 85, 86, 87, 88, 89, 90, 91, 92, 93, 94, 95, 96, 97] [(5, .int (if R3 then (nt : Int) else r1))] [(0, .vals ((encC c).map .d ++ [.d (encTa tabs), .d (.sl false (pipes.map encPi)), .rs 9500 6 0 r1, .mp 1])), (1, mpK R2), (200, .vals [.pt 0 0 0 0]), (9500, .data 6 (R1.map encP))] ?_ ?_
 ·apply Run.seq
  refine opsF [oL 117 1 15, oV 15 16, oF 120 16 1 17, oF 25 17 1 18, oL 23 18 19, oN 23 19 20, ⟨.move (.const (.int .i64 0)), some 21, none⟩] fun K hK => ?_
  try simp
  repeat' first | (refine evL_c ?_; simp [hn, hnt]) | (with_reducible first | apply aI | intro _ | assumption) | omega
  all_goals (apply Fin.go hK; clear hK K)
  simp only [tN]
  refine Run.vir 9500 6 (by omega) ?_
  simp
  refine Run.subB 0 9 (.rs 9500 6 0 0) rfl rfl (nil_rs 9500 6) ?_
  simp
  apply Run.block
  refine Run.loopO [5, 6, 7, 8, 9, 11, 12, 13, 21, 22, 23, 24, 25, 26, 27, 28, 29, 30, 31, 32, 33, 34, 35, 36, 37, 38, 39, 40, 41, 42, 43, 44, 45, 46, 47, 48, 49, 50, 51, 52, 53, 54, 55, 56, 57, 58, 59, 60, 61, 62, 63, 64, 65, 66, 67, 68, 69, 70, 71, 72, 73, 74, 75, 76, 77, 78, 79, 80, 81, 82, 83, 84, 85, 86, 87, 88, 89, 90, 91, 92, 93, 94, 95, 96, 97] (fun (x : Nat × List PlanT × List Int) => [(21, .int x.1), (5, .int (x.1 - 1 : Nat))]) (fun (x : Nat × List PlanT × List Int) => [(0, .vals ((encC c).map .d ++ [.d (encTa tabs), .d (.sl false (pipes.map encPi)), .rs 9500 6 0 x.1, .mp 1])), (1, mpK x.2.2), (200, .vals [.pt 0 0 0 0]), (9500, .data 6 (x.2.1.map encP))]) (fun (x : Nat × List PlanT × List Int) => x.1 ≤ n ∧ x.2.1.length = x.1 ∧ (∀ q ∈ x.2.1, (bndT c q).isSome = true) ∧ tot 0 x.2.1 x.2.2 + wP (pipes.drop x.1) ≤ 1100000 ∧ pipesS c tabs x.2.1 x.2.2 (pipes.drop x.1) = (R1, R2, R3)) (fun (x : Nat × List PlanT × List Int) => n - x.1) (0, [], []) ⟨by omega, rfl, by simp, by simpa [tot] using hw0, hR⟩ (by simp) fun ⟨i, ps, l⟩ ⟨hi, hps, hq, hw, hz⟩ => ?_
  simp only [over, List.foldl, List.set]
  simp only at hi hps hq hw hz
  have hta : (ps.map encP).take i = ps.map encP := List.take_of_length_le (by simp [hps])
  have hset : ∀ z y : List D, (ps.map encP ++ [z]).set i y = ps.map encP ++ [y] := fun z y => by simp [List.set_append, hps]
  have hrow : ∀ z : List D, rowN (ps.map encP ++ [z]) i = z := fun z => by simp [rowN, List.getD_eq_getElem?_getD, hps, List.getElem?_append]
  apply Run.seq
  refine opsF [oB .lss 3 21 20 3 22] fun K hK => ?_
  try simp
  repeat' first | (refine evL_c ?_; simp [hn, hnt]) | (with_reducible first | apply aI | intro _ | assumption) | omega
  all_goals (apply Fin.go hK; clear hK K)
  simp only [tN]
  apply Run.seq
  refine Run.cond rfl (fun h22 => ?_) (fun h22 => ?_)
  ·try simp at h22
   have hi1 : i < n := by omega
   have hi2 : (i : Int) < n := by omega
   have hi0 : (0 : Int) ≤ i := by omega
   have hit : i ≤ nt := by omega
   rw [drop_rd (by omega : i < pipes.length)] at hw hz
   obtain ⟨x, hx⟩ : ∃ z, rdI pipes (i : Nat) = z := ⟨_, rfl⟩
   rw [hx] at hw hz
   rw [wP] at hw
   obtain ⟨m, hm⟩ : ∃ z, x.steps.length = z := ⟨_, rfl⟩
   have hlk := look1_ok c (scanT x.scan) (encTa tabs) (.sl false (pipes.map encPi)) i (ps.map encP) l hP (by simp [scanT, partsP, partsL, cntL])
   obtain ⟨b0, hb0⟩ : ∃ z, (bndT c (scanT x.scan)).isSome = z := ⟨_, rfl⟩
   rw [hb0, encP_cells] at hlk
   simp only [scanT_op, scanT_kids, scanT_slot, scanT_edges, scanT_back, scanT_terms, List.map_nil] at hlk
   obtain ⟨sk, hsk⟩ : ∃ z, sinkS tabs i = z := ⟨_, rfl⟩
   have hsk2 := hsk
   rw [sinkS, hnt] at hsk2
   apply Run.skip
   simp only [tN]
   apply Run.seq
   apply Run.block
   apply Run.seq
   refine opsF [oM 21 23, oI 23 19 21 24, oL 41 24 25, ⟨.alloc 41, some 7, none⟩, oA 23 6, oS 41 7 25] fun K hK => ?_
   try simp
   repeat' first | (refine evL_c ?_; simp [hn, hnt, hi1, hi2, hx, hta, hset, hrow, hm, hb0]) | (with_reducible first | apply aI | intro _ | assumption) | omega
   all_goals (apply Fin.go hK; clear hK K)
   simp only [tN]
   apply Run.seq
   refine opsF [oM 6 26, oA 26 5] fun K hK => ?_
   try simp
   repeat' first | (refine evL_c ?_; simp [hn, hnt, hi1, hi2, hx, hta, hset, hrow, hm, hb0]) | (with_reducible first | apply aI | intro _ | assumption) | omega
   all_goals (apply Fin.go hK; clear hK K)
   simp only [tN]
   apply Run.seq
   refine opsF [oM 6 27, oA 27 8] fun K hK => ?_
   try simp
   repeat' first | (refine evL_c ?_; simp [hn, hnt, hi1, hi2, hx, hta, hset, hrow, hm, hb0]) | (with_reducible first | apply aI | intro _ | assumption) | omega
   all_goals (apply Fin.go hK; clear hK K)
   simp only [tN]
   refine Run.cut [8, 28, 29, 30, 31, 32, 33, 34, 35] [(8, .int sk)] [(0, .vals ((encC c).map .d ++ [.d (encTa tabs), .d (.sl false (pipes.map encPi)), .rs 9500 6 0 i, .mp 1])), (1, mpK l), (200, .vals [.pt 0 0 0 0]), (800, .vals ((encPi x).map .d)), (9500, .data 6 (ps.map encP))] ?_ ?_
   ·apply Run.seq
    refine opsF [oM 6 28, oL 117 1 29, oV 29 30, oF 120 30 1 31, oF 25 31 0 32, oL 22 32 33, oN 22 33 34, oB .eql 3 28 34 3 35] fun K hK => ?_
    try simp
    repeat' first | (refine evL_c ?_; simp [hn, hnt, hi1, hi2, hx, hta, hset, hrow, hm, hb0]) | (with_reducible first | apply aI | intro _ | assumption) | omega
    all_goals (apply Fin.go hK; clear hK K)
    simp only [tN]
    refine Run.cond rfl (fun h35 => ?_) (fun h35 => ?_)
    ·try simp at h35
     refine opsF [⟨.assign (.const (.int .i64 (-1))), some 8, none⟩] fun K hK => ?_
     try simp
     repeat' first | (refine evL_c ?_; simp [hn, hnt, hi1, hi2, hx, hta, hset, hrow, hm, hb0]) | (with_reducible first | apply aI | intro _ | assumption) | omega
     all_goals (apply Fin.go hK; clear hK K)
     rw [← hsk2]
     (try simp [h35]) <;> (first | omega | (simp; done) | (simp_all; done) | grind)
    ·try simp at h35
     apply Run.skip
     rw [← hsk2]
     (try simp [h35]) <;> (first | omega | (simp; done) | (simp_all; done) | grind)
   ·simp only [over, List.foldl, List.set]
    apply Run.seq
    refine opsF [oF 41 7 0 36, oL 3 36 37, ⟨.build 48 #[(0, .const (.int .i64 1)), (2, .tmp 37)], some 38, none⟩, ⟨.alloc 48, some 9, none⟩, oS 48 9 38] fun K hK => ?_
    try simp
    repeat' first | (refine evL_c ?_; simp [hn, hnt, hi1, hi2, hx, hta, hset, hrow, hm, hb0]) | (with_reducible first | apply aI | intro _ | assumption) | omega
    all_goals (apply Fin.go hK; clear hK K)
    simp only [tN]
    refine Run.subB 1000 1 (.d (.sl false [])) rfl rfl nil_sl ?_
    simp
    refine Run.subB 1000 3 (.d (.sl false [])) rfl rfl nil_sl ?_
    simp
    refine Run.subB 1000 5 (.d (.sl false [])) rfl rfl nil_sl ?_
    simp
    apply Run.seq
    refine Run.cut [39, 40, 41, 42, 43, 44, 45, 46, 47, 48] [(48, .bool (!decide (x.sink = sk) || !b0))] [(0, .vals ((encC c).map .d ++ [.d (encTa tabs), .d (.sl false (pipes.map encPi)), .rs 9500 6 0 i, .mp 1])), (1, mpK l), (200, .vals [.pt 0 0 0 0]), (800, .vals ((encPi x).map .d)), (1000, .vals ((encP (scanT x.scan)).map .d)), (9500, .data 6 (ps.map encP))] ?_ ?_
    ·refine opsT [oF 41 7 2 39, oL 3 39 40, oM 8 41, oB .neq 3 40 41 3 42, oM 42 43, ⟨.move (.tmp 4), some 44, some (some 43, false)⟩, ⟨.load 48 (.tmp 9), some 45, some (some 43, false)⟩, ⟨.call { callee := .value (.tmp 44), args := #[.tmp 45], argTypes := #[48] }, some 46, some (some 43, false)⟩, ⟨.unOp .not 4 (.tmp 46), some 47, some (some 43, false)⟩, ⟨.pick (.tmp 43) (.const (.bool true)) (.tmp 47), some 48, none⟩] fun K hK => ?_
     try simp
     repeat' first | (refine ecallW [0, 9500, 1, 200] (by exact hlk) (by simp) (by simp) (okL _ _ _ _ _ _ _) ?_) | ((first | refine evL_c ?_ | (refine evL_g rfl ?_; try simp only [gs_tt, gs_ff, gs_tf, gs_ft]) | refine evL_u rfl ?_ | (with_reducible refine gsplit (fun hg => ?_) (fun hg => ?_) <;> try simp at hg)) <;> try simp [hn, hnt, hi1, hi2, hx, hta, hset, hrow, hm, hb0]) | (with_reducible first | apply aI | intro _ | assumption) | omega
     all_goals (apply Fin.go hK; clear hK K)
     all_goals
      (try simp [hps]) <;> (first | omega | (simp; done) | (simp_all; done) | grind)
    ·simp only [over, List.foldl, List.set]
     refine Run.cond rfl (fun h48 => ?_) (fun h48 => ?_)
     ·have hbad := h48
      rw [← hsk, ← hb0] at hbad
      rw [pipesS_bad hps hbad] at hz
      obtain ⟨e1, e2⟩ := Prod.mk.inj hz
      obtain ⟨e2, e3⟩ := Prod.mk.inj e2
      subst e1 e2 e3
      refine Run.exit ?_
      simp (decide := true) only [Then_exit, Blok_exit, if_true, if_false]
      first
       | (have e : i - 1 = nt := by omega
          have e2 : i = r1 := by omega
          subst e2
          simp [e, hps]; done)
       | (have e2 : i = r1 := by omega
          subst e2
          simp [hps]; done)
     ·have hgood := h48
      rw [← hsk, ← hb0] at hgood
      have hb1 : b0 = true := by simp at h48; simpa using h48.2
      obtain ⟨⟨T1, T2⟩, hT⟩ : ∃ z, stepsS c tabs ps i l (scanT x.scan) x.steps = z := ⟨_, rfl⟩
      have h1w : partsP (scanT x.scan) + tot 0 ps l + wL (x.steps.drop 0) + wP (pipes.drop (i + 1)) ≤ 1100000 := by
       have h1 : partsP (scanT x.scan) = 1 := by simp [scanT, partsP, partsL, cntL]
       simp only [List.drop_zero, h1]; omega
      have hml := wL_len x.steps
      rw [hm] at hml
      apply Run.skip
      simp only [tN]
      apply Run.seq
      apply Run.seq
      refine opsF [oF 41 7 1 49, oL 39 49 50, oN 39 50 51, ⟨.move (.const (.int .i64 0)), some 52, none⟩] fun K hK => ?_
      try simp
      repeat' first | (refine evL_c ?_; simp [hn, hnt, hi1, hi2, hx, hta, hset, hrow, hm, hb0]) | (with_reducible first | apply aI | intro _ | assumption) | omega
      all_goals (apply Fin.go hK; clear hK K)
      simp only [tN]
      apply Run.block
      refine Run.loopO [11, 12, 13, 52, 53, 54, 55, 56, 57, 58, 59, 60, 61, 62, 63, 64, 65, 66, 67, 68, 69, 70, 71, 72, 73] (fun (y : Nat × PlanT × List Int) => [(52, .int y.1)]) (fun (y : Nat × PlanT × List Int) => [(0, .vals ((encC c).map .d ++ [.d (encTa tabs), .d (.sl false (pipes.map encPi)), .rs 9500 6 0 i, .mp 1])), (1, mpK y.2.2), (200, .vals [.pt 0 0 0 0]), (800, .vals ((encPi x).map .d)), (1000, .vals ((encP y.2.1).map .d)), (9500, .data 6 (ps.map encP))]) (fun (y : Nat × PlanT × List Int) => y.1 ≤ m ∧ (bndT c y.2.1).isSome = true ∧ partsP y.2.1 + tot 0 ps y.2.2 + wL (x.steps.drop y.1) + wP (pipes.drop (i + 1)) ≤ 1100000 ∧ stepsS c tabs ps i y.2.2 y.2.1 (x.steps.drop y.1) = (T1, T2)) (fun (y : Nat × PlanT × List Int) => m - y.1) (0, scanT x.scan, l) ⟨by omega, hb0.trans hb1, h1w, hT⟩ (by simp) fun ⟨k, p, l1⟩ ⟨hk, hp, hwk, hzk⟩ => ?_
      simp only [over, List.foldl, List.set]
      simp only at hk hp hwk hzk
      apply Run.seq
      refine opsF oo71 fun K hK => ?_
      try simp
      repeat' first | (refine evL_c ?_; simp [hn, hnt, hi1, hi2, hx, hta, hset, hrow, hm, hb0]) | (with_reducible first | apply aI | intro _ | assumption) | omega
      all_goals (apply Fin.go hK; clear hK K)
      simp only [tN]
      apply Run.seq
      refine Run.cond rfl (fun h53 => ?_) (fun h53 => ?_)
      ·try simp at h53
       have hk1 : k < m := by omega
       have hk2 : (k : Int) < m := by omega
       rw [drop_rd (by omega : k < x.steps.length)] at hwk hzk
       obtain ⟨s, hs⟩ : ∃ z, rdI x.steps (k : Nat) = z := ⟨_, rfl⟩
       rw [hs] at hwk hzk
       rw [wL] at hwk
       have hov := over_ok c hP tabs (.sl false (pipes.map encPi)) ps l1 p s i (by omega) (by omega) (by omega) hp (by omega) hq
       obtain ⟨⟨o, l2⟩, ho⟩ : ∃ z, stepS c tabs ps i l1 p s = z := ⟨_, rfl⟩
       obtain ⟨hpa, hpa2⟩ := overQ_parts (by omega) ho (wL (x.steps.drop (k + 1)) + wP (pipes.drop (i + 1))) (by omega)
       obtain ⟨q2, hq2⟩ : ∃ z, overQ p (o, l2) = z := ⟨_, rfl⟩
       rw [hq2] at hpa hpa2
       rw [ho, hq2] at hov
       have hlk2 := look1_ok c q2 (encTa tabs) (.sl false (pipes.map encPi)) i (ps.map encP) l2 hP hpa
       obtain ⟨b1, hb1'⟩ : ∃ z, (bndT c q2).isSome = z := ⟨_, rfl⟩
       obtain ⟨b2, hb2'⟩ : ∃ z, o.isSome = z := ⟨_, rfl⟩
       simp only [sT, hps, hb2'] at hov
       rw [encP_cells p, encP_cells q2] at hov
       rw [hb1', encP_cells] at hlk2
       apply Run.skip
       simp only [tN]
       apply Run.seq
       apply Run.block
       apply Run.seq
       refine opsF [oI 39 50 52 54, oL 75 54 55, ⟨.alloc 75, some 11, none⟩, oS 75 11 55] fun K hK => ?_
       try simp
       repeat' first | (refine evL_c ?_; simp [hn, hnt, hi1, hi2, hx, hta, hset, hrow, hm, hb0, hk1, hk2, hs]) | (with_reducible first | apply aI | intro _ | assumption) | omega
       all_goals (apply Fin.go hK; clear hK K)
       simp only [tN]
       apply Run.seq
       refine opsT [oL 117 1 57, oL 48 9 58, oL 75 11 59, oM 6 60, oC 81 #[.tmp 57, .tmp 58, .tmp 59, .tmp 60] #[117, 48, 75, 3] 61, oM 61 56, oX 56 0 62, oX 56 1 63, ⟨.alloc 48, some 12, none⟩, oS 48 12 62, oA 63 13] fun K hK => ?_
       try simp
       repeat' first | (refine ecallW [0, 9500, 1] (by exact hov) (by simp) (by simp) (okO _ _ _ _ _ _ _ _ _ _ _) ?_) | (refine evL_c ?_; simp [hn, hnt, hi1, hi2, hx, hta, hset, hrow, hm, hb0, hk1, hk2, hs]) | (with_reducible first | apply aI | intro _ | assumption) | omega
       all_goals (apply Fin.go hK; clear hK K)
       simp only [tN]
       apply Run.seq
       refine Run.cut [64, 65, 66, 67, 68, 69, 70, 71] [(71, .bool (!(b2 && b1)))] [(0, .vals ((encC c).map .d ++ [.d (encTa tabs), .d (.sl false (pipes.map encPi)), .rs 9500 6 0 i, .mp 1])), (1, mpK l2), (200, .vals [.pt 0 0 0 0]), (800, .vals ((encPi x).map .d)), (1000, .vals ((encP p).map .d)), (1200, .vals ((encR s).map .d)), (1300, .vals ((encP q2).map .d)), (9500, .data 6 (ps.map encP))] ?_ ?_
       ·refine opsT [oM 13 64, ⟨.unOp .not 4 (.tmp 64), some 65, none⟩, oM 65 66, ⟨.move (.tmp 4), some 67, some (some 66, false)⟩, ⟨.load 48 (.tmp 12), some 68, some (some 66, false)⟩, ⟨.call { callee := .value (.tmp 67), args := #[.tmp 68], argTypes := #[48] }, some 69, some (some 66, false)⟩, ⟨.unOp .not 4 (.tmp 69), some 70, some (some 66, false)⟩, ⟨.pick (.tmp 66) (.const (.bool true)) (.tmp 70), some 71, none⟩] fun K hK => ?_
        try simp
        repeat' first | (refine ecallW [0, 9500, 1, 200] (by exact hlk2) (by simp) (by simp) (okL _ _ _ _ _ _ _) ?_) | ((first | refine evL_c ?_ | (refine evL_g rfl ?_; try simp only [gs_tt, gs_ff, gs_tf, gs_ft]) | refine evL_u rfl ?_ | (with_reducible refine gsplit (fun hg => ?_) (fun hg => ?_) <;> try simp at hg)) <;> try simp [hn, hnt, hi1, hi2, hx, hta, hset, hrow, hm, hb0, hk1, hk2, hs]) | (with_reducible first | apply aI | intro _ | assumption) | omega
        all_goals (apply Fin.go hK; clear hK K)
        all_goals
         (try simp [hps]) <;> (first | omega | (simp; done) | (simp_all; done) | grind)
       ·simp only [over, List.foldl, List.set]
        refine Run.cond rfl (fun h71 => ?_) (fun h71 => ?_)
        ·try simp at h71
         have hnone := stepsS_no (r := x.steps.drop (k + 1)) ho (by rw [hq2, hb1', hb2']; grind)
         rw [hnone] at hzk
         obtain ⟨e1, e2⟩ := Prod.mk.inj hzk
         subst e1 e2
         rw [pipesS_stop hps hgood hT] at hz
         obtain ⟨e1, e2⟩ := Prod.mk.inj hz
         obtain ⟨e2, e3⟩ := Prod.mk.inj e2
         subst e1 e2 e3
         refine Run.exit ?_
         simp (decide := true) only [Then_exit, Blok_exit, if_true, if_false]
         first
          | (have e : i - 1 = nt := by omega
             have e2 : i = r1 := by omega
             subst e2
             simp [e, hps]; done)
          | (have e2 : i = r1 := by omega
             subst e2
             simp [hps]; done)
        ·try simp at h71
         have hb2 : o.isSome = true ∧ (bndT c q2).isSome = true := by rw [hb1', hb2']; grind
         apply Run.skip
         simp only [tN]
         refine opsF [oL 48 12 72, oS 48 9 72] fun K hK => ?_
         try simp
         repeat' first | (refine evL_c ?_; simp [hn, hnt, hi1, hi2, hx, hta, hset, hrow, hm, hb0, hk1, hk2, hs]) | (with_reducible first | apply aI | intro _ | assumption) | omega
         all_goals (apply Fin.go hK; clear hK K)
         simp only [Blok_normal]
         simp only [tN]
         refine opsF [oK .add 3 52 1 3 73, oM 73 52] fun K hK => ?_
         try simp
         repeat' first | (refine evL_c ?_; simp [hn, hnt, hi1, hi2, hx, hta, hset, hrow, hm, hb0, hk1, hk2, hs]) | (with_reducible first | apply aI | intro _ | assumption) | omega
         all_goals (apply Fin.go hK; clear hK K)
         refine ⟨(k + 1, q2, l2), ⟨by omega, hb2.2, ?_, ?_⟩, by simp only; omega, ?_⟩
         ·have := hpa2 hb2.1
          simp only; omega
         ·simp only
          rw [← hzk, ← hq2]
          exact (stepsS_yes ho (by rw [hq2]; simp [hb2])).symm
         ·first
           | (simp (disch := omega) [wrap_id]; done)
      ·try simp at h53
       have hk3 : k = m := by omega
       rw [List.drop_of_length_le (by omega), stepsS] at hzk
       obtain ⟨e1, e2⟩ := Prod.mk.inj hzk
       subst e1 e2
       refine Run.exit ?_
       simp (decide := true) only [Then_exit, Blok_exit, if_true, if_false]
       simp only [tN]
       apply Run.seq
       refine Run.coin [⟨.alloc 4, some 74, none⟩] [⟨.store 4 (.tmp 74) (.const (.bool true)), none, none⟩, ⟨.store 4 (.tmp 74) (.const (.bool false)), none, none⟩, oL 4 74 75] [⟨.store 4 (.tmp 74) (.const (.bool false)), none, none⟩, ⟨.store 4 (.tmp 74) (.const (.bool true)), none, none⟩, oL 4 74 75] mixed (by decide) (by decide) rfl (by kernel_rfl) (by kernel_rfl) (by kernel_rfl) (by kernel_rfl) (by kernel_rfl) (by kernel_rfl) rfl rfl rfl fun K hK => ?_
       try simp
       repeat' first | (refine evL_c ?_; simp [hn, hnt, hi1, hi2, hx, hta, hset, hrow, hm, hb0]) | (refine evL_two ?_ ?_) | (with_reducible first | apply aI | intro _ | assumption) | omega
       all_goals (apply Fin.go hK; clear hK K)
       ·simp only [tN]
        refine Run.cond rfl (fun h75 => ?_) (fun h75 => ?_)
        ·simp at h75
        ·skip
         refine Run.opsA [] [1] [oL 117 1 87, oL 117 1 88, oV 88 89, oF 120 89 2 90, oL 45 90 91, oL 48 9 92, ⟨.buildSlice 45 1 #[(0, .tmp 92)], some 93, none⟩, ⟨.call { callee := .builtin .append, args := #[.tmp 91, .tmp 93], argTypes := #[45, 45] }, some 94, none⟩, oV 87 95, oF 120 95 2 96, oS 45 96 94] mixed (by decide) rfl fun K hK => ?_
         try simp
         repeat' first | (refine evL_c ?_; simp [hn, hnt, hi1, hi2, hx, hta, hset, hrow, hm, hb0]) | (with_reducible first | apply aI | intro _ | assumption) | omega
         all_goals (refine hK _ _ (by rfl) ?_; clear hK K)
         simp only [Blok_normal]
         simp only [tN]
         refine opsF oo72 fun K hK => ?_
         try simp
         repeat' first | (refine evL_c ?_; simp [hn, hnt, hi1, hi2, hx, hta, hset, hrow, hm, hb0]) | (with_reducible first | apply aI | intro _ | assumption) | omega
         all_goals (apply Fin.go hK; clear hK K)
         first
          | refine ⟨i + 1, ps ++ [p], l1, ⟨?_, ?_, ?_, ?_, ?_⟩, ?_, ?_⟩
          | refine ⟨(i + 1, ps ++ [p], l1), ⟨?_, ?_, ?_, ?_, ?_⟩, ?_, ?_⟩
         ·show i + 1 ≤ n; omega
         ·simp [hps]
         ·intro q hq'
          rcases List.mem_append.1 hq' with h | h
          ·exact hq q h
          ·rw [List.mem_singleton.1 h]; exact hp
         ·have := tot_app l1 p ps 0
          show tot 0 (ps ++ [p]) l1 + wP (pipes.drop (i + 1)) ≤ 1100000; omega
         ·show pipesS c tabs (ps ++ [p]) l1 (pipes.drop (i + 1)) = (R1, R2, R3)
          rw [← hz]
          exact (pipesS_go hps hgood hT).symm
         ·show n - (i + 1) < n - i; omega
         ·first
           | (simp (disch := omega) [hta, hset, hps, wrap_id]; done)
       ·simp only [tN]
        refine Run.cond rfl (fun h75 => ?_) (fun h75 => ?_)
        ·skip
         apply Run.seq
         refine opsF [oL 117 1 76, oV 76 77, oF 120 77 2 78, oL 45 78 79, oL 48 9 80, oN 45 79 81, ⟨.buildSlice 45 1 #[(0, .const (.agg #[.int .i64 0, .slice none 0 0, .int .i64 0, .slice none 0 0, .bool false, .slice none 0 0]))], some 82, none⟩, ⟨Op.call { callee := Callee.builtin Builtin.append, args := #[Operand.tmp 79, Operand.tmp 82], argTypes := #[45, 45] }, some 83, none⟩, oV 76 84, oF 120 84 2 85, oS 45 85 83] fun K hK => ?_
         try simp
         repeat' first | (refine evL_c ?_; simp [hn, hnt, hi1, hi2, hx, hta, hset, hrow, hm, hb0]) | (with_reducible first | apply aI | intro _ | assumption) | omega
         all_goals (apply Fin.go hK; clear hK K)
         simp only [tN]
         refine Run.ren 8400 9500 (by omega) (by omega) (by simp) (by simp) ?_
         simp
         refine opsF [oI 45 83 81 86, oS 48 86 80] fun K hK => ?_
         try simp
         repeat' first | (refine evL_c ?_; simp [hn, hnt, hi1, hi2, hx, hta, hset, hrow, hm, hb0]) | (with_reducible first | apply aI | intro _ | assumption) | omega
         all_goals (apply Fin.go hK; clear hK K)
         simp only [Blok_normal]
         simp only [tN]
         refine opsF oo72 fun K hK => ?_
         try simp
         repeat' first | (refine evL_c ?_; simp [hn, hnt, hi1, hi2, hx, hta, hset, hrow, hm, hb0]) | (with_reducible first | apply aI | intro _ | assumption) | omega
         all_goals (apply Fin.go hK; clear hK K)
         first
          | refine ⟨i + 1, ps ++ [p], l1, ⟨?_, ?_, ?_, ?_, ?_⟩, ?_, ?_⟩
          | refine ⟨(i + 1, ps ++ [p], l1), ⟨?_, ?_, ?_, ?_, ?_⟩, ?_, ?_⟩
         ·show i + 1 ≤ n; omega
         ·simp [hps]
         ·intro q hq'
          rcases List.mem_append.1 hq' with h | h
          ·exact hq q h
          ·rw [List.mem_singleton.1 h]; exact hp
         ·have := tot_app l1 p ps 0
          show tot 0 (ps ++ [p]) l1 + wP (pipes.drop (i + 1)) ≤ 1100000; omega
         ·show pipesS c tabs (ps ++ [p]) l1 (pipes.drop (i + 1)) = (R1, R2, R3)
          rw [← hz]
          exact (pipesS_go hps hgood hT).symm
         ·show n - (i + 1) < n - i; omega
         ·first
           | (simp (disch := omega) [hta, hset, hps, wrap_id]; done)
        ·simp at h75
  ·try simp at h22
   have hi3 : i = n := by omega
   rw [List.drop_of_length_le (by omega), pipesS] at hz
   obtain ⟨e1, e2⟩ := Prod.mk.inj hz
   obtain ⟨e2, e3⟩ := Prod.mk.inj e2
   subst e1 e2 e3
   refine Run.exit ?_
   simp (decide := true) only [Then_exit, Blok_exit, if_true, if_false]
   first
    | (have e : i - 1 = nt := by omega
       have e2 : i = r1 := by omega
       subst e2
       simp [e, hps]; done)
    | (have e2 : i = r1 := by omega
       subst e2
       simp [hps]; done)
 ·simp only [over, List.foldl, List.set]
  apply Run.seq
  refine opsF [oM 5 98, oL 117 1 99, oV 99 100, oF 120 100 2 101, oL 45 101 102, oN 45 102 103, oL 117 1 104, oV 104 105, oF 120 105 1 106, oF 25 106 1 107, oL 23 107 108, oN 23 108 109, oB .eql 3 103 109 3 110, oA 98 2, oA 110 3] fun K hK => ?_
  try simp
  repeat' first | (refine evL_c ?_; simp [hn, hnt, hr1, hR4]) | (with_reducible first | apply aI | intro _ | assumption) | omega
  all_goals (apply Fin.go hK; clear hK K)
  simp only [tN]
  apply Run.ret
  try simp only [Then_ret, Blok_ret]
  try simp only [Fwd_ret]
  simp [hR4, hr1, hn, hnt]
end Go.Proofs.Ytimgbdkgjfbhkaa.Z
end
section
namespace Go.Proofs.Ytimgbdkgjfbhkaa.Z
open Go Go.Fw
attribute [-simp] lookV updV Blk.fgt Blk.ren Blk.men Blk.fin lost litV
attribute [local simp] litV_agg litV_int litV_str litV_bool litV_slice litV_tup
theorem stepS_asked (c : CoreT) (tabs : List (List Int)) (ps : List PlanT) (i : Int) (l : List Int) (p : PlanT) (s : StepR) : (stepS c tabs ps i l p s).2.length ≤ l.length + 1 := by
 unfold stepS
 split
 ·split
  ·simp
  ·simp
 ·simp
theorem stepsS_asked (c : CoreT) (tabs : List (List Int)) (ps : List PlanT) (i : Int) : ∀ (r : List StepR) (l : List Int) (p : PlanT), (stepsS c tabs ps i l p r).2.length ≤ l.length + r.length
 | [], l, p => by simp [stepsS]
 | s :: r, l, p => by
   have h := stepS_asked c tabs ps i l p s
   rw [stepsS]
   rcases he : stepS c tabs ps i l p s with ⟨o, l'⟩
   rw [he] at h
   simp only at h
   cases o with
   | none => simp only [List.length_cons]; omega
   | some q =>
     have h2 := stepsS_asked c tabs ps i r l' q
     simp only
     split
     ·simp only [List.length_cons]; omega
     ·simp only [List.length_cons]; omega
theorem pipeS_asked (c : CoreT) (tabs : List (List Int)) (ps : List PlanT) (l : List Int) (x : PipeR) : (pipeS c tabs ps l x).2.length ≤ l.length + x.steps.length := by
 unfold pipeS
 split
 ·simp
 ·exact stepsS_asked _ _ _ _ _ _ _
theorem pipesS_asked (c : CoreT) (tabs : List (List Int)) : ∀ (r : List PipeR) (ps : List PlanT) (l : List Int), (pipesS c tabs ps l r).2.1.length ≤ l.length + wP r
 | [], ps, l => by simp [pipesS]
 | x :: r, ps, l => by
   have h := pipeS_asked c tabs ps l x
   have hs := wL_len x.steps
   rw [pipesS, wP]
   rcases he : pipeS c tabs ps l x with ⟨o, l'⟩
   rw [he] at h
   simp only at h
   cases o with
   | none => simp only; omega
   | some q =>
     have h2 := pipesS_asked c tabs r (ps ++ [q]) l'
     simp only; omega
def planS (c : CoreT) (r : ProgR) : PlanT × Int × Int :=
 if (transS c).op = 0 then (zeroQ, 0, 1)
 else if r.pipes.length ≠ r.tabs.length + 1 then (zeroQ, -1, 181)
 else match pipesS c r.tabs [] [] r.pipes with
  | (R1, R2, R3) => if (!R3 || decide (R2.length < r.tabs.length)) = true then (zeroQ, (if R3 then (r.tabs.length : Int) else R1.length), 181) else (rdI R1 r.tabs.length, 0, 0)
theorem trans_pat {c : CoreT} (h : (transS c).op ≠ 0) : patS c.nodes c.edges = true := by
 unfold transS at h
 split at h
 ·assumption
 ·exact absurd rfl h
@[simp] theorem zeroQ_op0 : zeroQ.op = 0 := rfl
@[simp] theorem zeroQ_kids0 : zeroQ.kids = [] := rfl
@[simp] theorem zeroQ_slot0 : zeroQ.slot = 0 := rfl
@[simp] theorem zeroQ_edges0 : zeroQ.edges = [] := rfl
@[simp] theorem zeroQ_back0 : zeroQ.back = false := rfl
@[simp] theorem zeroQ_terms0 : zeroQ.terms = [] := rfl
theorem lost2 (a b : Nat) (s1 : Store) (id : Nat) : lost [a, b] s1 id = ((a == id && (getB s1 0).isNone) || (b == id && (getB s1 1).isNone)) := by
 have : List.range 2 = [0, 1] := rfl
 simp only [lost, List.length_cons, List.length_nil, Nat.reduceAdd, this, List.any_cons, List.any_nil, Bool.or_false, Bool.or_assoc]
 rfl
attribute [local simp] lost2
theorem mpK_nil : Blk.mp [] [] = mpK [] := rfl
theorem okF (c : CoreT) (tb pp : D) (np : Nat) (rows : List (List D)) (l : List Int) (n : Int) (y : Bool) : okW [2900, 2700] [(0, .vals ((encC c).map .d ++ [.d tb, .d pp, vnil, .mp 1])), (1, mpK [])] [.pt 0 0 0 0] (.tup [.int n, .bool y]) [(0, .vals ((encC c).map .d ++ [.d tb, .d pp, .rs 2 6 0 np, .mp 1])), (1, mpK l), (2, .data 6 rows)] = true := by
 have e : List.range 2 = [0, 1] := rfl
 simp [okW, badId, e, V.menL, V.men, getB]
set_option maxHeartbeats 8000000 in
theorem planN_ok (c : CoreT) (r : ProgR) (hc : c.wher.length ≤ 1100000) (hop : (transS c).op = 0) : Snd P 27 [.d (.ag (encPr r)), .d (.ag (encC c))] (.tup [.d (.ag (encP zeroQ)), .int 0, .int 1]) [] := by
 have hT := trans_ok c hc
 obtain ⟨T, hTe⟩ : ∃ z, transS c = z := ⟨_, rfl⟩
 rw [hTe] at hT hop
 rw [encP_cells] at hT
 obtain ⟨n, hn⟩ : ∃ z, r.pipes.length = z := ⟨_, rfl⟩
 obtain ⟨nt, hnt⟩ : ∃ z, r.tabs.length = z := ⟨_, rfl⟩
 refine snd_of [] Try.func27 rfl (by kernel_rfl) Try.ntmps27 (by simp) ?_
 unfold Try.f27
 simp only [List.cons_append, List.nil_append, List.length_cons, List.length_nil, Nat.reduceAdd, Nat.reduceSub, List.replicate]
 apply Run.seq
 refine opsF oo73 fun K hK => ?_
 try simp
 repeat' first | (refine evL_c ?_; simp [hop, hn, hnt, encPr]) | (with_reducible first | apply aI | intro _ | assumption) | omega
 all_goals (apply Fin.go hK; clear hK K)
 simp only [tN]
 apply Run.seq
 apply Run.seq
 refine opsF oo74 fun K hK => ?_
 try simp
 repeat' first | (refine ecallD (by exact hT) ?_) | (refine evL_c ?_; simp [hop, hn, hnt, encPr]) | (with_reducible first | apply aI | intro _ | assumption) | omega
 all_goals (apply Fin.go hK; clear hK K)
 simp only [tN]
 refine Run.cond rfl (fun h13 => ?_) (fun h13 => ?_)
 ·skip
  apply Run.seq
  refine opsF [⟨.build 48 #[], some 14, none⟩, oS 48 4 14, ⟨.assign (.const (.int .i64 0)), some 5, none⟩, ⟨.assign (.const (.int .i64 1)), some 6, none⟩] fun K hK => ?_
  try simp
  repeat' first | (refine evL_c ?_; simp [hop, hn, hnt, encPr]) | (with_reducible first | apply aI | intro _ | assumption) | omega
  all_goals (apply Fin.go hK; clear hK K)
  simp only [tN]
  refine Run.subB 500 1 (.d (.sl false [])) rfl rfl nil_sl ?_
  try simp
  refine Run.subB 500 3 (.d (.sl false [])) rfl rfl nil_sl ?_
  try simp
  refine Run.subB 500 5 (.d (.sl false [])) rfl rfl nil_sl ?_
  try simp
  apply Run.ret
  try simp only [Then_ret, Blok_ret]
  simp
 ·simp at h13
set_option maxHeartbeats 8000000 in
theorem planL_ok (c : CoreT) (r : ProgR) (hc : c.wher.length ≤ 1100000) (ht : r.tabs.length ≤ 1100000) (hop : ¬ (transS c).op = 0) (hl : r.pipes.length ≠ r.tabs.length + 1) : Snd P 27 [.d (.ag (encPr r)), .d (.ag (encC c))] (.tup [.d (.ag (encP zeroQ)), .int (-1), .int 181]) [] := by
 have hT := trans_ok c hc
 obtain ⟨T, hTe⟩ : ∃ z, transS c = z := ⟨_, rfl⟩
 rw [hTe] at hT hop
 rw [encP_cells] at hT
 obtain ⟨n, hn⟩ : ∃ z, r.pipes.length = z := ⟨_, rfl⟩
 obtain ⟨nt, hnt⟩ : ∃ z, r.tabs.length = z := ⟨_, rfl⟩
 rw [hnt] at ht
 rw [hn, hnt] at hl
 have hl2 : ¬ (n : Int) = nt + 1 := by omega
 have hwr : IntKind.i64.wrap ((nt : Int) + 1) = nt + 1 := wrap_id (by omega) (by omega)
 refine snd_of [] Try.func27 rfl (by kernel_rfl) Try.ntmps27 (by simp) ?_
 unfold Try.f27
 simp only [List.cons_append, List.nil_append, List.length_cons, List.length_nil, Nat.reduceAdd, Nat.reduceSub, List.replicate]
 apply Run.seq
 refine opsF oo73 fun K hK => ?_
 try simp
 repeat' first | (refine evL_c ?_; simp [hop, hn, hnt, encPr, hl2, hwr]) | (with_reducible first | apply aI | intro _ | assumption) | omega
 all_goals (apply Fin.go hK; clear hK K)
 simp only [tN]
 apply Run.seq
 apply Run.seq
 refine opsF oo74 fun K hK => ?_
 try simp
 repeat' first | (refine ecallD (by exact hT) ?_) | (refine evL_c ?_; simp [hop, hn, hnt, encPr, hl2, hwr]) | (with_reducible first | apply aI | intro _ | assumption) | omega
 all_goals (apply Fin.go hK; clear hK K)
 simp only [tN]
 refine Run.cond rfl (fun h13 => ?_) (fun h13 => ?_)
 ·simp at h13
 ·skip
  apply Run.skip
  simp only [tN]
  apply Run.seq
  apply Run.seq
  refine opsF oo75 fun K hK => ?_
  try simp
  repeat' first | (refine evL_c ?_; simp [hop, hn, hnt, encPr, hl2, hwr]) | (with_reducible first | apply aI | intro _ | assumption) | omega
  all_goals (apply Fin.go hK; clear hK K)
  simp only [tN]
  refine Run.cond rfl (fun h22 => ?_) (fun h22 => ?_)
  ·skip
   apply Run.seq
   refine opsF [⟨.build 48 #[], some 23, none⟩, oS 48 4 23, ⟨.assign (.const (.int .i64 (-1))), some 5, none⟩, ⟨.assign (.const (.int .i64 181)), some 6, none⟩] fun K hK => ?_
   try simp
   repeat' first | (refine evL_c ?_; simp [hop, hn, hnt, encPr, hl2, hwr]) | (with_reducible first | apply aI | intro _ | assumption) | omega
   all_goals (apply Fin.go hK; clear hK K)
   simp only [tN]
   refine Run.subB 500 1 (.d (.sl false [])) rfl rfl nil_sl ?_
   try simp
   refine Run.subB 500 3 (.d (.sl false [])) rfl rfl nil_sl ?_
   try simp
   refine Run.subB 500 5 (.d (.sl false [])) rfl rfl nil_sl ?_
   try simp
   apply Run.ret
   try simp only [Then_ret, Blok_ret]
   simp
  ·simp at h22
set_option maxHeartbeats 8000000 in
theorem planB_ok (c : CoreT) (r : ProgR) (hc : c.wher.length ≤ 1100000) (ht : r.tabs.length ≤ 1100000) (hop : ¬ (transS c).op = 0) (hl : r.pipes.length = r.tabs.length + 1) (R1 : List PlanT) (R2 : List Int) (R3 : Bool) (hk : R2.length ≤ 1100000) (hL : SndW P 45 [.pt 0 0 0 0] [(0, .vals ((encC c).map .d ++ [.d (encTa r.tabs), .d (.sl false (r.pipes.map encPi)), vnil, .mp 1])), (1, mpK [])] (.tup [.int (if R3 then (r.tabs.length : Int) else R1.length), .bool R3]) [(0, .vals ((encC c).map .d ++ [.d (encTa r.tabs), .d (.sl false (r.pipes.map encPi)), .rs 2 6 0 R1.length, .mp 1])), (1, mpK R2), (2, .data 6 (R1.map encP))]) (hbad : (!R3 || decide (R2.length < r.tabs.length)) = true) : Snd P 27 [.d (.ag (encPr r)), .d (.ag (encC c))] (.tup [.d (.ag (encP zeroQ)), .int (if R3 then (r.tabs.length : Int) else R1.length), .int 181]) [] := by
 have hT := trans_ok c hc
 obtain ⟨T, hTe⟩ : ∃ z, transS c = z := ⟨_, rfl⟩
 rw [hTe] at hT hop
 rw [encP_cells] at hT
 obtain ⟨n, hn⟩ : ∃ z, r.pipes.length = z := ⟨_, rfl⟩
 obtain ⟨nt, hnt⟩ : ∃ z, r.tabs.length = z := ⟨_, rfl⟩
 rw [hnt] at ht
 rw [hn, hnt] at hl
 have hl2 : (n : Int) = nt + 1 := by omega
 have hwr : IntKind.i64.wrap ((nt : Int) + 1) = nt + 1 := wrap_id (by omega) (by omega)
 obtain ⟨r1, hr1⟩ : ∃ z, R1.length = z := ⟨_, rfl⟩
 obtain ⟨k, hk2⟩ : ∃ z, R2.length = z := ⟨_, rfl⟩
 rw [hk2] at hk
 have hk3 : k ≤ 9223372036854775807 := by omega
 rw [hr1] at hL
 obtain ⟨at', hat⟩ : ∃ z : Int, (if R3 then (r.tabs.length : Int) else (r1 : Nat)) = z := ⟨_, rfl⟩
 rw [hat] at hL
 rw [hk2, hnt] at hbad
 rw [hr1, hat]
 refine snd_of [] Try.func27 rfl (by kernel_rfl) Try.ntmps27 (by simp) ?_
 unfold Try.f27
 simp only [List.cons_append, List.nil_append, List.length_cons, List.length_nil, Nat.reduceAdd, Nat.reduceSub, List.replicate]
 apply Run.seq
 refine opsF oo73 fun K hK => ?_
 try simp
 repeat' first | (refine evL_c ?_; simp [hop, hn, hnt, encPr, hr1, hk2, hl2, hwr]) | (with_reducible first | apply aI | intro _ | assumption) | omega
 all_goals (apply Fin.go hK; clear hK K)
 simp only [tN]
 apply Run.seq
 apply Run.seq
 refine opsF oo74 fun K hK => ?_
 try simp
 repeat' first | (refine ecallD (by exact hT) ?_) | (refine evL_c ?_; simp [hop, hn, hnt, encPr, hr1, hk2, hl2, hwr]) | (with_reducible first | apply aI | intro _ | assumption) | omega
 all_goals (apply Fin.go hK; clear hK K)
 simp only [tN]
 refine Run.cond rfl (fun h13 => ?_) (fun h13 => ?_)
 ·simp at h13
 ·skip
  apply Run.skip
  simp only [tN]
  apply Run.seq
  apply Run.seq
  refine opsF oo75 fun K hK => ?_
  try simp
  repeat' first | (refine evL_c ?_; simp [hop, hn, hnt, encPr, hr1, hk2, hl2, hwr]) | (with_reducible first | apply aI | intro _ | assumption) | omega
  all_goals (apply Fin.go hK; clear hK K)
  simp only [tN]
  refine Run.cond rfl (fun h22 => ?_) (fun h22 => ?_)
  ·simp at h22
  ·skip
   apply Run.skip
   simp only [tN]
   apply Run.seq
   refine opsF oo76 fun K hK => ?_
   try simp
   repeat' first | (refine evL_c ?_; simp [hop, hn, hnt, encPr, hr1, hk2, hl2, hwr, mpK_nil]) | (with_reducible first | apply aI | intro _ | assumption) | omega
   all_goals (apply Fin.go hK; clear hK K)
   simp only [tN]
   apply Run.seq
   refine opsT oo77 fun K hK => ?_
   try simp
   repeat' first | (refine ecallW [2900, 2700] (by exact hL) (by simp) (by simp) (okF _ _ _ _ _ _ _ _) ?_) | (refine evL_c ?_; simp [hop, hn, hnt, encPr, hr1, hk2, hl2, hwr]) | (with_reducible first | apply aI | intro _ | assumption) | omega
   all_goals (apply Fin.go hK; clear hK K)
   simp only [tN]
   apply Run.seq
   refine Run.cut [34, 35, 36, 37, 38, 39, 40, 41, 42, 43, 44, 45, 46] [(46, .bool (!R3 || decide (k < nt)))] [(300, .vals ((encPr r).map .d)), (400, .vals ((encC c).map .d)), (500, .vals [.int 0, vnil, .int 0, vnil, .bool false, vnil]), (2900, .vals ((encC c).map .d ++ [.d (encTa r.tabs), .d (.sl false (r.pipes.map encPi)), .rs 3202 6 0 r1, .mp 2700])), (2700, mpK R2), (3202, .data 6 (R1.map encP))] ?_ ?_
   ·refine opsF oo78 fun K hK => ?_
    try simp
    repeat' first | ((first | refine evL_c ?_ | (refine evL_g rfl ?_; try simp only [gs_tt, gs_ff, gs_tf, gs_ft]) | refine evL_u rfl ?_ | (with_reducible refine gsplit (fun hg => ?_) (fun hg => ?_) <;> try simp at hg)) <;> try simp [hop, hn, hnt, encPr, hr1, hk2, hl2, hwr, mpK, hk3]) | (with_reducible first | apply aI | intro _ | assumption) | omega
    all_goals (apply Fin.go hK; clear hK K)
    all_goals
     (try simp [mpK, hr1]) <;> (first | omega | (simp; done) | (simp_all; done) | grind)
   ·simp only [over, List.foldl, List.set]
    refine Run.cond rfl (fun h46 => ?_) (fun h46 => ?_)
    ·skip
     apply Run.seq
     refine opsF [⟨.build 48 #[], some 47, none⟩, oM 8 48, oS 48 4 47, oA 48 5, ⟨.assign (.const (.int .i64 181)), some 6, none⟩] fun K hK => ?_
     try simp
     repeat' first | (refine evL_c ?_; simp [hop, hn, hnt, encPr, hr1, hk2, hl2, hwr]) | (with_reducible first | apply aI | intro _ | assumption) | omega
     all_goals (apply Fin.go hK; clear hK K)
     simp only [tN]
     refine Run.subB 500 1 (.d (.sl false [])) rfl rfl nil_sl ?_
     try simp
     refine Run.subB 500 3 (.d (.sl false [])) rfl rfl nil_sl ?_
     try simp
     refine Run.subB 500 5 (.d (.sl false [])) rfl rfl nil_sl ?_
     try simp
     apply Run.ret
     try simp only [Then_ret, Blok_ret]
     simp
    ·rw [hbad] at h46
     cases h46
set_option maxHeartbeats 8000000 in
theorem planA_ok (c : CoreT) (r : ProgR) (hc : c.wher.length ≤ 1100000) (ht : r.tabs.length ≤ 1100000) (hop : ¬ (transS c).op = 0) (hl : r.pipes.length = r.tabs.length + 1) (R1 : List PlanT) (R2 : List Int) (R3 : Bool) (hk : R2.length ≤ 1100000) (hL : SndW P 45 [.pt 0 0 0 0] [(0, .vals ((encC c).map .d ++ [.d (encTa r.tabs), .d (.sl false (r.pipes.map encPi)), vnil, .mp 1])), (1, mpK [])] (.tup [.int (if R3 then (r.tabs.length : Int) else R1.length), .bool R3]) [(0, .vals ((encC c).map .d ++ [.d (encTa r.tabs), .d (.sl false (r.pipes.map encPi)), .rs 2 6 0 R1.length, .mp 1])), (1, mpK R2), (2, .data 6 (R1.map encP))]) (hgood : (!R3 || decide (R2.length < r.tabs.length)) = false) (hall : R1.length = r.pipes.length) : Snd P 27 [.d (.ag (encPr r)), .d (.ag (encC c))] (.tup [.d (.ag (encP (rdI R1 r.tabs.length))), .int 0, .int 0]) [] := by
 have hT := trans_ok c hc
 obtain ⟨T, hTe⟩ : ∃ z, transS c = z := ⟨_, rfl⟩
 rw [hTe] at hT hop
 rw [encP_cells] at hT
 obtain ⟨n, hn⟩ : ∃ z, r.pipes.length = z := ⟨_, rfl⟩
 obtain ⟨nt, hnt⟩ : ∃ z, r.tabs.length = z := ⟨_, rfl⟩
 rw [hnt] at ht
 rw [hn, hnt] at hl
 have hl2 : (n : Int) = nt + 1 := by omega
 have hwr : IntKind.i64.wrap ((nt : Int) + 1) = nt + 1 := wrap_id (by omega) (by omega)
 obtain ⟨r1, hr1⟩ : ∃ z, R1.length = z := ⟨_, rfl⟩
 obtain ⟨k, hk2⟩ : ∃ z, R2.length = z := ⟨_, rfl⟩
 rw [hk2] at hk
 have hk3 : k ≤ 9223372036854775807 := by omega
 rw [hr1] at hL
 obtain ⟨at', hat⟩ : ∃ z : Int, (if R3 then (r.tabs.length : Int) else (r1 : Nat)) = z := ⟨_, rfl⟩
 rw [hat] at hL
 rw [hk2, hnt] at hgood
 rw [hr1, hn] at hall
 have hrow : rowN (R1.map encP) nt = encP (rdI R1 r.tabs.length) := by rw [hnt]; exact rowN_map (by omega)
 have hlt : nt < r1 := by omega
 obtain ⟨q, hq⟩ : ∃ z, rdI R1 r.tabs.length = z := ⟨_, rfl⟩
 rw [hq] at hrow
 rw [hq]
 refine snd_of [] Try.func27 rfl (by kernel_rfl) Try.ntmps27 (by simp) ?_
 unfold Try.f27
 simp only [List.cons_append, List.nil_append, List.length_cons, List.length_nil, Nat.reduceAdd, Nat.reduceSub, List.replicate]
 apply Run.seq
 refine opsF oo73 fun K hK => ?_
 try simp
 repeat' first | (refine evL_c ?_; simp [hop, hn, hnt, encPr, hr1, hk2, hl2, hwr]) | (with_reducible first | apply aI | intro _ | assumption) | omega
 all_goals (apply Fin.go hK; clear hK K)
 simp only [tN]
 apply Run.seq
 apply Run.seq
 refine opsF oo74 fun K hK => ?_
 try simp
 repeat' first | (refine ecallD (by exact hT) ?_) | (refine evL_c ?_; simp [hop, hn, hnt, encPr, hr1, hk2, hl2, hwr]) | (with_reducible first | apply aI | intro _ | assumption) | omega
 all_goals (apply Fin.go hK; clear hK K)
 simp only [tN]
 refine Run.cond rfl (fun h13 => ?_) (fun h13 => ?_)
 ·simp at h13
 ·skip
  apply Run.skip
  simp only [tN]
  apply Run.seq
  apply Run.seq
  refine opsF oo75 fun K hK => ?_
  try simp
  repeat' first | (refine evL_c ?_; simp [hop, hn, hnt, encPr, hr1, hk2, hl2, hwr]) | (with_reducible first | apply aI | intro _ | assumption) | omega
  all_goals (apply Fin.go hK; clear hK K)
  simp only [tN]
  refine Run.cond rfl (fun h22 => ?_) (fun h22 => ?_)
  ·simp at h22
  ·skip
   apply Run.skip
   simp only [tN]
   apply Run.seq
   refine opsF oo76 fun K hK => ?_
   try simp
   repeat' first | (refine evL_c ?_; simp [hop, hn, hnt, encPr, hr1, hk2, hl2, hwr, mpK_nil]) | (with_reducible first | apply aI | intro _ | assumption) | omega
   all_goals (apply Fin.go hK; clear hK K)
   simp only [tN]
   apply Run.seq
   refine opsT oo77 fun K hK => ?_
   try simp
   repeat' first | (refine ecallW [2900, 2700] (by exact hL) (by simp) (by simp) (okF _ _ _ _ _ _ _ _) ?_) | (refine evL_c ?_; simp [hop, hn, hnt, encPr, hr1, hk2, hl2, hwr]) | (with_reducible first | apply aI | intro _ | assumption) | omega
   all_goals (apply Fin.go hK; clear hK K)
   simp only [tN]
   apply Run.seq
   refine Run.cut [34, 35, 36, 37, 38, 39, 40, 41, 42, 43, 44, 45, 46] [(46, .bool (!R3 || decide (k < nt)))] [(300, .vals ((encPr r).map .d)), (400, .vals ((encC c).map .d)), (500, .vals [.int 0, vnil, .int 0, vnil, .bool false, vnil]), (2900, .vals ((encC c).map .d ++ [.d (encTa r.tabs), .d (.sl false (r.pipes.map encPi)), .rs 3202 6 0 r1, .mp 2700])), (2700, mpK R2), (3202, .data 6 (R1.map encP))] ?_ ?_
   ·refine opsF oo78 fun K hK => ?_
    try simp
    repeat' first | ((first | refine evL_c ?_ | (refine evL_g rfl ?_; try simp only [gs_tt, gs_ff, gs_tf, gs_ft]) | refine evL_u rfl ?_ | (with_reducible refine gsplit (fun hg => ?_) (fun hg => ?_) <;> try simp at hg)) <;> try simp [hop, hn, hnt, encPr, hr1, hk2, hl2, hwr, mpK, hk3]) | (with_reducible first | apply aI | intro _ | assumption) | omega
    all_goals (apply Fin.go hK; clear hK K)
    all_goals
     (try simp [mpK, hr1]) <;> (first | omega | (simp; done) | (simp_all; done) | grind)
   ·simp only [over, List.foldl, List.set]
    refine Run.cond rfl (fun h46 => ?_) (fun h46 => ?_)
    ·rw [hgood] at h46
     cases h46
    ·skip
     apply Run.skip
     simp only [tN]
     apply Run.seq
     refine opsF [oM 7 49, oV 49 50, oF 120 50 2 51, oL 45 51 52, oF 25 2 0 53, oL 22 53 54, oN 22 54 55, oI 45 52 55 56, oL 48 56 57, oS 48 4 57, ⟨.assign (.const (.int .i64 0)), some 5, none⟩, ⟨.assign (.const (.int .i64 0)), some 6, none⟩] fun K hK => ?_
     try simp
     repeat' first | (refine evL_c ?_; simp [hop, hn, hnt, encPr, hr1, hk2, hl2, hwr, hrow, hlt]) | (with_reducible first | apply aI | intro _ | assumption) | omega
     all_goals (apply Fin.go hK; clear hK K)
     simp only [tN]
     apply Run.ret
     try simp only [Then_ret, Blok_ret]
     simp
theorem plan_ok (c : CoreT) (r : ProgR) (hw : wP r.pipes ≤ 1100000) (ht : r.tabs.length ≤ 1100000) (hc : c.wher.length ≤ 1100000) : Snd P 27 [.d (.ag (encPr r)), .d (.ag (encC c))] (.tup [.d (.ag (encP (planS c r).1)), .int (planS c r).2.1, .int (planS c r).2.2]) [] := by
 unfold planS
 split
 ·rename_i h; exact planN_ok c r hc h
 ·rename_i h
  split
  ·rename_i h2; exact planL_ok c r hc ht h h2
  ·rename_i h2
   have hp := trans_pat h
   have hl : r.pipes.length = r.tabs.length + 1 := by omega
   have hk := pipesS_asked c r.tabs r.pipes [] []
   have ha := fun h => pipesS_all (c := c) (tabs := r.tabs) (r := r.pipes) (R1 := (pipesS c r.tabs [] [] r.pipes).1) (R2 := (pipesS c r.tabs [] [] r.pipes).2.1) (R3 := (pipesS c r.tabs [] [] r.pipes).2.2) h
   rcases hR : pipesS c r.tabs [] [] r.pipes with ⟨R1, R2, R3⟩
   rw [hR] at hk
   have hall := pipesS_all hR
   simp only [List.length_nil, Nat.zero_add] at hk ⊢
   have hL := look_ok c hp r.tabs r.pipes hl hw R1 R2 R3 hR
   split
   ·rename_i h3; exact planB_ok c r hc ht h hl R1 R2 R3 (by omega) hL h3
   ·rename_i h3; exact planA_ok c r hc ht h hl R1 R2 R3 (by omega) hL (by simpa using h3) (by rw [show R3 = true by simp at h3; exact h3.1] at hall; simpa using hall)
end Go.Proofs.Ytimgbdkgjfbhkaa.Z
end
