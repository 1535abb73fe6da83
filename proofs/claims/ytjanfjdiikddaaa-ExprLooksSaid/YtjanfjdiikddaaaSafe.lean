/- ExprSafe: that a term is safe (does not reckon) by expr.Safe is what the reference's Safe says; with one operation more above it, it is safe where that one does not reckon: the law answers true at every input. No condition. -/
import Derived.Test.YtjanfjdiikddaaaOpenT
import Derived.Test.YtjanfjdiikddaaaQSafex1
import Derived.Test.YtjanfjdiikddaaaQSafex2
import Derived.IntWalk
import Derived.Handy
import Derived.Test.YtjanfjdiikddaaaBase
namespace Go.Proofs.Ytjanfjdiikddaaa.SafeWalk
set_option linter.unusedVariables false
set_option linter.unusedSimpArgs false
open Go.RowKit Go.Proofs.YtjanfjdiikddaaaW.PrintWords Go.Proofs.YtjanfjdiikddaaaW.PrintLast Go.Proofs.YtjanfjdiikddaaaW.PrintMore Go.Proofs.Ytjanfjdiikddaaa.QSafe

abbrev RF (k : Nat) (t : S33) : Option Bool := portolanref11_Safe.f k t.f0 t.f1 t.f2 t.f3 t.f4.f0 t.f4.f1 t.f4.f2 t.f4.f3 t.f4.f4
abbrev WF (k : Nat) (t : S33) (n : Int) : Option Int := portolanlaw11_weight.f k t.f0 t.f1 t.f2 t.f3 t.f4.f0 t.f4.f1 t.f4.f2 t.f4.f3 t.f4.f4 n
theorem rd_eq (l : List S33) (i : Nat) (h : i < l.length) : rd_T33 l (i : Int) = l[i] := by
  unfold rd_T33
  rw [Int.toNat_natCast, List.getD_eq_getElem?_getD, List.getElem?_eq_getElem h]
  rfl
theorem up1 (i : Nat) (h : i < 9223372036854775807) : wrap64 ((i : Int) + 1) = ((i + 1 : Nat) : Int) := by
  unfold wrap64
  omega

theorem ref_loop (l : List S33) (hm : l.length ≤ 9223372036854775807) (IH : ∀ t ∈ l, ∃ k, ∀ k', k ≤ k' → RF k' t = some (safeT t)) (x0 x2 : Int) (x3 : ByteArray) (x4 : Int) (x5 : Bool) (x6 : Int) (x7 : ByteArray) (x8 : List Int) :
    ∀ (d i : Nat), i + d = l.length → ∃ k, ∀ k', k ≤ k' → portolanref11_Safe.l0 k' (i : Int) x0 l x2 x3 x4 x5 x6 x7 x8 = some (safeL (l.drop i)) := by
  intro d
  induction d with
  | zero =>
    intro i hi
    refine ⟨1, fun k' hk => ?_⟩
    obtain ⟨k, rfl⟩ : ∃ k, k' = k + 1 := ⟨k' - 1, by omega⟩
    rw [portolanref11_Safe.l0, if_neg (by omega), List.drop_eq_nil_of_le (by omega)]
    rfl
  | succ d ih =>
    intro i hi
    obtain ⟨k1, h1⟩ := IH (l[i]'(by omega)) (List.getElem_mem _)
    obtain ⟨k2, h2⟩ := ih (i + 1) (by omega)
    refine ⟨max k1 k2 + 1, fun k' hk => ?_⟩
    obtain ⟨k, rfl⟩ : ∃ k, k' = k + 1 := ⟨k' - 1, by omega⟩
    rw [portolanref11_Safe.l0, if_pos (by omega), if_pos (by omega), rd_eq l i (by omega)]
    have h3 := h1 k (by omega)
    unfold RF at h3
    rw [h3, Option.bind_some, up1 i (by omega), h2 k (by omega), List.drop_eq_getElem_cons (show i < l.length by omega)]
    rw [show safeL (l[i] :: l.drop (i + 1)) = (safeT l[i] && safeL (l.drop (i + 1))) from rfl]
    cases safeT l[i] <;> simp

theorem ref_total (t : S33) (w : World) (A : Option Addr) (hC : Kd.C k33 w A t.f1.length t.f1) : ∃ k, ∀ k', k ≤ k' → RF k' t = some (safeT t) := by
  have IH : ∀ x ∈ t.f1, ∃ k, ∀ k', k ≤ k' → RF k' x = some (safeT x) := by
    intro x hx
    have h1 := List.sizeOf_lt_of_mem hx
    obtain ⟨i, hi, rfl⟩ := List.getElem_of_mem hx
    obtain ⟨ad, A1, c1, A8, c8, e, _, _, _, _, _, _, _, _, _, _, hi1, _, _⟩ := at_T33 hC (i : Int) (by omega) (by omega)
    rw [rd_eq _ _ hi] at hi1
    exact ref_total _ w A1 hi1
  obtain ⟨k1, h1⟩ := ref_loop t.f1 (S33_len _ _ _ hC) IH t.f0 t.f2 t.f3 t.f4.f0 t.f4.f1 t.f4.f2 t.f4.f3 t.f4.f4 t.f1.length 0 (by omega)
  refine ⟨k1 + 2, fun k' hk => ?_⟩
  obtain ⟨k, rfl⟩ : ∃ k, k' = k + 1 + 1 := ⟨k' - 2, by omega⟩
  have hT : safeT t = (!reck t.f0 && safeL t.f1) := by cases t; rfl
  have h2 := h1 k (by omega)
  rw [List.drop_zero] at h2
  have h3 : ∀ b : Bool, portolanref11_Safe.j0 (k + 1) b t.f0 t.f1 t.f2 t.f3 t.f4.f0 t.f4.f1 t.f4.f2 t.f4.f3 t.f4.f4 = some (!b && safeL t.f1) := by
    intro b
    rw [portolanref11_Safe.j0]
    cases b
    · simpa using h2
    · simp
  unfold RF
  rw [portolanref11_Safe.f, h3, h3, hT]
  unfold reck
  by_cases c1 : 12 ≤ t.f0 <;> by_cases c2 : t.f0 ≤ 16 <;> simp [c1, c2]
termination_by (SizeOf.sizeOf t : Nat)
decreasing_by
  cases t
  simp only at *
  simp
  omega

theorem weight_loop (l : List S33) (hm : l.length ≤ 9223372036854775807) (IH : ∀ t ∈ l, ∀ n, ∃ k r, ∀ k', k ≤ k' → WF k' t n = some r) (n x0 x2 : Int) (x3 : ByteArray) (x4 : Int) (x5 : Bool) (x6 : Int) (x7 : ByteArray) (x8 : List Int) :
    ∀ (d i : Nat), i + d = l.length → ∀ s, ∃ k r, ∀ k', k ≤ k' → portolanlaw11_weight.l0 k' n s (i : Int) x0 l x2 x3 x4 x5 x6 x7 x8 = some r := by
  intro d
  induction d with
  | zero =>
    intro i hi s
    refine ⟨1, s, fun k' hk => ?_⟩
    obtain ⟨k, rfl⟩ : ∃ k, k' = k + 1 := ⟨k' - 1, by omega⟩
    rw [portolanlaw11_weight.l0, if_neg (by omega)]
  | succ d ih =>
    intro i hi s
    by_cases hs : s ≤ n
    · obtain ⟨k1, r1, h1⟩ := IH (l[i]'(by omega)) (List.getElem_mem _) (wrap64 (n - s))
      obtain ⟨k2, r2, h2⟩ := ih (i + 1) (by omega) (wrap64 (s + r1))
      refine ⟨max k1 k2 + 1, r2, fun k' hk => ?_⟩
      obtain ⟨k, rfl⟩ : ∃ k, k' = k + 1 := ⟨k' - 1, by omega⟩
      rw [portolanlaw11_weight.l0, if_pos (by omega), if_pos hs, if_pos (by omega), rd_eq l i (by omega)]
      have h3 := h1 k (by omega)
      unfold WF at h3
      rw [h3, Option.bind_some, up1 i (by omega), h2 k (by omega)]
    · refine ⟨1, s, fun k' hk => ?_⟩
      obtain ⟨k, rfl⟩ : ∃ k, k' = k + 1 := ⟨k' - 1, by omega⟩
      rw [portolanlaw11_weight.l0, if_pos (by omega), if_neg hs]

theorem weight_total (t : S33) (w : World) (A : Option Addr) (hC : Kd.C k33 w A t.f1.length t.f1) (n : Int) : ∃ k r, ∀ k', k ≤ k' → WF k' t n = some r := by
  have IH : ∀ x ∈ t.f1, ∀ n, ∃ k r, ∀ k', k ≤ k' → WF k' x n = some r := by
    intro x hx n
    have h1 := List.sizeOf_lt_of_mem hx
    obtain ⟨i, hi, rfl⟩ := List.getElem_of_mem hx
    obtain ⟨ad, A1, c1, A8, c8, e, _, _, _, _, _, _, _, _, _, _, hi1, _, _⟩ := at_T33 hC (i : Int) (by omega) (by omega)
    rw [rd_eq _ _ hi] at hi1
    exact weight_total _ w A1 hi1 n
  obtain ⟨k1, r, h1⟩ := weight_loop t.f1 (S33_len _ _ _ hC) IH n t.f0 t.f2 t.f3 t.f4.f0 t.f4.f1 t.f4.f2 t.f4.f3 t.f4.f4 t.f1.length 0 (by omega) 1
  refine ⟨k1 + 1, r, fun k' hk => ?_⟩
  obtain ⟨k, rfl⟩ : ∃ k, k' = k + 1 := ⟨k' - 1, by omega⟩
  unfold WF
  rw [portolanlaw11_weight.f]
  exact h1 k (by omega)
termination_by (SizeOf.sizeOf t : Nat)
decreasing_by
  cases t
  simp only at *
  simp
  omega

theorem head_true : portolanlaw11_head.f = some true := by decide

/-- block g holds the term t -/
abbrev TC (w : World) (g : Nat) (t : S33) (A1 : Option Addr) (c1 : Nat) (A8 : Option Addr) (c8 : Nat) : Prop :=
  w.cell? ⟨g, 0, none⟩ = some (.int .i64 t.f0) ∧ w.cell? ⟨g, 1, none⟩ = some (.slice A1 t.f1.length c1) ∧ w.cell? ⟨g, 2, none⟩ = some (.int .i64 t.f2) ∧ w.cell? ⟨g, 3, none⟩ = some (.string t.f3) ∧ w.cell? ⟨g, 4, none⟩ = some (.int .i64 t.f4.f0) ∧ w.cell? ⟨g, 5, none⟩ = some (.bool t.f4.f1) ∧ w.cell? ⟨g, 6, none⟩ = some (.int .i64 t.f4.f2) ∧ w.cell? ⟨g, 7, none⟩ = some (.string t.f4.f3) ∧ w.cell? ⟨g, 8, none⟩ = some (.slice A8 t.f4.f4.length c8) ∧ g < w.heap.size
theorem TC.past {W v : World} {g : Nat} {t : S33} {A1 : Option Addr} {c1 : Nat} {A8 : Option Addr} {c8 : Nat} (hb : Below W.heap.size W v) (h : TC W g t A1 c1 A8 c8) : TC v g t A1 c1 A8 c8 := by
  obtain ⟨x0, x1, x2, x3, x4, x5, x6, x7, x8, hl⟩ := h
  obtain ⟨hc, _⟩ := Base.bcell hb
  have hs := hb.size
  refine ⟨?_, ?_, ?_, ?_, ?_, ?_, ?_, ?_, ?_, by omega⟩
  all_goals (rw [hc _ _ (by omega)]; assumption)
theorem TC.new (W : World) (ty : TypeId) (t : S33) (A1 : Option Addr) (c1 : Nat) (A8 : Option Addr) (c8 : Nat) : TC (W.alloc (.cells #[.int .i64 t.f0, .slice A1 t.f1.length c1, .int .i64 t.f2, .string t.f3, .int .i64 t.f4.f0, .bool t.f4.f1, .int .i64 t.f4.f2, .string t.f4.f3, .slice A8 t.f4.f4.length c8] ty)) W.heap.size t A1 c1 A8 c8 := by
  have r := Base.Row.new W ty #[.int .i64 t.f0, .slice A1 t.f1.length c1, .int .i64 t.f2, .string t.f3, .int .i64 t.f4.f0, .bool t.f4.f1, .int .i64 t.f4.f2, .string t.f4.f3, .slice A8 t.f4.f4.length c8]
  exact ⟨r.cell 0, r.cell 1, r.cell 2, r.cell 3, r.cell 4, r.cell 5, r.cell 6, r.cell 7, r.cell 8, r.lt⟩

theorem C_single (W : World) (ty : TypeId) (t : S33) (A1 : Option Addr) (c1 : Nat) (A8 : Option Addr) (c8 : Nat) (hr1 : Kd.C k33 W A1 t.f1.length t.f1) (hc1 : t.f1.length ≤ c1) (hr8 : Kd.C (Kd.int .i64) W A8 t.f4.f4.length t.f4.f4) (hc8 : t.f4.f4.length ≤ c8) :
    Kd.C k33 (W.alloc (.cells #[.int .i64 t.f0, .slice A1 t.f1.length c1, .int .i64 t.f2, .string t.f3, .int .i64 t.f4.f0, .bool t.f4.f1, .int .i64 t.f4.f2, .string t.f4.f3, .slice A8 t.f4.f4.length c8] ty)) (some ⟨W.heap.size, 0, none⟩) 1 [t] := by
  refine ⟨rfl, by decide, fun _ => ⟨_, rfl, fun j q hq => ?_⟩⟩
  obtain ⟨hlt, rfl⟩ := List.getElem?_eq_some_iff.1 hq
  obtain rfl : j = 0 := by simpa using hlt
  refine ⟨_, rfl, k33_mk _ t hc1 (Kd.C_alloc hr1 _) hc8 (Kd.C_alloc hr8 _), fun i u hu => ?_⟩
  have r := (Base.Row.new W ty #[.int .i64 t.f0, .slice A1 t.f1.length c1, .int .i64 t.f2, .string t.f3, .int .i64 t.f4.f0, .bool t.f4.f1, .int .i64 t.f4.f2, .string t.f4.f3, .slice A8 t.f4.f4.length c8]).cell i
  rw [show (⟨W.heap.size, 0, none⟩ : Addr).add (0 * (Kd.sz k33) + i) = ⟨W.heap.size, i, none⟩ from by simp [Addr.add]; intro h; exact h.symm]
  rw [r]
  simpa using hu

set_option maxHeartbeats 1000000 in
set_option maxRecDepth 100000 in
theorem law (t : S33) (op : Int) (A1 : Option Addr) (c1 : Nat) (A8 : Option Addr) (c8 : Nat) (w : World) (hr1 : Kd.C k33 w A1 t.f1.length t.f1) (hc1 : t.f1.length ≤ c1) (hr8 : Kd.C (Kd.int .i64) w A8 t.f4.f4.length t.f4.f4) (hc8 : t.f4.f4.length ≤ c8) :
    Calls Try.prog 4 #[.agg #[.int .i64 t.f0, .slice A1 t.f1.length c1, .int .i64 t.f2, .string t.f3, .int .i64 t.f4.f0, .bool t.f4.f1, .int .i64 t.f4.f2, .string t.f4.f3, .slice A8 t.f4.f4.length c8], .int .i64 op] w fun e w' => e = .returned (.bool true) ∧ Below w.heap.size w w' := by
  obtain ⟨kr, hkr⟩ := ref_total t w A1 hr1
  obtain ⟨kw, rw', hkw⟩ := weight_total t w A1 hr1 4000
  have HR := hkr kr (Nat.le_refl _)
  have HW := hkw kw (Nat.le_refl _)
  clear hkr hkw
  go_enter Try.func4, Try.ntmps4
  go_wp2_with fail
  refine (portolanlaw11_head.calls true _ head_true).mono ?_
  rintro e w1 ⟨rfl, hb1⟩
  have T1 := (TC.new w _ t A1 c1 A8 c8).past hb1
  have B1 : Below w.heap.size w w1 := below_step (by repeat (first | exact Below.refl _ _ | apply below_alloc)) hb1
  clear hb1
  have R1 := Kd.C_below hr1 B1
  have R8 := Kd.C_below hr8 B1
  obtain ⟨x0, x1, x2, x3, x4, x5, x6, x7, x8, xl⟩ := T1
  go_wp2_with fail
  refine (portolanlaw11_weight.calls kw t.f0 A1 c1 t.f1 t.f2 t.f3 t.f4.f0 t.f4.f1 t.f4.f2 t.f4.f3 A8 c8 t.f4.f4 4000 rw' w1 R1 hc1 R8 hc8 HW).mono ?_
  rintro e w2 ⟨rfl, hb2⟩
  have T2 := TC.past hb2 (show TC w1 w.heap.size t A1 c1 A8 c8 from ⟨x0, x1, x2, x3, x4, x5, x6, x7, x8, xl⟩)
  have B2 : Below w.heap.size w w2 := below_step B1 hb2
  have S1 := Kd.C_below R1 hb2
  have S8 := Kd.C_below R8 hb2
  clear x0 x1 x2 x3 x4 x5 x6 x7 x8 xl R1 R8 hb2 B1
  obtain ⟨x0, x1, x2, x3, x4, x5, x6, x7, x8, xl⟩ := T2
  by_cases hw4 : rw' ≤ 4000
  · go_wp2_with fail
    refine (safe_at t A1 c1 A8 c8 w2 S1 hc1 S8 hc8).mono ?_
    rintro e w3 ⟨rfl, hb3⟩
    have T3 := TC.past hb3 (show TC w2 w.heap.size t A1 c1 A8 c8 from ⟨x0, x1, x2, x3, x4, x5, x6, x7, x8, xl⟩)
    have B3 : Below w.heap.size w w3 := below_step B2 hb3
    have R1 := Kd.C_below S1 hb3
    have R8 := Kd.C_below S8 hb3
    clear x0 x1 x2 x3 x4 x5 x6 x7 x8 xl S1 S8 hb3 B2
    obtain ⟨x0, x1, x2, x3, x4, x5, x6, x7, x8, xl⟩ := T3
    go_wp2_with fail
    refine (safe_at ⟨op, [t], 0, ⟨#[]⟩, ⟨0, false, 0, ⟨#[]⟩, []⟩⟩ _ _ _ _ _ (C_single w3 _ t A1 c1 A8 c8 R1 hc1 R8 hc8) (Nat.le_refl _) (Kd.C_nil _ _) (Nat.le_refl _)).mono ?_
    rintro e w4 ⟨rfl, hb4⟩
    have T4 := (TC.past (Base.bstep (by repeat (first | exact Below.refl _ _ | apply below_alloc)) hb4) (show TC w3 w.heap.size t A1 c1 A8 c8 from ⟨x0, x1, x2, x3, x4, x5, x6, x7, x8, xl⟩))
    have hb5 : Below w3.heap.size w3 w4 := Base.bstep (by repeat (first | exact Below.refl _ _ | apply below_alloc)) hb4
    have B4 : Below w.heap.size w w4 := below_step B3 hb5
    have S1 := Kd.C_below R1 hb5
    have S8 := Kd.C_below R8 hb5
    clear x0 x1 x2 x3 x4 x5 x6 x7 x8 xl R1 R8 hb4 hb5 B3
    obtain ⟨x0, x1, x2, x3, x4, x5, x6, x7, x8, xl⟩ := T4
    rw [show safeT ⟨op, [t], 0, ⟨#[]⟩, ⟨0, false, 0, ⟨#[]⟩, []⟩⟩ = (!reck op && (safeT t && true)) from rfl]
    go_wp2_with (go_at_call 14; refine (portolanref11_Safe.calls kr t.f0 A1 c1 t.f1 t.f2 t.f3 t.f4.f0 t.f4.f1 t.f4.f2 t.f4.f3 A8 c8 t.f4.f4 (safeT t) w4 S1 hc1 S8 hc8 HR).mono ?_; rintro e w5 ⟨rfl, hb5⟩)
    all_goals (try go_returns)
    all_goals (refine ⟨congrArg (fun b => Ending.returned (Value.bool b)) ?_, below_step B4 hb5⟩)
    all_goals (clear HR S1 S8 x0 x1 x2 x3 x4 x5 x6 x7 x8 xl hb5 B4 hr1 hr8)
    all_goals (cases safeT t <;> simp [reck, *])
  · go_wp2_with fail
    go_returns
    exact ⟨rfl, B2⟩
end Go.Proofs.Ytjanfjdiikddaaa.SafeWalk
