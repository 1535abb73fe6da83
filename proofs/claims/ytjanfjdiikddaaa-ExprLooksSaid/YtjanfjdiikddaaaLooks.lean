/- ExprLooks, the plain law: the slots of a term by expr.Slots (sorted, then compacted) are those of the reference (united, term by term). -/
import Derived.Test.YtjanfjdiikddaaaSafe
import Derived.Test.YtjanfjdiikddaaaQSafex3
import Derived.Test.YtjanfjdiikddaaaQSafex4
import Derived.Test.YtjanfjdiikddaaaQSafex5
import Derived.Test.YtjanfjdiikddaaaQSafex6
namespace Go.Proofs.Ytjanfjdiikddaaa.LooksPure
set_option linter.unusedVariables false
set_option linter.unusedSimpArgs false
open Go.RowKit Go.Proofs.YtjanfjdiikddaaaW.PrintWords Go.Proofs.YtjanfjdiikddaaaW.PrintLast Go.Proofs.YtjanfjdiikddaaaW.PrintMore Go.Proofs.Ytjanfjdiikddaaa.QSafe Go.Proofs.Ytjanfjdiikddaaa.SafeWalk

/-- rising, each once -/
def Rise (l : List Int) : Prop := l.Pairwise (fun x y => x < y)
theorem rise_unique : ∀ (a b : List Int), Rise a → Rise b → (∀ x, x ∈ a ↔ x ∈ b) → a = b
  | [], [], _, _, _ => rfl
  | [], y :: bs, _, _, h => absurd ((h y).2 (by simp)) (by simp)
  | x :: xs, [], _, _, h => absurd ((h x).1 (by simp)) (by simp)
  | x :: xs, y :: bs, ha, hb, h => by
    have ha' := List.pairwise_cons.1 ha
    have hb' := List.pairwise_cons.1 hb
    have e : x = y := by
      have h1 := (h x).1 (by simp)
      have h2 := (h y).2 (by simp)
      rcases List.mem_cons.1 h1 with h1 | h1
      · exact h1
      · rcases List.mem_cons.1 h2 with h2 | h2
        · exact h2.symm
        · have := ha'.1 y h2
          have := hb'.1 x h1
          omega
    subst e
    have e2 : xs = bs := rise_unique xs bs ha'.2 hb'.2 (fun z => by
      constructor
      · intro hz
        have h1 := (h z).1 (List.mem_cons_of_mem _ hz)
        rcases List.mem_cons.1 h1 with h1 | h1
        · have := ha'.1 z hz; omega
        · exact h1
      · intro hz
        have h1 := (h z).2 (List.mem_cons_of_mem _ hz)
        rcases List.mem_cons.1 h1 with h1 | h1
        · have := hb'.1 z hz; omega
        · exact h1)
    rw [e2]

theorem compact_upto (l : List Int) (h : l.Pairwise (fun x y => x ≤ y)) : ∀ m, m ≤ l.length → Rise (Go.Lib.compactUpTo l.toArray m) ∧ ∀ x, x ∈ Go.Lib.compactUpTo l.toArray m ↔ x ∈ l.take m := by
  intro m
  induction m with
  | zero => intro _; exact ⟨by simp [Go.Lib.compactUpTo, Rise], by simp [Go.Lib.compactUpTo]⟩
  | succ m ih =>
    intro hm
    obtain ⟨h1, h2⟩ := ih (by omega)
    have hlt : m < l.length := by omega
    have e0 : l.toArray[m]! = l[m] := by simp [hlt]
    rw [Go.Lib.compactUpTo_succ, List.take_succ_eq_append_getElem hlt]
    have hle : ∀ x ∈ l.take m, x ≤ l[m] := by
      intro x hx
      obtain ⟨i, hi, rfl⟩ := List.getElem_of_mem hx
      rw [List.getElem_take]
      simp only [List.length_take] at hi
      exact List.pairwise_iff_getElem.1 h i m (by omega) hlt (by omega)
    by_cases hk : Go.Lib.keeps l.toArray m = true
    · rw [if_pos hk, e0]
      refine ⟨?_, fun x => by rw [List.mem_append, List.mem_append, h2]⟩
      unfold Rise
      rw [List.pairwise_append]
      refine ⟨h1, by simp, fun x hx y hy => ?_⟩
      obtain rfl : y = l[m] := by simpa using hy
      have hx' := (h2 x).1 hx
      have h3 := hle x hx'
      rcases Nat.eq_zero_or_pos m with h0 | h0
      · subst h0; simp at hx'
      · have e1 : l.toArray[m - 1]! = l[m - 1] := by simp [show m - 1 < l.length by omega]
        have hne : l[m] ≠ l[m - 1] := by
          intro e
          have := Go.Lib.keeps_neg (d := l.toArray) h0 (by rw [e0, e1, e])
          rw [this] at hk
          cases hk
        have h4 : l[m - 1] ≤ l[m] := List.pairwise_iff_getElem.1 h (m - 1) m (by omega) hlt (by omega)
        have h5 : x ≤ l[m - 1] := by
          obtain ⟨i, hi, rfl⟩ := List.getElem_of_mem hx'
          rw [List.getElem_take]
          simp only [List.length_take] at hi
          rcases Nat.lt_or_ge i (m - 1) with hc | hc
          · exact List.pairwise_iff_getElem.1 h i (m - 1) (by omega) (by omega) hc
          · have : i = m - 1 := by omega
            subst this
            exact Int.le_refl _
        omega
    · rw [if_neg hk, List.append_nil]
      refine ⟨h1, fun x => ?_⟩
      rw [h2]
      have h0 : 0 < m := by
        rcases Nat.eq_zero_or_pos m with h0 | h0
        · subst h0
          exact absurd (Go.Lib.keeps_lt_one l.toArray 0 (by omega)) hk
        · exact h0
      have e1 : l.toArray[m - 1]! = l[m - 1] := by simp [show m - 1 < l.length by omega]
      have heq : l[m] = l[m - 1] := by
        rcases Int.lt_trichotomy l[m] l[m - 1] with hc | hc | hc
        · exact absurd (Go.Lib.keeps_pos (d := l.toArray) (m := m) (by rw [e0, e1]; omega)) hk
        · exact hc
        · exact absurd (Go.Lib.keeps_pos (d := l.toArray) (m := m) (by rw [e0, e1]; omega)) hk
      have hin : l[m - 1] ∈ l.take m := by
        rw [List.mem_take_iff_getElem]
        exact ⟨m - 1, by omega, rfl⟩
      constructor
      · intro hx; exact List.mem_append_left _ hx
      · intro hx
        rcases List.mem_append.1 hx with hx | hx
        · exact hx
        · obtain rfl : x = l[m] := by simpa using hx
          rw [heq]; exact hin
theorem compact_rise (l : List Int) (h : l.Pairwise (fun x y => x ≤ y)) : Rise (Go.Lib.compact l) ∧ ∀ x, x ∈ Go.Lib.compact l ↔ x ∈ l := by
  have h1 := compact_upto l h l.length (Nat.le_refl _)
  rw [List.take_length] at h1
  exact h1
theorem sort_le (l : List Int) : (l.mergeSort fun x y => decide (x ≤ y)).Pairwise (fun x y => x ≤ y) := by
  have h := List.pairwise_mergeSort (le := fun x y : Int => decide (x ≤ y)) (fun a b c h1 h2 => by simp at *; omega) (fun a b => by simp; omega) l
  exact h.imp (fun h => by simpa using h)
theorem slots_rise (t : S33) : Rise (slotsT t) ∧ ∀ x, x ∈ slotsT t ↔ x ∈ own1 t.f0 t.f2 ∨ x ∈ slotsL t.f1 := by
  rw [slotsT_eq]
  obtain ⟨h1, h2⟩ := compact_rise _ (sort_le (own1 t.f0 t.f2 ++ slotsL t.f1))
  refine ⟨h1, fun x => ?_⟩
  rw [h2, List.mem_mergeSort, List.mem_append]

/-- one element put behind a list that rises -/
def E (out : List Int) (n : Int) (cont : List Int → Option (List Int)) : Option (List Int) :=
  if (out.length : Int) = 0 then (if out.length < 17592186044416 then cont (out ++ [n]) else none) else (if 0 ≤ (wrap64 ((out.length : Int) - 1)) then (if (wrap64 ((out.length : Int) - 1)) < (out.length : Int) then (if (rd out (wrap64 ((out.length : Int) - 1))) = n then cont out else (if out.length < 17592186044416 then cont (out ++ [n]) else none)) else none) else none)
theorem E_ok (out : List Int) (n : Int) (ho : Rise out) (hn : ∀ x ∈ out, x ≤ n) (hl : out.length < 17592186044416) :
    ∃ o, (∀ cont, E out n cont = cont o) ∧ Rise o ∧ (∀ x, x ∈ o ↔ x ∈ out ∨ x = n) ∧ o.length ≤ out.length + 1 := by
  rcases List.eq_nil_or_concat out with rfl | ⟨init, z, rfl⟩
  · exact ⟨[n], fun cont => by simp [E], by simp [Rise], by simp, by simp⟩
  · rw [List.concat_eq_append] at *
    have hw : wrap64 (((init ++ [z]).length : Int) - 1) = (init.length : Int) := by
      rw [List.length_append] at hl ⊢
      simp only [List.length_singleton] at hl ⊢
      unfold wrap64
      omega
    have hrd : rd (init ++ [z]) (init.length : Int) = z := by
      unfold rd
      simp
    have hz := hn z (by simp)
    by_cases hzn : z = n
    · subst hzn
      refine ⟨init ++ [z], fun cont => ?_, ho, by simp, by omega⟩
      unfold E
      rw [hw, hrd, if_neg (by simp only [List.length_cons, List.length_append, List.length_nil, List.length_singleton]; omega), if_pos (by omega), if_pos (by simp only [List.length_cons, List.length_append, List.length_nil, List.length_singleton]; omega), if_pos rfl]
    · refine ⟨init ++ [z] ++ [n], fun cont => ?_, ?_, by simp [or_assoc], by simp⟩
      · unfold E
        rw [hw, hrd, if_neg (by simp only [List.length_cons, List.length_append, List.length_nil, List.length_singleton]; omega), if_pos (by omega), if_pos (by simp only [List.length_cons, List.length_append, List.length_nil, List.length_singleton]; omega), if_neg hzn, if_pos hl]
      · unfold Rise at *
        rw [List.pairwise_append]
        refine ⟨ho, by simp, fun x hx y hy => ?_⟩
        obtain rfl : y = n := by simpa using hy
        rcases List.mem_append.1 hx with hx | hx
        · have := (List.pairwise_append.1 ho).2.2 x hx z (by simp)
          omega
        · obtain rfl : x = z := by simpa using hx
          omega

theorem un_nil (k : Nat) (out : List Int) : portolanref11_Union.l0 (k + 2) [] [] out = some out := by
  simp [portolanref11_Union.l0, portolanref11_Union.j1]
theorem un_a (k : Nat) (x : Int) (xs b out : List Int) (h : b = [] ∨ ∃ y ys, b = y :: ys ∧ x ≤ y) :
    portolanref11_Union.l0 (k + 3) (x :: xs) b out = E out x (fun o => portolanref11_Union.l0 k xs b o) := by
  have hr : rd (x :: xs) 0 = x := rfl
  rw [portolanref11_Union.l0, if_pos (by simp only [List.length_cons, List.length_append, List.length_nil, List.length_singleton]; omega), portolanref11_Union.j1, if_pos rfl]
  rcases h with rfl | ⟨y, ys, rfl, hxy⟩
  · rw [if_pos (by simp only [List.length_cons, List.length_append, List.length_nil, List.length_singleton]; omega), portolanref11_Union.j2, if_pos rfl, if_pos (by simp only [List.length_cons, List.length_append, List.length_nil, List.length_singleton]; omega), if_pos (by simp only [List.length_cons, List.length_append, List.length_nil, List.length_singleton]; omega), Option.bind_some, hr]
    rfl
  · rw [if_neg (by simp only [List.length_cons, List.length_append, List.length_nil, List.length_singleton]; omega), if_pos (by simp only [List.length_cons, List.length_append, List.length_nil, List.length_singleton]; omega), if_pos (by simp only [List.length_cons, List.length_append, List.length_nil, List.length_singleton]; omega), if_pos (by simp only [List.length_cons, List.length_append, List.length_nil, List.length_singleton]; omega), hr, show rd (y :: ys) 0 = y from rfl, decide_eq_true hxy, portolanref11_Union.j2, if_pos rfl, if_pos (by simp only [List.length_cons, List.length_append, List.length_nil, List.length_singleton]; omega), if_pos (by simp only [List.length_cons, List.length_append, List.length_nil, List.length_singleton]; omega), Option.bind_some, hr]
    rfl
theorem un_b (k : Nat) (a : List Int) (y : Int) (ys out : List Int) (h : a = [] ∨ ∃ x xs, a = x :: xs ∧ ¬ x ≤ y) :
    portolanref11_Union.l0 (k + 3) a (y :: ys) out = E out y (fun o => portolanref11_Union.l0 k a ys o) := by
  have hr : rd (y :: ys) 0 = y := rfl
  rcases h with rfl | ⟨x, xs, rfl, hxy⟩
  · rw [portolanref11_Union.l0, if_neg (by simp only [List.length_cons, List.length_append, List.length_nil, List.length_singleton]; omega), decide_eq_true (by simp only [List.length_cons, List.length_append, List.length_nil, List.length_singleton]; omega), portolanref11_Union.j1, if_pos rfl, if_neg (by simp only [List.length_cons, List.length_append, List.length_nil, List.length_singleton]; omega), if_neg (by simp only [List.length_cons, List.length_append, List.length_nil, List.length_singleton]; omega), portolanref11_Union.j2, if_neg (by decide), if_pos (by simp only [List.length_cons, List.length_append, List.length_nil, List.length_singleton]; omega), if_pos (by simp only [List.length_cons, List.length_append, List.length_nil, List.length_singleton]; omega), Option.bind_some, hr]
    rfl
  · rw [portolanref11_Union.l0, if_pos (by simp only [List.length_cons, List.length_append, List.length_nil, List.length_singleton]; omega), portolanref11_Union.j1, if_pos rfl, if_neg (by simp only [List.length_cons, List.length_append, List.length_nil, List.length_singleton]; omega), if_pos (by simp only [List.length_cons, List.length_append, List.length_nil, List.length_singleton]; omega), if_pos (by simp only [List.length_cons, List.length_append, List.length_nil, List.length_singleton]; omega), if_pos (by simp only [List.length_cons, List.length_append, List.length_nil, List.length_singleton]; omega), hr, show rd (x :: xs) 0 = x from rfl, decide_eq_false hxy, portolanref11_Union.j2, if_neg (by decide), if_pos (by simp only [List.length_cons, List.length_append, List.length_nil, List.length_singleton]; omega), if_pos (by simp only [List.length_cons, List.length_append, List.length_nil, List.length_singleton]; omega), Option.bind_some, hr]
    rfl

theorem union_ok : ∀ (N : Nat) (a b out : List Int), a.length + b.length = N → Rise a → Rise b → Rise out → (∀ x ∈ out, ∀ y ∈ a, x ≤ y) → (∀ x ∈ out, ∀ y ∈ b, x ≤ y) → out.length + N < 17592186044416 →
    ∃ r K, (∀ k, K ≤ k → portolanref11_Union.l0 k a b out = some r) ∧ Rise r ∧ (∀ x, x ∈ r ↔ x ∈ out ∨ x ∈ a ∨ x ∈ b) ∧ r.length ≤ out.length + N := by
  intro N
  induction N with
  | zero =>
    intro a b out hN _ _ ho _ _ _
    obtain rfl : a = [] := List.eq_nil_of_length_eq_zero (by omega)
    obtain rfl : b = [] := List.eq_nil_of_length_eq_zero (by omega)
    refine ⟨out, 2, fun k hk => ?_, ho, by simp, by omega⟩
    obtain ⟨k, rfl⟩ : ∃ j, k = j + 2 := ⟨k - 2, by omega⟩
    exact un_nil k out
  | succ N ih =>
    intro a b out hN ha hb ho h1 h2 hl
    have key : (∃ x xs, a = x :: xs ∧ (b = [] ∨ ∃ y ys, b = y :: ys ∧ x ≤ y)) ∨ (∃ y ys, b = y :: ys ∧ (a = [] ∨ ∃ x xs, a = x :: xs ∧ ¬ x ≤ y)) := by
      cases a with
      | nil =>
        cases b with
        | nil => simp at hN
        | cons y ys => exact .inr ⟨y, ys, rfl, .inl rfl⟩
      | cons x xs =>
        cases b with
        | nil => exact .inl ⟨x, xs, rfl, .inl rfl⟩
        | cons y ys =>
          by_cases hxy : x ≤ y
          · exact .inl ⟨x, xs, rfl, .inr ⟨y, ys, rfl, hxy⟩⟩
          · exact .inr ⟨y, ys, rfl, .inr ⟨x, xs, rfl, hxy⟩⟩
    rcases key with ⟨x, xs, rfl, hc⟩ | ⟨y, ys, rfl, hc⟩
    · obtain ⟨o, he, ho', hm, hlen⟩ := E_ok out x ho (fun z hz => h1 z hz x (by simp)) (by omega)
      have ha' := List.pairwise_cons.1 ha
      obtain ⟨r, K, hr, hr1, hr2, hr3⟩ := ih xs b o (by simp at hN; omega) ha'.2 hb ho' (fun z hz w hw => by
          rcases (hm z).1 hz with h | h
          · exact h1 z h w (List.mem_cons_of_mem _ hw)
          · have := ha'.1 w hw; omega) (fun z hz w hw => by
          rcases (hm z).1 hz with h | h
          · exact h2 z h w hw
          · rcases hc with rfl | ⟨y, ys, rfl, hxy⟩
            · simp at hw
            · have hb' := List.pairwise_cons.1 hb
              rcases List.mem_cons.1 hw with e | hw
              · omega
              · have := hb'.1 w hw; omega) (by omega)
      refine ⟨r, K + 3, fun k hk => ?_, hr1, fun z => ?_, by omega⟩
      · obtain ⟨k, rfl⟩ : ∃ j, k = j + 3 := ⟨k - 3, by omega⟩
        rw [un_a k x xs b out hc, he]
        exact hr k (by omega)
      · rw [hr2, hm, List.mem_cons]
        constructor
        · rintro ((h | h) | h | h)
          · exact .inl h
          · exact .inr (.inl (.inl h))
          · exact .inr (.inl (.inr h))
          · exact .inr (.inr h)
        · rintro (h | (h | h) | h)
          · exact .inl (.inl h)
          · exact .inl (.inr h)
          · exact .inr (.inl h)
          · exact .inr (.inr h)
    · obtain ⟨o, he, ho', hm, hlen⟩ := E_ok out y ho (fun z hz => h2 z hz y (by simp)) (by omega)
      have hb' := List.pairwise_cons.1 hb
      obtain ⟨r, K, hr, hr1, hr2, hr3⟩ := ih a ys o (by simp at hN; omega) ha hb'.2 ho' (fun z hz w hw => by
          rcases (hm z).1 hz with h | h
          · exact h1 z h w hw
          · rcases hc with rfl | ⟨x, xs, rfl, hxy⟩
            · simp at hw
            · have ha' := List.pairwise_cons.1 ha
              rcases List.mem_cons.1 hw with e | hw
              · omega
              · have := ha'.1 w hw; omega) (fun z hz w hw => by
          rcases (hm z).1 hz with h | h
          · exact h2 z h w (List.mem_cons_of_mem _ hw)
          · have := hb'.1 w hw; omega) (by omega)
      refine ⟨r, K + 3, fun k hk => ?_, hr1, fun z => ?_, by omega⟩
      · obtain ⟨k, rfl⟩ : ∃ j, k = j + 3 := ⟨k - 3, by omega⟩
        rw [un_b k a y ys out hc, he]
        exact hr k (by omega)
      · rw [hr2, hm, List.mem_cons]
        constructor
        · rintro ((h | h) | h | h)
          · exact .inl h
          · exact .inr (.inr (.inl h))
          · exact .inr (.inl h)
          · exact .inr (.inr (.inr h))
        · rintro (h | h | (h | h))
          · exact .inl (.inl h)
          · exact .inr (.inl h)
          · exact .inl (.inr h)
          · exact .inr (.inr h)

abbrev RS (k : Nat) (t : S33) : Option (List Int) := portolanref11_Slots.f k t.f0 t.f1 t.f2 t.f3 t.f4.f0 t.f4.f1 t.f4.f2 t.f4.f3 t.f4.f4
theorem rs_loop (l : List S33) (hm : l.length ≤ 9223372036854775807) (IH : ∀ t ∈ l, ∃ K, ∀ k, K ≤ k → RS k t = some (slotsT t)) (x0 x2 : Int) (x3 : ByteArray) (x4 : Int) (x5 : Bool) (x6 : Int) (x7 : ByteArray) (x8 : List Int) :
    ∀ (d i : Nat), i + d = l.length → ∀ out, Rise out → out.length + cntL (l.drop i) < 17592186044416 → ∃ r K, (∀ k, K ≤ k → portolanref11_Slots.l0 k out (i : Int) x0 l x2 x3 x4 x5 x6 x7 x8 = some r) ∧ Rise r ∧ ∀ x, x ∈ r ↔ x ∈ out ∨ x ∈ slotsL (l.drop i) := by
  intro d
  induction d with
  | zero =>
    intro i hi out ho _
    refine ⟨out, 1, fun k' hk => ?_, ho, ?_⟩
    · obtain ⟨k, rfl⟩ : ∃ k, k' = k + 1 := ⟨k' - 1, by omega⟩
      rw [portolanref11_Slots.l0, if_neg (by omega)]
    · intro x
      rw [List.drop_eq_nil_of_le (by omega)]
      simp [slotsL]
  | succ d ih =>
    intro i hi out ho hl
    have hlt : i < l.length := by omega
    have hd := List.drop_eq_getElem_cons hlt
    rw [hd, cntL] at hl
    obtain ⟨K1, h1⟩ := IH (l[i]'hlt) (List.getElem_mem _)
    have hs := slotsT_len (l[i]'hlt)
    obtain ⟨o, K2, h2, ho2, hm2, hl2⟩ := union_ok _ out (slotsT (l[i]'hlt)) [] rfl ho (slots_rise _).1 (by simp [Rise]) (by simp) (by simp) (by simp only [List.length_nil]; omega)
    simp only [List.length_nil] at hl2
    obtain ⟨r, K3, h3, hr3, hm3⟩ := ih (i + 1) (by omega) o ho2 (by omega)
    refine ⟨r, max K1 (max K2 K3) + 1, fun k' hk => ?_, hr3, fun x => ?_⟩
    · obtain ⟨k, rfl⟩ : ∃ k, k' = k + 1 := ⟨k' - 1, by omega⟩
      rw [portolanref11_Slots.l0, if_pos (by omega), if_pos (by omega), rd_eq l i hlt]
      have h4 := h1 k (by omega)
      unfold RS at h4
      have h5 := h2 k (by omega)
      rw [h4, Option.bind_some, portolanref11_Union.f, h5, Option.bind_some, up1 i (by omega), h3 k (by omega)]
    · rw [hm3, hm2, hd, slotsL, List.mem_append]
      simp [or_assoc]

theorem rs_total (t : S33) (w : World) (A : Option Addr) (hC : Kd.C k33 w A t.f1.length t.f1) (hn : cntT t < 17592186044416) : ∃ K, ∀ k, K ≤ k → RS k t = some (slotsT t) := by
  have hcnt := cntT_eq t
  have IH : ∀ x ∈ t.f1, ∃ K, ∀ k, K ≤ k → RS k x = some (slotsT x) := by
    intro x hx
    have h1 := List.sizeOf_lt_of_mem hx
    obtain ⟨i, hi, rfl⟩ := List.getElem_of_mem hx
    obtain ⟨ad, A1, c1, A8, c8, e, _, _, _, _, _, _, _, _, _, _, hi1, _, _⟩ := at_T33 hC (i : Int) (by omega) (by omega)
    rw [rd_eq _ _ hi] at hi1
    have hc : cntT t.f1[i] ≤ cntL t.f1 := by
      have h2 := cntL_app (t.f1.take i) (t.f1.drop i)
      rw [List.take_append_drop, List.drop_eq_getElem_cons hi, cntL] at h2
      omega
    exact rs_total _ w A1 hi1 (by omega)
  have ho1 := own1_len t.f0 t.f2
  have hro : Rise (own1 t.f0 t.f2) := by unfold own1 Rise; split <;> simp
  obtain ⟨r, K, h1, h2, h3⟩ := rs_loop t.f1 (S33_len _ _ _ hC) IH t.f0 t.f2 t.f3 t.f4.f0 t.f4.f1 t.f4.f2 t.f4.f3 t.f4.f4 t.f1.length 0 (by omega) (own1 t.f0 t.f2) hro (by rw [List.drop_zero]; omega)
  rw [List.drop_zero] at h3
  obtain ⟨s1, s2⟩ := slots_rise t
  have e : r = slotsT t := rise_unique r (slotsT t) h2 s1 (fun x => by rw [h3, s2])
  refine ⟨K + 3, fun k' hk => ?_⟩
  obtain ⟨k, rfl⟩ : ∃ k, k' = k + 1 + 1 + 1 := ⟨k' - 3, by omega⟩
  have h4 := h1 k (by omega)
  rw [e] at h4
  unfold RS
  unfold own1 at h4
  rw [portolanref11_Slots.f]
  by_cases c2 : t.f0 = 2
  · rw [if_pos c2, portolanref11_Slots.j0, if_pos rfl, portolanref11_Slots.j1]
    simpa [c2] using h4
  · rw [if_neg c2]
    by_cases c3 : t.f0 = 3
    · rw [portolanref11_Slots.j0, if_pos (by simp [c3]), portolanref11_Slots.j1]
      simpa [c3] using h4
    · rw [portolanref11_Slots.j0, if_neg (by simp [c3]), portolanref11_Slots.j1]
      simpa [c2, c3] using h4
termination_by (SizeOf.sizeOf t : Nat)
decreasing_by
  cases t
  simp only at *
  simp
  omega

theorem wt_loop (l : List S33) (hm : l.length ≤ 9223372036854775807) (IH : ∀ t ∈ l, ∀ n : Int, 0 ≤ n → n ≤ 4000 → ∃ r K, (∀ k, K ≤ k → WF k t n = some r) ∧ 1 ≤ r ∧ r ≤ n + 1 ∧ (r ≤ n → r = cntT t)) (n : Int) (h0 : 0 ≤ n) (h4 : n ≤ 4000) (x0 x2 : Int) (x3 : ByteArray) (x4 : Int) (x5 : Bool) (x6 : Int) (x7 : ByteArray) (x8 : List Int) :
    ∀ (d i : Nat), i + d = l.length → ∀ s : Int, 1 ≤ s → s ≤ n + 1 → ∃ r K, (∀ k, K ≤ k → portolanlaw11_weight.l0 k n s (i : Int) x0 l x2 x3 x4 x5 x6 x7 x8 = some r) ∧ s ≤ r ∧ r ≤ n + 1 ∧ (r ≤ n → r = s + cntL (l.drop i)) := by
  intro d
  induction d with
  | zero =>
    intro i hi s hs1 hs2
    refine ⟨s, 1, fun k' hk => ?_, by omega, hs2, fun _ => ?_⟩
    · obtain ⟨k, rfl⟩ : ∃ k, k' = k + 1 := ⟨k' - 1, by omega⟩
      rw [portolanlaw11_weight.l0, if_neg (by omega)]
    · rw [List.drop_eq_nil_of_le (by omega)]
      simp [cntL]
  | succ d ih =>
    intro i hi s hs1 hs2
    have hlt : i < l.length := by omega
    have hd := List.drop_eq_getElem_cons hlt
    by_cases hs : s ≤ n
    · have hw1 : wrap64 (n - s) = n - s := by unfold wrap64; omega
      obtain ⟨r1, K1, h1, p1, p2, p3⟩ := IH (l[i]'hlt) (List.getElem_mem _) (n - s) (by omega) (by omega)
      have hw2 : wrap64 (s + r1) = s + r1 := by unfold wrap64; omega
      obtain ⟨r2, K2, h2, q1, q2, q3⟩ := ih (i + 1) (by omega) (s + r1) (by omega) (by omega)
      refine ⟨r2, max K1 K2 + 1, fun k' hk => ?_, by omega, q2, fun hr => ?_⟩
      · obtain ⟨k, rfl⟩ : ∃ k, k' = k + 1 := ⟨k' - 1, by omega⟩
        rw [portolanlaw11_weight.l0, if_pos (by omega), if_pos hs, if_pos (by omega), rd_eq l i hlt, hw1]
        have h3 := h1 k (by omega)
        unfold WF at h3
        rw [h3, Option.bind_some, hw2, up1 i (by omega), h2 k (by omega)]
      · have e1 := q3 hr
        have e2 := p3 (by omega)
        rw [hd, cntL]
        omega
    · refine ⟨s, 1, fun k' hk => ?_, by omega, hs2, fun hr => by omega⟩
      obtain ⟨k, rfl⟩ : ∃ k, k' = k + 1 := ⟨k' - 1, by omega⟩
      rw [portolanlaw11_weight.l0, if_pos (by omega), if_neg hs]

theorem wt_total (t : S33) (w : World) (A : Option Addr) (hC : Kd.C k33 w A t.f1.length t.f1) (n : Int) (h0 : 0 ≤ n) (h4 : n ≤ 4000) : ∃ r K, (∀ k, K ≤ k → WF k t n = some r) ∧ 1 ≤ r ∧ r ≤ n + 1 ∧ (r ≤ n → r = cntT t) := by
  have hcnt := cntT_eq t
  have IH : ∀ x ∈ t.f1, ∀ n : Int, 0 ≤ n → n ≤ 4000 → ∃ r K, (∀ k, K ≤ k → WF k x n = some r) ∧ 1 ≤ r ∧ r ≤ n + 1 ∧ (r ≤ n → r = cntT x) := by
    intro x hx n h0 h4
    have h1 := List.sizeOf_lt_of_mem hx
    obtain ⟨i, hi, rfl⟩ := List.getElem_of_mem hx
    obtain ⟨ad, A1, c1, A8, c8, e, _, _, _, _, _, _, _, _, _, _, hi1, _, _⟩ := at_T33 hC (i : Int) (by omega) (by omega)
    rw [rd_eq _ _ hi] at hi1
    exact wt_total _ w A1 hi1 n h0 h4
  obtain ⟨r, K, h1, p1, p2, p3⟩ := wt_loop t.f1 (S33_len _ _ _ hC) IH n h0 h4 t.f0 t.f2 t.f3 t.f4.f0 t.f4.f1 t.f4.f2 t.f4.f3 t.f4.f4 t.f1.length 0 (by omega) 1 (by omega) (by omega)
  refine ⟨r, K + 1, fun k' hk => ?_, p1, p2, fun hr => ?_⟩
  · obtain ⟨k, rfl⟩ : ∃ k, k' = k + 1 := ⟨k' - 1, by omega⟩
    unfold WF
    rw [portolanlaw11_weight.f]
    exact h1 k (by omega)
  · have e := p3 hr
    rw [List.drop_zero] at e
    omega
termination_by (SizeOf.sizeOf t : Nat)
decreasing_by
  cases t
  simp only at *
  simp
  omega

theorem same_self (l : List Int) (hl : l.length < 9223372036854775807) : ∃ K, ∀ k, K ≤ k → portolanref06_SameInts.f k l l = some true := by
  have h : ∀ d i : Nat, i + d = l.length → ∃ K, ∀ k, K ≤ k → portolanref06_SameInts.l0 k l l (i : Int) = some true := by
    intro d
    induction d with
    | zero =>
      intro i hi
      refine ⟨1, fun k' hk => ?_⟩
      obtain ⟨k, rfl⟩ : ∃ k, k' = k + 1 := ⟨k' - 1, by omega⟩
      rw [portolanref06_SameInts.l0, if_neg (by omega)]
    | succ d ih =>
      intro i hi
      obtain ⟨K, h1⟩ := ih (i + 1) (by omega)
      refine ⟨K + 1, fun k' hk => ?_⟩
      obtain ⟨k, rfl⟩ : ∃ k, k' = k + 1 := ⟨k' - 1, by omega⟩
      rw [portolanref06_SameInts.l0, if_pos (by omega), if_pos (by omega), if_pos (by omega), if_pos rfl, up1 i (by omega)]
      exact h1 k (by omega)
  obtain ⟨K, h1⟩ := h l.length 0 (by omega)
  refine ⟨K, fun k hk => ?_⟩
  rw [portolanref06_SameInts.f, if_pos rfl]
  exact h1 k hk

theorem slots_f (t : S33) (h : cntT t ≤ 17592186044415) : expr_Slots.f t.f0 t.f1 t.f2 t.f3 t.f4.f0 t.f4.f1 t.f4.f2 t.f4.f3 t.f4.f4 = some (slotsT t) := by
  cases t
  exact if_pos h
theorem pure (t : S33) (w : World) (A : Option Addr) (hC : Kd.C k33 w A t.f1.length t.f1) :
    ∃ k, portolanlaw11_ExprLooks.f k t.f0 t.f1 t.f2 t.f3 t.f4.f0 t.f4.f1 t.f4.f2 t.f4.f3 t.f4.f4 = some true := by
  obtain ⟨r, K1, h1, p1, p2, p3⟩ := wt_total t w A hC 4000 (by omega) (by omega)
  by_cases hr : r ≤ 4000
  · have hcn := p3 hr
    have hsl := slotsT_len t
    obtain ⟨K2, h2⟩ := rs_total t w A hC (by omega)
    obtain ⟨K3, h3⟩ := ref_total t w A hC
    obtain ⟨K4, h4⟩ := same_self (slotsT t) (by omega)
    refine ⟨max (max K1 K2) (max K3 K4), ?_⟩
    have g1 := h1 (max (max K1 K2) (max K3 K4)) (by omega)
    have g2 := h2 (max (max K1 K2) (max K3 K4)) (by omega)
    have g3 := h3 (max (max K1 K2) (max K3 K4)) (by omega)
    have g4 := h4 (max (max K1 K2) (max K3 K4)) (by omega)
    unfold WF at g1
    unfold RS at g2
    unfold RF at g3
    have gS : expr_Slots.f t.f0 t.f1 t.f2 t.f3 t.f4.f0 t.f4.f1 t.f4.f2 t.f4.f3 t.f4.f4 = some (slotsT t) := slots_f t (by omega)
    have gF : expr_Safe.f t.f0 t.f1 t.f2 t.f3 t.f4.f0 t.f4.f1 t.f4.f2 t.f4.f3 t.f4.f4 = some (safeT t) := by
      cases t; rfl
    unfold portolanlaw11_ExprLooks.f
    rw [head_true, Option.bind_some, g1, Option.bind_some, if_neg (by omega), gS, Option.bind_some, g2, Option.bind_some, g4, Option.bind_some, if_pos rfl, if_pos rfl, gF, Option.bind_some, g3, Option.bind_some]
    simp
  · refine ⟨K1, ?_⟩
    have g1 := h1 K1 (Nat.le_refl _)
    unfold WF at g1
    unfold portolanlaw11_ExprLooks.f
    rw [head_true, Option.bind_some, g1, Option.bind_some, if_pos (by omega)]
end Go.Proofs.Ytjanfjdiikddaaa.LooksPure
