/- vfs: Append. -/
import Derived.Test.YtkdodclenhnfcaaV5
import Derived.Deep.RegionHeld3
namespace Go.Proofs.Ytkdodclenhnfcaa.V6
set_option linter.unusedVariables false
set_option linter.unusedSimpArgs false
open Go Go.RowKit Go.Sort Go.Proofs.YtkdodclenhnfcaaW.PrintWords Go.Maps Go.Proofs.Ytkdodclenhnfcaa.V2 Go.Proofs.Ytkdodclenhnfcaa.V3 Go.Proofs.Ytkdodclenhnfcaa.V4 Go.Proofs.Ytkdodclenhnfcaa.V5

def put_st (s : St) (nm : ByteArray) (page : List Int) : St := { s with files := setF s.files nm (some ((s.files nm).getD [] ++ [page])), many := if (s.files nm).isSome then s.many else s.many + 1, size := wrap64 (s.size + page.length) }
/-- what Append answers, and what is behind it -/
def append_ (s : St) (nm : ByteArray) (page : List Int) : Int × St :=
  if V1.nm nm = false then (11, s) else if page.length = 0 ∨ 1024 < page.length then (12, s) else
  if s.faults (wrap64 (s.calls + 1)) = true then (13, counted_st s) else
  if (s.files nm = none ∧ s.many = 256) ∨ ((s.files nm).getD []).length = 4096 then (2, counted_st s) else
  if wrap64 (s.quota - s.size) < page.length then (14, counted_st s) else (0, put_st (counted_st s) nm page)
structure Frame (own own' : Foot) (w w' : World) : Prop where
  os : w'.os = w.os
  tape : w'.tape = w.tape
  output : w'.output = w.output
  size : w.heap.size ≤ w'.heap.size
  block : ∀ k, k < w.heap.size → own k = none → w'.heap[k]? = w.heap[k]?
  own : ∀ k, k < w.heap.size → own' k = own k
theorem Frame.of_below {own : Foot} {w w' : World} (h : Below w.heap.size w w') : Frame own own w w' := ⟨h.os, h.tape, h.output, h.size, fun k hk _ => h.block k hk, fun _ _ => rfl⟩
theorem Frame.of_grown {own : Foot} {w w' : World} {g : Nat} (h : w.grownBy w' (some g)) (ho : own g ≠ none) : Frame own own w w' := ⟨h.os, h.tape, h.output, h.size, fun k hk hn => h.block k hk (fun e => ho (by rw [← Option.some.inj e]; exact hn)), fun _ _ => rfl⟩
theorem Frame.trans {o1 o2 o3 : Foot} {w1 w2 w3 : World} (h : Frame o1 o2 w1 w2) (g : Frame o2 o3 w2 w3) : Frame o1 o3 w1 w3 :=
  ⟨g.os.trans h.os, g.tape.trans h.tape, g.output.trans h.output, Nat.le_trans h.size g.size, fun k hk hn => (g.block k (Nat.lt_of_lt_of_le hk h.size) ((h.own k hk).trans hn)).trans (h.block k hk hn), fun k hk => (g.own k (Nat.lt_of_lt_of_le hk h.size)).trans (h.own k hk)⟩
theorem add_block (a : Addr) (k : Nat) : (a.add k).block = a.block := by unfold Addr.add; split <;> rfl
theorem C_keep {q : IntKind} {w w' : World} {A : Option Addr} {n : Nat} {xs : List Int} (h : Kd.C (Kd.int q) w A n xs) (hk : ∀ a, A = some a → w'.heap[a.block]? = w.heap[a.block]?) : Kd.C (Kd.int q) w' A n xs := by
  refine ⟨h.1, h.2.1, fun hp => ?_⟩
  obtain ⟨ad, e, hx⟩ := h.2.2 hp
  refine ⟨ad, e, fun j p hj => ?_⟩
  obtain ⟨c, h1, h2, h3⟩ := hx j p hj
  refine ⟨c, h1, h2, fun i u hu => ?_⟩
  rw [World.cell?_of_block (w := w) (w' := w') (a := ad.add _) (by have := hk ad e; rw [add_block]; exact this)]
  exact h3 i u hu

theorem kP_cut {w : World} {base : Nat} {ok : Nat → Prop} {v : Value} {ps : List (List Int)} (h : kP.R 29 w base ok v ps) : kP.R 29 w base (fun k => ok k ∧ k < w.heap.size) v ps := by
  refine ⟨fun k hk => ⟨h.1 k hk, ?_⟩, h.2.imp_ (fun p c hm => ?_)⟩
  · obtain ⟨inner, ho, _⟩ := h.2
    exact (ho.lt k hk).2
  · obtain ⟨v', e, r⟩ := hm
    refine ⟨v', e, fun k hk => ⟨⟨(r.1 k hk).1, ?_⟩, (r.1 k hk).2⟩, r.2⟩
    obtain ⟨inner, ho, _⟩ := r.2
    exact (ho.lt k hk).2

/-- a clone's page put behind a file's pages, at the step -/
theorem step_arm {ops : Array Oper} {o : Oper} {a : Act} {Q : Exit → Act → World → Prop} {Kc : Act → World → Prop} {w W3 w4 W : World} {base : Nat} {own : Foot} {nm : ByteArray} {A2 A9 : Option Addr} {c2 c9 : Nat} {xs : List (List Int)} {page : List Int}
    (hwb : w.heap.size ≤ W3.heap.size) (hbase : base ≤ w.heap.size) (hold : ∀ k, own k = some (some nm) → k < w.heap.size)
    (HR4 : Hid (kP.R 29 w4 base (fun k => own k = some (some nm)) (.slice A2 xs.length c2) xs)) (HP4 : Hid (Kd.R (Kd.int .u8) 5 w4 W3.heap.size (fun k => W3.heap.size ≤ k) (.slice A9 page.length c9) page)) (HB4 : Hid (Below W3.heap.size W3 w4))
    (HW : Hid (Below w4.heap.size w4 W)) (hz : W.cell? ⟨w4.heap.size, 0, none⟩ = some (.slice A9 page.length c9)) (hxs : xs.length < 4096)
    (hw : Region.wanted o (yielded ops a.tmps) = true) (sx x : Operand) (ho : o.op = .call { callee := .builtin .append, args := #[sx, x], argTypes := #[33, 33] })
    (hs : a.eval sx = .slice A2 xs.length c2) (hx : a.eval x = .slice (some ⟨w4.heap.size, 0, none⟩) 1 1)
    (h : ∀ v1 w1, kP.R 29 w1 base (fun k => (own k = some (some nm) ∨ w.heap.size ≤ k) ∧ k < w1.heap.size) v1 (xs ++ [page]) → W.grownBy w1 (Value.slice A2 xs.length c2).ownBlock → Kc (a.put o.dst v1) w1) :
    if Region.wanted o (yielded ops a.tmps) = true then Oper.wp Try.prog o a W Kc Q else Kc (a.put o.dst undef) W := by
  have s4 := (show Below W3.heap.size W3 w4 from HB4).size
  have sW := (show Below w4.heap.size w4 W from HW).size
  refine Kd.R_append_rows_step (P := Try.prog) kP (w0 := W) (W := W) base (Rr := fun x cs => x = page ∧ cs = [.slice A9 page.length c9]) hw sx x 33 29 (.slice none 0 0) 24 ho Try.underlying33 info_bytes rfl (by decide) (by omega)
    (.slice A2 xs.length c2) xs [page] (some ⟨w4.heap.size, 0, none⟩) 1 1 (fun k => own k = some (some nm) ∨ w.heap.size ≤ k) (fun k => W3.heap.size ≤ k) hs hx (Kd.R_mono (Kd.R_below HR4 HW) (fun k hk => .inl hk)) ⟨rfl, by decide, fun _ => ⟨_, rfl, fun j p hp => ?_⟩⟩ (fun y cs hy => ?_) (fun k hk => ⟨.inr (by omega), fun e => ?_⟩) (fun k hk => .inr (by omega)) (Below.refl _ _ |>.mono (by omega)) (by omega) (by omega) (fun v1 w1 h1 _ h3 _ => h v1 w1 (kP_cut h1) h3)
  · obtain ⟨hlt, rfl⟩ := List.getElem?_eq_some_iff.1 hp
    obtain rfl : j = 0 := by simpa using hlt
    refine ⟨_, rfl, ⟨rfl, rfl⟩, fun i u hu => ?_⟩
    obtain ⟨hi, rfl⟩ := List.getElem?_eq_some_iff.1 hu
    obtain rfl : i = 0 := by simpa using hi
    simpa [Addr.add] using hz
  · obtain ⟨rfl, rfl⟩ := hy
    exact ⟨_, rfl, Kd.R_lower (Kd.R_below HP4 HW) (by omega)⟩
  · have h1 := (show kP.R _ _ _ _ _ _ from HR4).1 k e.symm
    have := hold k h1
    omega

theorem cap_ok {s : St} {nm : ByteArray} {m : Nat} (h1 : s.many ≤ 256) (hm2 : ¬ ((s.files nm = none ∧ s.many = 256) ∨ ((s.files nm).getD []).length = m)) : (if ((counted_st s).files nm).isSome then (counted_st s).many else (counted_st s).many + 1) ≤ 256 := by
  show (if (s.files nm).isSome then s.many else s.many + 1) ≤ 256
  cases hsf : s.files nm with
  | none =>
    have h2 : s.many ≠ 256 := fun e => hm2 (.inl ⟨hsf, e⟩)
    show s.many + 1 ≤ 256
    omega
  | some l => exact h1
theorem small_ok {xs : List (List Int)} {page : List Int} (h : xs.length ≤ 4096 ∧ ∀ p ∈ xs, p.length ≤ 1024) (h2 : xs.length < 4096) (hp : page.length ≤ 1024) : (xs ++ [page]).length ≤ 4096 ∧ ∀ p ∈ xs ++ [page], p.length ≤ 1024 := by
  refine ⟨by rw [List.length_append]; exact h2, fun p hpp => ?_⟩
  rcases List.mem_append.1 hpp with h1 | h1
  · exact h.2 p h1
  · rw [List.mem_singleton.1 h1]; exact hp
/-- the file's new pages put into the map -/
theorem put_world {W3 W w5 : World} {base : Nat} {own : Foot} {fb mb xb : Nat} {s2 : St} {nm : ByteArray} {v v1 : Value} {ps' : List (List Int)} (hF : FSI W3 base own fb mb xb s2) (hb : Below W3.heap.size W3 W) (hg5 : W.grownBy w5 v.ownBlock) (hv : ∀ g, v.ownBlock = some g → own g = some (some nm))
    (hv1 : kP.R 29 w5 base (fun k => (own k = some (some nm) ∨ W3.heap.size ≤ k) ∧ k < w5.heap.size) v1 ps') (hsm : ps'.length ≤ 4096 ∧ ∀ p ∈ ps', p.length ≤ 1024) (hn : nm.size ≤ maxLen) (hcap : (if (s2.files nm).isSome then s2.many else s2.many + 1) ≤ 256) :
    Base.Row w5 fb 53 (cells mb xb s2) ∧ ∃ w6, (Instr.mapUpdate 50 (.map (some mb)) (.string nm) v1).run Try.prog w5 = .ok () w6 ∧
      FSI w6 base (own1 own nm W3.heap.size w5.heap.size) fb mb xb { s2 with files := setF s2.files nm (some ps'), many := if (s2.files nm).isSome then s2.many else s2.many + 1 } ∧ Frame own (own1 own nm W3.heap.size w5.heap.size) W3 w6 := by
  obtain ⟨D, hD⟩ := hF.files
  obtain ⟨K, X, hX⟩ := hF.faults
  have s1 := hb.size
  have s2' := hg5.size
  have blk : ∀ k, own k ≠ none → own k ≠ some (some nm) → w5.heap[k]? = W3.heap[k]? := fun k h1 h2 => by
    have hk := (hF.old k h1).2
    rw [hg5.block k (by omega) (fun e => h2 (hv k e.symm)), hb.block k hk]
  have ho5 : w5.ownsMap Try.prog 9 V2.hv mb s2.many D := by
    obtain ⟨es, clock, h1, r⟩ := hD.owns
    exact ⟨es, clock, (blk mb (by rw [hF.omb]; simp) (by rw [hF.omb]; simp)).trans h1, r⟩
  obtain ⟨w6, hrun, ho6, hg6⟩ := ho5.update (string_keyed Try.underlying9) Try.underlying50 (Nat.lt_of_le_of_lt hD.cap (by decide)) (key_of hn) (val := v1) (d := .held v1) (ps := []) rfl
  have s6 := hg6.size
  have ow : ∀ k, k < W3.heap.size → own1 own nm W3.heap.size w5.heap.size k = own k := fun k hk => by unfold own1; rw [if_pos hk]
  have lt3 : ∀ k, own k ≠ none → k < W3.heap.size := fun k h => (hF.old k h).2
  have lfb := lt3 fb (by rw [hF.ofb]; simp)
  have lmb := lt3 mb (by rw [hF.omb]; simp)
  have lxb := lt3 xb (by rw [hF.oxb]; simp)
  have bfb : w6.heap[fb]? = W3.heap[fb]? := by
    rw [hg6.block fb (by omega) (fun e => ?_), blk fb (by rw [hF.ofb]; simp) (by rw [hF.ofb]; simp)]
    have e' := Option.some.inj e
    have h1 := hF.row
    obtain ⟨es, clock, h2, _⟩ := hD.owns
    unfold Base.Row at h1
    rw [e', h2] at h1
    cases h1
  have bxb : w6.heap[xb]? = W3.heap[xb]? := by
    rw [hg6.block xb (by omega) (fun e => hF.mx (Option.some.inj e).symm), blk xb (by rw [hF.oxb]; simp) (by rw [hF.oxb]; simp)]
  refine ⟨(blk fb (by rw [hF.ofb]; simp) (by rw [hF.ofb]; simp)).trans hF.row, w6, hrun, ⟨bfb.trans hF.row, ⟨_, FilesAt.put hD hF.omb hF.old hb hv hg5 (Kd.R_mono hv1 (fun k hk => ?_)) ho6 hg6 _ rfl rfl hsm hcap⟩, ⟨K, X, ?_, hX.at_⟩, by rw [ow fb lfb]; exact hF.ofb, by rw [ow mb lmb]; exact hF.omb, by rw [ow xb lxb]; exact hF.oxb, hF.mx, fun k hk => ?_, hF.calls⟩, ⟨?_, ?_, ?_, by omega, fun k hk hno => ?_, ow⟩⟩
  · unfold own1
    rcases hk.1 with h1 | h1
    · rw [if_pos (lt3 k (by rw [h1]; simp))]; exact h1
    · rw [if_neg (by omega), if_pos hk.2]
  · obtain ⟨es, clock, h2, r⟩ := hX.owns
    exact ⟨es, clock, bxb.trans h2, r⟩
  · unfold own1 at hk
    by_cases h1 : k < W3.heap.size
    · rw [if_pos h1] at hk
      have := hF.old k hk
      omega
    · rw [if_neg h1] at hk
      by_cases h2 : k < w5.heap.size
      · have := (hF.old fb (by rw [hF.ofb]; simp)).1
        omega
      · rw [if_neg h2] at hk
        exact absurd rfl hk
  · rw [hg6.os, hg5.os, hb.os]
  · rw [hg6.tape, hg5.tape, hb.tape]
  · rw [hg6.output, hg5.output, hb.output]
  · rw [hg6.block k (by omega) (fun e => ?_), hg5.block k (by omega) (fun e => ?_), hb.block k hk]
    · have := hv k e.symm
      rw [hno] at this
      cases this
    · have e' := Option.some.inj e
      rw [e', hF.omb] at hno
      cases hno

set_option maxHeartbeats 2000000 in
set_option maxRecDepth 100000 in
theorem append {w : World} {base : Nat} {own : Foot} {fb mb xb : Nat} {s : St} (h : FSI w base own fb mb xb s) (nm : ByteArray) (hn : nm.size ≤ maxLen) (page : List Int) (A : Option Addr) (c : Nat) (hC : Kd.C (Kd.int .u8) w A page.length page) (hc : page.length ≤ c) (hA : page.length ≠ 0 → ∀ a, A = some a → a.block < w.heap.size ∧ own a.block = none) :
    Calls Try.prog 11 #[.pointer (some ⟨fb, 0, none⟩), .string nm, .slice A page.length c] w fun e w' => e = .returned (.int .i64 (append_ s nm page).1) ∧ ∃ own', FSI w' base own' fb mb xb (append_ s nm page).2 ∧ Frame own own' w w' := by
  have hm := Kd.C_max hC
  have HH := Lib.hid h
  have HC := Lib.hid hC
  clear h hC
  go_enter Try.func11, Try.ntmps11
  by_cases hnm : V1.nm nm = true
  case neg =>
    have hnf : V1.nm nm = false := by simpa using hnm
    have he : append_ s nm page = (11, s) := by unfold append_; rw [if_pos hnf]
    rw [he]
    go_wp2_with (go_at_call 25; refine (V1.named nm _ hn).mono ?_; rintro e w1 ⟨rfl, hb1⟩)
    go_returns
    exact ⟨rfl, own, FSI.past HH hb1, Frame.of_below hb1⟩
  by_cases hp : page.length = 0 ∨ 1024 < page.length
  · have he : append_ s nm page = (12, s) := by unfold append_; rw [if_neg (by simp [hnm]), if_pos hp]
    rw [he]
    have hp2 : ((page.length : Int) == 0) = true ∨ (((page.length : Int) == 0) = false ∧ decide (1024 < (page.length : Int)) = true) := by
      rcases hp with hp | hp
      · exact .inl (by simp [hp])
      · exact .inr ⟨by rw [beq_eq_false_iff_ne]; omega, decide_eq_true (by omega)⟩
    rcases hp2 with hp2 | ⟨hp2, hp3⟩
    all_goals go_wp2_with (go_at_call 25; refine (V1.named nm _ hn).mono ?_; rintro e w1 ⟨rfl, hb1⟩)
    all_goals go_returns
    all_goals exact ⟨rfl, own, FSI.past HH hb1, Frame.of_below hb1⟩
  have hp2 : ((page.length : Int) == 0) = false := by rw [beq_eq_false_iff_ne]; omega
  have hp3 : decide (1024 < (page.length : Int)) = false := decide_eq_false (by omega)
  cases hfl : s.faults (wrap64 (s.calls + 1))
  case true =>
    have he : append_ s nm page = (13, counted_st s) := by unfold append_; rw [if_neg (by simp [hnm]), if_neg hp, if_pos hfl]
    rw [he]
    go_wp2_with (first
      | (go_at_call 25; refine (V1.named nm _ hn).mono ?_; rintro e w1 ⟨rfl, hb1⟩)
      | (go_at_call 26; refine (counted (FSI.past HH hb1)).mono ?_; rintro e w2 ⟨rfl, hF2, hg2⟩))
    go_returns
    exact ⟨rfl, own, hF2, Frame.trans (Frame.of_below hb1) (Frame.of_grown hg2 (by rw [(show FSI w base own fb mb xb s from HH).ofb]; simp))⟩
  have ofb : own fb ≠ none := by rw [(show FSI w base own fb mb xb s from HH).ofb]; simp
  by_cases hm2 : (s.files nm = none ∧ s.many = 256) ∨ ((s.files nm).getD []).length = 4096
  · have he : append_ s nm page = (2, counted_st s) := by unfold append_; rw [if_neg (by simp [hnm]), if_neg hp, if_neg (by simp [hfl]), if_pos hm2]
    rw [he]
    have hb4 : ((s.files nm).isSome = false ∧ ((s.many : Int) == 256) = true) ∨ ((s.files nm).isSome = false ∧ ((s.many : Int) == 256) = false ∧ ((((s.files nm).getD []).length : Int) == 4096) = true) ∨ ((s.files nm).isSome = true ∧ ((((s.files nm).getD []).length : Int) == 4096) = true) := by
      cases hs : s.files nm with
      | none => rw [hs] at hm2; simp at hm2; left; simp [hm2]
      | some l => rw [hs] at hm2; simp at hm2; right; right; simp [hm2]
    rcases hb4 with ⟨k1, k2⟩ | ⟨k1, k2, k3⟩ | ⟨k1, k3⟩
    all_goals go_wp2_with (first
      | (go_at_call 25; refine (V1.named nm _ hn).mono ?_; rintro e w1 ⟨rfl, hb1⟩)
      | (go_at_call 26; refine (counted (FSI.past HH hb1)).mono ?_; rintro e w2 ⟨rfl, hF2, hg2⟩; have z0 : w2.cell? ⟨fb, 0, none⟩ = some (.map (some mb)) := hF2.row.cell 0; obtain ⟨D, hD⟩ := hF2.files; obtain ⟨v, hlook, hvR⟩ := look_file hD nm hn; have hlen := fun ty => hD.owns.len Try.underlying50 ty; rw [hD.many] at hlen; obtain ⟨A2, c2, rfl, hc2, hC2⟩ := Kd.R_reads hvR; simp only [counted_st] at hlook hlen; rw [k1] at hlook; have HF2 := Lib.hid hF2; have HG2 := Lib.hid hg2; have HB1 := Lib.hid hb1; clear hF2 hg2 hb1 hC2 hvR hD))
    all_goals go_returns
    all_goals exact ⟨rfl, own, HF2, Frame.trans (Frame.of_below HB1) (Frame.of_grown HG2 ofb)⟩
  have hb4 : ((s.files nm).isSome = false ∧ ((s.many : Int) == 256) = false) ∨ (s.files nm).isSome = true := by
    cases hs : s.files nm with
    | none => rw [hs] at hm2; simp at hm2; left; simp; omega
    | some l => right; rfl
  have k3 : ((((s.files nm).getD []).length : Int) == 4096) = false := by rw [beq_eq_false_iff_ne]; omega
  have hqd : decide (wrap64 (s.quota - s.size) < (page.length : Int)) = true ∨ decide (wrap64 (s.quota - s.size) < (page.length : Int)) = false := by
    cases decide (wrap64 (s.quota - s.size) < (page.length : Int)) <;> simp
  rcases hb4 with ⟨k1, k2⟩ | k1 <;> rcases hqd with hq | hq
  all_goals go_wp2_with (first
      | (go_at_call 25; refine (V1.named nm _ hn).mono ?_; rintro e w1 ⟨rfl, hb1⟩)
      | (go_at_call 26; refine (counted (FSI.past HH hb1)).mono ?_; rintro e w2 ⟨rfl, hF2, hg2⟩; have z0 : w2.cell? ⟨fb, 0, none⟩ = some (.map (some mb)) := hF2.row.cell 0; obtain ⟨D, hD⟩ := hF2.files; obtain ⟨v, hlook, hvR⟩ := look_file hD nm hn; have hlen := fun ty => hD.owns.len Try.underlying50 ty; rw [hD.many] at hlen; obtain ⟨A2, c2, rfl, hc2, hC2⟩ := Kd.R_reads hvR; simp only [counted_st] at hlook hlen; rw [k1] at hlook; have HF2 := Lib.hid hF2; have HG2 := Lib.hid hg2; have HB1 := Lib.hid hb1; have HR2 := Lib.hid hvR; have HD2 := Lib.hid hD; have HS2 := Lib.hid (show ((s.files nm).getD []).length ≤ 4096 ∧ ∀ p ∈ (s.files nm).getD [], p.length ≤ 1024 by cases hsf : s.files nm with | none => simp | some l => exact hD.small nm l hsf); have HCP := Lib.hid (show s.many ≤ 256 from hD.cap); clear hF2 hg2 hb1 hC2 hvR hD))
  all_goals have q1 : ∀ (d : Nat) (os : Array Obj), (grow (redrawn w2 d) os).cell? ⟨fb, 1, none⟩ = some (.int .i64 s.quota) := fun d os => (FSI.past HF2 (below_regrown w2 d os)).row.cell 1
  all_goals have q2 : ∀ (d : Nat) (os : Array Obj), (grow (redrawn w2 d) os).cell? ⟨fb, 2, none⟩ = some (.int .i64 s.size) := fun d os => (FSI.past HF2 (below_regrown w2 d os)).row.cell 2
  all_goals refine wp_region_quiet_below (by kernel_rfl) (by kernel_rfl) ?_
  all_goals repeat (first | go_big_quiet_step (fail) | quiet_step (fail))
  all_goals refine wpQuiet_nil ?_
  all_goals intro _ hw'
  all_goals obtain ⟨⟨dq, osq⟩, hw''⟩ := hw'
  all_goals subst hw''
  all_goals clear q1 q2
  all_goals have hbq := below_regrown w2 dq osq
  all_goals have HB3 := Lib.hid hbq
  all_goals show Exit.then _ _ _ _ (grow (redrawn w2 dq) osq)
  all_goals generalize grow (redrawn w2 dq) osq = W3 at *
  all_goals have z0' : W3.cell? ⟨fb, 0, none⟩ = some (.map (some mb)) := (FSI.past HF2 HB3).row.cell 0
  all_goals go_wp2_with fail
  all_goals first
    | (go_returns
       have he : append_ s nm page = (14, counted_st s) := by unfold append_; rw [if_neg (by simp [hnm]), if_neg hp, if_neg (by simp [hfl]), if_neg hm2, if_pos (of_decide_eq_true hq)]
       rw [he]
       exact ⟨rfl, own, FSI.past HF2 HB3, Frame.trans (Frame.trans (Frame.of_below HB1) (Frame.of_grown HG2 ofb)) (Frame.of_below HB3)⟩)
    | skip
  all_goals have he : append_ s nm page = (0, put_st (counted_st s) nm page) := by unfold append_; rw [if_neg (by simp [hnm]), if_neg hp, if_neg (by simp [hfl]), if_neg hm2, if_neg (of_decide_eq_false hq)]
  all_goals have HC3 := Lib.hid (Kd.C_below (C_keep (Kd.C_below HC HB1) (fun a ha => HG2.block _ (Nat.lt_of_lt_of_le (hA (fun e => hp (.inl e)) a ha).1 HB1.size) (fun e => ofb (by rw [← Option.some.inj e]; exact (hA (fun e => hp (.inl e)) a ha).2)))) HB3)
  all_goals have HR3 := Lib.hid (Kd.R_below HR2 HB3)
  all_goals have HF3 := Lib.hid (FSI.past HF2 HB3)
  all_goals clear z0 hlen hlook HR2 HF2 HD2 HC
  all_goals have hbase : base ≤ W3.heap.size := Nat.le_of_lt (Nat.lt_of_le_of_lt ((show FSI W3 base own fb mb xb _ from HF3).old fb (by rw [(show FSI W3 base own fb mb xb _ from HF3).ofb]; simp)).1 ((show FSI W3 base own fb mb xb _ from HF3).old fb (by rw [(show FSI W3 base own fb mb xb _ from HF3).ofb]; simp)).2)
  all_goals have HWB : Hid (w.heap.size ≤ W3.heap.size) := Nat.le_trans (Below.size HB1) (Nat.le_trans (World.grownBy.size HG2) (Below.size HB3))
  all_goals have HBA : Hid (base ≤ W3.heap.size) := hbase
  all_goals have HOL : Hid (∀ k, own k = some (some nm) → k < W3.heap.size) := fun k hk => ((show FSI W3 base own fb mb xb (counted_st s) from HF3).old k (by rw [hk]; simp)).2
  all_goals have HXS : Hid (((s.files nm).getD []).length < 4096) := Nat.lt_of_le_of_ne HS2.1 (fun e => hm2 (.inr e))
  all_goals have HV3 : Hid (∀ g, (Value.slice A2 ((s.files nm).getD []).length c2).ownBlock = some g → own g = some (some nm)) := fun g e => (show kP.R _ _ _ _ _ _ from HR3).1 g e
  all_goals have HSM := Lib.hid (small_ok HS2 HXS (page := page) (by omega))
  all_goals have HCA := Lib.hid (cap_ok HCP hm2)
  all_goals go_region_held3 (fun V => V.cell? ⟨fb, 0, none⟩ = some (.map (some mb))) (go_keep) (first
    | (go_at_call 27; refine (clone A c page _ (Kd.C_below HC3 (below_drew (Below.refl _ _))) hc (by omega)).mono ?_; rintro e w4 ⟨pv, rfl, hpv, hb4⟩; obtain ⟨A9, c9, rfl, hc9, _⟩ := Kd.R_reads hpv; have zz : w4.cell? ⟨fb, 0, none⟩ = some (.map (some mb)) := (FSI.past (FSI.past HF3 (below_drew (Below.refl _ _))) hb4).row.cell 0; have HR4 := Lib.hid (show kP.R 29 w4 base (fun k => own k = some (some nm)) (.slice A2 ((s.files nm).getD []).length c2) ((s.files nm).getD []) from Kd.R_below (Kd.R_drew HR3) hb4); have HP4 := Lib.hid (show Kd.R (Kd.int .u8) 5 w4 W3.heap.size (fun k => W3.heap.size ≤ k) (.slice A9 page.length c9) page from hpv); have HB4 := Lib.hid (show Below W3.heap.size W3 w4 from below_step (below_drew (Below.refl _ _)) hb4); clear hpv hb4)
    | (refine step_arm (w := W3) (W3 := W3) (w4 := w4) (own := own) (nm := nm) (Nat.le_refl _) HBA HOL HR4 HP4 HB4 (Lib.hid (by repeat (first | exact Below.refl _ _ | apply below_drew | apply below_alloc))) ((Base.Row.new w4 _ _).cell 0) HXS (by rfl) (.tmp 66) (.tmp 69) (by rfl) (by rfl) (by rfl) ?_; intro v1 w5 hv1 hg5; obtain ⟨r5, w6, hrun6, HF6, HR6⟩ := put_world HF3 (below_step HB4 (by repeat (first | exact Below.refl _ _ | apply below_drew | apply below_alloc))) hg5 (fun g e => HV3 g e) hv1 HSM hn HCA; have zz5 : w5.cell? ⟨fb, 0, none⟩ = some (.map (some mb)) := r5.cell 0; have zz6 : w6.cell? ⟨fb, 0, none⟩ = some (.map (some mb)) := HF6.row.cell 0; have zs6 : w6.cell? ⟨fb, 2, none⟩ = some (.int .i64 s.size) := HF6.row.cell 2; have zy6 : w6.frozen? ⟨fb, 2, none⟩ = false := HF6.row.free 2; have HG6 := Lib.hid HF6; have HE6 := Lib.hid HR6; clear HF6 HR6 hv1 hg5 r5))
  all_goals go_wp2_with fail
  all_goals go_returns
  all_goals rw [he]
  all_goals have F6 : FSI w6 base _ fb mb xb _ := HG6
  all_goals exact ⟨rfl, _, FSI.stored (s' := put_st (counted_st s) nm page) HG6 (Base.Row.set_ F6.row 2 _) (grownBy_set _ _ _ _) rfl rfl rfl F6.calls,
    Frame.trans (Frame.trans (Frame.trans (Frame.of_below HB1) (Frame.of_grown HG2 ofb)) (Frame.trans (Frame.of_below HB3) HE6)) (Frame.of_grown (grownBy_set _ _ _ _) (by rw [F6.ofb]; simp))⟩
end Go.Proofs.Ytkdodclenhnfcaa.V6
