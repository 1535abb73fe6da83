/- The law VfsNames' walk. -/
import Derived.Test.YtkdodclenhnfcaaVF
import Derived.Test.YtkdodclenhnfcaaVD
import Derived.Test.YtkdodclenhnfcaaVI
import Derived.Deep.DeepCutAuto
import Derived.IntWalk
import Derived.Laws.Cover1
import Derived.Deep.RegionHeld3
namespace Go.Proofs.Ytkdodclenhnfcaa.VJ
set_option linter.unusedVariables false
set_option linter.unusedSimpArgs false
open Go Go.RowKit Go.ChangeMaps Go.Sort Go.Proofs.YtkdodclenhnfcaaW.PrintWords Go.Maps Go.Proofs.Ytkdodclenhnfcaa.V2 Go.Proofs.Ytkdodclenhnfcaa.V3 Go.Proofs.Ytkdodclenhnfcaa.V4 Go.Proofs.Ytkdodclenhnfcaa.V5 Go.Proofs.Ytkdodclenhnfcaa.V6 Go.Proofs.Ytkdodclenhnfcaa.V7 Go.Proofs.Ytkdodclenhnfcaa.V8 Go.Proofs.Ytkdodclenhnfcaa.V9 Go.Proofs.Ytkdodclenhnfcaa.VA Go.Proofs.Ytkdodclenhnfcaa.VB Go.Proofs.Ytkdodclenhnfcaa.VD Go.Proofs.Ytkdodclenhnfcaa.VF Go.Proofs.Ytkdodclenhnfcaa.VI

theorem op_lt {w : World} {A : Option Addr} {l : List OpS} (h : kOp.C w A l.length l) (k : Nat) (hk : k < l.length) : ∀ ad, A = some ad → (ad.add (k * 4)).block < w.heap.size := by
  obtain ⟨ad, B, c, e, _, _, h1, _⟩ := op_at h (Below.refl _ _) k hk
  intro ad' e'
  obtain rfl := Option.some.inj (e.symm.trans e')
  exact World.block_lt_of_cell? w _ h1
theorem cell_same {w W W' : World} (hb : Hid (Below w.heap.size w W)) (hb' : Hid (Below w.heap.size w W')) {a : Addr} (ha : Hid (a.block < w.heap.size)) : W'.cell? a = W.cell? a := by
  rw [Below.cell hb.out ha.out, Below.cell hb'.out ha.out]
theorem delete_gone (s : St) (nm : ByteArray) : (delete_ s nm).2.files nm = none := by
  unfold delete_
  cases hs : s.files nm with
  | none => exact hs
  | some ps =>
    show setF s.files nm none nm = none
    unfold setF
    rw [if_pos rfl]
theorem delete_none {s : St} {nm : ByteArray} (h : s.files nm = none) : delete_ s nm = (15, s) := by
  unfold delete_; rw [h]
theorem pages_none {s : St} {nm : ByteArray} (h : s.files nm = none) : pages_ s nm = 0 := by
  unfold pages_; rw [h]; rfl
theorem pages_pos {s : St} {l : List ByteArray} {nm : ByteArray} (h : Whole s l) (hi : (s.files nm).isSome = true) : 1 ≤ pages_ s nm := by
  unfold pages_
  cases hs : s.files nm with
  | none => rw [hs] at hi; cases hi
  | some ps =>
    have := (h.small nm ps hs).1
    cases ps with
    | nil => exact absurd rfl this
    | cons p r => simp only [Option.getD_some, List.length_cons]; omega
theorem named_size {s : St} {l : List ByteArray} {nm : ByteArray} (h : Whole s l) (hi : (s.files nm).isSome = true) : nm.size ≤ maxLen := by
  have h1 := h.named nm ((h.mem nm).2 hi)
  unfold V1.nm at h1
  simp at h1
  have h2 : maxLen = 9223372036854775807 := rfl
  omega

/-- the state of the walk -/
structure At (w W : World) (base : Nat) (own : Foot) (fb mb xb : Nat) (s : St) : Prop where
  whole : ∃ l, Whole s l
  fs : FSI W base own fb mb xb s
  below : Below w.heap.size w W
theorem At.next {w W W' : World} {base : Nat} {own own' : Foot} {fb mb xb : Nat} {s s' : St} (h : At w W base own fb mb xb s) (hle : w.heap.size ≤ base) (hF : FSI W' base own' fb mb xb s') (hk : ∃ l, Whole s' l) (f : V6.Frame own own' W W') : At w W' base own' fb mb xb s' :=
  ⟨hk, hF, frame_below2 h.fs h.below hle f⟩
theorem At.past {w W W' : World} {base : Nat} {own : Foot} {fb mb xb : Nat} {s : St} (h : At w W base own fb mb xb s) (hb : Below W.heap.size W W') : At w W' base own fb mb xb s :=
  ⟨h.whole, FSI.past h.fs hb, Base.bstep h.below hb⟩

theorem str_at {w : World} {A : Option Addr} {L : List ByteArray} (h : Kd.string.C w A L.length L) (k : Nat) (hk : k < L.length) : ∃ ad, A = some ad ∧ w.cell? (ad.add k) = some (.string L[k]) := by
  obtain ⟨ad, e, hx⟩ := h.2.2 (by omega)
  obtain ⟨cs, h1, h2, h3⟩ := hx k _ (List.getElem?_eq_getElem hk)
  obtain rfl : cs = [.string L[k]] := h2
  have h4 := h3 0 _ rfl
  rw [show k * Kd.sz Kd.string + 0 = k from Nat.mul_one k] at h4
  exact ⟨ad, e, h4⟩

set_option maxHeartbeats 4000000 in
set_option maxRecDepth 100000 in
theorem law (A : Option Addr) (c : Nat) (l : List OpS) (w : World) (hC : Kd.C kOp w A l.length l) (hc : l.length ≤ c) (hr : ∀ x ∈ l, x.name.size ≤ maxLen) :
    Calls Try.prog 6 #[.slice A l.length c] w fun e w' => e = .returned (.bool true) ∧ Below w.heap.size w w' := by
  have hm := Kd.C_max hC
  have HC := Lib.hid hC
  clear hC
  go_enter Try.func6, Try.ntmps6
  go_wp2_with fail
  refine (head _).mono ?_
  rintro e w1 ⟨rfl, hb1⟩
  go_wp2_with fail
  refine (new 1099511627776 none 0 [] w1 (Kd.C_nil _ _) (Nat.le_refl _) (by simp)).mono ?_
  rintro e w2 ⟨rfl, hF2, hb2⟩
  have hle := hb1.size
  have HA : Hid (At w w2 w1.heap.size (own0 w1.heap.size) (w1.heap.size + 2) w1.heap.size (w1.heap.size + 1) (new_st 1099511627776 [])) := ⟨⟨_, whole_new _ _⟩, hF2, Base.bstep hb1 hb2⟩
  clear hF2 hb1 hb2
  go_wp2_with fail
  go_loopw [5] (fun v5 wr => ∃ (i : Nat) (own : Foot) (s : St), v5 = .int .i64 i ∧ i ≤ l.length ∧ Hid (At w wr w1.heap.size own (w1.heap.size + 2) w1.heap.size (w1.heap.size + 1) s)) (fun v5 _ => l.length - (intOf v5).toNat)
  case atStart => exact ⟨0, _, _, rfl, Nat.zero_le _, HA⟩
  case round =>
    obtain ⟨i, own, s, rfl, hi, hA⟩ := hrel
    clear HA
    by_cases hlt : i < l.length
    · obtain ⟨ad, B, cb, e, hlb, hCb, z0, z1, z2, z3⟩ := op_at HC hA.out.below i hlt
      subst e
      have HAL := Lib.hid (op_lt HC i hlt ad rfl)
      have HB0 := Lib.hid hA.out.below
      have hnm := hr l[i] (List.getElem_mem hlt)
      have HCb := Lib.hid hCb
      clear hCb
      generalize l[i] = o at *
      have h2 : (bits BinOp.and IntKind.i64 o.what 3 == 3) = true ∨ (bits BinOp.and IntKind.i64 o.what 3 == 3) = false := by cases (bits BinOp.and IntKind.i64 o.what 3 == 3) <;> simp
      go_upto_if 28 with fail
      go_cut [] from 16 to 96 (fun W => ∃ (own : Foot) (s : St), Hid (At w W w1.heap.size own (w1.heap.size + 2) w1.heap.size (w1.heap.size + 1) s))
      case first =>
        rcases h2 with h2 | h2
        · have A1 := delete hA.out.fs o.name hnm
          have hka := whole_delete o.name hA.out.whole.choose_spec
          have hgone := delete_gone s o.name
          generalize delete_ s o.name = ar at *
          obtain ⟨code, s1⟩ := ar
          have HA1 := Lib.hid A1
          have HK1 := Lib.hid (⟨_, hka⟩ : ∃ l, Whole s1 l)
          have HG := Lib.hid hgone
          clear A1 hka hgone
          go_wp2_with fail
          refine (show Calls _ _ _ _ _ from HA1).mono ?_
          rintro e w5 ⟨rfl, hF5, hFr5⟩
          have H5 := Lib.hid (hA.out.next hle hF5 HK1.out hFr5)
          have HB5 := Lib.hid H5.out.below
          have y1 := (cell_same HB0 HB5 (a := ⟨(ad.add (i * 4)).block, (ad.add (i * 4)).off + 1, none⟩) HAL).trans z1
          have P5 := VB.pages hF5 o.name hnm
          rw [pages_none HG] at P5
          have D5 := delete hF5 o.name hnm
          rw [delete_none HG] at D5
          have HP5 := Lib.hid P5
          have HD5 := Lib.hid D5
          clear hF5 hFr5 HA1 P5 D5 z0 z1 z2 z3
          go_wp2_with fail
          refine (show Calls _ _ _ _ _ from HP5).mono ?_
          rintro e w6 ⟨rfl, rfl⟩
          go_wp2_with fail
          refine (show Calls _ _ _ _ _ from HD5).mono ?_
          rintro e w7 ⟨rfl, hF7, hFr7⟩
          have H7 := Lib.hid (H5.out.next hle hF7 HK1.out hFr7)
          clear hF7 hFr7 HD5 HP5
          go_wp2_with fail
          go_meet
          exact ⟨own, s1, H7⟩
        · have hD := hA.out.past (below_drew (Below.refl _ _))
          obtain ⟨hCp, hAp⟩ := old_page HCb.out hD.below hD.fs hle
          have A1 := append hD.fs o.name hnm o.b B cb hCp hlb hAp
          have hka := whole_append o.name o.b hD.whole.choose_spec
          generalize append_ s o.name o.b = ar at *
          obtain ⟨code, s1⟩ := ar
          have HA1 := Lib.hid A1
          have HK1 := Lib.hid hka
          have HD := Lib.hid hD
          clear A1 hCp hAp hka hD
          go_wp2_with fail
          go_region_held3 (fun V => V.cell? ⟨(ad.add (i * 4)).block, (ad.add (i * 4)).off + 1, none⟩ = some (.string o.name) ∧ V.cell? ⟨(ad.add (i * 4)).block, (ad.add (i * 4)).off + 2, none⟩ = some (.slice B o.b.length cb)) (go_keep) ((go_at_call 11; refine (show Calls _ _ _ _ _ from HA1).mono ?_; rintro e w5 ⟨rfl, own5, hF5, hFr5⟩; have H5 := Lib.hid (HD.out.next hle hF5 HK1.out hFr5); have HB5 := Lib.hid H5.out.below; have y1 := (cell_same HB0 HB5 (a := ⟨(ad.add (i * 4)).block, (ad.add (i * 4)).off + 1, none⟩) HAL).trans z1; have y2 := (cell_same HB0 HB5 (a := ⟨(ad.add (i * 4)).block, (ad.add (i * 4)).off + 2, none⟩) HAL).trans z2; clear hF5 hFr5 HA1 z0 z1 z2 z3))
          go_wp2_with fail
          go_meet
          exact ⟨own5, s1, H5⟩
      case rest =>
        clear hA z0 z1 z2 z3 HB0
        obtain ⟨own, s, hA⟩ := hcut
        have N1 := names hA.out.fs
        have HN1 := Lib.hid N1
        clear N1
        go_wp2_with fail
        refine (show Calls _ _ _ _ _ from HN1).mono ?_
        rintro e w5 ⟨v5, L, rfl, hL, hv5, hb5⟩
        obtain ⟨A6, c6, rfl, hc6, hC6⟩ := Kd.R_reads hv5
        have H5 := Lib.hid (hA.out.past hb5)
        have HL := Lib.hid hL
        have HC6 := Lib.hid hC6
        have hml := Kd.C_max hC6
        clear hA HN1 hL hv5 hb5 hC6
        go_wp2_with fail
        go_loopw [7] (fun v7 wl => ∃ (k : Nat), v7 = .int .i64 k ∧ k ≤ L.length ∧ Hid (Kd.string.C wl A6 L.length L) ∧ Hid (At w wl w1.heap.size own (w1.heap.size + 2) w1.heap.size (w1.heap.size + 1) s)) (fun v7 _ => L.length - (intOf v7).toNat)
        case atStart => exact ⟨0, rfl, Nat.zero_le _, HC6, H5⟩
        case round =>
          clear HC6 H5
          obtain ⟨k, rfl, hk, HC6, H5⟩ := hrel
          by_cases hkl : k < L.length
          · obtain ⟨adn, en, zn⟩ := str_at HC6.out k hkl
            subst en
            have hin := (HL.out.mem L[k]).1 (List.getElem_mem hkl)
            have hpos := pages_pos H5.out.whole.choose_spec hin
            have hsz := named_size H5.out.whole.choose_spec hin
            have hpg : ∀ (d : Nat) (os : Array Obj), Calls Try.prog 15 #[.pointer (some ⟨w1.heap.size + 2, 0, none⟩), .string L[k]] (grow (redrawn wr d) os) fun e w' => e = .returned (.int .i64 (pages_ s L[k])) ∧ Below (grow (redrawn wr d) os).heap.size (grow (redrawn wr d) os) w' := fun d os => (VB.pages (FSI.past H5.out.fs (below_regrown wr d os)) L[k] hsz).mono fun e w' h => ⟨h.1, by rw [h.2]; exact Below.refl _ _⟩
            have hp1 : decide (pages_ s L[k] < 1) = false := decide_eq_false (by omega)
            have yn : ∀ (d : Nat) (os : Array Obj), (grow (redrawn wr d) os).cell? (adn.add k) = some (.string L[k]) := fun d os => cell_regrown zn d os
            clear hin hpos
            generalize hpn : pages_ s L[k] = pn at *
            clear hpn
            by_cases hk0 : k = 0
            · subst hk0
              have yn0 : ∀ (d : Nat) (os : Array Obj), (grow (redrawn wr d) os).cell? adn = some (.string L[0]) := fun d os => by
                have h := yn d os
                rw [show adn.add 0 = adn by unfold Addr.add; rfl] at h
                exact h
              generalize L[0] = nm0 at *
              clear yn
              go_wp2_with fail
              refine wp_region_quiet_below (by kernel_rfl) (by kernel_rfl) ?_
              repeat (first | go_big_quiet_step ((go_at_call 15; exact Calls.regrown_of (hpg _ _))) | quiet_step (fail))
              refine wpQuiet_nil ?_
              intro _ hw'
              obtain ⟨⟨dq, osq⟩, hw''⟩ := hw'
              subst hw''
              have H9 := Lib.hid (H5.out.past (below_regrown wr dq osq))
              have HC9 := Lib.hid (Kd.C_below HC6.out (below_regrown wr dq osq))
              clear hpg yn0
              show Exit.then _ _ _ _ (grow (redrawn wr dq) osq)
              generalize grow (redrawn wr dq) osq = W9 at *
              go_wp2_with fail
              refine ⟨⟨1, by simp, by omega, HC9, H9⟩, ?_⟩
              simp [intOf]
              omega
            · obtain ⟨m, hkm⟩ : ∃ m, k = m + 1 := ⟨k - 1, by omega⟩
              obtain ⟨adn', en', zm⟩ := str_at HC6.out m (by omega)
              obtain rfl := Option.some.inj en'
              have ym : ∀ (d : Nat) (os : Array Obj), (grow (redrawn wr d) os).cell? (adn.add m) = some (.string L[m]) := fun d os => cell_regrown zm d os
              have hlt2 : L[m].data.toList < L[k].data.toList := List.pairwise_iff_getElem.1 HL.out.sorted m k (by omega) hkl (by omega)
              have hgt : decide (0 < k) = true := decide_eq_true (by omega)
              have hw : IntKind.i64.wrap ((k : Int) - 1) = (m : Int) := by rw [show (k : Int) - 1 = (m : Int) by omega]; exact IntWalk.i64_in _ (by omega)
              have hml2 : decide (m < L.length) = true := decide_eq_true (by omega)
              have hml3 : m < L.length := by omega
              generalize L[m] = nm0 at *
              generalize L[k] = nm1 at *
              have hbl : Op.bytesLess nm0.toList nm1.toList = true := by rw [ByteArray.toList_eq, ByteArray.toList_eq, bytesLess_eq]; exact decide_eq_true hlt2
              have HKM := Lib.hid hkm
              clear hkm hlt2
              go_wp2_with fail
              refine wp_region_quiet_below (by kernel_rfl) (by kernel_rfl) ?_
              repeat (first | go_big_quiet_step ((go_at_call 15; exact Calls.regrown_of (hpg _ _))) | quiet_step (fail))
              refine wpQuiet_nil ?_
              intro _ hw'
              obtain ⟨⟨dq, osq⟩, hw''⟩ := hw'
              subst hw''
              have H9 := Lib.hid (H5.out.past (below_regrown wr dq osq))
              have HC9 := Lib.hid (Kd.C_below HC6.out (below_regrown wr dq osq))
              clear hpg yn ym
              show Exit.then _ _ _ _ (grow (redrawn wr dq) osq)
              generalize grow (redrawn wr dq) osq = W9 at *
              go_wp2_with fail
              refine ⟨⟨k + 1, by simp, by omega, HC9, H9⟩, ?_⟩
              rw [show (↑k + 1 : Int) = ((k + 1 : Nat) : Int) by omega]
              simp only [intOf, Int.toNat_natCast]
              omega
          · go_wp2_with fail
            refine ⟨⟨i + 1, own, s, by simp, by omega, H5⟩, ?_⟩
            rw [show (↑i + 1 : Int) = ((i + 1 : Nat) : Int) by omega]
            simp only [intOf, Int.toNat_natCast]
            omega
    · go_wp2_with fail
      go_returns
      exact ⟨rfl, hA.out.below⟩
end Go.Proofs.Ytkdodclenhnfcaa.VJ
