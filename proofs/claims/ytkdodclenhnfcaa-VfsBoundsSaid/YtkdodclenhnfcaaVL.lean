/- The law VfsBounds' walk. -/
import Derived.Test.YtkdodclenhnfcaaVK
import Derived.Test.YtkdodclenhnfcaaVG
import Derived.Test.YtkdodclenhnfcaaWMore
import Derived.IntWalk
namespace Go.Proofs.Ytkdodclenhnfcaa.VL
set_option linter.unusedVariables false
set_option linter.unusedSimpArgs false
open Go Go.RowKit Go.ChangeMaps Go.Sort Go.Proofs.YtkdodclenhnfcaaW.PrintMore Go.Proofs.YtkdodclenhnfcaaW.PrintWords Go.Maps Go.Proofs.Ytkdodclenhnfcaa.V2 Go.Proofs.Ytkdodclenhnfcaa.V3 Go.Proofs.Ytkdodclenhnfcaa.V4 Go.Proofs.Ytkdodclenhnfcaa.V5 Go.Proofs.Ytkdodclenhnfcaa.V6 Go.Proofs.Ytkdodclenhnfcaa.V7 Go.Proofs.Ytkdodclenhnfcaa.V8 Go.Proofs.Ytkdodclenhnfcaa.V9 Go.Proofs.Ytkdodclenhnfcaa.VA Go.Proofs.Ytkdodclenhnfcaa.VB Go.Proofs.Ytkdodclenhnfcaa.VD Go.Proofs.Ytkdodclenhnfcaa.VF Go.Proofs.Ytkdodclenhnfcaa.VI Go.Proofs.Ytkdodclenhnfcaa.VJ Go.Proofs.Ytkdodclenhnfcaa.VK
attribute [local go_sem] max2_int max_two

/-- the state of the walk -/
structure At (w W : World) (base : Nat) (own : Foot) (fb mb xb : Nat) (s : St) (q : Int) (fl : List Int) : Prop where
  k2 : K2 s q fl
  fs : FSI W base own fb mb xb s
  below : Below w.heap.size w W
theorem At.next {w W W' : World} {base : Nat} {own own' : Foot} {fb mb xb : Nat} {s s' : St} {q : Int} {fl : List Int} (h : At w W base own fb mb xb s q fl) (hle : w.heap.size ≤ base) (hF : FSI W' base own' fb mb xb s') (hk : K2 s' q fl) (f : V6.Frame own own' W W') : At w W' base own' fb mb xb s' q fl :=
  ⟨hk, hF, frame_below2 h.fs h.below hle f⟩
theorem At.past {w W W' : World} {base : Nat} {own : Foot} {fb mb xb : Nat} {s : St} {q : Int} {fl : List Int} (h : At w W base own fb mb xb s q fl) (hb : Below W.heap.size W W') : At w W' base own fb mb xb s q fl :=
  ⟨h.k2, FSI.past h.fs hb, Base.bstep h.below hb⟩
theorem pages_le {s : St} {q : Int} {fl : List Int} (h : K2 s q fl) (nm : ByteArray) : 0 ≤ pages_ s nm ∧ pages_ s nm ≤ 4096 := by
  obtain ⟨l, hw⟩ := h.whole
  unfold pages_
  cases hs : s.files nm with
  | none => simp
  | some ps =>
    have := (hw.small nm ps hs).2.1
    simp only [Option.getD_some]
    omega

set_option maxHeartbeats 4000000 in
set_option maxRecDepth 100000 in
theorem law (q : Int) (hq : -9223372036854775808 ≤ q ∧ q ≤ 9223372036854775807) (Ax : Option Addr) (cx : Nat) (fl : List Int) (A : Option Addr) (c : Nat) (l : List OpS) (w : World) (hx : Kd.C (Kd.int .i64) w Ax fl.length fl) (hcx : fl.length ≤ cx) (hfl : ∀ x ∈ fl, -9223372036854775808 ≤ x ∧ x ≤ 9223372036854775807)
    (hC : Kd.C kOp w A l.length l) (hc : l.length ≤ c) (hr : ∀ x ∈ l, x.name.size ≤ maxLen) :
    Calls Try.prog 7 #[.int .i64 q, .slice Ax fl.length cx, .slice A l.length c] w fun e w' => e = .returned (.bool true) ∧ Below w.heap.size w w' := by
  have hm := Kd.C_max hC
  have hmx := Kd.C_max hx
  have HC := Lib.hid hC
  have HX := Lib.hid hx
  clear hC hx
  obtain ⟨mq, hmq⟩ : ∃ mq, mq = max q 0 := ⟨_, rfl⟩
  have HMQ := Lib.hid hmq
  clear hmq
  go_enter Try.func7, Try.ntmps7
  go_wp2_with fail
  refine (head _).mono ?_
  rintro e w1 ⟨rfl, hb1⟩
  go_wp2_with fail
  refine (new q Ax cx fl w1 (Kd.C_below HX hb1) hcx hfl).mono ?_
  rintro e w2 ⟨rfl, hF2, hb2⟩
  have hle := hb1.size
  have HA : Hid (At w w2 w1.heap.size (own0 w1.heap.size) (w1.heap.size + 2) w1.heap.size (w1.heap.size + 1) (new_st q fl) q fl) := ⟨k2_new q fl, hF2, Base.bstep hb1 hb2⟩
  clear hF2 hb1 hb2
  go_wp2_with fail
  go_loopw [9] (fun v9 wr => ∃ (i : Nat) (own : Foot) (s : St), v9 = .int .i64 i ∧ i ≤ l.length ∧ Hid (At w wr w1.heap.size own (w1.heap.size + 2) w1.heap.size (w1.heap.size + 1) s q fl)) (fun v9 _ => l.length - (intOf v9).toNat)
  case atStart => exact ⟨0, _, _, rfl, Nat.zero_le _, HA⟩
  case round =>
    obtain ⟨i, own, s, rfl, hi, hA⟩ := hrel
    clear HA
    by_cases hlt : i < l.length
    · obtain ⟨ad, B, cb, e, hlb, hCb, z0, z1, z2, z3⟩ := op_at HC hA.out.below i hlt
      subst e
      have hnm := hr l[i] (List.getElem_mem hlt)
      have HCb := Lib.hid hCb
      have hmb := Kd.C_max hCb
      clear hCb
      generalize l[i] = o at *
      have hV := hA.out.past (below_alloc (Below.refl _ _) (.cells #[.int .i64 o.what, .string o.name, .slice B o.b.length cb, .int .i64 o.n] 37))
      have hrow := Base.Row.new wr 37 #[.int .i64 o.what, .string o.name, .slice B o.b.length cb, .int .i64 o.n]
      have hfr := FSI.fresh hA.out.fs (Nat.le_refl _)
      have hgl := FSI.size hA.out.fs
      go_wp2_with fail
      clear z0 z1 z2 z3
      generalize hg : wr.heap.size = g at *
      generalize wr.alloc (.cells #[.int .i64 o.what, .string o.name, .slice B o.b.length cb, .int .i64 o.n] 37) = V at *
      clear hg hA
      have z1 : V.cell? ⟨g, 1, none⟩ = some (.string o.name) := hrow.cell 1
      have hb := hV.k2.whole.choose_spec.bounds
      have hpl := pages_le hV.k2 o.name
      have S0 := size_ hV.fs
      have P0 := VB.pages hV.fs o.name hnm
      have N0 := names hV.fs
      have HN0 := Lib.hid N0
      have HV := Lib.hid hV
      have HROW := Lib.hid hrow
      have HFR := Lib.hid hfr
      clear hV hrow hfr N0
      refine (show Calls _ _ _ _ _ from S0).mono ?_
      rintro e w3 ⟨rfl, rfl⟩
      clear S0
      go_wp2_with fail
      refine (show Calls _ _ _ _ _ from P0).mono ?_
      rintro e w4 ⟨rfl, rfl⟩
      clear P0
      go_wp2_with fail
      refine (show Calls _ _ _ _ _ from HN0).mono ?_
      rintro e w4 ⟨vL, L, rfl, hL, hvL, hb4⟩
      obtain ⟨AL, cL, rfl, _, _⟩ := Kd.R_reads hvL
      have H4 := Lib.hid (HV.out.past hb4)
      have R4 := Lib.hid (Base.Row.past HROW.out hb4)
      have z1' : w4.cell? ⟨g, 1, none⟩ = some (.string o.name) := R4.out.cell 1
      have z2' : w4.cell? ⟨g, 2, none⟩ = some (.slice B o.b.length cb) := R4.out.cell 2
      have hLl := hL.len
      have hLm : L.length ≤ 256 := by rw [hLl]; exact HV.out.k2.whole.choose_spec.cap
      obtain ⟨hCp, hAp⟩ := old_page HCb.out H4.out.below H4.out.fs hle
      have A1 := append H4.out.fs o.name hnm o.b B cb hCp hlb hAp
      obtain ⟨hka, hout⟩ := k2_append hq H4.out.k2 o.name o.b
      generalize append_ s o.name o.b = ar at *
      obtain ⟨code, s1⟩ := ar
      simp only at hout
      have HA1 := Lib.hid A1
      have HK1 := Lib.hid hka
      have HLL := Lib.hid hLl
      clear A1 hCp hAp hka hL hvL hb4 HV HROW z1 hLl HN0
      have hf0 : (((fl.length : Int) == 0) = true ∧ fl.length = 0) ∨ (((fl.length : Int) == 0) = false ∧ 0 < fl.length) := by
        rcases Nat.eq_zero_or_pos fl.length with h | h
        · exact .inl ⟨by simp [h], h⟩
        · exact .inr ⟨by rw [beq_eq_false_iff_ne]; omega, h⟩
      rcases hout with ⟨e0, e9, e1, e2⟩ | ⟨e0, e1, e2, e3⟩
      · subst e0
        have E1 := Lib.hid e1
        have E2 := Lib.hid e2
        clear e1 e2
        go_wp2_with fail
        refine (show Calls _ _ _ _ _ from HA1).mono ?_
        rintro e w5 ⟨rfl, own5, hF5, hFr5⟩
        have H5 := Lib.hid (H4.out.next hle hF5 HK1.out hFr5)
        have R5 := Lib.hid (show Base.Row w5 g 37 _ from (hFr5.block g R4.out.lt HFR.out).trans R4.out)
        have hw1 : IntKind.i64.wrap (s.size + (o.b.length : Int)) = s.size + (o.b.length : Int) := IntWalk.i64_in _ (by omega)
        have hw2 : IntKind.i64.wrap (pages_ s o.name + 1) = pages_ s o.name + 1 := IntWalk.i64_in _ (by omega)
        have hsz : ∀ (d : Nat) (os : Array Obj), Calls Try.prog 13 #[.pointer (some ⟨w1.heap.size + 2, 0, none⟩)] (grow (redrawn w5 d) os) fun e w' => e = .returned (.int .i64 (s.size + (o.b.length : Int))) ∧ Below (grow (redrawn w5 d) os).heap.size (grow (redrawn w5 d) os) w' := fun d os => (size_ (FSI.past H5.out.fs (below_regrown w5 d os))).mono fun e w' h => ⟨by rw [h.1, E1.out], by rw [h.2]; exact Below.refl _ _⟩
        have hpg : ∀ (d : Nat) (os : Array Obj), Calls Try.prog 15 #[.pointer (some ⟨w1.heap.size + 2, 0, none⟩), .string o.name] (grow (redrawn w5 d) os) fun e w' => e = .returned (.int .i64 (pages_ s o.name + 1)) ∧ Below (grow (redrawn w5 d) os).heap.size (grow (redrawn w5 d) os) w' := fun d os => (VB.pages (FSI.past H5.out.fs (below_regrown w5 d os)) o.name hnm).mono fun e w' h => ⟨by rw [h.1, E2.out], by rw [h.2]; exact Below.refl _ _⟩
        have y1 : ∀ (d : Nat) (os : Array Obj), (grow (redrawn w5 d) os).cell? ⟨g, 1, none⟩ = some (.string o.name) := fun d os => cell_regrown (R5.out.cell 1) d os
        have y2 : ∀ (d : Nat) (os : Array Obj), (grow (redrawn w5 d) os).cell? ⟨g, 2, none⟩ = some (.slice B o.b.length cb) := fun d os => cell_regrown (R5.out.cell 2) d os
        have HFR5 := Lib.hid ((hFr5.own g R4.out.lt).trans HFR.out)
        clear hFr5 hF5 HA1 z1' z2'
        go_wp2_with fail
        refine wp_region_quiet_below (by kernel_rfl) (by kernel_rfl) ?_
        repeat (first | go_big_quiet_step ((first | (go_at_call 15; exact Calls.regrown_of (hpg _ _)) | (go_at_call 13; exact Calls.regrown_of (hsz _ _)))) | quiet_step (fail))
        refine wpQuiet_nil ?_
        intro _ hw'
        obtain ⟨⟨dq, osq⟩, hw''⟩ := hw'
        subst hw''
        have H6 := Lib.hid (H5.out.past (below_regrown w5 dq osq))
        have R6 := Lib.hid (Base.Row.past R5.out (below_regrown w5 dq osq))
        clear hsz hpg y1 y2 hw1 hw2
        show Exit.then _ _ _ _ (grow (redrawn w5 dq) osq)
        generalize grow (redrawn w5 dq) osq = W6 at *
        have hs6 := size_ H6.out.fs
        have hf6 := failed_ H6.out.fs
        have hfit := H6.out.k2.fits
        obtain ⟨sz1, hsz1⟩ : ∃ z, z = s1.size := ⟨_, rfl⟩
        rw [← hsz1] at hs6 hfit
        have HSZ1 := Lib.hid hsz1
        have hsgn : (decide (q < 0) = true ∧ decide (0 < sz1) = false) ∨ (decide (q < 0) = false ∧ decide (q < sz1) = false) := by
          by_cases h : q < 0
          · exact .inl ⟨decide_eq_true h, decide_eq_false (by omega)⟩
          · exact .inr ⟨decide_eq_false h, decide_eq_false (by omega)⟩
        have HS6 := Lib.hid hs6
        have HF6 := Lib.hid hf6
        have z0 : W6.cell? ⟨g, 0, none⟩ = some (.int .i64 o.what) := R6.out.cell 0
        have z1 : W6.cell? ⟨g, 1, none⟩ = some (.string o.name) := R6.out.cell 1
        have hd3 : (bits BinOp.and IntKind.i64 o.what 3 == 3) = true ∨ (bits BinOp.and IntKind.i64 o.what 3 == 3) = false := by cases (bits BinOp.and IntKind.i64 o.what 3 == 3) <;> simp
        have D6 := delete H6.out.fs o.name hnm
        have hkd := (k2_delete H6.out.k2 o.name).1
        have hgone := delete_gone s1 o.name
        generalize delete_ s1 o.name = dr at *
        obtain ⟨dc, s2⟩ := dr
        have HD6 := Lib.hid D6
        have HK2 := Lib.hid hkd
        have HG := Lib.hid hgone
        clear hs6 hf6 hsz1 D6 hkd hgone
        go_upto_region 17 with fail
        go_cut [113] from 27 to 126 (fun v W => v = .bool false ∧ W = W6)
        case first =>
          rcases hf0 with ⟨f1, f2⟩ | ⟨f1, f2⟩
          all_goals try (rw [H6.out.k2.fine f2] at HF6)
          all_goals clear f2 HD6 HK2 HG hd3
          all_goals rcases hsgn with ⟨g1, g2⟩ | ⟨g1, g2⟩
          all_goals go_wp2_with fail
          all_goals refine (show Calls _ _ _ _ _ from HS6).mono ?_
          all_goals rintro e w7 ⟨rfl, rfl⟩
          all_goals go_wp2_with ((go_at_call 18; refine (show Calls _ _ _ _ _ from HF6).mono ?_; rintro e w8 ⟨rfl, rfl⟩))
          all_goals go_meet
          all_goals first | exact ⟨rfl, rfl⟩ | exact ⟨by rw [decide_eq_false (by omega)], rfl⟩
        case rest =>
          obtain ⟨rfl, rfl⟩ := hcut
          clear hf0 hsgn HS6 HF6
          rcases hd3 with hd3 | hd3
          · go_wp2_with fail
            refine (show Calls _ _ _ _ _ from HD6).mono ?_
            rintro e w8 ⟨rfl, hF8, hFr8⟩
            have H8 := Lib.hid (H6.out.next hle hF8 HK2.out hFr8)
            have R8 := Lib.hid (show Base.Row w8 g 37 _ from (hFr8.block g R6.out.lt HFR5.out).trans R6.out)
            have P8 := VB.pages hF8 o.name hnm
            rw [pages_none HG] at P8
            have HP8 := Lib.hid P8
            have z1 : w8.cell? ⟨g, 1, none⟩ = some (.string o.name) := R8.out.cell 1
            clear hF8 hFr8 HD6 P8
            go_wp2_with fail
            refine (show Calls _ _ _ _ _ from HP8).mono ?_
            rintro e w9 ⟨rfl, rfl⟩
            go_wp2_with fail
            refine ⟨⟨i + 1, own5, s2, by simp, by omega, H8⟩, ?_⟩
            rw [show (↑i + 1 : Int) = ((i + 1 : Nat) : Int) by omega]
            simp only [intOf, Int.toNat_natCast]
            omega
          · go_wp2_with fail
            refine ⟨⟨i + 1, own5, s1, by simp, by omega, H6⟩, ?_⟩
            rw [show (↑i + 1 : Int) = ((i + 1 : Nat) : Int) by omega]
            simp only [intOf, Int.toNat_natCast]
            omega
      · have E1 := Lib.hid e1
        have E2 := Lib.hid e2
        have E3 := Lib.hid e3
        have hne : ((code == 0) = false ∧ (code != 0) = true) ∧ ((code == 13) = false ∨ ((code == 13) = true ∧ 0 < fl.length)) := by
          rcases e0 with rfl | rfl | rfl | rfl | ⟨rfl, h⟩ <;> simp_all
        obtain ⟨⟨n0, n1⟩, n2⟩ := hne
        clear e0 e1 e2 e3
        go_wp2_with fail
        refine (show Calls _ _ _ _ _ from HA1).mono ?_
        rintro e w5 ⟨rfl, own5, hF5, hFr5⟩
        have H5 := Lib.hid (H4.out.next hle hF5 HK1.out hFr5)
        have R5 := Lib.hid (show Base.Row w5 g 37 _ from (hFr5.block g R4.out.lt HFR.out).trans R4.out)
        have hs5 := size_ hF5
        rw [show s1.size = _ from E1] at hs5
        have hp5 := VB.pages hF5 o.name hnm
        rw [show pages_ s1 o.name = _ from E2] at hp5
        have N5 := names hF5
        have HS5 := Lib.hid hs5
        have HP5 := Lib.hid hp5
        have HN5 := Lib.hid N5
        have z1 : w5.cell? ⟨g, 1, none⟩ = some (.string o.name) := R5.out.cell 1
        have HFR5 := Lib.hid ((hFr5.own g R4.out.lt).trans HFR.out)
        clear hs5 hp5 N5 hFr5 hF5 HA1 z1' z2'
        go_wp2_with fail
        refine (show Calls _ _ _ _ _ from HS5).mono ?_
        rintro e w6 ⟨rfl, rfl⟩
        go_wp2_with fail
        refine (show Calls _ _ _ _ _ from HP5).mono ?_
        rintro e w7 ⟨rfl, rfl⟩
        go_wp2_with fail
        refine (show Calls _ _ _ _ _ from HN5).mono ?_
        rintro e W5 ⟨v5, L5, rfl, hL5, hv5, hb5⟩
        obtain ⟨A5, c5, rfl, _, _⟩ := Kd.R_reads hv5
        have hl5 : L5.length = L.length := by rw [hL5.len, E3.out, HLL.out]
        rw [hl5]
        have H5' := Lib.hid (H5.out.past hb5)
        have R5' := Lib.hid (Base.Row.past R5.out hb5)
        clear hl5 hL5 hv5 hb5 HS5 HP5 HN5 z1
        go_wp2_with fail
        refine wp_region_quiet_below (by kernel_rfl) (by kernel_rfl) ?_
        repeat (first | go_big_quiet_step (fail) | quiet_step (fail))
        refine wpQuiet_nil ?_
        intro _ hw'
        obtain ⟨⟨dq, osq⟩, hw''⟩ := hw'
        subst hw''
        have H6 := Lib.hid (H5'.out.past (below_regrown W5 dq osq))
        have R6 := Lib.hid (Base.Row.past R5'.out (below_regrown W5 dq osq))
        show Exit.then _ _ _ _ (grow (redrawn W5 dq) osq)
        generalize grow (redrawn W5 dq) osq = W6 at *
        have hs6 := size_ H6.out.fs
        have hf6 := failed_ H6.out.fs
        have hfit := H6.out.k2.fits
        obtain ⟨sz1, hsz1⟩ : ∃ z, z = s1.size := ⟨_, rfl⟩
        rw [← hsz1] at hs6 hfit
        have HSZ1 := Lib.hid hsz1
        have hsgn : (decide (q < 0) = true ∧ decide (0 < sz1) = false) ∨ (decide (q < 0) = false ∧ decide (q < sz1) = false) := by
          by_cases h : q < 0
          · exact .inl ⟨decide_eq_true h, decide_eq_false (by omega)⟩
          · exact .inr ⟨decide_eq_false h, decide_eq_false (by omega)⟩
        have HS6 := Lib.hid hs6
        have HF6 := Lib.hid hf6
        have z0 : W6.cell? ⟨g, 0, none⟩ = some (.int .i64 o.what) := R6.out.cell 0
        have z1 : W6.cell? ⟨g, 1, none⟩ = some (.string o.name) := R6.out.cell 1
        have hd3 : (bits BinOp.and IntKind.i64 o.what 3 == 3) = true ∨ (bits BinOp.and IntKind.i64 o.what 3 == 3) = false := by cases (bits BinOp.and IntKind.i64 o.what 3 == 3) <;> simp
        have D6 := delete H6.out.fs o.name hnm
        have hkd := (k2_delete H6.out.k2 o.name).1
        have hgone := delete_gone s1 o.name
        generalize delete_ s1 o.name = dr at *
        obtain ⟨dc, s2⟩ := dr
        have HD6 := Lib.hid D6
        have HK2 := Lib.hid hkd
        have HG := Lib.hid hgone
        clear hs6 hf6 hsz1 D6 hkd hgone
        go_upto_region 17 with fail
        go_cut [113] from 27 to 126 (fun v W => v = .bool false ∧ W = W6)
        case first =>
          rcases n2 with n2 | ⟨n2, n3⟩ <;> rcases hf0 with ⟨f1, f2⟩ | ⟨f1, f2⟩
          all_goals try (exact absurd n3 (by omega))
          all_goals try (rw [H6.out.k2.fine f2] at HF6)
          all_goals clear f2 HD6 HK2 HG hd3
          all_goals rcases hsgn with ⟨g1, g2⟩ | ⟨g1, g2⟩
          all_goals go_wp2_with fail
          all_goals refine (show Calls _ _ _ _ _ from HS6).mono ?_
          all_goals rintro e w7 ⟨rfl, rfl⟩
          all_goals go_wp2_with ((go_at_call 18; refine (show Calls _ _ _ _ _ from HF6).mono ?_; rintro e w8 ⟨rfl, rfl⟩))
          all_goals go_meet
          all_goals first | exact ⟨rfl, rfl⟩ | exact ⟨by rw [decide_eq_false (by omega)], rfl⟩
        case rest =>
          obtain ⟨rfl, rfl⟩ := hcut
          clear hf0 hsgn HS6 HF6
          rcases hd3 with hd3 | hd3
          · go_wp2_with fail
            refine (show Calls _ _ _ _ _ from HD6).mono ?_
            rintro e w8 ⟨rfl, hF8, hFr8⟩
            have H8 := Lib.hid (H6.out.next hle hF8 HK2.out hFr8)
            have R8 := Lib.hid (show Base.Row w8 g 37 _ from (hFr8.block g R6.out.lt HFR5.out).trans R6.out)
            have P8 := VB.pages hF8 o.name hnm
            rw [pages_none HG] at P8
            have HP8 := Lib.hid P8
            have z1 : w8.cell? ⟨g, 1, none⟩ = some (.string o.name) := R8.out.cell 1
            clear hF8 hFr8 HD6 P8
            go_wp2_with fail
            refine (show Calls _ _ _ _ _ from HP8).mono ?_
            rintro e w9 ⟨rfl, rfl⟩
            go_wp2_with fail
            refine ⟨⟨i + 1, own5, s2, by simp, by omega, H8⟩, ?_⟩
            rw [show (↑i + 1 : Int) = ((i + 1 : Nat) : Int) by omega]
            simp only [intOf, Int.toNat_natCast]
            omega
          · go_wp2_with fail
            refine ⟨⟨i + 1, own5, s1, by simp, by omega, H6⟩, ?_⟩
            rw [show (↑i + 1 : Int) = ((i + 1 : Nat) : Int) by omega]
            simp only [intOf, Int.toNat_natCast]
            omega
    · have N0 := names hA.out.fs
      have HN0 := Lib.hid N0
      clear N0
      go_wp2_with fail
      refine (show Calls _ _ _ _ _ from HN0).mono ?_
      rintro e w4 ⟨vL, L, rfl, hL, hvL, hb4⟩
      obtain ⟨AL, cL, rfl, hcL, hCL⟩ := Kd.R_reads hvL
      have H4 := Lib.hid (hA.out.past hb4)
      obtain ⟨names0, hw0⟩ := hA.out.k2.whole
      have HW := Lib.hid (whole_names hw0 hL)
      have hml := Kd.C_max hCL
      have HR := Lib.hid (Kd.R_mono hvL (ok' := fun k => own k = none) (fun k hk => FSI.fresh hA.out.fs hk))
      obtain ⟨B0, hB0⟩ : ∃ B0, B0 = wr.heap.size := ⟨_, rfl⟩
      rw [← hB0] at HR
      clear hA hL hvL hb4 HN0 hCL hw0 hB0
      go_wp2_with fail
      go_loopw [16] (fun v16 wl => ∃ (k : Nat) (s : St), v16 = .int .i64 k ∧ k ≤ L.length ∧ Hid (Kd.R Kd.string 9 wl B0 (fun k => own k = none) (.slice AL L.length cL) L) ∧ Hid (Whole s (L.drop k)) ∧ Hid (At w wl w1.heap.size own (w1.heap.size + 2) w1.heap.size (w1.heap.size + 1) s q fl)) (fun v16 _ => L.length - (intOf v16).toNat)
      case atStart => exact ⟨0, s, rfl, Nat.zero_le _, HR, HW, H4⟩
      case round =>
        clear HR HW H4
        obtain ⟨k, s, rfl, hk, HR, HW, H4⟩ := hrel
        by_cases hkl : k < L.length
        · have hdr : L.drop k = L[k] :: L.drop (k + 1) := List.drop_eq_getElem_cons hkl
          have hW := HW.out
          rw [hdr] at hW
          obtain ⟨ht1, ht2⟩ := whole_tail hW
          obtain ⟨hk2, hc0⟩ := k2_delete H4.out.k2 L[k]
          have hsz := VJ.named_size hW ht1
          obtain ⟨_, _, hC⟩ := Kd.R_reads' HR.out
          obtain ⟨adn, en, zn⟩ := str_at hC k hkl
          subst en
          have D4 := delete H4.out.fs L[k] hsz
          rw [hc0 ht1] at D4
          have HD4 := Lib.hid D4
          have HK4 := Lib.hid hk2
          have HT4 := Lib.hid ht2
          clear hdr hW ht1 ht2 hk2 hc0 hC D4
          generalize L[k] = nm at *
          go_wp2_with fail
          refine (show Calls _ _ _ _ _ from HD4).mono ?_
          rintro e w5 ⟨rfl, hF5, hFr5⟩
          have H5 := Lib.hid (H4.out.next hle hF5 HK4.out hFr5)
          have HR5 := Lib.hid (VG.row_frame HR.out hFr5)
          clear hF5 hFr5 HD4 zn HR H4
          go_wp2_with fail
          refine ⟨⟨k + 1, (delete_ s nm).2, by simp, by omega, HR5, HT4, H5⟩, ?_⟩
          rw [show (↑k + 1 : Int) = ((k + 1 : Nat) : Int) by omega]
          simp only [intOf, Int.toNat_natCast]
          omega
        · have hdr : L.drop k = [] := List.drop_eq_nil_of_le (by omega)
          have hW := HW.out
          rw [hdr] at hW
          obtain ⟨h0, h1⟩ := k2_none hW
          have S5 := size_ H4.out.fs
          rw [h0] at S5
          have N5 := names H4.out.fs
          have HS5 := Lib.hid S5
          have HN5 := Lib.hid N5
          have HM := Lib.hid h1
          clear hdr hW h0 h1 S5 N5
          go_wp2_with fail
          refine (show Calls _ _ _ _ _ from HS5).mono ?_
          rintro e w5 ⟨rfl, rfl⟩
          go_wp2_with fail
          refine (show Calls _ _ _ _ _ from HN5).mono ?_
          rintro e w6 ⟨v6, L6, rfl, hL6, hv6, hb6⟩
          obtain ⟨A6, c6, rfl, _, _⟩ := Kd.R_reads hv6
          have hl6 : L6.length = 0 := by rw [hL6.len, HM.out]
          rw [hl6]
          have H6 := Lib.hid (H4.out.past hb6)
          clear hl6 hL6 hv6 hb6 HS5 HN5
          go_wp2_with fail
          go_returns
          exact ⟨rfl, H6.out.below⟩
end Go.Proofs.Ytkdodclenhnfcaa.VL
