/- The law VfsKeeps' walk. -/
import Derived.Test.YtkdodclenhnfcaaVG
import Derived.Deep.DeepCutAuto
import Derived.Deep.RegionHeld3
namespace Go.Proofs.Ytkdodclenhnfcaa.VH
set_option linter.unusedVariables false
set_option linter.unusedSimpArgs false
open Go Go.RowKit Go.ChangeMaps Go.Sort Go.Proofs.YtkdodclenhnfcaaW.PrintWords Go.Maps Go.Proofs.Ytkdodclenhnfcaa.V2 Go.Proofs.Ytkdodclenhnfcaa.V3 Go.Proofs.Ytkdodclenhnfcaa.V4 Go.Proofs.Ytkdodclenhnfcaa.V5 Go.Proofs.Ytkdodclenhnfcaa.V6 Go.Proofs.Ytkdodclenhnfcaa.V7 Go.Proofs.Ytkdodclenhnfcaa.V8 Go.Proofs.Ytkdodclenhnfcaa.V9 Go.Proofs.Ytkdodclenhnfcaa.VA Go.Proofs.Ytkdodclenhnfcaa.VB Go.Proofs.Ytkdodclenhnfcaa.VD Go.Proofs.Ytkdodclenhnfcaa.VF Go.Proofs.Ytkdodclenhnfcaa.VG

theorem page_at {w W : World} {A : Option Addr} {l : List (List Int)} (h : (Kd.slice 5 (Kd.int .u8)).C w A l.length l) (hb : Below w.heap.size w W) (k : Nat) (hk : k < l.length) :
    ∃ ad B c, A = some ad ∧ l[k].length ≤ c ∧ Kd.C (Kd.int .u8) w B l[k].length l[k] ∧ W.cell? (ad.add k) = some (.slice B l[k].length c) := by
  obtain ⟨ad, e, hx⟩ := h.2.2 (by omega)
  obtain ⟨cs, h1, h2, h3⟩ := hx k _ (List.getElem?_eq_getElem hk)
  obtain ⟨B, c, rfl, hl, hC⟩ := h2
  have h4 := h3 0 _ rfl
  rw [show k * Kd.sz (Kd.slice 5 (Kd.int .u8)) + 0 = k from Nat.mul_one k] at h4
  exact ⟨ad, B, c, e, hl, hC, by rw [Below.cell hb (World.block_lt_of_cell? w _ h4)]; exact h4⟩

/-- the state of the walk -/
structure At (w W : World) (base : Nat) (own : Foot) (fb mb xb : Nat) (s : St) (fl : List Int) (want : List (List Int)) (cells : List (List Value)) (v : Value) : Prop where
  k1 : K1 s fl want
  fs : FSI W base own fb mb xb s
  wants : Wants w want cells
  row : (Kd.raw 1).R 29 W w.heap.size (fun k => own k = none) v cells
  below : Below w.heap.size w W
theorem At.next {w W W' : World} {base : Nat} {own own' : Foot} {fb mb xb : Nat} {s s' : St} {fl : List Int} {want : List (List Int)} {cells : List (List Value)} {v : Value} (h : At w W base own fb mb xb s fl want cells v) (hle : w.heap.size ≤ base) (hF : FSI W' base own' fb mb xb s') (hk : K1 s' fl want) (f : V6.Frame own own' W W') : At w W' base own' fb mb xb s' fl want cells v :=
  ⟨hk, hF, h.wants, row_frame h.row f, frame_below2 h.fs h.below hle f⟩

theorem at_parts {w W W' : World} {base : Nat} {own own' : Foot} {fb mb xb : Nat} {s s' : St} {fl : List Int} {want : List (List Int)} {cells : List (List Value)} {v : Value} (h : Hid (At w W base own fb mb xb s fl want cells v)) (hle : w.heap.size ≤ base) (hF : FSI W' base own' fb mb xb s') (f : V6.Frame own own' W W') :
    Hid (FSI W' base own' fb mb xb s') ∧ Hid ((Kd.raw 1).R 29 W' w.heap.size (fun k => own' k = none) v cells) ∧ Hid (Below w.heap.size w W') ∧ Hid (Wants w want cells) :=
  ⟨hF, row_frame h.out.row f, frame_below2 h.out.fs h.out.below hle f, h.out.wants⟩
theorem At.drew {w W : World} {base : Nat} {own : Foot} {fb mb xb : Nat} {s : St} {fl : List Int} {want : List (List Int)} {cells : List (List Value)} {v : Value} (h : At w W base own fb mb xb s fl want cells v) : At w W.drew base own fb mb xb s fl want cells v :=
  ⟨h.k1, FSI.past h.fs (below_drew (Below.refl _ _)), h.wants, Kd.R_below h.row (below_drew (Below.refl _ _)), below_drew h.below⟩
theorem At.past {w W W' : World} {base : Nat} {own : Foot} {fb mb xb : Nat} {s : St} {fl : List Int} {want : List (List Int)} {cells : List (List Value)} {v : Value} (h : At w W base own fb mb xb s fl want cells v) (hb : Below W.heap.size W W') : At w W' base own fb mb xb s fl want cells v :=
  ⟨h.k1, FSI.past h.fs hb, h.wants, Kd.R_below h.row hb, Base.bstep h.below hb⟩
theorem op_lt {w : World} {A : Option Addr} {l : List OpS} (h : kOp.C w A l.length l) (k : Nat) (hk : k < l.length) : ∀ ad, A = some ad → (ad.add (k * 4)).block < w.heap.size := by
  obtain ⟨ad, B, c, e, _, _, h1, _⟩ := op_at h (Below.refl _ _) k hk
  intro ad' e'
  obtain rfl := Option.some.inj (e.symm.trans e')
  exact World.block_lt_of_cell? w _ h1
theorem cell_same {w W W' : World} (hb : Hid (Below w.heap.size w W)) (hb' : Hid (Below w.heap.size w W')) {a : Addr} (ha : Hid (a.block < w.heap.size)) : W'.cell? a = W.cell? a := by
  rw [Below.cell hb.out ha.out, Below.cell hb'.out ha.out]
theorem page_cell {w W W' : World} {l : List (List Int)} {ad : Addr} (h : Hid ((Kd.slice 5 (Kd.int .u8)).C w (some ad) l.length l)) (hb : Hid (Below w.heap.size w W)) (hb' : Hid (Below w.heap.size w W')) (k : Nat) (hk : k < l.length) : W.cell? (ad.add k) = W'.cell? (ad.add k) := by
  obtain ⟨ad', B, c, e, _, _, h1⟩ := page_at h.out hb.out k hk
  obtain ⟨ad'', B', c', e', _, _, h2⟩ := page_at h.out (Below.refl _ _) k hk
  obtain rfl := Option.some.inj e
  obtain rfl := Option.some.inj e'
  rw [Below.cell hb.out (World.block_lt_of_cell? w _ h2), Below.cell hb'.out (World.block_lt_of_cell? w _ h2)]

/-- what a Read of a page answered -/
def Told (W : World) (p : List Int) (fl : List Int) (code : Int) (v : Value) : Prop := (code = 0 ∧ ∃ A c, v = .slice A p.length c ∧ Kd.C (Kd.int .u8) W A p.length p) ∨ (code = 13 ∧ 0 < fl.length)
theorem told_of {W : World} {p out : List Int} {fl : List Int} {code : Int} {v : Value} {b : Nat} {ok : Nat → Prop} (h : Hid (code = 0 ∧ out = p ∨ code = 13 ∧ 0 < fl.length)) (hv : Hid (Kd.R (Kd.int .u8) 5 W b ok v out)) : Told W p fl code v := by
  rcases h.out with ⟨e1, e2⟩ | h
  · subst e2
    obtain ⟨A, c, e, _, hC⟩ := Kd.R_reads hv.out
    exact .inl ⟨e1, A, c, e, hC⟩
  · exact .inr h

set_option maxHeartbeats 4000000 in
set_option maxRecDepth 100000 in
theorem law (Ap : Option Addr) (cp : Nat) (pages : List (List Int)) (A : Option Addr) (c : Nat) (l : List OpS) (Ax : Option Addr) (cx : Nat) (fl : List Int) (w : World) (hP : (Kd.slice 5 (Kd.int .u8)).C w Ap pages.length pages) (hcp : pages.length ≤ cp) (hC : Kd.C kOp w A l.length l) (hc : l.length ≤ c) (hr : ∀ x ∈ l, x.name.size ≤ maxLen)
    (hx : Kd.C (Kd.int .i64) w Ax fl.length fl) (hcx : fl.length ≤ cx) (hfl : ∀ x ∈ fl, -9223372036854775808 ≤ x ∧ x ≤ 9223372036854775807) :
    Calls Try.prog 4 #[.slice Ap pages.length cp, .slice A l.length c, .slice Ax fl.length cx] w fun e w' => e = .returned (.bool true) ∧ Below w.heap.size w w' := by
  have hm := Kd.C_max hC
  have hmp := Kd.C_max hP
  have hmx := Kd.C_max hx
  have HC := Lib.hid hC
  have HX := Lib.hid hx
  have HP := Lib.hid hP
  obtain ⟨M, hM1, hM2, hM3⟩ : ∃ M : Nat, pages.length ≤ M ∧ l.length ≤ M ∧ (M ≤ pages.length ∨ M ≤ l.length) := ⟨max pages.length l.length, by omega, by omega, by omega⟩
  clear hC hx hP
  go_enter Try.func4, Try.ntmps4
  go_wp2_with fail
  refine (head _).mono ?_
  rintro e w1 ⟨rfl, hb1⟩
  go_wp2_with fail
  refine (new 1099511627776 Ax cx fl w1 (Kd.C_below HX hb1) hcx hfl).mono ?_
  rintro e w2 ⟨rfl, hF2, hb2⟩
  have hle := hb1.size
  have HA : Hid (At w w2 w1.heap.size (own0 w1.heap.size) (w1.heap.size + 2) w1.heap.size (w1.heap.size + 1) (new_st 1099511627776 fl) fl [] [] (.slice none 0 0)) := ⟨k1_new fl, hF2, wants_nil w, Kd.R_nil _ _ _ _ _, Base.bstep hb1 hb2⟩
  clear hF2 hb1 hb2
  go_wp2_with fail
  go_loopw [9, 10] (fun v9 v10 wr => ∃ (i : Nat) (own : Foot) (s : St) (want : List (List Int)) (cells : List (List Value)) (A9 : Option Addr) (c9 : Nat), v10 = .int .i64 i ∧ i ≤ M ∧ v9 = .slice A9 want.length c9 ∧ Hid (At w wr w1.heap.size own (w1.heap.size + 2) w1.heap.size (w1.heap.size + 1) s fl want cells (.slice A9 want.length c9))) (fun _ v10 _ => M - (intOf v10).toNat)
  case atStart => exact ⟨0, _, _, [], [], none, 0, rfl, Nat.zero_le _, rfl, HA⟩
  case round =>
    obtain ⟨i, own, s, want, cells, A9, c9, rfl, hi, rfl, hA⟩ := hrel
    clear HA
    have hwl : want.length ≤ 4096 := (show At _ _ _ _ _ _ _ _ _ _ _ _ from hA).k1.len
    by_cases hlt : i < M
    · have hor : (decide (i < pages.length) = true) ∨ (decide (i < pages.length) = false ∧ decide (i < l.length) = true) := by
        by_cases h : i < pages.length
        · exact .inl (decide_eq_true h)
        · exact .inr ⟨decide_eq_false h, decide_eq_true (by omega)⟩
      rcases hor with hp | ⟨hp, hl⟩
      · go_upto_if 40 with fail
        go_cut [9] from 25 to 116 (fun v9 W => ∃ (own : Foot) (s : St) (want : List (List Int)) (cells : List (List Value)) (A9 : Option Addr) (c9 : Nat), v9 = .slice A9 want.length c9 ∧ Hid (At w W w1.heap.size own (w1.heap.size + 2) w1.heap.size (w1.heap.size + 1) s fl want cells (.slice A9 want.length c9)))
        case first =>
          have hpl : i < pages.length := of_decide_eq_true hp
          obtain ⟨ap, B, cb, e, hlb, hCb, hz⟩ := page_at HP (show At _ _ _ _ _ _ _ _ _ _ _ _ from hA).below i hpl
          subst e
          have hAt : At _ _ _ _ _ _ _ _ _ _ _ _ := hA
          obtain ⟨hCp, hAp⟩ := old_page hCb hAt.below hAt.fs hle
          have A1 := append hAt.fs nmO (by decide) pages[i] B cb hCp hlb hAp
          have hka := (k1_append hAt.k1 nmO pages[i]).2 rfl
          have HCb := Lib.hid hCb
          have HZ : Hid (Below w.heap.size w wr) := hAt.below
          clear hCp hAp hCb hAt
          generalize pages[i] = pg at *
          generalize append_ s nmO pg = ar at *
          obtain ⟨code, s1⟩ := ar
          have HA1 := Lib.hid A1
          clear A1
          rcases hka with ⟨e0, hk1⟩ | ⟨e0, hk1⟩
          · have e0 : code = 0 := e0
            subst e0
            have HK1 := Lib.hid hk1
            clear hk1
            go_wp2_with fail
            refine (show Calls _ _ _ _ _ from HA1).mono ?_
            rintro e w5 ⟨rfl, own5, hF5, hFr5⟩
            obtain ⟨HF5, HR5, HB5, HW5⟩ := at_parts hA hle hF5 hFr5
            have hz5 : w5.cell? (ap.add i) = some (.slice B pg.length cb) := by
              rw [← page_cell HP HZ HB5 i hpl]; exact hz
            have hcl : cells.length ≤ 4096 := by have := HW5.out.1; omega
            have hbase : w.heap.size ≤ w5.heap.size := HB5.out.size
            have HCL := Lib.hid hcl
            have HBS := Lib.hid hbase
            clear hF5 hFr5 HA1 hz hcl hbase
            go_wp2_with (at_builtin; refine Kd.R_append (Kd.raw 1) (w0 := w) w.heap.size rfl (.tmp 49) (.tmp 54) 33 29 (.slice none 0 0) 24 rfl Try.underlying33 info_bytes rfl (by decide) (by decide) (.slice A9 want.length c9) cells [.slice B pg.length cb] [.slice B pg.length cb] (fun k => own5 k = none) (fun _ => False) rfl rfl (raw_one rfl _ _ _) (fun k hk => hk.elim) (fun k hk => FSI.fresh HF5 hk) HR5 HB5 HBS (by have := HCL.out; omega) ?_; intro v1 w6 ho1 hb1 hg1 _)
            go_meet
            have hW6 := wants_snoc HW5.out hlb HCb.out
            obtain ⟨A6, c6, rfl⟩ := Kd.R_slice ho1
            have e6 : (cells ++ [[Value.slice B pg.length cb]]).length = (want ++ [pg]).length := hW6.1
            rw [e6] at ho1 ⊢
            exact ⟨own5, s1, want ++ [pg], _, A6, c6, rfl, HK1, fsi_row HF5 hg1 HR5.out.1, hW6, ho1, hb1⟩
          · have HK1 := Lib.hid hk1
            clear hk1
            have hfx := fl.length
            rcases e0 with e0 | e0 | ⟨e0, e1⟩
            all_goals subst e0
            all_goals try (have e2 : ((fl.length : Int) == 0) = false := by rw [beq_eq_false_iff_ne]; omega)
            all_goals go_wp2_with fail
            all_goals refine (show Calls _ _ _ _ _ from HA1).mono ?_
            all_goals rintro e w5 ⟨rfl, own5, hF5, hFr5⟩
            all_goals obtain ⟨HF5, HR5, HB5, HW5⟩ := at_parts hA hle hF5 hFr5
            all_goals clear hF5 hFr5 HA1 hz
            all_goals go_wp2_with fail
            all_goals go_meet
            all_goals exact ⟨own5, s1, want, cells, A9, c9, rfl, HK1, HF5, HW5.out, HR5, HB5⟩
        case rest =>
          clear hA hwl
          obtain ⟨own, s, want, cells, A9, c9, rfl, hA⟩ := hcut
          by_cases hll : i < l.length
          · have hl : decide (i < l.length) = true := decide_eq_true hll
            obtain ⟨ad, B, cb, e, hlb, hCb, z0, z1, z2, z3⟩ := op_at HC hA.out.below i hll
            subst e
            have HAL := Lib.hid (op_lt HC i hll ad rfl)
            have HB0 := Lib.hid hA.out.below
            have hnm := hr l[i] (List.getElem_mem hll)
            have HCb := Lib.hid hCb
            clear hCb
            generalize l[i] = o at *
            cases hb : (o.name.toList == [111, 119, 110])
            · have hne : o.name ≠ nmO := fun e => by
                rw [e] at hb
                have h2 : (nmO.toList == [111, 119, 110]) = true := by kernel_rfl
                rw [h2] at hb
                cases hb
              have hbn : (!o.name.toList == [111, 119, 110]) = true := by rw [hb]; rfl
              go_wp2_with fail
              have hD := At.drew hA.out
              obtain ⟨hCp, hAp⟩ := old_page HCb.out hD.below hD.fs hle
              have A1 := append hD.fs o.name hnm o.b B cb hCp hlb hAp
              have hka := (k1_append hD.k1 o.name o.b).1 hne
              generalize append_ s o.name o.b = ar at *
              obtain ⟨code, s1⟩ := ar
              have HA1 := Lib.hid A1
              have HK1 := Lib.hid hka
              have HD := Lib.hid hD
              clear A1 hCp hAp hka hD
              go_region_held3 (fun V => V.cell? ⟨(ad.add (i * 4)).block, (ad.add (i * 4)).off + 1, none⟩ = some (.string o.name) ∧ V.cell? ⟨(ad.add (i * 4)).block, (ad.add (i * 4)).off + 2, none⟩ = some (.slice B o.b.length cb)) (go_keep) ((go_at_call 11; refine (show Calls _ _ _ _ _ from HA1).mono ?_; rintro e w5 ⟨rfl, own5, hF5, hFr5⟩; have H5 := Lib.hid (HD.out.next hle hF5 HK1.out hFr5); have HB5 := Lib.hid H5.out.below; have y0 := (cell_same HB0 HB5 (a := ad.add (i * 4)) HAL).trans z0; have y1 := (cell_same HB0 HB5 (a := ⟨(ad.add (i * 4)).block, (ad.add (i * 4)).off + 1, none⟩) HAL).trans z1; have y2 := (cell_same HB0 HB5 (a := ⟨(ad.add (i * 4)).block, (ad.add (i * 4)).off + 2, none⟩) HAL).trans z2; have y3 := (cell_same HB0 HB5 (a := ⟨(ad.add (i * 4)).block, (ad.add (i * 4)).off + 3, none⟩) HAL).trans z3; clear hF5 hFr5 HA1 z0 z1 z2 z3))
              have hD := At.drew H5.out
              have A1 := read hD.fs o.name hnm o.n
              have hka := k1_read hD.k1 o.name o.n
              generalize read_ s1 o.name o.n = ar at *
              obtain ⟨code2, out2, s2⟩ := ar
              have HA1 := Lib.hid A1
              have HK2 := Lib.hid hka
              have HD5 := Lib.hid hD
              clear A1 hka hD HK1 HD
              go_wp2_with fail
              go_region_held3 (fun V => V.cell? ⟨(ad.add (i * 4)).block, (ad.add (i * 4)).off + 1, none⟩ = some (.string o.name) ∧ V.cell? ⟨(ad.add (i * 4)).block, (ad.add (i * 4)).off + 3, none⟩ = some (.int .i64 o.n)) (go_keep) ((go_at_call 14; refine (show Calls _ _ _ _ _ from HA1).mono ?_; rintro e w7 ⟨v7, rfl, _, hF7, hFr7⟩; have H7 := Lib.hid (HD5.out.next hle hF7 HK2.out hFr7); have HB7 := Lib.hid H7.out.below; have x0 := (cell_same HB5 HB7 (a := ad.add (i * 4)) HAL).trans y0; have x1 := (cell_same HB5 HB7 (a := ⟨(ad.add (i * 4)).block, (ad.add (i * 4)).off + 1, none⟩) HAL).trans y1; have x3 := (cell_same HB5 HB7 (a := ⟨(ad.add (i * 4)).block, (ad.add (i * 4)).off + 3, none⟩) HAL).trans y3; clear hF7 hFr7 HA1 y0 y1 y2 y3))
              have h2 : (bits BinOp.and IntKind.i64 o.what 1 == 1) = true ∨ (bits BinOp.and IntKind.i64 o.what 1 == 1) = false := by cases (bits BinOp.and IntKind.i64 o.what 1 == 1) <;> simp
              rcases h2 with h2 | h2
              · have A1 := delete H7.out.fs o.name hnm
                have hka := k1_delete H7.out.k1 o.name hne
                generalize delete_ s2 o.name = ar at *
                obtain ⟨code3, s3⟩ := ar
                have HA1 := Lib.hid A1
                have HK3 := Lib.hid hka
                clear A1 hka
                go_wp2_with fail
                refine (show Calls _ _ _ _ _ from HA1).mono ?_
                rintro e w8 ⟨rfl, hF8, hFr8⟩
                have H8 := Lib.hid (H7.out.next hle hF8 HK3.out hFr8)
                clear hF8 hFr8 HA1
                go_wp2_with fail
                refine ⟨⟨i + 1, own5, s3, want, cells, A9, c9, by simp, by omega, rfl, H8⟩, ?_⟩
                rw [show (↑i + 1 : Int) = ((i + 1 : Nat) : Int) by omega]
                simp only [intOf, Int.toNat_natCast]
                omega
              · go_wp2_with fail
                refine ⟨⟨i + 1, own5, s2, want, cells, A9, c9, by simp, by omega, rfl, H7⟩, ?_⟩
                rw [show (↑i + 1 : Int) = ((i + 1 : Nat) : Int) by omega]
                simp only [intOf, Int.toNat_natCast]
                omega
            · have hbn : (!o.name.toList == [111, 119, 110]) = false := by rw [hb]; rfl
              go_wp2_with fail
              refine ⟨⟨i + 1, own, s, want, cells, A9, c9, by simp, by omega, rfl, hA⟩, ?_⟩
              rw [show (↑i + 1 : Int) = ((i + 1 : Nat) : Int) by omega]
              simp only [intOf, Int.toNat_natCast]
              omega
          · have hl : decide (i < l.length) = false := decide_eq_false hll
            go_wp2_with fail
            refine ⟨⟨i + 1, own, s, want, cells, A9, c9, by simp, by omega, rfl, hA⟩, ?_⟩
            rw [show (↑i + 1 : Int) = ((i + 1 : Nat) : Int) by omega]
            simp only [intOf, Int.toNat_natCast]
            omega
      · by_cases hll : i < l.length
        · have hl : decide (i < l.length) = true := decide_eq_true hll
          obtain ⟨ad, B, cb, e, hlb, hCb, z0, z1, z2, z3⟩ := op_at HC hA.out.below i hll
          subst e
          have HAL := Lib.hid (op_lt HC i hll ad rfl)
          have HB0 := Lib.hid hA.out.below
          have hnm := hr l[i] (List.getElem_mem hll)
          have HCb := Lib.hid hCb
          clear hCb
          generalize l[i] = o at *
          cases hb : (o.name.toList == [111, 119, 110])
          · have hne : o.name ≠ nmO := fun e => by
              rw [e] at hb
              have h2 : (nmO.toList == [111, 119, 110]) = true := by kernel_rfl
              rw [h2] at hb
              cases hb
            have hbn : (!o.name.toList == [111, 119, 110]) = true := by rw [hb]; rfl
            go_wp2_with fail
            have hD := At.drew hA.out
            obtain ⟨hCp, hAp⟩ := old_page HCb.out hD.below hD.fs hle
            have A1 := append hD.fs o.name hnm o.b B cb hCp hlb hAp
            have hka := (k1_append hD.k1 o.name o.b).1 hne
            generalize append_ s o.name o.b = ar at *
            obtain ⟨code, s1⟩ := ar
            have HA1 := Lib.hid A1
            have HK1 := Lib.hid hka
            have HD := Lib.hid hD
            clear A1 hCp hAp hka hD
            go_region_held3 (fun V => V.cell? ⟨(ad.add (i * 4)).block, (ad.add (i * 4)).off + 1, none⟩ = some (.string o.name) ∧ V.cell? ⟨(ad.add (i * 4)).block, (ad.add (i * 4)).off + 2, none⟩ = some (.slice B o.b.length cb)) (go_keep) ((go_at_call 11; refine (show Calls _ _ _ _ _ from HA1).mono ?_; rintro e w5 ⟨rfl, own5, hF5, hFr5⟩; have H5 := Lib.hid (HD.out.next hle hF5 HK1.out hFr5); have HB5 := Lib.hid H5.out.below; have y0 := (cell_same HB0 HB5 (a := ad.add (i * 4)) HAL).trans z0; have y1 := (cell_same HB0 HB5 (a := ⟨(ad.add (i * 4)).block, (ad.add (i * 4)).off + 1, none⟩) HAL).trans z1; have y2 := (cell_same HB0 HB5 (a := ⟨(ad.add (i * 4)).block, (ad.add (i * 4)).off + 2, none⟩) HAL).trans z2; have y3 := (cell_same HB0 HB5 (a := ⟨(ad.add (i * 4)).block, (ad.add (i * 4)).off + 3, none⟩) HAL).trans z3; clear hF5 hFr5 HA1 z0 z1 z2 z3))
            have hD := At.drew H5.out
            have A1 := read hD.fs o.name hnm o.n
            have hka := k1_read hD.k1 o.name o.n
            generalize read_ s1 o.name o.n = ar at *
            obtain ⟨code2, out2, s2⟩ := ar
            have HA1 := Lib.hid A1
            have HK2 := Lib.hid hka
            have HD5 := Lib.hid hD
            clear A1 hka hD HK1 HD
            go_wp2_with fail
            go_region_held3 (fun V => V.cell? ⟨(ad.add (i * 4)).block, (ad.add (i * 4)).off + 1, none⟩ = some (.string o.name) ∧ V.cell? ⟨(ad.add (i * 4)).block, (ad.add (i * 4)).off + 3, none⟩ = some (.int .i64 o.n)) (go_keep) ((go_at_call 14; refine (show Calls _ _ _ _ _ from HA1).mono ?_; rintro e w7 ⟨v7, rfl, _, hF7, hFr7⟩; have H7 := Lib.hid (HD5.out.next hle hF7 HK2.out hFr7); have HB7 := Lib.hid H7.out.below; have x0 := (cell_same HB5 HB7 (a := ad.add (i * 4)) HAL).trans y0; have x1 := (cell_same HB5 HB7 (a := ⟨(ad.add (i * 4)).block, (ad.add (i * 4)).off + 1, none⟩) HAL).trans y1; have x3 := (cell_same HB5 HB7 (a := ⟨(ad.add (i * 4)).block, (ad.add (i * 4)).off + 3, none⟩) HAL).trans y3; clear hF7 hFr7 HA1 y0 y1 y2 y3))
            have h2 : (bits BinOp.and IntKind.i64 o.what 1 == 1) = true ∨ (bits BinOp.and IntKind.i64 o.what 1 == 1) = false := by cases (bits BinOp.and IntKind.i64 o.what 1 == 1) <;> simp
            rcases h2 with h2 | h2
            · have A1 := delete H7.out.fs o.name hnm
              have hka := k1_delete H7.out.k1 o.name hne
              generalize delete_ s2 o.name = ar at *
              obtain ⟨code3, s3⟩ := ar
              have HA1 := Lib.hid A1
              have HK3 := Lib.hid hka
              clear A1 hka
              go_wp2_with fail
              refine (show Calls _ _ _ _ _ from HA1).mono ?_
              rintro e w8 ⟨rfl, hF8, hFr8⟩
              have H8 := Lib.hid (H7.out.next hle hF8 HK3.out hFr8)
              clear hF8 hFr8 HA1
              go_wp2_with fail
              refine ⟨⟨i + 1, own5, s3, want, cells, A9, c9, by simp, by omega, rfl, H8⟩, ?_⟩
              rw [show (↑i + 1 : Int) = ((i + 1 : Nat) : Int) by omega]
              simp only [intOf, Int.toNat_natCast]
              omega
            · go_wp2_with fail
              refine ⟨⟨i + 1, own5, s2, want, cells, A9, c9, by simp, by omega, rfl, H7⟩, ?_⟩
              rw [show (↑i + 1 : Int) = ((i + 1 : Nat) : Int) by omega]
              simp only [intOf, Int.toNat_natCast]
              omega
          · have hbn : (!o.name.toList == [111, 119, 110]) = false := by rw [hb]; rfl
            go_wp2_with fail
            refine ⟨⟨i + 1, own, s, want, cells, A9, c9, by simp, by omega, rfl, hA⟩, ?_⟩
            rw [show (↑i + 1 : Int) = ((i + 1 : Nat) : Int) by omega]
            simp only [intOf, Int.toNat_natCast]
            omega
        · exact absurd (of_decide_eq_true hl) hll
    · have hp : decide (i < pages.length) = false := decide_eq_false (by omega)
      have hl : decide (i < l.length) = false := decide_eq_false (by omega)
      clear hcp hc
      have hA0 : At _ _ _ _ _ _ _ _ _ _ _ _ := hA
      have P1 := VB.pages hA0.fs nmO (by decide)
      rw [k1_pages hA0.k1] at P1
      have HP1 := Lib.hid P1
      clear hA0 P1
      go_wp2_with fail
      refine (show Calls _ _ _ _ _ from HP1).mono ?_
      rintro e w5 ⟨rfl, rfl⟩
      clear HP1
      go_wp2_with fail
      go_loopw [12] (fun v12 wl => ∃ (j : Nat) (own : Foot) (s : St), v12 = .int .i64 j ∧ j ≤ want.length ∧ Hid (At w wl w1.heap.size own (w1.heap.size + 2) w1.heap.size (w1.heap.size + 1) s fl want cells (.slice A9 want.length c9))) (fun v12 _ => want.length - (intOf v12).toNat)
      case atStart => exact ⟨0, own, s, rfl, Nat.zero_le _, hA⟩
      case round =>
        clear hA
        obtain ⟨j, own, s, rfl, hj, hA⟩ := hrel
        by_cases hjl : j < want.length
        · have hA0 : At _ _ _ _ _ _ _ _ _ _ _ _ := hA
          have R1 := read hA0.fs nmO (by decide) j
          have hkg := k1_get hA0.k1 j hjl
          have hka := k1_read hA0.k1 nmO j
          generalize read_ s nmO j = ar at *
          obtain ⟨code, out, s1⟩ := ar
          have HR1 := Lib.hid R1
          have HKG := Lib.hid hkg
          have HKA := Lib.hid hka
          clear hA0 R1 hkg hka
          go_wp2_with fail
          refine (show Calls _ _ _ _ _ from HR1).mono ?_
          rintro e w6 ⟨v6, rfl, hv6, hF6, hFr6⟩
          have H6 := Lib.hid (hA.out.next hle hF6 HKA.out hFr6)
          have HV6 := Lib.hid hv6
          clear hF6 hFr6 HR1 hv6
          go_wp2_with fail
          have hb6 : Hid (Told w6 want[j] fl code v6) := told_of HKG HV6
          clear HV6 HKA HKG hA
          go_loopw [13, 14, 15] (fun v13 v14 v15 wi => ∃ (q : Nat) (own : Foot) (s : St) (code : Int), v14 = .int .i64 code ∧ v15 = .int .i64 q ∧ q ≤ fl.length ∧ Hid (At w wi w1.heap.size own (w1.heap.size + 2) w1.heap.size (w1.heap.size + 1) s fl want cells (.slice A9 want.length c9)) ∧ Hid (Told wi want[j] fl code v13)) (fun _ _ v15 _ => fl.length - (intOf v15).toNat)
          case atStart => exact ⟨0, own, s1, code, rfl, rfl, Nat.zero_le _, H6, hb6⟩
          case round =>
            clear hb6 H6
            obtain ⟨q, own, s, code, rfl, rfl, hq, hA, hb⟩ := hrel
            rcases hb.out with ⟨e0, A6, c6, e6, hC6⟩ | ⟨e0, hfp⟩
            · subst e0 e6
              have hdj : decide (q < fl.length) = true ∨ decide (q < fl.length) = false := by cases decide (q < fl.length) <;> simp
              obtain ⟨_, hwj⟩ := hA.out.wants
              obtain ⟨Aw, cw, hcj, hlw, hCw⟩ := hwj j _ (List.getElem?_eq_getElem hjl)
              obtain ⟨A9', c9', e9, hl9, hC9⟩ := Kd.R_reads hA.out.row
              obtain ⟨ad9, ea, hx9⟩ := hC9.2.2 (by have := hA.out.wants.1; omega)
              obtain ⟨cs9, h91, h92, h93⟩ := hx9 j _ hcj
              obtain rfl : cs9 = [.slice Aw want[j].length cw] := h92.1
              have z9 : wr.cell? (ad9.add j) = some (.slice Aw want[j].length cw) := by
                have h := h93 0 _ rfl
                rw [show j * Kd.sz (Kd.raw 1) + 0 = j from Nat.mul_one j] at h
                exact h
              obtain rfl : A9 = some ad9 := by injection e9 with e _ _; exact e.trans ea
              have y1 : ∀ (d : Nat) (os : Array Obj), (convert 29 9 (.slice A6 want[j].length c6)).run Try.prog (grow (redrawn wr d) os) = .ok (.string (strOfNums want[j])) (grow (redrawn wr d) os) := fun d os => Kd.C_string Try.underlying29 Try.underlying5 Try.underlying9 (Kd.C_below hC6 (below_regrown wr d os))
              have y2 : ∀ (d : Nat) (os : Array Obj), (convert 29 9 (.slice Aw want[j].length cw)).run Try.prog (grow (redrawn wr d) os) = .ok (.string (strOfNums want[j])) (grow (redrawn wr d) os) := fun d os => Kd.C_string Try.underlying29 Try.underlying5 Try.underlying9 (Kd.C_below (Kd.C_below hCw hA.out.below) (below_regrown wr d os))
              have y3 : ∀ (d : Nat) (os : Array Obj), (grow (redrawn wr d) os).cell? (ad9.add j) = some (.slice Aw want[j].length cw) := fun d os => cell_regrown z9 d os
              clear hwj hcj e9 hC9 ea hx9 h91 h92 h93 hCw hC6 z9
              generalize strOfNums want[j] = str at *
              rcases hdj with hdj | hdj
              all_goals go_wp2_with fail
              all_goals refine wp_region_quiet_below (by kernel_rfl) (by kernel_rfl) ?_
              all_goals repeat (first | go_big_quiet_step (fail) | quiet_step (fail))
              all_goals refine wpQuiet_nil ?_
              all_goals intro _ hw'
              all_goals obtain ⟨⟨dq, osq⟩, hw''⟩ := hw'
              all_goals subst hw''
              all_goals have H9 := Lib.hid (hA.out.past (below_regrown wr dq osq))
              all_goals clear y1 y2 y3
              all_goals show Exit.then _ _ _ _ (grow (redrawn wr dq) osq)
              all_goals generalize grow (redrawn wr dq) osq = W9 at *
              all_goals go_wp2_with fail
              all_goals refine ⟨⟨j + 1, own, s, by simp, by omega, H9⟩, ?_⟩
              all_goals rw [show (↑j + 1 : Int) = ((j + 1 : Nat) : Int) by omega]
              all_goals simp only [intOf, Int.toNat_natCast]
              all_goals omega
            · subst e0
              have e2 : ((fl.length : Int) == 0) = false := by rw [beq_eq_false_iff_ne]; omega
              by_cases hql : q < fl.length
              · have hA0 : At _ _ _ _ _ _ _ _ _ _ _ _ := hA
                have R1 := read hA0.fs nmO (by decide) j
                have hkg := k1_get hA0.k1 j hjl
                have hka := k1_read hA0.k1 nmO j
                generalize read_ s nmO j = ar at *
                obtain ⟨code, out, s1⟩ := ar
                have HR1 := Lib.hid R1
                have HKG := Lib.hid hkg
                have HKA := Lib.hid hka
                clear hA0 R1 hkg hka
                go_wp2_with fail
                refine (show Calls _ _ _ _ _ from HR1).mono ?_
                rintro e w6 ⟨v6, rfl, hv6, hF6, hFr6⟩
                have H6 := Lib.hid (hA.out.next hle hF6 HKA.out hFr6)
                have HV6 := Lib.hid (told_of HKG (Lib.hid hv6))
                clear hF6 hFr6 HR1 hv6 HKG HKA hb hA
                go_wp2_with fail
                refine ⟨⟨q + 1, own, s1, code, rfl, by simp, by omega, H6, HV6⟩, ?_⟩
                rw [show (↑q + 1 : Int) = ((q + 1 : Nat) : Int) by omega]
                simp only [intOf, Int.toNat_natCast]
                omega
              · have hdj : decide (q < fl.length) = false := decide_eq_false hql
                go_wp2_with fail
                refine wp_region_quiet_below (by kernel_rfl) (by kernel_rfl) ?_
                repeat (first | go_big_quiet_step (fail) | quiet_step (fail))
                refine wpQuiet_nil ?_
                intro _ hw'
                obtain ⟨⟨dq, osq⟩, hw''⟩ := hw'
                subst hw''
                have H9 := Lib.hid (hA.out.past (below_regrown wr dq osq))
                show Exit.then _ _ _ _ (grow (redrawn wr dq) osq)
                generalize grow (redrawn wr dq) osq = W9 at *
                go_wp2_with fail
                refine ⟨⟨j + 1, own, s, by simp, by omega, H9⟩, ?_⟩
                rw [show (↑j + 1 : Int) = ((j + 1 : Nat) : Int) by omega]
                simp only [intOf, Int.toNat_natCast]
                omega
        · go_wp2_with fail
          go_returns
          exact ⟨rfl, hA.out.below⟩
end Go.Proofs.Ytkdodclenhnfcaa.VH
