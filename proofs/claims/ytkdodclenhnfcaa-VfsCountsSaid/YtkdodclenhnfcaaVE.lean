/- The law VfsCounts' walk. -/
import Derived.Test.YtkdodclenhnfcaaVD
namespace Go.Proofs.Ytkdodclenhnfcaa.VE
set_option linter.unusedVariables false
set_option linter.unusedSimpArgs false
open Go Go.RowKit Go.ChangeMaps Go.Sort Go.Proofs.YtkdodclenhnfcaaW.PrintWords Go.Maps Go.Proofs.Ytkdodclenhnfcaa.V2 Go.Proofs.Ytkdodclenhnfcaa.V3 Go.Proofs.Ytkdodclenhnfcaa.V4 Go.Proofs.Ytkdodclenhnfcaa.V5 Go.Proofs.Ytkdodclenhnfcaa.V6 Go.Proofs.Ytkdodclenhnfcaa.V7 Go.Proofs.Ytkdodclenhnfcaa.V8 Go.Proofs.Ytkdodclenhnfcaa.V9 Go.Proofs.Ytkdodclenhnfcaa.VA Go.Proofs.Ytkdodclenhnfcaa.VB Go.Proofs.Ytkdodclenhnfcaa.VD

theorem append_calls (s : St) (nm : ByteArray) (page : List Int) : ((append_ s nm page).1 = 11 ∧ (append_ s nm page).2.calls = s.calls) ∨ ((append_ s nm page).1 = 12 ∧ (append_ s nm page).2.calls = s.calls) ∨ (((append_ s nm page).1 == 11) = false ∧ ((append_ s nm page).1 == 12) = false ∧ (append_ s nm page).2.calls = wrap64 (s.calls + 1)) := by
  unfold append_
  split
  · exact .inl ⟨rfl, rfl⟩
  split
  · exact .inr (.inl ⟨rfl, rfl⟩)
  split
  · exact .inr (.inr ⟨rfl, rfl, rfl⟩)
  split
  · exact .inr (.inr ⟨rfl, rfl, rfl⟩)
  split
  · exact .inr (.inr ⟨rfl, rfl, rfl⟩)
  · exact .inr (.inr ⟨rfl, rfl, rfl⟩)

theorem delete_calls (s : St) (nm : ByteArray) : (delete_ s nm).2.calls = s.calls := by
  unfold delete_
  split <;> rfl
theorem read_calls (s : St) (nm : ByteArray) (n : Int) : (read_ s nm n).2.2.calls = if (decide (0 ≤ n) && decide (n < pages_ s nm)) = true then wrap64 (s.calls + 1) else s.calls := by
  unfold read_ pages_
  cases hf : s.files nm with
  | none =>
    rw [if_neg (by simp only [Option.getD_none, List.length_nil, Bool.and_eq_true, decide_eq_true_eq]; omega)]
  | some ps =>
    simp only [Option.getD_some]
    by_cases h : n < 0 ∨ (ps.length : Int) ≤ n
    · have hb : ¬ (decide (0 ≤ n) && decide (n < (ps.length : Int))) = true := by simp; omega
      rw [if_pos h, if_neg hb]
    · have hb : (decide (0 ≤ n) && decide (n < (ps.length : Int))) = true := by simp; omega
      rw [if_neg h, if_pos hb]
      split <;> rfl

set_option maxHeartbeats 2000000 in
set_option maxRecDepth 100000 in
theorem law (Ax : Option Addr) (cx : Nat) (fl : List Int) (A : Option Addr) (c : Nat) (l : List OpS) (w : World) (hx : Kd.C (Kd.int .i64) w Ax fl.length fl) (hcx : fl.length ≤ cx) (hfl : ∀ x ∈ fl, -9223372036854775808 ≤ x ∧ x ≤ 9223372036854775807)
    (hC : Kd.C kOp w A l.length l) (hc : l.length ≤ c) (hr : ∀ x ∈ l, x.name.size ≤ maxLen) :
    Calls Try.prog 5 #[.slice Ax fl.length cx, .slice A l.length c] w fun e w' => e = .returned (.bool true) ∧ Below w.heap.size w w' := by
  have hm := Kd.C_max hC
  have HC := Lib.hid hC
  have HX := Lib.hid hx
  clear hC hx
  go_enter Try.func5, Try.ntmps5
  go_wp2_with fail
  refine (head _).mono ?_
  rintro e w1 ⟨rfl, hb1⟩
  go_wp2_with fail
  refine (new 1099511627776 Ax cx fl w1 (Kd.C_below HX hb1) hcx hfl).mono ?_
  rintro e w2 ⟨rfl, hF2, hb2⟩
  have HF2 := Lib.hid hF2
  have HB1 := Lib.hid hb1
  have HB2 := Lib.hid (Base.bstep hb1 hb2)
  have hle := hb1.size
  clear hF2 hb1 hb2
  go_wp2_with fail
  go_loopw [7] (fun v7 wr => ∃ (k : Nat) (own : Foot) (s : St), v7 = .int .i64 k ∧ k ≤ l.length ∧ Hid (FSI wr w1.heap.size own (w1.heap.size + 2) w1.heap.size (w1.heap.size + 1) s) ∧ Hid (Below w.heap.size w wr)) (fun v7 _ => l.length - (intOf v7).toNat)
  case atStart => exact ⟨0, _, _, rfl, Nat.zero_le _, HF2, HB2⟩
  case round =>
    obtain ⟨k, own, s, rfl, hk, hF, hB⟩ := hrel
    by_cases hlt : k < l.length
    · obtain ⟨ad, B, cb, e, hlb, hCb, z0, z1, z2, z3⟩ := op_at HC hB k hlt
      subst e
      have hnm := hr l[k] (List.getElem_mem hlt)
      have HCb := Lib.hid hCb
      clear hCb
      generalize l[k] = o at *
      go_wp2_with fail
      have hV := FSI.past hF (below_alloc (Below.refl _ _) (.cells #[.int .i64 o.what, .string o.name, .slice B o.b.length cb, .int .i64 o.n] 37))
      have hVB := below_alloc hB (.cells #[.int .i64 o.what, .string o.name, .slice B o.b.length cb, .int .i64 o.n] 37)
      have hrow := Base.Row.new wr 37 #[.int .i64 o.what, .string o.name, .slice B o.b.length cb, .int .i64 o.n]
      have hfr := FSI.fresh hF (Nat.le_refl _)
      have hgl := FSI.size hF
      clear z0 z1 z2 z3
      generalize hg : wr.heap.size = g at *
      generalize wr.alloc (.cells #[.int .i64 o.what, .string o.name, .slice B o.b.length cb, .int .i64 o.n] 37) = V at *
      have z0 : V.cell? ⟨g, 0, none⟩ = some (.int .i64 o.what) := hrow.cell 0
      have z1 : V.cell? ⟨g, 1, none⟩ = some (.string o.name) := hrow.cell 1
      have z2 : V.cell? ⟨g, 2, none⟩ = some (.slice B o.b.length cb) := hrow.cell 2
      have z3 : V.cell? ⟨g, 3, none⟩ = some (.int .i64 o.n) := hrow.cell 3
      have HV := Lib.hid hV
      have HVB := Lib.hid hVB
      have HROW := Lib.hid hrow
      have hcl := hV.calls
      clear hV hVB hrow hg hB hF
      refine (calls_ (show FSI V _ own _ _ _ s from HV)).mono ?_
      rintro e w3 ⟨rfl, rfl⟩
      have h4 : (((bits BinOp.and IntKind.i64 o.what 3 == 0) = true) ∨ ((bits BinOp.and IntKind.i64 o.what 3 == 0) = false ∧ (bits BinOp.and IntKind.i64 o.what 3 == 1) = true)) ∨ ((bits BinOp.and IntKind.i64 o.what 3 == 0) = false ∧ (bits BinOp.and IntKind.i64 o.what 3 == 1) = false ∧ (bits BinOp.and IntKind.i64 o.what 3 == 2) = true) ∨ ((bits BinOp.and IntKind.i64 o.what 3 == 0) = false ∧ (bits BinOp.and IntKind.i64 o.what 3 == 1) = false ∧ (bits BinOp.and IntKind.i64 o.what 3 == 2) = false) := by
        cases (bits BinOp.and IntKind.i64 o.what 3 == 0) <;> cases (bits BinOp.and IntKind.i64 o.what 3 == 1) <;> cases (bits BinOp.and IntKind.i64 o.what 3 == 2) <;> simp
      obtain ⟨hCp, hAp⟩ := old_page HCb HVB HV hle
      rcases h4 with h4 | ⟨c0, c1, c2⟩ | ⟨c0, c1, c2⟩
      · have A1 := append HV o.name hnm o.b B cb hCp hlb hAp
        have hcs := append_calls s o.name o.b
        generalize append_ s o.name o.b = ar at *
        obtain ⟨code, s1⟩ := ar
        have HA1 := Lib.hid A1
        have HAP := Lib.hid hAp
        clear A1 hAp
        simp only at hcs
        rcases hcs with ⟨rfl, e2⟩ | ⟨rfl, e2⟩ | ⟨n1, n2, e2⟩
        all_goals have E2 := Lib.hid e2
        all_goals try (have n3 : (code != 11) = true := by rw [bne, n1]; rfl)
        all_goals try (have n4 : (code != 12) = true := by rw [bne, n2]; rfl)
        all_goals clear e2
        all_goals rcases h4 with c0 | ⟨c0, c1⟩
        all_goals go_wp2_with fail
        all_goals refine (show Calls _ _ _ _ _ from HA1).mono ?_
        all_goals rintro e w5 ⟨rfl, own5, hF5, hFr5⟩
        all_goals have S5 := calls_ hF5
        all_goals rw [show s1.calls = _ from E2] at S5
        all_goals have HS5 := Lib.hid S5
        all_goals have HF5 := Lib.hid hF5
        all_goals have HB5 := Lib.hid (frame_below2 HV HVB hle hFr5)
        all_goals clear S5 hF5 hFr5 HA1
        all_goals go_wp2_with fail
        all_goals refine (show Calls _ _ _ _ _ from HS5).mono ?_
        all_goals rintro e w6 ⟨rfl, rfl⟩
        all_goals go_wp2_with fail
        all_goals refine ⟨⟨k + 1, own5, s1, by simp, by omega, HF5, HB5⟩, ?_⟩
        all_goals rw [show (↑k + 1 : Int) = ((k + 1 : Nat) : Int) by omega]
        all_goals simp only [intOf, Int.toNat_natCast]
        all_goals omega
      · have hcs := read_calls s o.name o.n
        have hpg : ∀ (d : Nat) (os : Array Obj), Calls Try.prog 15 #[.pointer (some ⟨w1.heap.size + 2, 0, none⟩), .string o.name] (grow (redrawn w3 d) os) fun e w' => e = .returned (.int .i64 (pages_ s o.name)) ∧ Below (grow (redrawn w3 d) os).heap.size (grow (redrawn w3 d) os) w' := fun d os => (pages (FSI.past HV (below_regrown w3 d os)) o.name hnm).mono fun e w' h => ⟨h.1, by rw [h.2]; exact Below.refl _ _⟩
        have y1 : ∀ (d : Nat) (os : Array Obj), (grow (redrawn w3 d) os).cell? ⟨g, 1, none⟩ = some (.string o.name) := fun d os => cell_regrown z1 d os
        have y3 : ∀ (d : Nat) (os : Array Obj), (grow (redrawn w3 d) os).cell? ⟨g, 3, none⟩ = some (.int .i64 o.n) := fun d os => cell_regrown z3 d os
        have hb : ∃ bt : Bool, (decide (0 ≤ o.n) && decide (o.n < pages_ s o.name)) = bt := ⟨_, rfl⟩
        obtain ⟨bt, hbt⟩ := hb
        rw [hbt] at hcs
        cases hd : decide (0 ≤ o.n)
        all_goals go_wp2_with fail
        all_goals refine wp_region_quiet_below (by kernel_rfl) (by kernel_rfl) ?_
        all_goals repeat (first | go_big_quiet_step ((go_at_call 15; exact Calls.regrown_of (hpg _ _))) | quiet_step (fail))
        all_goals refine wpQuiet_nil ?_
        all_goals intro _ hw'
        all_goals obtain ⟨⟨dq, osq⟩, hw''⟩ := hw'
        all_goals subst hw''
        all_goals clear y1 y3 hpg
        all_goals have hbq := below_regrown w3 dq osq
        all_goals have zz1 := cell_regrown z1 dq osq
        all_goals have zz3 := cell_regrown z3 dq osq
        all_goals have HB4 := Lib.hid (Base.bstep HVB hbq)
        all_goals have HV4 := Lib.hid (FSI.past HV hbq)
        all_goals have hle4 := hbq.size
        all_goals show Exit.then _ _ _ _ (grow (redrawn w3 dq) osq)
        all_goals clear z0 z1 z2 z3 hbq
        all_goals generalize grow (redrawn w3 dq) osq = W4 at *
        all_goals have A1 := read (show FSI W4 _ own _ _ _ s from HV4) o.name hnm o.n
        all_goals generalize read_ s o.name o.n = ar at *
        all_goals obtain ⟨code, out, s1⟩ := ar
        all_goals have HA1 := Lib.hid A1
        all_goals have HCS := Lib.hid hcs
        all_goals clear A1 hcs
        all_goals go_wp2_with fail
        all_goals refine (show Calls _ _ _ _ _ from HA1).mono ?_
        all_goals rintro e w5 ⟨v, rfl, _, hF5, hFr5⟩
        all_goals have S5 := calls_ hF5
        all_goals have HS5 := Lib.hid S5
        all_goals have HF5 := Lib.hid hF5
        all_goals have HB5 := Lib.hid (frame_below2 HV4 HB4 hle hFr5)
        all_goals clear S5 hF5 hFr5 HA1
        all_goals rw [hd] at hbt
        all_goals cases hd2 : decide (o.n < pages_ s o.name)
        all_goals rw [hd2] at hbt
        all_goals subst hbt
        all_goals have hcs := HCS.out
        all_goals simp only [Bool.false_and, Bool.and_false, Bool.true_and, Bool.false_eq_true, if_false, if_true] at hcs
        all_goals rw [hcs] at HS5
        all_goals clear hcs HCS
        all_goals go_wp2_with fail
        all_goals refine (show Calls _ _ _ _ _ from HS5).mono ?_
        all_goals rintro e w6 ⟨rfl, rfl⟩
        all_goals go_wp2_with fail
        all_goals refine ⟨⟨k + 1, own, s1, by simp, by omega, HF5, HB5⟩, ?_⟩
        all_goals rw [show (↑k + 1 : Int) = ((k + 1 : Nat) : Int) by omega]
        all_goals simp only [intOf, Int.toNat_natCast]
        all_goals omega
      · have A1 := delete HV o.name hnm
        have hcs := delete_calls s o.name
        generalize delete_ s o.name = ar at *
        obtain ⟨code, s1⟩ := ar
        have HA1 := Lib.hid A1
        have E2 := Lib.hid hcs
        clear A1 hcs
        go_wp2_with fail
        refine (show Calls _ _ _ _ _ from HA1).mono ?_
        rintro e w5 ⟨rfl, hF5, hFr5⟩
        have S5 := calls_ hF5
        rw [show s1.calls = _ from E2] at S5
        have HS5 := Lib.hid S5
        have HF5 := Lib.hid hF5
        have HB5 := Lib.hid (frame_below2 HV HVB hle hFr5)
        clear S5 hF5 hFr5 HA1
        go_wp2_with fail
        refine (show Calls _ _ _ _ _ from HS5).mono ?_
        rintro e w6 ⟨rfl, rfl⟩
        go_wp2_with fail
        refine ⟨⟨k + 1, own, s1, by simp, by omega, HF5, HB5⟩, ?_⟩
        rw [show (↑k + 1 : Int) = ((k + 1 : Nat) : Int) by omega]
        simp only [intOf, Int.toNat_natCast]
        omega
    · go_wp2_with fail
      go_returns
      exact ⟨rfl, hB⟩
end Go.Proofs.Ytkdodclenhnfcaa.VE
