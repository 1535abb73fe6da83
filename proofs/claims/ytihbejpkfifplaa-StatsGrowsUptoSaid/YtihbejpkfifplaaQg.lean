/- The law StatsGrows, of inputs of the given bulk: it answers true, and what came in reads as before. -/
import Derived.Test.YtihbejpkfifplaaQf
import Derived.Test.YtihbejpkfifplaaQc
namespace Go.Proofs.Ytihbejpkfifplaa.Z
open Go Go.Fw Go.ChangeShapes Go.WideShapes Go.ChangeAt Go.RowKit Go.Joins Go.Deep
set_option linter.unusedVariables false
theorem rd_u32 {H : Type} {enc : TypeId × Value → H} {P : Program} {w : World} {base : Nat} {spare : Nat → Bool} {held : Bool} {fuel : Nat} {t : TypeId} {cs : List Value} {x : DataW H × List MemPlace} (ht : P.underlying t = some (.int .u32)) (h : DataW.trod enc P w base spare held fuel t cs = some x) : ∃ v : Int, CR w (encU v) cs ∧ 1 ≤ Rows.uptoBulk x.1 := by
  obtain ⟨n, rfl, rfl, hw⟩ := DataW.trod_int ht h
  exact ⟨n, CR.one rfl (.lit _ (by simpa [Lit.wf, okLit] using hw)), by simp [Rows.uptoBulk]⟩
section
variable {H : Type} {enc : TypeId × Value → H} {w : World} {base : Nat} {spare : Nat → Bool} {held : Bool}
set_option maxRecDepth 100000 in
theorem rd_S2 {fuel : Nat} {cs : List Value} {x : DataW H × List MemPlace} (h : DataW.trod enc Try.prog w base spare held fuel 53 cs = some x) : ∃ v : StatsT, CR w (encS v) cs ∧ v.edges.length ≤ Rows.uptoBulk x.1 := by
  obtain ⟨xs, n, hn, hx, hl, hlen, hg⟩ := rd_struct lay_S (by simp) h
  obtain ⟨c0, c1, rfl⟩ : ∃ c0 c1, cs = [c0, c1] := by
    have hl2 : cs.length = 2 := hl.trans (show Try.prog.cellsOf 53 = 2 from by kernel_rfl)
    match cs, hl2 with
    | [c0, c1], _ => exact ⟨c0, c1, rfl⟩
  obtain ⟨y0, y1, rfl⟩ : ∃ y0 y1, xs = [y0, y1] := by
    match xs, hlen with
    | [y0, y1], _ => exact ⟨y0, y1, rfl⟩
  have g0 := hg 0 0 51 rfl
  rw [show Try.prog.cellsOf 51 = 1 from by kernel_rfl] at g0
  have g1 := hg 1 1 51 rfl
  rw [show Try.prog.cellsOf 51 = 1 from by kernel_rfl] at g1
  simp only [List.drop_zero, List.drop_succ_cons, List.take_succ_cons, List.take_zero, List.getElem?_cons_zero, List.getElem?_cons_succ] at g0 g1
  simp only [List.map_cons, List.map_nil] at hx
  obtain ⟨s0, l0, e0, o0, r0, b0⟩ := rd_slice encI (fun _ => 1) (sz := 1) (show Try.prog.underlying 51 = some (.slice 2) from by kernel_rfl) (by kernel_rfl) (by omega) (fun m hm cs x hx => rd_int (show Try.prog.underlying 2 = some (.int .i64) from by kernel_rfl) hx) g0
  simp at e0
  subst e0
  obtain ⟨s1, l1, e1, o1, r1, b1⟩ := rd_slice encI (fun _ => 1) (sz := 1) (show Try.prog.underlying 51 = some (.slice 2) from by kernel_rfl) (by kernel_rfl) (by omega) (fun m hm cs x hx => rd_int (show Try.prog.underlying 2 = some (.int .i64) from by kernel_rfl) hx) g1
  simp at e1
  subst e1
  refine ⟨⟨l0, l1⟩, ?_, ?_⟩
  · exact (CR.one o0 r0).append (CR.one o1 r1)
  · show l1.length ≤ _
    rw [hx]; simp only [Rows.uptoBulk, Rows.uptoBulkAll]; rw [sum_len] at b1; omega
end
end Go.Proofs.Ytihbejpkfifplaa.Z
namespace Go.Proofs.Ytihbejpkfifplaa.lawStatsGrows
open Go Go.Fw Go.ChangeShapes Go.WideShapes Go.ChangeAt Go.RowKit Go.Joins Go.Deep Go.Proofs.Ytihbejpkfifplaa.Z
set_option linter.unusedVariables false
theorem own : ownKnob Try.prog.godebug = none := by kernel_rfl
theorem laidOut : laidOutB Try.prog = true := by kernel_rfl
theorem under_lay {P : Program} {t : TypeId} {l : List (Nat × TypeId)} (hl : lay P t = l) (h0 : l ≠ []) : ∃ fs, P.underlying t = some (.struct fs) := by
  unfold lay at hl
  split at hl
  · exact ⟨_, ‹_›⟩
  · exact absurd hl.symm h0
theorem vrel_ag {w : World} {m : Nat → Option Nat} {ds : List D} {cs : Array Value} (h : CR w ds cs.toList) : VRel w (fun _ => False) m (.d (.ag ds)) (.agg cs) := by
  have := DRel.ag (w := w) (L := fun _ => False) ds cs.toList h.len (fun v hv => by
    obtain ⟨j, hj⟩ := List.getElem?_of_mem hv
    have hlt : j < ds.length := by rw [← h.len]; exact (List.getElem?_eq_some_iff.1 hj).1
    exact (h.at_ j _ v (List.getElem?_eq_getElem hlt) hj).1) (fun j x v hx hv => (h.at_ j x v hx hv).2)
  rw [Array.toArray_toList] at this
  exact .d this
set_option maxRecDepth 100000 in
theorem contract (H : Type) (enc : TypeId × Value → H) (W : World) (base : Nat) (args : Array Value) (ds gs : List (DataW H)) (before : List MemPlace)
    (hval : ∀ (j : Nat) t v, Try.f7.params[j]? = some t → args[j]? = some v → Value.okWide Try.prog W .any base t v)
    (hW : DataW.Whole enc Try.prog Try.f7.params.toList Rows.statsGrowsSpec.vars false W args.toList ds gs before) (hk : Rows.uptoSmall H (ds ++ gs) = true) :
    Calls Try.prog 7 args W fun e W' => ∃ v, e = .returned v ∧ Rows.statsGrowsSpec.post enc Try.prog Try.f7 false true false false W args v W' := by
  have hW' := hW
  obtain ⟨p, q, hA0, hV, rfl, hfz, hnd⟩ := hW
  have hA : DataW.TrodAll enc Try.prog W 0 (fun _ => true) true Try.f7.params.toList args.toList ds p := hA0
  rw [show Try.f7.params = #[27, 33, 53, 57] from by kernel_rfl] at hA hval
  obtain ⟨v0, vs0, d0, ds0, p0, q0, hargs, rfl, rfl, h0, r0⟩ := trodAll_cons hA
  obtain ⟨v1, vs1, d1, ds1, p1, q1, rfl, rfl, rfl, h1, r1⟩ := trodAll_cons r0
  obtain ⟨v2, vs2, d2, ds2, p2, q2, rfl, rfl, rfl, h2, r2⟩ := trodAll_cons r1
  obtain ⟨v3, vs3, d3, ds3, p3, q3, rfl, rfl, rfl, h3, r3⟩ := trodAll_cons r2
  obtain ⟨rfl, rfl, rfl⟩ := trodAll_nil r3
  obtain rfl : args = #[v0, v1, v2, v3] := by cases args; simp_all
  obtain ⟨rfl, rfl⟩ := trodVars_none hV
  have k0 := h0
  have k1 := h1
  have k2 := h2
  have k3 := h3
  have lt : ∀ {t v d ps}, DataW.Trod enc Try.prog W 0 (fun _ => true) true t v d ps → ∀ x ∈ ps, x.block < W.heap.size := fun h => by obtain ⟨m, hm⟩ := h; exact DataW.trod_lt m _ _ _ hm
  obtain ⟨fs0, u0⟩ := under_lay lay_P (by simp)
  obtain ⟨fs1, u1⟩ := under_lay lay_C (by simp)
  obtain ⟨fs2, u2⟩ := under_lay lay_S (by simp)
  obtain ⟨c0, rfl, -⟩ := okWide_struct u0 (hval 0 _ v0 rfl rfl)
  obtain ⟨c1, rfl, -⟩ := okWide_struct u1 (hval 1 _ v1 rfl rfl)
  obtain ⟨c2, rfl, -⟩ := okWide_struct u2 (hval 2 _ v2 rfl rfl)
  obtain ⟨A3, n3, m3, rfl⟩ := okWide_slice (show Try.prog.underlying 57 = some (.slice 58) from by kernel_rfl) (hval 3 57 v3 rfl rfl)
  obtain ⟨f0, g0⟩ := h0
  obtain ⟨f1, g1⟩ := h1
  obtain ⟨f2, g2⟩ := h2
  obtain ⟨f3, g3⟩ := h3
  simp only [Value.cells] at g0 g1 g2 g3
  obtain ⟨pa, ra, ba⟩ := rd_P f0 g0
  obtain ⟨co, rc, -⟩ := rd_C g1
  obtain ⟨st, rs, bs⟩ := rd_S2 g2
  obtain ⟨sv, l, e4, o4, rl, bl⟩ := rd_slice encU (fun _ => 1) (sz := 1) (show Try.prog.underlying 57 = some (.slice 58) from by kernel_rfl) (by kernel_rfl) (by omega) (fun m hm cs x hx => rd_u32 (show Try.prog.underlying 58 = some (.int .u32) from by kernel_rfl) hx) g3
  simp at e4
  subst e4
  have hb : Rows.uptoBulkAll [d0, d1, d2, d3] ≤ 1048576 := by
    have := of_decide_eq_true hk
    simpa using this
  simp only [Rows.uptoBulkAll] at hb
  simp only at ba bs
  have hS := grows_ok pa co st l (by omega) (by omega)
  have hC := hS.2 W (fun _ => False) [.agg c0, .agg c1, .agg c2, .slice A3 n3 m3] (fun _ h => h.elim)
    (All2.cons (vrel_ag ra) (All2.cons (vrel_ag rc) (All2.cons (vrel_ag rs) (All2.cons (.d rl) All2.nil))))
  refine hC.mono fun e W' hx => ?_
  obtain ⟨v, m', rfl, hx, hv, -⟩ := hx
  have hv := hv.lit_inv
  subst hv
  have bel : Below W.heap.size W W' := ⟨hx.os, hx.tape, hx.output, hx.size, fun k hk => hx.block k hk fun f => f⟩
  exact ⟨_, rfl, _, _, _, [], _, [], hW', trodAll_mk1 (shut_bool (show Try.prog.underlying 4 = some .bool from by kernel_rfl) _),
    (trodAll_cons_mk (Below.trod laidOut (by kernel_rfl) (of_decide_eq_true (by kernel_rfl)) k0 bel (lt k0))
      (trodAll_cons_mk (Below.trod laidOut (by kernel_rfl) (of_decide_eq_true (by kernel_rfl)) k1 bel (lt k1))
        (trodAll_cons_mk (Below.trod laidOut (by kernel_rfl) (of_decide_eq_true (by kernel_rfl)) k2 bel (lt k2))
          (trodAll_cons_mk (Below.trod laidOut (by kernel_rfl) (of_decide_eq_true (by kernel_rfl)) k3 bel (lt k3))
            trodAll_mk0)))), rfl, bel.frame _, fun h => by cases h⟩
set_option maxRecDepth 100000 in
theorem lifted (os : Os) (started : os.Started) (H : Type) (enc : TypeId × Value → H) (F : Stop.Interp) :
    ReturnsInHanded {} Try.checked os 7 .any ((Rows.OpenSpec.upto Rows.statsGrowsSpec).pre6 enc Try.prog Try.f7 Rows.statsGrowsUptoRow.domain false) (((Rows.OpenSpec.upto Rows.statsGrowsSpec).at F).post enc Try.prog Try.f7 false true false false) := by
  refine returnsInHanded_of_cond (C := Try.checked) (s := Rows.OpenSpec.upto Rows.statsGrowsSpec) (k := Rows.uptoSmall) rfl own started (by kernel_rfl) Try.func7
    (OpenSpec.witness (enc := enc) (C := Try.checked) (s := Rows.OpenSpec.upto Rows.statsGrowsSpec) (k := Rows.uptoSmall) rfl false ⟨#[], #[.agg #[.int .i64 0, .slice none 0 0, .int .i64 0, .slice none 0 0, .bool false, .slice none 0 0], .agg #[.slice none 0 0, .slice none 0 0, .slice none 0 0, .slice none 0 0, .bool false, .slice none 0 0, .int .i64 0], .agg #[.slice none 0 0, .slice none 0 0], .slice none 0 0], []⟩ 8 (by kernel_rfl) (by kernel_rfl) (by kernel_rfl)
      (x := ([.agg [.lit (.int .i64 0), .nil, .lit (.int .i64 0), .nil, .lit (.bool false), .nil], .agg [.nil, .nil, .nil, .nil, .lit (.bool false), .nil, .lit (.int .i64 0)], .agg [.nil, .nil], .nil], [], [])) (by kernel_rfl) rfl (by kernel_rfl)) ?_
  intro W base args ds gs before hval hW _ hk _
  exact contract H enc W base args ds gs before hval hW hk
theorem proved : Rows.StatsGrowsUptoSaid :=
  OpenClaim.holds_of_cond 7 Try.f7 rfl rfl rfl rfl rfl rfl rfl ⟨rfl, rfl, rfl, rfl, rfl⟩ rfl rfl rfl rfl rfl (by kernel_rfl) Try.func7 (by kernel_rfl)
    (of_decide_eq_true (by kernel_rfl)) (by unfold Func.isWrapper; first | (rw [if_pos (by decide +kernel)]; kernel_rfl) | (rw [if_neg (by decide +kernel)]; exact ⟨rfl, rfl⟩))
    (fun os started H enc _ F => lifted os started H enc F)
#print axioms proved
end Go.Proofs.Ytihbejpkfifplaa.lawStatsGrows
