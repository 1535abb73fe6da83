/- The model takes each step. -/
import Derived.Test.YtihbejpkfifplaaFpw
set_option linter.unusedVariables false
set_option linter.unusedSimpArgs false
namespace Go.Fw
variable {P : Program}

section
variable {w0 : World} {L0 : Par} {X : Nat → Prop} {m : Nat → Option Nat} {a : Act} {w : World}
theorem upon_value {o : Oper} {K : Act → World → Prop} {Q : Exit → Act → World → Prop} {q : Value} {w' : World} (hr : (execOp a.eval o).run P w = .ok (.value q) w') (hK : K (a.put o.dst q) w') : o.wp P a w K Q := by
  unfold Oper.wp; rw [hr]; exact hK
theorem upon_skip {o : Oper} {K : Act → World → Prop} {Q : Exit → Act → World → Prop} {w' : World} (hr : (execOp a.eval o).run P w = .ok .skip w') (hK : K (a.put o.dst undef) w') : o.wp P a w K Q := by
  unfold Oper.wp; rw [hr]; exact hK
theorem call_run {g : FuncId} {o : Oper} {cl : Call} {fo : Operand} (ho : o.op = .call cl) (hc : cl.callee = .value fo) {caps : Array Value} (hf : a.eval fo = .func (.func g) #[] caps) (hg : goFn P g = true) :
    (execOp a.eval o).run P w = .ok (.enter g (cl.args.map a.eval ++ caps)) w := by
  unfold goFn at hg
  split at hg
  · rename_i fn hfn
    simp only [Bool.and_eq_true] at hg
    obtain ⟨h1, h2⟩ := hg
    have h3 : fn.body ≠ none := fun e => by rw [e] at h2; cases h2
    have h4 : fn.name ≠ "runtime.NumGoroutine" := by simpa using h1
    simp [execOp, ho, resolve, hc, hf, Deferred.ofValue, invoke, callFunc, hfn]
    rw [if_neg h4, if_neg h3]
  · cases hg
theorem callOf_inv {op : Op} {ρ : Operand → V} {g : FuncId} {args : List V} (h : callOf op ρ = some (g, args)) : ∃ cl fo capt, op = .call cl ∧ cl.callee = .value fo ∧ ρ fo = .fn g capt ∧ args = cl.args.toList.map ρ ++ capt := by
  cases op <;> simp only [callOf] at h <;> try (cases h; done)
  rename_i cl
  split at h
  · rename_i fo hfo
    split at h
    · rename_i g' capt hv
      cases h
      exact ⟨cl, fo, capt, rfl, hfo, hv, rfl⟩
    · cases h
  · cases h
theorem do_wp {E E' : St} (h : Rel w0 L0 X m E.e E.s a w) {o : Oper} (hf : makes o = true → Fresh (mine o) E.e E.s) (hd : Do P o E E') {K : Act → World → Prop} {Q : Exit → Act → World → Prop} (hK : ∀ m' a' w', Rel w0 L0 X m' E'.e E'.s a' w' → K a' w') : o.wp P a w K Q := by
  have idf : ∀ {dst : Option Nat} {q : Nat}, newId dst = 100 * q → Fresh (fun i => decide (i / 100 = newId dst / 100)) E.e E.s → Fresh (fun i => decide (i / 100 = q)) E.e E.s := fun {dst q} e hf => by
    rw [e] at hf
    simpa using hf
  unfold Do at hd
  cases hcl : cls o.op <;> rw [hcl] at hd <;> simp only at hd
  · -- p
    obtain ⟨v, s', hl, rfl⟩ := hd
    unfold Loc at hl
    rw [hcl] at hl
    obtain ⟨c, h1, hc, rfl⟩ := hl
    obtain ⟨q, h2, h3⟩ := opP_run (P := P) (w := w) h.look h1 hc
    exact upon_value h2 (hK m _ _ (h.put o.dst h3))
  · -- r
    obtain ⟨v, s', hl, rfl⟩ := hd
    unfold Loc at hl
    rw [hcl] at hl
    obtain ⟨c, h1, hc, rfl⟩ := hl
    obtain ⟨q, h2, h3⟩ := opR_run (P := P) h.sto h.look h1 hcl hc
    exact upon_value h2 (hK m _ _ (h.put o.dst h3))
  · -- a
    obtain ⟨v, s', hl, rfl⟩ := hd
    unfold Loc at hl
    rw [hcl] at hl
    obtain ⟨c, blk, hds, h1, hc, rfl⟩ := hl
    have hfr := hf (by simp [makes, hcl])
    have hf1 : Fresh (· == newId o.dst) E.e E.s := hfr.sub fun i hi => by
      have : i / 100 ≠ newId o.dst / 100 := by simpa [mine] using hi
      simp; intro e; exact this (by rw [e])
    have hid : getB E.s (newId o.dst) = none := by
      cases hg : getB E.s (newId o.dst) with
      | none => rfl
      | some b => have := (hf1.sto _ b hg).1; simp at this
    obtain ⟨q, w', h2, h3⟩ := opA_run h (newId_ge _) hf1 hid h1 hc
    exact upon_value h2 (hK _ _ _ h3)
  · -- w
    obtain ⟨c, s', h1, hc, rfl⟩ := hd
    obtain ⟨w', h2, h3⟩ := opW_run h h1 hc
    exact upon_skip h2 (hK _ _ _ h3)
  · -- x
    obtain ⟨cl, ho, hcal, k, c, sz, n, blk, ⟨all, h1, rfl, rfl⟩ | ⟨all, h1, rfl⟩, hc, rfl⟩ := hd
    · obtain ⟨q, w', m', h2, h3⟩ := append_run h ho hcal h1 hc (newId o.dst) (newId_ge _)
      exact upon_value h2 (hK _ _ _ h3)
    · obtain ⟨q, w', m', h2, h3⟩ := append_runV h ho hcal h1 hc (newId o.dst) (newId_ge _)
      exact upon_value h2 (hK _ _ _ h3)
  · -- c
    obtain ⟨v, s', hl, rfl⟩ := hd
    unfold Loc at hl
    rw [hcl] at hl
    obtain ⟨g, args1, args, r, τ, hds, hco, hfz, hpure, ⟨hg, hsnd⟩, hok, rfl, rfl⟩ := hl
    obtain ⟨cl, fo, capt, ho, hcal, hfo, rfl⟩ := callOf_inv hco
    have hfv := h.look fo
    rw [hfo] at hfv
    generalize hev : a.eval fo = u at hfv
    cases hfv with
    | fn _ _ vs hl hr =>
      have hrun := call_run (P := P) (w := w) ho hcal hev hg
      have hargs : All2 (VRel w (Live X m E.s) m) (cl.args.toList.map (look E.e) ++ capt) ((cl.args.map a.eval).toList ++ vs) := (All2.arr h.look cl.args).append ⟨hl, hr⟩
      unfold Oper.wp
      rw [hrun]
      simp only [Oper.upon]
      have ea : ((cl.args.map a.eval).toList ++ vs).toArray = cl.args.map a.eval ++ vs.toArray := by simp
      rw [← ea]
      obtain ⟨q, hq0, hq⟩ := newId_some hds
      have hfr := idf hq (hf (by simp [makes, hcl]))
      rcases hfz with rfl | ⟨rfl, y, rfl, rfl⟩
      · have hcalls := hsnd w (Live X m E.s) _ (fun b hb => h.live_lt hb) (pure_rel hpure hargs)
        refine hcalls.mono fun x w' hx => ?_
        obtain ⟨v, m', rfl, hx1, hx2, hx3, hx4⟩ := hx
        simp only
        have := h.called hq0 hfr hx1 hx2 hx3 hx4 hok o.dst
        rw [← hq] at this
        exact hK _ _ _ this
      · have hargs2 : All2 (VRel w (Live X (finM [] m) (finS [] E.s [] 0)) (finM [] m)) (V.finL [] E.s (cl.args.toList.map (look E.e) ++ capt)) ((cl.args.map a.eval).toList ++ vs) :=
          ⟨hargs.len.trans (finL_len _ _ _).symm, fun j x v h1 h2 => by
            rw [finL_at] at h1
            obtain ⟨z, hz, rfl⟩ := Option.map_eq_some_iff.1 h1
            exact fin_rel h (hargs.at_ j z v hz h2)⟩
        have hcalls := hsnd w (Live X (finM [] m) (finS [] E.s [] 0)) _ (fun b hb => h.live_lt (live_fin hb)) (pure_rel hpure hargs2)
        refine hcalls.mono fun x w' hx => ?_
        obtain ⟨v, m', rfl, hx1, hx2, hx3, hx4⟩ := hx
        simp only
        have hv : VRel w' (Live (Live X m E.s) m' []) m' (.d (.lit y)) v := by
          cases hx2 with
          | d hd => cases hd with
            | lit _ ho => exact .d (.lit _ ho)
        have := h.called hq0 hfr hx1 hv ⟨fun i blk hi => (by cases hi), fun i j b _ _ h3 => (by cases h3)⟩ hx4 hok o.dst
        rw [← hq] at this
        exact hK _ _ _ this
theorem doI_wp {im : Bool} {E E' : St} (h : Rel w0 L0 X m E.e E.s a w) {o : Oper} (hf : makes o = true → Fresh (mine o) E.e E.s) (hd : DoI P im o E E') {K : Act → World → Prop} {Q : Exit → Act → World → Prop} (hK : ∀ m' a' w', Rel w0 L0 X m' E'.e E'.s a' w' → K a' w') : o.wp P a w K Q := by
  by_cases hi : im = true → cls o.op ≠ .c
  · exact do_wp h hf ((doI_do hi).1 hd) hK
  · have him : im = true := by
      cases im with
      | true => rfl
      | false => exact absurd (fun h => by cases h) hi
    subst him
    have hcl : cls o.op = .c := by
      cases hc : cls o.op <;> first | rfl | exact absurd (fun _ e => by cases hc.symm.trans e) hi
    unfold DoI at hd
    rw [hcl] at hd
    obtain ⟨g, args, ids, s0, r, s1, hds, hco, hm0, hok, ⟨hg, hsnd⟩, rfl⟩ := hd
    have ok := okW_iff hok
    obtain ⟨cl, fo, capt, ho, hcal, hfo, hargs0⟩ := callOf_inv hco
    obtain ⟨q, hq0, hq⟩ := newId_some hds
    have hfv := h.look fo
    rw [hfo] at hfv
    generalize hev : a.eval fo = u at hfv
    cases hfv with
    | fn _ _ vs hl hr =>
      have hrun := call_run (P := P) (w := w) ho hcal hev hg
      have hargs : All2 (VRel w (Live X m E.s) m) (V.renL (rho ids (newId o.dst)) args) ((cl.args.map a.eval).toList ++ vs) := by
        rw [hargs0]; exact (All2.arr h.look cl.args).append ⟨hl, hr⟩
      obtain ⟨g1, g2, g3⟩ := h.given ok hm0 hargs
      have hcalls := hsnd w (Others X m E.s ids) _ _ g1 g2 g3
      unfold Oper.wp
      rw [hrun]
      simp only [Oper.upon]
      have ea : ((cl.args.map a.eval).toList ++ vs).toArray = cl.args.map a.eval ++ vs.toArray := by simp
      rw [← ea]
      refine hcalls.mono fun x w' hx => ?_
      obtain ⟨v, m', rfl, hx1, hx2, hx3, hx4, hx5⟩ := hx
      have hfr : Fresh (fun i => decide (i / 100 = q)) E.e E.s := (hf (by simp [makes, hcl])).sub fun i hi => by
        simp only [mine, hq, decide_eq_false_iff_not] at hi ⊢
        omega
      simp only
      rw [hq] at hm0
      have := h.calledW hq0 hfr ok hm0 hx1 hx2 hx3 hx4 hx5 o.dst
      rw [← hq] at this
      exact hK _ _ _ this
end
end Go.Fw
