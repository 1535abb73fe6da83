/- A function: from its body's walk to its answer. -/
import Derived.Test.YtihbejpkfifplaaFt
set_option linter.unusedVariables false
set_option linter.unusedSimpArgs false
namespace Go.Fw
variable {P : Program}
section
variable {w0 : World} {L0 : Par} {X : Nat → Prop} {m : Nat → Option Nat} {e : Env} {s : Store} {a : Act} {w : World}
theorem fin_sto (h : Rel w0 L0 X m e s a w) {keep : List Nat} (hnd : keep.Nodup) : SRel w X (finM keep m) (finS keep s keep 0) := by
  refine ⟨fun j blk hj => ?_, fun i j b q1 q2 q3 q4 => ?_⟩
  · rw [getB_finS] at hj
    simp only [Nat.zero_le, if_true, Nat.sub_zero] at hj
    obtain ⟨id, g1, g2⟩ := Option.bind_eq_some_iff.1 hj
    obtain ⟨b0, g3, rfl⟩ := Option.map_eq_some_iff.1 g2
    have hm : finM keep m j = m id := by simp [finM, g1]
    rcases h.sto.blk id b0 g3 with ⟨b, r1, r2⟩ | ⟨r1, sz, rfl⟩
    · refine .inl ⟨b, hm.trans r1, ?_⟩
      cases b0 with
      | vals cells =>
        obtain ⟨vs, ex, ty, fr, t1, t2, t3, t4⟩ := r2
        refine ⟨vs, ex, ty, fr, t1, t2, t3, t4.len.trans (finL_len _ _ _).symm, fun j x v s1 s2 => ?_⟩
        rw [finL_at] at s1
        obtain ⟨y, hy, rfl⟩ := Option.map_eq_some_iff.1 s1
        exact fin_rel h (t4.at_ j y v hy s2)
      | mp ks vs =>
        obtain ⟨es, cl, t1, t2, t4⟩ := r2
        refine ⟨es, cl, t1, t2, t4.len.trans (finL_len _ _ _).symm, fun j x v s1 s2 => ?_⟩
        rw [finL_at] at s1
        obtain ⟨y, hy, rfl⟩ := Option.map_eq_some_iff.1 s1
        exact fin_rel h (t4.at_ j y v hy s2)
      | data sz rows =>
        obtain ⟨cs, ty, fr, t1, t2, t3, t4, t5⟩ := r2
        exact ⟨cs, ty, fr, t1, t2, t3, t4, fun i j r x s1 s2 => by
          obtain ⟨v, u1, u2, u3⟩ := t5 i j r x s1 s2
          exact ⟨v, u1, u2, u3.mono (fun _ _ _ q => q) (fun b hl => .inl (live_fin hl))⟩⟩
    · exact .inr ⟨hm.trans r1, sz, rfl⟩
  · have key : ∀ i, finM keep m i = some b → (getB (finS keep s keep 0) i).isSome = true → ∃ id, keep[i]? = some id ∧ m id = some b ∧ (getB s id).isSome = true := by
      intro i r1 r2
      obtain ⟨c, hc⟩ := Option.isSome_iff_exists.1 r2
      rw [getB_finS] at hc
      simp only [Nat.zero_le, if_true, Nat.sub_zero] at hc
      obtain ⟨id, g1, g2⟩ := Option.bind_eq_some_iff.1 hc
      obtain ⟨b0, g3, _⟩ := Option.map_eq_some_iff.1 g2
      exact ⟨id, g1, by simpa [finM, g1] using r1, by rw [g3]; rfl⟩
    obtain ⟨a1, a2, a3, a4⟩ := key i q1 q3
    obtain ⟨b1, b2, b3, b4⟩ := key j q2 q4
    have := h.sto.inj a1 b1 b a3 b3 a4 b4
    subst this
    have h1 := (List.getElem?_eq_some_iff.1 a2)
    have h2 := (List.getElem?_eq_some_iff.1 b2)
    exact (List.getElem_inj (h₀ := h1.1) (h₁ := h2.1) hnd).1 (h1.2.trans h2.2.symm)

/-! results -/
def resList (P : Program) (e : Env) (s : Store) : List ResultVar → Option (List V)
  | [] => some []
  | .tmp t :: r => match resList P e s r with | some l => some (e.getD t .top :: l) | none => none
  | .cell a t :: r => match e.getD a .top with
    | .pt id sz row col => match getB s id with
      | some (.vals cells) => if row = 0 then match loadV P t cells col, resList P e s r with | some v, some l => some (v :: l) | _, _ => none else none
      | _ => none
    | _ => none
def resV (P : Program) (rs : List ResultVar) (e : Env) (s : Store) : Option V := match resList P e s rs with
  | some [v] => some v
  | some l => some (.tup l)
  | none => none
def resSem (tmps : Array Value) : ResultVar → Sem Value
  | .tmp t => pure (tmps.getD t undef)
  | .cell b t => do loadVar t (← asAddr (tmps.getD b undef))
theorem results_eq (fn : Func) (tmps : Array Value) : results fn tmps = (do let vs ← fn.results.mapM (resSem tmps); pure (if h : vs.size = 1 then vs[0] else .tuple vs)) := rfl
theorem resList_run (h : Rel w0 L0 X m e s a w) : ∀ {rs : List ResultVar} {l : List V}, resList P e s rs = some l → ∃ vs : List Value, (rs.mapM (resSem a.tmps)).run P w = .ok vs w ∧ All2 (VRel w (Live X m s) m) l vs := by
  intro rs
  induction rs with
  | nil => intro l hl; cases hl; exact ⟨[], rfl, All2.nil⟩
  | cons r rs ih =>
    intro l hl
    cases r with
    | tmp t =>
      simp only [resList] at hl
      split at hl
      · rename_i l' hl'
        cases hl
        obtain ⟨vs, h1, h2⟩ := ih hl'
        refine ⟨a.tmps.getD t undef :: vs, ?_, All2.cons (h.look (.tmp t)) h2⟩
        simp [List.mapM_cons, resSem, h1]
      · cases hl
    | cell b t =>
      simp only [resList] at hl
      split at hl
      · rename_i id sz row col hv
        split at hl
        · rename_i cells hg
          split at hl
          · rename_i h0
            subst h0
            split at hl
            · rename_i v l' hv' hl'
              cases hl
              obtain ⟨vs, h1, h2⟩ := ih hl'
              have hb := h.look (.tmp b)
              simp only [look, hv, Act.eval] at hb
              obtain ⟨u, hu⟩ : ∃ u, a.tmps.getD b undef = u := ⟨_, rfl⟩
              rw [hu] at hb
              cases hb with
              | pt _ _ _ _ bb hm =>
                rcases h.sto.blk id _ hg with ⟨b', hm', arr, ex, ty, fr, hh, hfr, hone, hall⟩ | ⟨hn, _, hn'⟩
                · rw [hm] at hm'; cases hm'
                  obtain ⟨q, g1, g2⟩ := loadVar_run (P := P) (b := bb) (o := 0) hall hone (fun j v hj => by rw [cell_of hh, List.getElem?_toArray, Nat.zero_add, List.getElem?_append_left (List.getElem?_eq_some_iff.1 hj).1]; exact hj) hv'
                  refine ⟨q :: vs, ?_, All2.cons g2 h2⟩
                  simp only [Nat.zero_add] at g1
                  simp only [List.mapM_cons, resSem, Sem.run_bind, hu, asAddr, Sem.run_pure, Result.andThen_ok, Nat.zero_mul, Nat.zero_add, g1, h1]
                · cases hn'
            · cases hl
          · cases hl
        · cases hl
      · cases hl
theorem res_run (h : Rel w0 L0 X m e s a w) {fn : Func} {r : V} (hr : resV P fn.results.toList e s = some r) : ∃ v, (results fn a.tmps).run P w = .ok v w ∧ VRel w (Live X m s) m r v := by
  unfold resV at hr
  cases hl : resList P e s fn.results.toList with
  | none => rw [hl] at hr; cases hr
  | some l =>
    rw [hl] at hr
    obtain ⟨vs, h1, h2⟩ := resList_run h hl
    have run : (results fn a.tmps).run P w = .ok (if h : vs.toArray.size = 1 then vs.toArray[0] else .tuple vs.toArray) w := by
      rw [results_eq, Array.mapM_eq_mapM_toList]
      simp [h1]
    refine ⟨_, run, ?_⟩
    match l, hr, h2 with
    | [], hr, h2 =>
      cases hr
      have : vs = [] := by have := h2.len; simpa using this
      subst this
      exact .tup [] [] rfl (by simp)
    | [x], hr, h2 =>
      cases hr
      obtain ⟨y, t, rfl, h3, h4⟩ := h2.head
      have : t = [] := by have := h4.len; simpa using this
      subst this
      simpa using h3
    | x :: y :: r, hr, h2 =>
      cases hr
      have hlen := h2.len
      rw [dif_neg (by simp; simp at hlen; omega)]
      exact .tup _ vs h2.len h2.at_

/-- what a walk's end is to tell -/
def Told (P : Program) (rs : List ResultVar) (keep : List Nat) (r : V) (τ : Store) (x : Exit) (E : St) : Prop := (x = .normal ∨ x = .ret) ∧ ∃ r', resV P rs E.e E.s = some r' ∧ r'.fin keep E.s = r ∧ finS keep E.s keep 0 = τ
theorem sndW_of {f : FuncId} {fn : Func} {c : Code} {args : List V} {s0 : Store} {r : V} {s1 : Store} {n : Nat} (keep : List Nat) (hfn : P.funcs[f]? = some fn) (hb : fn.body = some c) (hg : goFn P f = true) (hn : fn.ntmps = n) (hnd : keep.Nodup) (hs0 : s0.all (fun x => decide (x.1 < 90) && (keep[x.1]? == some x.1)) = true)
    (h : Run P c ⟨args ++ List.replicate (n - args.length) vundef, s0⟩ (Told P fn.results.toList keep r s1)) : SndW P f args s0 r s1 := by
  refine ⟨hg, fun w X m0 vs hX hS hargs => ?_⟩
  subst hn
  refine calls_of_wp hfn hb ?_
  have hkey : ∀ {j : Nat}, (getB s0 j).isSome = true → j < 90 ∧ keep[j]? = some j := fun {j} hj => by
    obtain ⟨c, hc⟩ := Option.isSome_iff_exists.1 hj
    have := all_get hs0 hc
    simpa using this
  -- what the call is given, by numbers
  have hZ : ∀ b, Reach (fun j => if (getB s0 j).isSome then m0 j else none) b ↔ Own m0 s0 b := by
    intro b
    constructor
    · rintro ⟨j, hj⟩
      simp only at hj
      split at hj
      · rename_i h1
        obtain ⟨c, hc⟩ := Option.isSome_iff_exists.1 h1
        exact ⟨j, c, hc, hj⟩
      · cases hj
    · rintro ⟨j, c, h1, h2⟩
      exact ⟨j, by simp [h1, h2]⟩
  have hrel : Rel w (fun j => if (getB s0 j).isSome then m0 j else none) X m0 (args ++ List.replicate (fn.ntmps - args.length) vundef) s0 { tmps := vs.toArray ++ Array.replicate (fn.ntmps - vs.toArray.size) undef, defers := [] } w := by
    refine ⟨?_, hS, rfl, ⟨rfl, rfl, rfl, Nat.le_refl _, fun _ _ _ => rfl, fun _ cs _ _ q => ⟨cs, q, rfl⟩⟩, fun b hb => .inl ((hZ b).2 hb), fun b hb => ⟨(hX b hb).1, fun q => (hX b hb).2 ((hZ b).1 q)⟩, fun i hi hs => by simp [hs]⟩
    simp only [Array.toList_append, Array.toList_replicate, List.size_toArray]
    refine All2.append hargs ⟨by simp [hargs.len], fun j x v h1 h2 => ?_⟩
    rw [List.getElem?_replicate] at h1 h2
    split at h1
    · cases h1
      split at h2
      · cases h2; exact .d (.lit _ rfl)
      · cases h2
    · cases h1
  refine wp_mono (h w _ X hrel) fun x a' w' hx => ?_
  obtain ⟨E', m', ⟨hx, r', h1, h2, h3⟩, hr⟩ := hx
  obtain ⟨v, g1, g2⟩ := res_run (fn := fn) hr h1
  have fin : a'.defers = [] ∧ ∃ v, (results fn a'.tmps).run P w' = .ok v w' ∧ ∃ v_1 m', Ending.returned v = Ending.returned v_1 ∧ Ext (Own m0 s0) w w' ∧ VRel w' (Live X m' s1) m' r v_1 ∧ SRel w' X m' s1 ∧ (∀ b, Own m' s1 b → Own m0 s0 b ∨ w.heap.size ≤ b) ∧
      ∀ j, (getB s0 j).isSome = true → (getB s1 j).isSome = true → m' j = m0 j := by
    refine ⟨hr.dfr, v, g1, v, finM keep m', rfl, ⟨hr.ext.os, hr.ext.tape, hr.ext.output, hr.ext.size, fun b hb hl => hr.ext.block b hb fun q => hl ((hZ b).1 q), hr.ext.sizes⟩, ?_, ?_, ?_, fun j hj hj' => ?_⟩
    · rw [← h2, ← h3]; exact fin_rel hr g2
    · rw [← h3]; exact fin_sto hr hnd
    · rw [← h3]
      intro b hb
      obtain ⟨id, blk, _, q1, q2⟩ := own_fin hb
      exact (hr.liv b ⟨id, blk, q1, q2⟩).imp_left fun q => (hZ b).1 q
    · obtain ⟨k1, k2⟩ := hkey hj
      rw [← h3, getB_finS] at hj'
      simp only [Nat.zero_le, if_true, Nat.sub_zero, k2, Option.bind_some, Option.isSome_map] at hj'
      have := hr.par j k1 hj'
      simp only [hj, if_true] at this
      simp only [finM, k2, Option.bind_some, this]
  rcases hx with rfl | rfl
  · exact fin
  · exact fin
theorem snd_of {f : FuncId} {fn : Func} {c : Code} {args : List V} {r : V} {τ : Store} {n : Nat} (keep : List Nat) (hfn : P.funcs[f]? = some fn) (hb : fn.body = some c) (hg : goFn P f = true) (hn : fn.ntmps = n) (hnd : keep.Nodup)
    (h : Run P c ⟨args ++ List.replicate (n - args.length) vundef, []⟩ (Told P fn.results.toList keep r τ)) : Snd P f args r τ :=
  (sndW_of keep hfn hb hg hn hnd rfl h).pure
end
end Go.Fw
