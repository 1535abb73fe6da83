/- Cuts in a walk; what is known of data. -/
import Derived.Test.YtihbejpkfifplaaFv
set_option linter.unusedVariables false
set_option linter.unusedSimpArgs false
namespace Go.Fw
variable {P : Program}

/-! what is known of data that stands in a slot -/
mutual
def D.ok : D → Prop
  | .lit v => okLit v = true
  | .sl _ rows => rows.length ≤ 9223372036854775807 ∧ D.okR rows
  | .ip row _ => D.okL row
  | .ag cells => D.okL cells
def D.okL : List D → Prop
  | [] => True
  | x :: r => x.ok ∧ D.okL r
def D.okR : List (List D) → Prop
  | [] => True
  | x :: r => D.okL x ∧ D.okR r
end
theorem okL_iff (l : List D) : D.okL l ↔ ∀ x ∈ l, x.ok := by
  induction l with
  | nil => simp [D.okL]
  | cons x r ih => simp [D.okL, ih]
theorem okR_iff (l : List (List D)) : D.okR l ↔ ∀ x ∈ l, D.okL x := by
  induction l with
  | nil => simp [D.okR]
  | cons x r ih => simp [D.okR, ih]
theorem okR_map {α : Type} (f : α → List D) (l : List α) : D.okR (l.map f) ↔ ∀ x ∈ l, D.okL (f x) := by simp [okR_iff]
theorem okL_map {α : Type} (f : α → D) (l : List α) : D.okL (l.map f) ↔ ∀ x ∈ l, (f x).ok := by simp [okL_iff]
theorem DRel.ok {w : World} {L : Nat → Prop} {x : D} {v : Value} (h : DRel w L x v) : x.ok := by
  induction h with
  | lit v h => exact h
  | slE nn A cap h => simp [D.ok, D.okR]
  | sl nn rows b off cap sz vals hb hc hm hz hv ho hr ih =>
    refine ⟨hm, (okR_iff _).2 fun r hr => (okL_iff _).2 fun x hx => ?_⟩
    obtain ⟨i, hi⟩ := List.getElem?_of_mem hr
    obtain ⟨j, hj⟩ := List.getElem?_of_mem hx
    exact ih i j r x hi hj
  | ip row b off col vals hb hv ho hr ih =>
    refine (okL_iff _).2 fun x hx => ?_
    obtain ⟨j, hj⟩ := List.getElem?_of_mem hx
    exact ih j x hj
  | ag cells vs hl ho hr ih =>
    refine (okL_iff _).2 fun x hx => ?_
    obtain ⟨j, hj⟩ := List.getElem?_of_mem hx
    have hlt : j < vs.length := by rw [hl]; exact (List.getElem?_eq_some_iff.1 hj).1
    exact ih j x _ hj (List.getElem?_eq_getElem hlt)
theorem ok_int {k : IntKind} {n : Int} : (D.lit (.int k n)).ok ↔ k.min ≤ n ∧ n ≤ k.max := by simp [D.ok, int_lit]
theorem ok_i64 {n : Int} : (D.lit (.int .i64 n)).ok ↔ -9223372036854775808 ≤ n ∧ n ≤ 9223372036854775807 := by
  rw [ok_int]; simp [IntKind.min, IntKind.max, IntKind.signed, IntKind.bits]
theorem ok_str {s : ByteArray} : (D.lit (.string s)).ok ↔ s.size ≤ 9223372036854775807 := by simp [D.ok, okLit]
variable {Q : Exit → St → Prop} {E : St}
theorem Run.ok {c : Code} (i : Nat) {x : D} (hi : E.e.getD i .top = .d x) (h : x.ok → Run P c E Q) : Run P c E Q := fun w0 L0 X m a w hr => by
  have h1 := hr.look (.tmp i)
  simp only [look, hi] at h1
  cases h1 with
  | d hd => exact h hd.ok w0 L0 X hr
theorem Run.okB {c : Code} (id : Nat) {sz : Nat} {rows : List (List D)} (hi : getB E.s id = some (.data sz rows)) (h : D.okR rows → Run P c E Q) : Run P c E Q := fun w0 L0 X m a w hr => by
  refine h ?_ w0 L0 X hr
  rcases hr.sto.blk id _ hi with ⟨b, _, cs, ty, fr, _, _, _, _, h5⟩ | ⟨_, sz', h5⟩
  · refine (okR_iff _).2 fun r hr => (okL_iff _).2 fun x hx => ?_
    obtain ⟨i, hi⟩ := List.getElem?_of_mem hr
    obtain ⟨j, hj⟩ := List.getElem?_of_mem hx
    obtain ⟨v, _, _, h6⟩ := h5 i j r x hi hj
    exact h6.ok
  · cases h5; trivial
theorem Run.okV {c : Code} (i : Nat) {id sz off len : Nat} (hi : E.e.getD i .top = .rs id sz off len) (h : len ≤ 9223372036854775807 → Run P c E Q) : Run P c E Q := fun w0 L0 X m a w hr => by
  have h1 := hr.look (.tmp i)
  simp only [look, hi] at h1
  generalize a.eval (.tmp i) = u at h1
  cases h1 with
  | rsE => exact h (by omega) w0 L0 X hr
  | rs => exact h (by assumption) w0 L0 X hr
/-- a function's answer may be shown by what is known of its data -/
theorem SndW.ok {f : FuncId} {args : List V} {s0 s1 : Store} {r : V} (i : Nat) {x : D} (hi : args[i]? = some (.d x)) (hg : goFn P f = true) (h : x.ok → SndW P f args s0 r s1) : SndW P f args s0 r s1 := by
  refine ⟨hg, fun w X m0 vs hX hS hargs => ?_⟩
  obtain ⟨v, _, hv⟩ := hargs.get hi
  cases hv with
  | d hd => exact (h hd.ok).2 w X m0 vs hX hS hargs
theorem Snd.ok {f : FuncId} {args : List V} {τ : Store} {r : V} (i : Nat) {x : D} (hi : args[i]? = some (.d x)) (hg : goFn P f = true) (h : x.ok → Snd P f args r τ) : Snd P f args r τ := by
  refine ⟨hg, fun w X vs hX hargs => ?_⟩
  obtain ⟨v, _, hv⟩ := hargs.get hi
  cases hv with
  | d hd => exact (h hd.ok).2 w X vs hX hargs

/-! cuts -/
def over (e : Env) (tops : List Nat) (vals : List (Nat × V)) : Env := vals.foldl (fun e x => e.set x.1 x.2) (tops.foldl (fun e k => e.set k .top) e)
theorem Run.cut {x y : Code} {e : Env} {s : Store} (tops : List Nat) (vals : List (Nat × V)) (s' : Store) (hx : Run P x ⟨e, s⟩ (Then (fun E' => Le E' ⟨over e tops vals, s'⟩) Q)) (hy : Run P y ⟨over e tops vals, s'⟩ Q) : Run P (.seq x y) ⟨e, s⟩ Q :=
  Run.seq (hx.mono fun x E h => by cases x <;> first | exact hy.le h | exact h)
theorem Run.cut0 {x y : Code} {e : Env} {s : Store} (tops : List Nat) (vals : List (Nat × V)) (hx : Run P x ⟨e, s⟩ (Then (fun E' => Le E' ⟨over e tops vals, s⟩) Q)) (hy : Run P y ⟨over e tops vals, s⟩ Q) : Run P (.seq x y) ⟨e, s⟩ Q := Run.cut tops vals s hx hy
theorem Run.loopO {c : Code} {e : Env} {s : Store} (tops : List Nat) {α : Type} (vals : α → List (Nat × V)) (st : α → Store) (I : α → Prop) (μ : α → Nat) (x0 : α) (h0 : I x0) (hE : Le ⟨e, s⟩ ⟨over e tops (vals x0), st x0⟩)
    (hstep : ∀ x, I x → Run P c ⟨over e tops (vals x), st x⟩ (Then (fun E' => ∃ y, I y ∧ μ y < μ x ∧ Le E' ⟨over e tops (vals y), st y⟩) Q)) : Run P (.loop c) ⟨e, s⟩ Q :=
  Run.loop (fun x => ⟨over e tops (vals x), st x⟩) I μ x0 h0 hE hstep
attribute [simp] Told over Le okLit IntKind.min IntKind.max IntKind.signed IntKind.bits

/-! blocks numbered anew -/
def swp (x y j : Nat) : Nat := if j = x then y else j
def renM (m : Nat → Option Nat) (x y i : Nat) : Option Nat := if i = y then m x else m i
theorem Rel.ren {w0 : World} {L0 : Par} {X : Nat → Prop} {m : Nat → Option Nat} {e : Env} {s : Store} {a : Act} {w : World} (h : Rel w0 L0 X m e s a w) (x y : Nat) (hx : 90 ≤ x) (hy : 90 ≤ y) (he : V.menL (· == y) e = false) (hs : s.all (fun z => z.1 != y && !z.2.men (· == y)) = true) :
    Rel w0 L0 X (renM m x y) (V.renL (swp x y) e) (puts [] (renS (swp x y) s)) a w := by
  have hid : ∀ j, (j == y) = false → renM m x y (swp x y j) = m j := fun j hj => by
    have hj : j ≠ y := by simpa using hj
    unfold renM swp
    by_cases e1 : j = x
    · simp [e1]
    · simp [e1, hj]
  have hkey : ∀ {j b}, getB s j = some b → j ≠ y ∧ b.men (· == y) = false := fun {j b} hg => by
    have := all_get hs hg
    simpa using this
  have hget : ∀ i blk, getB (puts [] (renS (swp x y) s)) i = some blk → ∃ j b0, getB s j = some b0 ∧ swp x y j = i ∧ blk = b0.ren (swp x y) := by
    intro i blk hg
    rw [getB_puts'] at hg
    split at hg
    · rename_i b hb; cases hg; exact getB_renS hb
    · cases hg
  have hown : ∀ b, Own (renM m x y) (puts [] (renS (swp x y) s)) b → Own m s b := by
    rintro b ⟨i, blk, h1, h2⟩
    obtain ⟨j, b0, g1, rfl, _⟩ := hget i blk h1
    rw [hid j (by simpa using (hkey g1).1)] at h2
    exact ⟨j, b0, g1, h2⟩
  have hL : ∀ b, Live X (renM m x y) (puts [] (renS (swp x y) s)) b → Live X m s b := fun b hl => hl.imp_right (hown b)
  refine ⟨⟨h.env.len.trans (renL_len _ _).symm, fun j v u q1 q2 => ?_⟩, ⟨fun i blk hi => ?_, fun i j b q1 q2 q3 q4 => ?_⟩, h.dfr, h.ext, fun b hb => h.liv b (hown b hb), h.old, fun i hi hsm => ?_⟩
  · rw [renL_at] at q1
    obtain ⟨z, hz, rfl⟩ := Option.map_eq_some_iff.1 q1
    exact VRel.ren hL hid (menL_at he hz) (h.env.at_ j z u hz q2)
  · obtain ⟨j, b0, g1, rfl, rfl⟩ := hget i blk hi
    have ej := hid j (by simpa using (hkey g1).1)
    rcases h.sto.blk j b0 g1 with ⟨b, r1, r2⟩ | ⟨r1, sz, rfl⟩
    · exact .inl ⟨b, ej.trans r1, BRel.ren hL hid (hkey g1).2 r2⟩
    · exact .inr ⟨ej.trans r1, sz, rfl⟩
  · obtain ⟨c1, hc1⟩ := Option.isSome_iff_exists.1 q3
    obtain ⟨c2, hc2⟩ := Option.isSome_iff_exists.1 q4
    obtain ⟨j1, b1, g1, rfl, _⟩ := hget i c1 hc1
    obtain ⟨j2, b2, g2, rfl, _⟩ := hget j c2 hc2
    rw [hid j1 (by simpa using (hkey g1).1)] at q1
    rw [hid j2 (by simpa using (hkey g2).1)] at q2
    rw [h.sto.inj j1 j2 b q1 q2 (by rw [g1]; rfl) (by rw [g2]; rfl)]
  · obtain ⟨c1, hc1⟩ := Option.isSome_iff_exists.1 hsm
    obtain ⟨j1, b1, g1, e1, _⟩ := hget i c1 hc1
    have : j1 = i := by unfold swp at e1; split at e1 <;> omega
    subst this
    simp only [renM, if_neg (show j1 ≠ y by omega)]
    exact h.par j1 hi (by rw [g1]; rfl)
theorem Run.ren {c : Code} {e : Env} {s : Store} (x y : Nat) (hx : 90 ≤ x) (hy : 90 ≤ y) (he : V.menL (· == y) e = false) (hs : s.all (fun z => z.1 != y && !z.2.men (· == y)) = true) (h : Run P c ⟨V.renL (swp x y) e, puts [] (renS (swp x y) s)⟩ Q) : Run P c ⟨e, s⟩ Q :=
  fun w0 L0 X m a w hr => h w0 L0 X (hr.ren x y hx hy he hs)
attribute [simp] swp

/-! gotos that lead forward -/
def NoGoto (Q : Exit → St → Prop) : Exit → St → Prop
  | .goto _, _ => False
  | x, E => Q x E
def Fwd (P : Program) (l : Nat) (rest : Code) (Q : Exit → St → Prop) : Exit → St → Prop
  | .goto l', E => l' = l ∧ Run P rest E (NoGoto Q)
  | x, E => Q x E
theorem Fwd_normal {l : Nat} {rest : Code} {Q : Exit → St → Prop} {E : St} : Fwd P l rest Q .normal E = Q .normal E := rfl
theorem Fwd_exit {l i : Nat} {rest : Code} {Q : Exit → St → Prop} {E : St} : Fwd P l rest Q (.exit i) E = Q (.exit i) E := rfl
theorem Fwd_ret {l : Nat} {rest : Code} {Q : Exit → St → Prop} {E : St} : Fwd P l rest Q .ret E = Q .ret E := rfl
theorem Fwd_goto {l : Nat} {rest : Code} {Q : Exit → St → Prop} {E : St} : Fwd P l rest Q (.goto l) E = Run P rest E (NoGoto Q) := by simp [Fwd]
theorem NoGoto_normal {Q : Exit → St → Prop} {E : St} : NoGoto Q .normal E = Q .normal E := rfl
theorem NoGoto_exit {Q : Exit → St → Prop} {i : Nat} {E : St} : NoGoto Q (.exit i) E = Q (.exit i) E := rfl
theorem NoGoto_ret {Q : Exit → St → Prop} {E : St} : NoGoto Q .ret E = Q .ret E := rfl
theorem Run.scope (l : Nat) (rest : Code) {c : Code} (hf : findLabel c l = some rest) (h : Run P c E (Fwd P l rest Q)) : Run P (.scope c) E Q := fun w0 L0 X m a w hr => by
  refine wp_scope_jumps l (fun a w => rest.wp P (Exit.noGoto (fun x a' w' => ∃ E' m', Q x E' ∧ Rel w0 L0 X m' E'.e E'.s a' w')) a w) (fun _ _ => 0) hf ?_ ?_
  · refine wp_mono (h w0 L0 X hr) fun x a' w' hx => ?_
    obtain ⟨E', m', q, r⟩ := hx
    cases x with
    | goto l' =>
      obtain ⟨rfl, q⟩ := q
      refine ⟨rfl, wp_mono (q w0 L0 X r) fun x a' w' hx => ?_⟩
      obtain ⟨E', m', q, r⟩ := hx
      cases x <;> first | exact q.elim | exact ⟨E', m', q, r⟩
    | normal => exact ⟨E', m', q, r⟩
    | exit i => exact ⟨E', m', q, r⟩
    | ret => exact ⟨E', m', q, r⟩
    | panic ch => exact ⟨E', m', q, r⟩
    | outgrown => exact ⟨E', m', q, r⟩
  · intro a w hJ
    refine wp_mono hJ fun x a w q => ?_
    cases x <;> first | exact q | exact q.elim

@[congr] theorem ECall_congr {g : FuncId} {args args' : List V} {dst : Option Nat} {k : Env → Store → Prop} {e e' : Env} {s s' : Store} (ha : args = args') (he : e = e') (hs : s = s') : ECall P g args dst k e s = ECall P g args' dst k e' s' := by subst ha he hs; rfl
@[congr] theorem ECallF_congr {g : FuncId} {args args' : List V} {dst : Option Nat} {k : Env → Store → Prop} {e e' : Env} {s s' : Store} (ha : args = args') (he : e = e') (hs : s = s') : ECallF P g args dst k e s = ECallF P g args' dst k e' s' := by subst ha he hs; rfl
@[congr] theorem ECallW_congr {g : FuncId} {args args' : List V} {dst : Option Nat} {k : Env → Store → Prop} {e e' : Env} {s s' : Store} (ha : args = args') (he : e = e') (hs : s = s') : ECallW P g args dst k e s = ECallW P g args' dst k e' s' := by subst ha he hs; rfl
@[congr] theorem Run_congr {c : Code} {E E' : St} {Q : Exit → St → Prop} (he : E = E') : Run P c E Q = Run P c E' Q := by subst he; rfl

/-! a region's operations, without what the walk does not ask -/
structure LOp where
  op : Op
  dst : Option Nat
  guard : Option (Option Nat × Bool)
def lite (all : List Oper) (o : Oper) : LOp := ⟨o.op, o.dst, match o.guard with | none => none | some (j, want) => some ((all[j]?).bind (·.dst), want)⟩
def mkO (op : Op) (dst : Option Nat) : Oper := { op := op, dst := dst, type := 0, pos := "", after := #[], guard := none }
def EvL (P : Program) (im : Bool) (K : Env → Store → Prop) : List LOp → Env → Store → Prop
  | [], e, s => K e s
  | o :: os, e, s => match o.guard with
    | none => exec P im (mkO o.op o.dst) (EvL P im K os) e s
    | some (none, _) => False
    | some (some k, want) => match e.getD k .top with
      | .d (.lit (.bool b)) => GSplit b want (exec P im (mkO o.op o.dst) (EvL P im K os) (e.set k (.d (.lit (.bool want)))) s) (EvL P im K os (put (e.set k (.d (.lit (.bool !want)))) o.dst vundef) s)
      | .d (.lit (.tuple _)) => EvL P im K os (put e o.dst vundef) s
      | _ => False
theorem exec_mono {im : Bool} {o o' : Oper} {k k' : Env → Store → Prop} {e : Env} {s : Store} (h1 : o'.op = o.op) (h2 : o'.dst = o.dst) (hk : ∀ e s, k e s → k' e s) (h : exec P im o k e s) : exec P im o' k' e s := by
  unfold exec at h ⊢
  rw [h1, h2]
  cases hc : cls o.op <;> rw [hc] at h <;> simp only at h ⊢
  · split at h
    · exact ⟨h.1, fun c => hk _ _ (h.2 c)⟩
    · exact h
  · split at h
    · exact ⟨h.1, fun c => hk _ _ (h.2 c)⟩
    · exact h
  · split at h
    · split at h
      · exact ⟨h.1, fun c => hk _ _ (h.2 c)⟩
      · exact h
    · exact h
  · split at h
    · exact ⟨h.1, fun c => hk _ _ (h.2 c)⟩
    · exact h
  · split at h
    · split at h
      · split at h
        · exact ⟨h.1, fun c => hk _ _ (h.2 c)⟩
        · split at h
          · exact ⟨h.1, fun c => hk _ _ (h.2 c)⟩
          · exact h
      · exact h
    · exact h
  · split at h
    · cases im with
      | true =>
        simp only at h ⊢
        obtain ⟨ids, a0, s0, r, s1, q1, q2, q3, q4, q5, q6⟩ := h
        exact ⟨ids, a0, s0, r, s1, q1, q2, q3, q4, q5, hk _ _ q6⟩
      | false =>
        simp only at h ⊢
        split at h
        · rename_i hp
          rw [if_pos hp]
          obtain ⟨r, t, q1, q2, q3, q4⟩ := h
          exact ⟨r, t, q1, q2, q3, hk _ _ q4⟩
        · rename_i hp
          rw [if_neg hp]
          obtain ⟨x, q1, q2, q3, q4⟩ := h
          exact ⟨x, q1, q2, q3, hk _ _ q4⟩
    · exact h
theorem evL_evO {im : Bool} {all : List Oper} {K : Env → Store → Prop} : ∀ {os : List Oper} {e : Env} {s : Store}, EvL P im K (os.map (lite all)) e s → EvO P im all K os e s := by
  intro os
  induction os with
  | nil => intro e s h; exact h
  | cons o os ih =>
    intro e s h
    simp only [List.map_cons, EvL, lite] at h
    simp only [EvO, guardOf]
    cases hg : o.guard with
    | none =>
      rw [hg] at h
      exact exec_mono rfl rfl (fun e s h => ih h) h
    | some q =>
      obtain ⟨j, want⟩ := q
      rw [hg] at h
      simp only at h ⊢
      cases ha : all[j]? with
      | none => rw [ha] at h; exact h.elim
      | some g =>
        rw [ha] at h
        simp only [Option.bind_some] at h ⊢
        cases hd : g.dst with
        | none => rw [hd] at h; exact h.elim
        | some k =>
          rw [hd] at h
          simp only at h ⊢
          split at h
          · rename_i b hb
            rw [hb]
            refine ⟨fun q => exec_mono rfl rfl (fun e s h => ih h) (h.1 q), fun q => ?_⟩
            have e1 : setG e k want = e.set k (.d (.lit (.bool !want))) := by unfold setG; rw [hb]
            rw [e1]
            exact ih (h.2 q)
          · rename_i v hb
            rw [hb]
            refine ⟨fun q => by cases want <;> simp at q, fun q => ?_⟩
            have e1 : setG e k want = e := by unfold setG; rw [hb]
            rw [e1]
            exact ih h
          · exact h.elim
theorem evL_cons {im : Bool} {K : Env → Store → Prop} {op : Op} {dst : Option Nat} {os : List LOp} {e : Env} {s : Store} : EvL P im K (⟨op, dst, none⟩ :: os) e s = exec P im (mkO op dst) (EvL P im K os) e s := rfl
theorem evL_guard {im : Bool} {K : Env → Store → Prop} {op : Op} {dst : Option Nat} {k : Nat} {want : Bool} {os : List LOp} {e : Env} {s : Store} : EvL P im K (⟨op, dst, some (some k, want)⟩ :: os) e s = (match e.getD k .top with
      | .d (.lit (.bool b)) => GSplit b want (exec P im (mkO op dst) (EvL P im K os) (e.set k (.d (.lit (.bool want)))) s) (EvL P im K os (put (e.set k (.d (.lit (.bool !want)))) dst vundef) s)
      | .d (.lit (.tuple _)) => EvL P im K os (put e dst vundef) s
      | _ => False) := rfl
theorem evL_nil {im : Bool} {K : Env → Store → Prop} {e : Env} {s : Store} : EvL P im K [] e s = K e s := rfl
/-- A REGION, operation by operation. -/
theorem Run.opsL (im : Bool) {id : Nat} {ops : Array Oper} {draw : Bool} (los : List LOp) (hm : P.follows .mixedOrders = true) (hk : okReg im draw ops.toList = true) (hl : ops.toList.map (lite ops.toList) = los) {e : Env} {s : Store}
    (h : ∀ K : Env → Store → Prop, (∀ e s, Q .normal ⟨e, s⟩ → K e s) → EvL P im K los (enterE ops.toList e) (enterS ops.toList s)) : Run P (.region id ops draw) ⟨e, s⟩ Q :=
  Run.opsI im hm hk fun K hK => by subst hl; exact evL_evO (h K hK)
attribute [simp] mkO
/-- what is to be shown of the region's end -/
def Fin (Q : Exit → St → Prop) (K : Env → Store → Prop) : Prop := ∀ e s, Q .normal ⟨e, s⟩ → K e s
theorem Fin.go {im : Bool} {K : Env → Store → Prop} {e : Env} {s : Store} (h : Fin Q K) (hq : Q .normal ⟨e, s⟩) : EvL P im K [] e s := h e s hq
theorem Run.opsM (im : Bool) {id : Nat} {ops : Array Oper} {draw : Bool} (los : List LOp) (hm : P.follows .mixedOrders = true) (hk : okReg im draw ops.toList = true) (hl : ops.toList.map (lite ops.toList) = los) {e : Env} {s : Store}
    (h : ∀ K : Env → Store → Prop, Fin Q K → EvL P im K los (enterE ops.toList e) (enterS ops.toList s)) : Run P (.region id ops draw) ⟨e, s⟩ Q := Run.opsL im los hm hk hl h
theorem evL_c {im : Bool} {K : Env → Store → Prop} {op : Op} {dst : Option Nat} {os : List LOp} {e : Env} {s : Store} (h : exec P im (mkO op dst) (EvL P im K os) e s) : EvL P im K (⟨op, dst, none⟩ :: os) e s := h
theorem evL_g {im : Bool} {K : Env → Store → Prop} {op : Op} {dst : Option Nat} {k : Nat} {want : Bool} {os : List LOp} {e : Env} {s : Store} {b : Bool} (hb : e.getD k .top = .d (.lit (.bool b)))
    (h : GSplit b want (exec P im (mkO op dst) (EvL P im K os) (e.set k (.d (.lit (.bool want)))) s) (EvL P im K os (put (e.set k (.d (.lit (.bool !want)))) dst vundef) s)) : EvL P im K (⟨op, dst, some (some k, want)⟩ :: os) e s := by
  rw [evL_guard, hb]; exact h
theorem evL_u {im : Bool} {K : Env → Store → Prop} {op : Op} {dst : Option Nat} {k : Nat} {want : Bool} {os : List LOp} {e : Env} {s : Store} {a : Array Value} (hb : e.getD k .top = .d (.lit (.tuple a)))
    (h : EvL P im K os (put e dst vundef) s) : EvL P im K (⟨op, dst, some (some k, want)⟩ :: os) e s := by
  rw [evL_guard, hb]; exact h

/-- blocks may be forgotten -/
theorem leE_refl (e : Env) : leE e e := by
  induction e with
  | nil => trivial
  | cons v r ih => exact ⟨.inr rfl, ih⟩
theorem Run.drop {c : Code} {e : Env} {s : Store} (s' : Store) (hs : leS s s') (h : Run P c ⟨e, s'⟩ Q) : Run P c ⟨e, s⟩ Q := Run.le ⟨leE_refl e, hs⟩ h

/-! rows of blocks -/
@[simp] theorem rowN_map {α : Type} [Inhabited α] {f : α → List D} {l : List α} {i : Nat} (h : i < l.length) : rowN (l.map f) i = f (rdI l i) := by
  simp [rowN, rdI, List.getD_eq_getElem?_getD, h]
@[simp] theorem rowN_zero (x : List D) (l : List (List D)) : rowN (x :: l) 0 = x := rfl
@[simp] theorem rowN_succ (x : List D) (l : List (List D)) (n : Nat) : rowN (x :: l) (n + 1) = rowN l n := rfl

/-! numbers -/
@[simp] theorem beq_dec (a b : Int) : (a == b) = decide (a = b) := rfl
@[simp] theorem bne_dec (a b : Int) : (a != b) = !decide (a = b) := rfl
theorem wrap_id {n : Int} (h0 : -9223372036854775808 ≤ n) (h1 : n ≤ 9223372036854775807) : IntKind.i64.wrap n = n := by
  simp only [IntKind.wrap, IntKind.bits, IntKind.signed, Bool.true_and, decide_eq_true_eq, Nat.reduceSub, Int.reducePow, ge_iff_le]
  split <;> omega
end Go.Fw
