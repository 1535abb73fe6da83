/- Operations whose order is open: any order comes to the same. -/
import Derived.Test.YtihbejpkfifplaaFq
set_option linter.unusedVariables false
set_option linter.unusedSimpArgs false
namespace Go.Fw
variable {P : Program}

def shiftS (k : Nat) (τ : Store) : Store := τ.map fun (i, b) => (k + i, b.shift k)
theorem addS_puts (s : Store) (k : Nat) (τ : Store) : addS s k τ = puts s (shiftS k τ) := by
  induction τ with
  | nil => rfl
  | cons x r ih => obtain ⟨i, b⟩ := x; simp [addS, shiftS, puts, ih]
theorem putB_comm {i j : Nat} (h : i ≠ j) (b c : Blk) (s : Store) : putB (putB s i b) j c = putB (putB s j c) i b := by
  induction s with
  | nil =>
    simp only [putB, h, Ne.symm h, if_false]
    split <;> split <;> first | rfl | omega
  | cons x r ih =>
    obtain ⟨k, d⟩ := x
    simp only [putB]
    by_cases e1 : k = i
    · subst e1
      simp only [if_true, if_neg h, putB]
      by_cases e2 : j < k
      · simp [e2, putB, Ne.symm h, show ¬ k < j by omega]
      · simp [e2, putB, h]
    · by_cases e2 : k = j
      · subst e2
        simp only [if_true, if_neg e1, putB]
        by_cases e3 : i < k
        · simp [e3, putB, h, show ¬ k < i by omega]
        · simp [e3, putB, e1]
      · simp only [if_neg e1, if_neg e2]
        by_cases a1 : i < k <;> by_cases a2 : j < k <;> simp only [a1, a2, if_true, if_false, putB, h, Ne.symm h, e1, e2]
        · by_cases a3 : j < i
          · simp [a3, show ¬ i < j by omega]
          · simp [a3, show i < j by omega]
        · simp [show ¬ j < i by omega]
        · simp [show ¬ i < j by omega]
        · rw [ih]
theorem puts_put {i : Nat} (b : Blk) (s t : Store) (h : ∀ x ∈ t, x.1 ≠ i) : puts (putB s i b) t = putB (puts s t) i b := by
  induction t with
  | nil => rfl
  | cons x r ih =>
    obtain ⟨k, d⟩ := x
    simp only [puts]
    rw [ih fun x hx => h x (by simp [hx]), putB_comm (Ne.symm (h (k, d) (by simp)))]
theorem puts_comm (s t u : Store) (h : ∀ x ∈ t, ∀ y ∈ u, x.1 ≠ y.1) : puts (puts s t) u = puts (puts s u) t := by
  induction t with
  | nil => rfl
  | cons x r ih =>
    obtain ⟨k, d⟩ := x
    simp only [puts]
    rw [puts_put _ _ _ fun y hy => Ne.symm (h (k, d) (by simp) y hy), ih fun x hx y hy => h x (by simp [hx]) y hy]
theorem getB_puts (s t : Store) (i : Nat) (h : ∀ x ∈ t, x.1 ≠ i) : getB (puts s t) i = getB s i := by
  induction t with
  | nil => rfl
  | cons x r ih =>
    obtain ⟨k, d⟩ := x
    simp only [puts, getB_putB]
    rw [if_neg (Ne.symm (h (k, d) (by simp))), ih fun x hx => h x (by simp [hx])]

/-- a step, by the value and the blocks that are put -/
def LocX (P : Program) (o : Oper) (ρ : Operand → V) (s : Store) (v : V) (ext : Store) : Prop := match cls o.op with
  | .p => ∃ c, opP P o.op ρ = some (c, v) ∧ c ∧ ext = []
  | .r => ∃ c, opR P o.op ρ s = some (c, v) ∧ c ∧ ext = []
  | .a => ∃ c blk, o.dst.isSome = true ∧ opA P o.op ρ (newId o.dst) = some (c, v, blk) ∧ c ∧ ext = [(newId o.dst, blk)]
  | .c => ∃ g args1 args r τ, o.dst.isSome = true ∧ callOf o.op ρ = some (g, args1) ∧ (args = args1 ∨ (args = V.finL [] s args1 ∧ ∃ x, r = .d (.lit x) ∧ τ = [])) ∧ V.menL (fun _ => true) args = false ∧ Snd P g args r τ ∧ okIds r τ = true ∧ v = r.shift (newId o.dst) ∧ ext = shiftS (newId o.dst) τ
  | .w => ∃ c s', opW P o.op ρ s = some (c, s') ∧ c ∧ v = vundef ∧ ∃ id blk, s' = putB s id blk ∧ ext = [(id, blk)]
  | .x => False
def LocG (P : Program) (all : List Oper) (o : Oper) (e : Env) (s : Store) (v : V) (ext : Store) : Prop := match guardOf all e o.guard with
  | none => False
  | some none => LocX P o (look e) s v ext
  | some (some (_, want, b)) => (b = want → LocX P o (look e) s v ext) ∧ (b = !want → v = vundef ∧ ext = [])
theorem updV_put {t : TypeId} {x k y : V} {s s' : Store} {c : Prop} (h : updV P t x k y s = some (c, s')) : ∃ id ks vs ks' vs', getB s id = some (.mp ks vs) ∧ x = .mp id ∧ s' = putB s id (.mp ks' vs') ∧ ∀ v ∈ vs', v ∈ vs ∨ v = y := by
  unfold updV at h
  split at h
  · split at h
    · split at h
      · rename_i hg
        split at h
        · cases h; exact ⟨_, _, _, _, _, hg, rfl, rfl, fun v hv => List.mem_or_eq_of_mem_set hv⟩
        · cases h; exact ⟨_, _, _, _, _, hg, rfl, rfl, fun v hv => by simpa using hv⟩
        · cases h
      · cases h
    · cases h
  · cases h
theorem opW_put {op : Op} {ρ : Operand → V} {s s' : Store} {c : Prop} (h : opW P op ρ s = some (c, s')) : ∃ id blk, s' = putB s id blk := by
  unfold opW at h
  split at h <;> try (cases h; done)
  · split at h
    · split at h
      · split at h
        · split at h
          · cases h; exact ⟨_, _, rfl⟩
          · cases h
        · split at h
          · split at h
            · cases h; exact ⟨_, _, rfl⟩
            · cases h
          · cases h
        · cases h
      · cases h
    · cases h
  · obtain ⟨id, _, _, ks', vs', _, _, h, _⟩ := updV_put h; exact ⟨id, _, h⟩
  · obtain ⟨id, _, _, ks', vs', _, _, h, _⟩ := updV_put h; exact ⟨id, _, h⟩
theorem locX_of {o : Oper} (hx : cls o.op ≠ .x) {E E' : St} : Do P o E E' ↔ ∃ v ext, LocX P o (look E.e) E.s v ext ∧ E' = ⟨put E.e o.dst v, puts E.s ext⟩ := by
  unfold Do LocX Loc
  cases hc : cls o.op <;> simp only
  · constructor
    · rintro ⟨v, s', ⟨c, h1, h2, rfl⟩, rfl⟩; exact ⟨v, [], ⟨c, h1, h2, rfl⟩, rfl⟩
    · rintro ⟨v, ext, ⟨c, h1, h2, rfl⟩, rfl⟩; exact ⟨v, _, ⟨c, h1, h2, rfl⟩, rfl⟩
  · constructor
    · rintro ⟨v, s', ⟨c, h1, h2, rfl⟩, rfl⟩; exact ⟨v, [], ⟨c, h1, h2, rfl⟩, rfl⟩
    · rintro ⟨v, ext, ⟨c, h1, h2, rfl⟩, rfl⟩; exact ⟨v, _, ⟨c, h1, h2, rfl⟩, rfl⟩
  · constructor
    · rintro ⟨v, s', ⟨c, blk, h0, h1, h2, rfl⟩, rfl⟩; exact ⟨v, _, ⟨c, blk, h0, h1, h2, rfl⟩, rfl⟩
    · rintro ⟨v, ext, ⟨c, blk, h0, h1, h2, rfl⟩, rfl⟩; exact ⟨v, _, ⟨c, blk, h0, h1, h2, rfl⟩, rfl⟩
  · constructor
    · rintro ⟨c, s', h1, h2, rfl⟩
      obtain ⟨id, blk, rfl⟩ := opW_put h1
      exact ⟨vundef, [(id, blk)], ⟨c, _, h1, h2, rfl, id, blk, rfl, rfl⟩, rfl⟩
    · rintro ⟨v, ext, ⟨c, s', h1, h2, rfl, id, blk, rfl, rfl⟩, rfl⟩; exact ⟨c, _, h1, h2, rfl⟩
  · exact absurd hc hx
  · constructor
    · rintro ⟨v, s', ⟨g, args1, args, r, τ, h0, h1, h1b, h2, h3, h4, rfl, rfl⟩, rfl⟩; exact ⟨_, _, ⟨g, args1, args, r, τ, h0, h1, h1b, h2, h3, h4, rfl, rfl⟩, by rw [addS_puts]⟩
    · rintro ⟨v, ext, ⟨g, args1, args, r, τ, h0, h1, h1b, h2, h3, h4, rfl, rfl⟩, rfl⟩; exact ⟨_, _, ⟨g, args1, args, r, τ, h0, h1, h1b, h2, h3, h4, rfl, rfl⟩, by rw [addS_puts]⟩
theorem bool_or (b want : Bool) : b = want ∨ b = !want := by cases b <;> cases want <;> simp
theorem locG_of {im : Bool} {all : List Oper} {o : Oper} (hx : cls o.op ≠ .x) (hi : im = true → cls o.op ≠ .c) {E E' : St} : Stp P im all o E E' ↔ ∃ v ext, LocG P all o E.e E.s v ext ∧ E' = ⟨put E.e o.dst v, puts E.s ext⟩ := by
  unfold Stp LocG
  simp only [doI_do hi]
  cases hg : guardOf all E.e o.guard with
  | none => simp
  | some g =>
    cases g with
    | none => exact locX_of hx
    | some q =>
      obtain ⟨k, want, b⟩ := q
      simp only
      rcases bool_or b want with hb | hb
      · have hne : ¬ (b = !want) := by subst hb; cases b <;> simp
        simp only [hb, true_implies, show ¬ (want = !want) by cases want <;> simp, false_implies, and_true]
        exact locX_of hx
      · have hne : ¬ (b = want) := by subst hb; cases want <;> simp
        simp only [hb, true_implies, show ¬ ((!want) = want) by cases want <;> simp, false_implies, true_and]
        constructor
        · rintro rfl; exact ⟨vundef, [], ⟨rfl, rfl⟩, rfl⟩
        · rintro ⟨v, ext, ⟨rfl, rfl⟩, rfl⟩; rfl
theorem locX_congr {o : Oper} {ρ ρ' : Operand → V} (h : ∀ x ∈ o.op.operands, ρ x = ρ' x) {s : Store} {v : V} {ext : Store} : LocX P o ρ s v ext ↔ LocX P o ρ' s v ext := by
  unfold LocX
  rw [opP_congr h, opR_congr h, opA_congr h, opW_congr h, callOf_congr h]
/-- which slots an operation looks at -/
def looks (all : List Oper) (o : Oper) (k : Nat) : Bool := (o.op.operands.toList.any fun x => match x with | .tmp t => t == k | _ => false) || (match o.guard with | some (g, _) => ((all[g]?).bind (·.dst)) == some k | none => false)
theorem guardOf_congr {all : List Oper} {o : Oper} {e e' : Env} (h : ∀ k, looks all o k = true → e'.getD k .top = e.getD k .top) : guardOf all e' o.guard = guardOf all e o.guard := by
  unfold guardOf
  cases hg : o.guard with
  | none => rfl
  | some q =>
    obtain ⟨j, want⟩ := q
    simp only
    cases ha : all[j]? with
    | none => rfl
    | some g =>
      simp only
      cases hd : g.dst with
      | none => rfl
      | some k =>
        simp only
        rw [h k (by simp [looks, hg, ha, hd])]
theorem locG_congr {all : List Oper} {o : Oper} {e e' : Env} (h : ∀ k, looks all o k = true → e'.getD k .top = e.getD k .top) {s : Store} {v : V} {ext : Store} : LocG P all o e' s v ext ↔ LocG P all o e s v ext := by
  have hl : ∀ x ∈ o.op.operands, look e' x = look e x := fun x hx => by
    cases x with
    | tmp t => exact h t (by simp only [looks, Bool.or_eq_true, List.any_eq_true]; exact .inl ⟨.tmp t, by simpa using hx, by simp⟩)
    | const v => rfl
    | global g => rfl
    | func f => rfl
  unfold LocG
  rw [guardOf_congr h, locX_congr hl]
theorem callOf_men {op : Op} {ρ : Operand → V} {p : Nat → Bool} (hρ : ∀ x, (ρ x).men p = false) {g : FuncId} {args : List V} (h : callOf op ρ = some (g, args)) : V.menL p args = false := by
  obtain ⟨cl, fo, capt, ho, hcal, hfo, rfl⟩ := callOf_inv h
  have h1 : V.menL p capt = false := by
    have := hρ fo
    rw [hfo] at this
    simpa [V.men] using this
  exact menL_of fun j x hj => by
    rw [List.getElem?_append] at hj
    split at hj
    · rw [List.getElem?_map] at hj
      obtain ⟨z, _, rfl⟩ := Option.map_eq_some_iff.1 hj
      exact hρ z
    · exact menL_at h1 hj
theorem locX_grow {o : Oper} {p : Nat → Bool} {ρ : Operand → V} {s s' : Store} {v : V} {ext : Store} (hw : cls o.op ≠ .w) (hρ : ∀ x, (ρ x).men p = false) (hs : ∀ i, p i = false → getB s' i = getB s i) (h : LocX P o ρ s v ext) : LocX P o ρ s' v ext := by
  unfold LocX at h ⊢
  cases hc : cls o.op <;> rw [hc] at h <;> simp only at h ⊢
  · exact h
  · obtain ⟨c, h1, h2, h3⟩ := h; exact ⟨c, opR_grow hρ hs h1, h2, h3⟩
  · exact h
  · exact absurd hc hw
  · obtain ⟨g, args1, args, r, τ, h0, h1, h1b, h2⟩ := h
    refine ⟨g, args1, args, r, τ, h0, h1, ?_, h2⟩
    rcases h1b with h1b | ⟨h1b, h3⟩
    · exact .inl h1b
    · exact .inr ⟨h1b.trans (frzL_grow hs _ (callOf_men hρ h1)).symm, h3⟩
theorem locG_grow {all : List Oper} {o : Oper} {p : Nat → Bool} {e : Env} {s s' : Store} {v : V} {ext : Store} (hw : cls o.op ≠ .w) (hρ : V.menL p e = false) (hs : ∀ i, p i = false → getB s' i = getB s i) (h : LocG P all o e s v ext) : LocG P all o e s' v ext := by
  unfold LocG at h ⊢
  cases hg : guardOf all e o.guard with
  | none => rw [hg] at h; exact h
  | some g =>
    rw [hg] at h
    cases g with
    | none => exact locX_grow hw (look_men hρ) hs h
    | some q => exact ⟨fun hb => locX_grow hw (look_men hρ) hs (h.1 hb), h.2⟩
theorem locX_any {o : Oper} {ρ : Operand → V} {s s' : Store} {v : V} {ext : Store} (hp : cls o.op = .p) (h : LocX P o ρ s v ext) : LocX P o ρ s' v ext := by
  unfold LocX at h ⊢; rw [hp] at h ⊢; exact h
theorem locG_any {all : List Oper} {o : Oper} {e : Env} {s s' : Store} {v : V} {ext : Store} (hp : cls o.op = .p) (h : LocG P all o e s v ext) : LocG P all o e s' v ext := by
  unfold LocG at h ⊢
  cases hg : guardOf all e o.guard with
  | none => rw [hg] at h; exact h
  | some g =>
    rw [hg] at h
    cases g with
    | none => exact locX_any hp h
    | some q => exact ⟨fun hb => locX_any hp (h.1 hb), h.2⟩
theorem locX_ext {o : Oper} {ρ : Operand → V} {s : Store} {v : V} {ext : Store} (hw : cls o.op ≠ .w) (h : LocX P o ρ s v ext) : ∀ x ∈ ext, makes o = true ∧ mine o x.1 = true := by
  unfold LocX at h
  intro x hx
  cases hc : cls o.op <;> rw [hc] at h <;> simp only at h
  · obtain ⟨c, h1, h2, rfl⟩ := h; cases hx
  · obtain ⟨c, h1, h2, rfl⟩ := h; cases hx
  · obtain ⟨c, blk, h0, h1, h2, rfl⟩ := h
    simp at hx
    subst hx
    exact ⟨by simp [makes, hc], by simp [mine]⟩
  · exact absurd hc hw
  · obtain ⟨g, args1, args, r, τ, h0, h1, h1b, h2, h3, h4, rfl, rfl⟩ := h
    obtain ⟨q, _, hq⟩ := newId_some h0
    simp only [shiftS, List.mem_map] at hx
    obtain ⟨⟨i, b⟩, hi, rfl⟩ := hx
    refine ⟨by simp [makes, hc], ?_⟩
    have : i < 100 := by
      simp only [okIds, Bool.and_eq_true] at h4
      have : ∀ {τ : Store}, okT τ = true → (i, b) ∈ τ → i < 100 := by
        intro τ
        induction τ with
        | nil => intro _ h; cases h
        | cons y r ih =>
          obtain ⟨j, c⟩ := y
          intro h hm
          simp only [okT, Bool.and_eq_true] at h
          rcases List.mem_cons.1 hm with e | hm
          · cases e; have := h.1.1; simp [big] at this; omega
          · exact ih h.2 hm
      exact this h4.2 hi
    simp only [mine, hq, decide_eq_true_eq]
    omega
theorem locG_ext {all : List Oper} {o : Oper} {e : Env} {s : Store} {v : V} {ext : Store} (hw : cls o.op ≠ .w) (h : LocG P all o e s v ext) : ∀ x ∈ ext, makes o = true ∧ mine o x.1 = true := by
  unfold LocG at h
  cases hg : guardOf all e o.guard with
  | none => rw [hg] at h; exact h.elim
  | some g =>
    rw [hg] at h
    cases g with
    | none => exact locX_ext hw h
    | some q =>
      obtain ⟨k, want, b⟩ := q
      rcases bool_or b want with hb | hb
      · exact locX_ext hw (h.1 hb)
      · intro x hx; rw [(h.2 hb).2] at hx; cases hx

/-! two operations that stand in no order -/
def apart (all : List Oper) (x y : Oper) : Bool := (match x.dst with | some d => !looks all y d && y.dst != some d | none => true) && (match y.dst with | some d => !looks all x d | none => true)
def quiet (im : Bool) (o : Oper) : Bool := match cls o.op with | .w | .x => false | .c => !im | _ => true
def comm (im : Bool) (all : List Oper) (x y : Oper) : Bool := apart all x y && ((quiet im x && quiet im y) || (cls x.op == .p && cls y.op == .w) || (cls x.op == .w && cls y.op == .p))
theorem put_getD {e : Env} {d : Option Nat} {v : V} {k : Nat} (h : d ≠ some k) : (put e d v).getD k .top = e.getD k .top := by
  cases d with
  | none => rfl
  | some j =>
    simp only [put, List.getD_eq_getElem?_getD]
    rw [List.getElem?_set_ne (fun e => h (by rw [e]))]
theorem put_comm {e : Env} {d d' : Option Nat} {v v' : V} (h : ∀ k, d = some k → d' ≠ some k) : put (put e d v) d' v' = put (put e d' v') d v := by
  cases d with
  | none => rfl
  | some k =>
    cases d' with
    | none => rfl
    | some k' =>
      simp only [put]
      exact List.set_comm _ _ (fun e => h k rfl (by rw [e]))
theorem exchange {im : Bool} {all : List Oper} {x y : Oper} (hc : comm im all x y = true) {E E1 E2 : St} (hfx : makes x = true → Fresh (mine x) E.e E.s) (hfy : makes y = true → Fresh (mine y) E.e E.s)
    (hd : makes x = true → makes y = true → ∀ i, mine x i = true → mine y i = false) (h1 : Stp P im all x E E1) (h2 : Stp P im all y E1 E2) : ∃ E1', Stp P im all y E E1' ∧ Stp P im all x E1' E2 := by
  simp only [comm, Bool.and_eq_true, Bool.or_eq_true] at hc
  obtain ⟨ha, hq⟩ := hc
  have hxx : cls x.op ≠ .x := by
    rcases hq with (⟨h, _⟩ | ⟨h, _⟩) | ⟨h, _⟩
    · intro e; simp [quiet, e] at h
    · intro e; simp [e] at h
    · intro e; simp [e] at h
  have hyx : cls y.op ≠ .x := by
    rcases hq with (⟨_, h⟩ | ⟨_, h⟩) | ⟨_, h⟩
    · intro e; simp [quiet, e] at h
    · intro e; simp [e] at h
    · intro e; simp [e] at h
  have hxc : im = true → cls x.op ≠ .c := by
    rintro rfl
    rcases hq with (⟨h, _⟩ | ⟨h, _⟩) | ⟨h, _⟩
    · intro e; simp [quiet, e] at h
    · intro e; simp [e] at h
    · intro e; simp [e] at h
  have hyc : im = true → cls y.op ≠ .c := by
    rintro rfl
    rcases hq with (⟨_, h⟩ | ⟨_, h⟩) | ⟨_, h⟩
    · intro e; simp [quiet, e] at h
    · intro e; simp [e] at h
    · intro e; simp [e] at h
  rw [locG_of hxx hxc] at h1
  obtain ⟨vx, ex, g1, rfl⟩ := h1
  rw [locG_of hyx hyc] at h2
  obtain ⟨vy, ey, g2, rfl⟩ := h2
  simp only [apart, Bool.and_eq_true] at ha
  have hne : ∀ k, x.dst = some k → y.dst ≠ some k := fun k e => by
    have := ha.1; rw [e] at this; simp at this; exact this.2
  have hlx : ∀ k, looks all y k = true → x.dst ≠ some k := fun k hk e => by
    have := ha.1; rw [e] at this; simp [hk] at this
  have hly : ∀ k, looks all x k = true → y.dst ≠ some k := fun k hk e => by
    have := ha.2; rw [e] at this; simp [hk] at this
  have g2' : LocG P all y E.e (puts E.s ex) vy ey := (locG_congr fun k hk => put_getD (hlx k hk)).1 g2
  have g1' : LocG P all x (put E.e y.dst vy) E.s vx ex := (locG_congr fun k hk => put_getD (hly k hk)).2 g1
  have key : LocG P all y E.e E.s vy ey ∧ LocG P all x (put E.e y.dst vy) (puts E.s ey) vx ex ∧ puts (puts E.s ex) ey = puts (puts E.s ey) ex := by
    rcases hq with (⟨q1, q2⟩ | ⟨q1, q2⟩) | ⟨q1, q2⟩
    · have wx : cls x.op ≠ .w := fun e => by simp [quiet, e] at q1
      have wy : cls y.op ≠ .w := fun e => by simp [quiet, e] at q2
      have ex1 := locG_ext wx g1
      have ey1 := locG_ext wy g2
      have a1 : LocG P all y E.e E.s vy ey := by
        by_cases hex : ex = []
        · subst hex; exact g2'
        · obtain ⟨z, zs, rfl⟩ := List.exists_cons_of_ne_nil hex
          have hm := (ex1 z (by simp)).1
          exact locG_grow (p := mine x) wy (hfx hm).env (fun i hi => (getB_puts _ _ _ fun q hq e => by rw [← e, (ex1 q hq).2] at hi; cases hi).symm) g2'
      have a2 : LocG P all x E.e (puts E.s ey) vx ex := by
        by_cases hey : ey = []
        · subst hey; exact g1
        · obtain ⟨z, zs, rfl⟩ := List.exists_cons_of_ne_nil hey
          have hm := (ey1 z (by simp)).1
          exact locG_grow (p := mine y) wx (hfy hm).env (fun i hi => getB_puts _ _ _ fun q hq e => by rw [← e, (ey1 q hq).2] at hi; cases hi) g1
      refine ⟨a1, (locG_congr fun k hk => put_getD (hly k hk)).2 a2, puts_comm _ _ _ fun q hq r hr e => ?_⟩
      have := hd (ex1 q hq).1 (ey1 r hr).1 q.1 (ex1 q hq).2
      rw [e, (ey1 r hr).2] at this
      cases this
    · have px : cls x.op = .p := by simpa using q1
      have e0 : ex = [] := by
        have := locG_ext (by rw [px]; simp) g1
        cases ex with
        | nil => rfl
        | cons z zs => have := (this z (by simp)).1; simp [makes, px] at this
      subst e0
      exact ⟨g2', locG_any px g1', rfl⟩
    · have py : cls y.op = .p := by simpa using q2
      have e0 : ey = [] := by
        have := locG_ext (by rw [py]; simp) g2
        cases ey with
        | nil => rfl
        | cons z zs => have := (this z (by simp)).1; simp [makes, py] at this
      subst e0
      exact ⟨locG_any py g2', g1', rfl⟩
  obtain ⟨k1, k2, k3⟩ := key
  refine ⟨⟨put E.e y.dst vy, puts E.s ey⟩, (locG_of hyx hyc).2 ⟨vy, ey, k1, rfl⟩, (locG_of hxx hxc).2 ⟨vx, ex, k2, ?_⟩⟩
  rw [k3, put_comm hne]
end Go.Fw
