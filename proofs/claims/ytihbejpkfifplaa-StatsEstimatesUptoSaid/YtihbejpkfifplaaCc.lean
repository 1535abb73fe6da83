/- Texts of this claim, put together: Fr, Fs, Ft, Fu, Fv, Fw, Pa. -/
import Derived.Test.YtihbejpkfifplaaCb
import Derived.ScopeJumps
import Derived.Test.YtihbejpkfifplaaProg
set_option linter.unusedVariables false
set_option linter.unusedSimpArgs false
section
namespace Go.Fw
variable {P : Program}

def shiftS (k : Nat) (τ : Store) : Store := τ.map fun (i, b) => (k + i, b.shift k)
theorem addS_puts (s : Store) (k : Nat) (τ : Store) : addS s k τ = puts s (shiftS k τ) := by
  induction τ with
  | nil => rfl
  | cons x r ih => obtain ⟨i, b⟩ := x; simp [addS, shiftS, puts, ih]
theorem putB_comm {i j : Nat} (h : i ≠ j) (b c : Blk) (s : Store) : putB (putB s i b) j c = putB (putB s j c) i b := by
  induction s with
  | nil =>
    simp only [putB, h, Ne.symm h, if_false]
    split <;> split <;> first | rfl | omega
  | cons x r ih =>
    obtain ⟨k, d⟩ := x
    simp only [putB]
    by_cases e1 : k = i
    · subst e1
      simp only [if_true, if_neg h, putB]
      by_cases e2 : j < k
      · simp [e2, putB, Ne.symm h, show ¬ k < j by omega]
      · simp [e2, putB, h]
    · by_cases e2 : k = j
      · subst e2
        simp only [if_true, if_neg e1, putB]
        by_cases e3 : i < k
        · simp [e3, putB, h, show ¬ k < i by omega]
        · simp [e3, putB, e1]
      · simp only [if_neg e1, if_neg e2]
        by_cases a1 : i < k <;> by_cases a2 : j < k <;> simp only [a1, a2, if_true, if_false, putB, h, Ne.symm h, e1, e2]
        · by_cases a3 : j < i
          · simp [a3, show ¬ i < j by omega]
          · simp [a3, show i < j by omega]
        · simp [show ¬ j < i by omega]
        · simp [show ¬ i < j by omega]
        · rw [ih]
theorem puts_put {i : Nat} (b : Blk) (s t : Store) (h : ∀ x ∈ t, x.1 ≠ i) : puts (putB s i b) t = putB (puts s t) i b := by
  induction t with
  | nil => rfl
  | cons x r ih =>
    obtain ⟨k, d⟩ := x
    simp only [puts]
    rw [ih fun x hx => h x (by simp [hx]), putB_comm (Ne.symm (h (k, d) (by simp)))]
theorem puts_comm (s t u : Store) (h : ∀ x ∈ t, ∀ y ∈ u, x.1 ≠ y.1) : puts (puts s t) u = puts (puts s u) t := by
  induction t with
  | nil => rfl
  | cons x r ih =>
    obtain ⟨k, d⟩ := x
    simp only [puts]
    rw [puts_put _ _ _ fun y hy => Ne.symm (h (k, d) (by simp) y hy), ih fun x hx y hy => h x (by simp [hx]) y hy]
theorem getB_puts (s t : Store) (i : Nat) (h : ∀ x ∈ t, x.1 ≠ i) : getB (puts s t) i = getB s i := by
  induction t with
  | nil => rfl
  | cons x r ih =>
    obtain ⟨k, d⟩ := x
    simp only [puts, getB_putB]
    rw [if_neg (Ne.symm (h (k, d) (by simp))), ih fun x hx => h x (by simp [hx])]

/-- a step, by the value and the blocks that are put -/
def LocX (P : Program) (o : Oper) (ρ : Operand → V) (s : Store) (v : V) (ext : Store) : Prop := match cls o.op with
  | .p => ∃ c, opP P o.op ρ = some (c, v) ∧ c ∧ ext = []
  | .r => ∃ c, opR P o.op ρ s = some (c, v) ∧ c ∧ ext = []
  | .a => ∃ c blk, o.dst.isSome = true ∧ opA P o.op ρ (newId o.dst) = some (c, v, blk) ∧ c ∧ ext = [(newId o.dst, blk)]
  | .c => ∃ g args1 args r τ, o.dst.isSome = true ∧ callOf o.op ρ = some (g, args1) ∧ (args = args1 ∨ (args = V.finL [] s args1 ∧ ∃ x, r = .d (.lit x) ∧ τ = [])) ∧ V.menL (fun _ => true) args = false ∧ Snd P g args r τ ∧ okIds r τ = true ∧ v = r.shift (newId o.dst) ∧ ext = shiftS (newId o.dst) τ
  | .w => ∃ c s', opW P o.op ρ s = some (c, s') ∧ c ∧ v = vundef ∧ ∃ id blk, s' = putB s id blk ∧ ext = [(id, blk)]
  | .x => False
def LocG (P : Program) (all : List Oper) (o : Oper) (e : Env) (s : Store) (v : V) (ext : Store) : Prop := match guardOf all e o.guard with
  | none => False
  | some none => LocX P o (look e) s v ext
  | some (some (_, want, b)) => (b = want → LocX P o (look e) s v ext) ∧ (b = !want → v = vundef ∧ ext = [])
theorem updV_put {t : TypeId} {x k y : V} {s s' : Store} {c : Prop} (h : updV P t x k y s = some (c, s')) : ∃ id ks vs ks' vs', getB s id = some (.mp ks vs) ∧ x = .mp id ∧ s' = putB s id (.mp ks' vs') ∧ ∀ v ∈ vs', v ∈ vs ∨ v = y := by
  unfold updV at h
  split at h
  · split at h
    · split at h
      · rename_i hg
        split at h
        · cases h; exact ⟨_, _, _, _, _, hg, rfl, rfl, fun v hv => List.mem_or_eq_of_mem_set hv⟩
        · cases h; exact ⟨_, _, _, _, _, hg, rfl, rfl, fun v hv => by simpa using hv⟩
        · cases h
      · cases h
    · cases h
  · cases h
theorem opW_put {op : Op} {ρ : Operand → V} {s s' : Store} {c : Prop} (h : opW P op ρ s = some (c, s')) : ∃ id blk, s' = putB s id blk := by
  unfold opW at h
  split at h <;> try (cases h; done)
  · split at h
    · split at h
      · split at h
        · split at h
          · cases h; exact ⟨_, _, rfl⟩
          · cases h
        · split at h
          · split at h
            · cases h; exact ⟨_, _, rfl⟩
            · cases h
          · cases h
        · cases h
      · cases h
    · cases h
  · obtain ⟨id, _, _, ks', vs', _, _, h, _⟩ := updV_put h; exact ⟨id, _, h⟩
  · obtain ⟨id, _, _, ks', vs', _, _, h, _⟩ := updV_put h; exact ⟨id, _, h⟩
theorem locX_of {o : Oper} (hx : cls o.op ≠ .x) {E E' : St} : Do P o E E' ↔ ∃ v ext, LocX P o (look E.e) E.s v ext ∧ E' = ⟨put E.e o.dst v, puts E.s ext⟩ := by
  unfold Do LocX Loc
  cases hc : cls o.op <;> simp only
  · constructor
    · rintro ⟨v, s', ⟨c, h1, h2, rfl⟩, rfl⟩; exact ⟨v, [], ⟨c, h1, h2, rfl⟩, rfl⟩
    · rintro ⟨v, ext, ⟨c, h1, h2, rfl⟩, rfl⟩; exact ⟨v, _, ⟨c, h1, h2, rfl⟩, rfl⟩
  · constructor
    · rintro ⟨v, s', ⟨c, h1, h2, rfl⟩, rfl⟩; exact ⟨v, [], ⟨c, h1, h2, rfl⟩, rfl⟩
    · rintro ⟨v, ext, ⟨c, h1, h2, rfl⟩, rfl⟩; exact ⟨v, _, ⟨c, h1, h2, rfl⟩, rfl⟩
  · constructor
    · rintro ⟨v, s', ⟨c, blk, h0, h1, h2, rfl⟩, rfl⟩; exact ⟨v, _, ⟨c, blk, h0, h1, h2, rfl⟩, rfl⟩
    · rintro ⟨v, ext, ⟨c, blk, h0, h1, h2, rfl⟩, rfl⟩; exact ⟨v, _, ⟨c, blk, h0, h1, h2, rfl⟩, rfl⟩
  · constructor
    · rintro ⟨c, s', h1, h2, rfl⟩
      obtain ⟨id, blk, rfl⟩ := opW_put h1
      exact ⟨vundef, [(id, blk)], ⟨c, _, h1, h2, rfl, id, blk, rfl, rfl⟩, rfl⟩
    · rintro ⟨v, ext, ⟨c, s', h1, h2, rfl, id, blk, rfl, rfl⟩, rfl⟩; exact ⟨c, _, h1, h2, rfl⟩
  · exact absurd hc hx
  · constructor
    · rintro ⟨v, s', ⟨g, args1, args, r, τ, h0, h1, h1b, h2, h3, h4, rfl, rfl⟩, rfl⟩; exact ⟨_, _, ⟨g, args1, args, r, τ, h0, h1, h1b, h2, h3, h4, rfl, rfl⟩, by rw [addS_puts]⟩
    · rintro ⟨v, ext, ⟨g, args1, args, r, τ, h0, h1, h1b, h2, h3, h4, rfl, rfl⟩, rfl⟩; exact ⟨_, _, ⟨g, args1, args, r, τ, h0, h1, h1b, h2, h3, h4, rfl, rfl⟩, by rw [addS_puts]⟩
theorem bool_or (b want : Bool) : b = want ∨ b = !want := by cases b <;> cases want <;> simp
theorem locG_of {im : Bool} {all : List Oper} {o : Oper} (hx : cls o.op ≠ .x) (hi : im = true → cls o.op ≠ .c) {E E' : St} : Stp P im all o E E' ↔ ∃ v ext, LocG P all o E.e E.s v ext ∧ E' = ⟨put E.e o.dst v, puts E.s ext⟩ := by
  unfold Stp LocG
  simp only [doI_do hi]
  cases hg : guardOf all E.e o.guard with
  | none => simp
  | some g =>
    cases g with
    | none => exact locX_of hx
    | some q =>
      obtain ⟨k, want, b⟩ := q
      simp only
      rcases bool_or b want with hb | hb
      · have hne : ¬ (b = !want) := by subst hb; cases b <;> simp
        simp only [hb, true_implies, show ¬ (want = !want) by cases want <;> simp, false_implies, and_true]
        exact locX_of hx
      · have hne : ¬ (b = want) := by subst hb; cases want <;> simp
        simp only [hb, true_implies, show ¬ ((!want) = want) by cases want <;> simp, false_implies, true_and]
        constructor
        · rintro rfl; exact ⟨vundef, [], ⟨rfl, rfl⟩, rfl⟩
        · rintro ⟨v, ext, ⟨rfl, rfl⟩, rfl⟩; rfl
theorem locX_congr {o : Oper} {ρ ρ' : Operand → V} (h : ∀ x ∈ o.op.operands, ρ x = ρ' x) {s : Store} {v : V} {ext : Store} : LocX P o ρ s v ext ↔ LocX P o ρ' s v ext := by
  unfold LocX
  rw [opP_congr h, opR_congr h, opA_congr h, opW_congr h, callOf_congr h]
/-- which slots an operation looks at -/
def looks (all : List Oper) (o : Oper) (k : Nat) : Bool := (o.op.operands.toList.any fun x => match x with | .tmp t => t == k | _ => false) || (match o.guard with | some (g, _) => ((all[g]?).bind (·.dst)) == some k | none => false)
theorem guardOf_congr {all : List Oper} {o : Oper} {e e' : Env} (h : ∀ k, looks all o k = true → e'.getD k .top = e.getD k .top) : guardOf all e' o.guard = guardOf all e o.guard := by
  unfold guardOf
  cases hg : o.guard with
  | none => rfl
  | some q =>
    obtain ⟨j, want⟩ := q
    simp only
    cases ha : all[j]? with
    | none => rfl
    | some g =>
      simp only
      cases hd : g.dst with
      | none => rfl
      | some k =>
        simp only
        rw [h k (by simp [looks, hg, ha, hd])]
theorem locG_congr {all : List Oper} {o : Oper} {e e' : Env} (h : ∀ k, looks all o k = true → e'.getD k .top = e.getD k .top) {s : Store} {v : V} {ext : Store} : LocG P all o e' s v ext ↔ LocG P all o e s v ext := by
  have hl : ∀ x ∈ o.op.operands, look e' x = look e x := fun x hx => by
    cases x with
    | tmp t => exact h t (by simp only [looks, Bool.or_eq_true, List.any_eq_true]; exact .inl ⟨.tmp t, by simpa using hx, by simp⟩)
    | const v => rfl
    | global g => rfl
    | func f => rfl
  unfold LocG
  rw [guardOf_congr h, locX_congr hl]
theorem callOf_men {op : Op} {ρ : Operand → V} {p : Nat → Bool} (hρ : ∀ x, (ρ x).men p = false) {g : FuncId} {args : List V} (h : callOf op ρ = some (g, args)) : V.menL p args = false := by
  obtain ⟨cl, fo, capt, ho, hcal, hfo, rfl⟩ := callOf_inv h
  have h1 : V.menL p capt = false := by
    have := hρ fo
    rw [hfo] at this
    simpa [V.men] using this
  exact menL_of fun j x hj => by
    rw [List.getElem?_append] at hj
    split at hj
    · rw [List.getElem?_map] at hj
      obtain ⟨z, _, rfl⟩ := Option.map_eq_some_iff.1 hj
      exact hρ z
    · exact menL_at h1 hj
theorem locX_grow {o : Oper} {p : Nat → Bool} {ρ : Operand → V} {s s' : Store} {v : V} {ext : Store} (hw : cls o.op ≠ .w) (hρ : ∀ x, (ρ x).men p = false) (hs : ∀ i, p i = false → getB s' i = getB s i) (h : LocX P o ρ s v ext) : LocX P o ρ s' v ext := by
  unfold LocX at h ⊢
  cases hc : cls o.op <;> rw [hc] at h <;> simp only at h ⊢
  · exact h
  · obtain ⟨c, h1, h2, h3⟩ := h; exact ⟨c, opR_grow hρ hs h1, h2, h3⟩
  · exact h
  · exact absurd hc hw
  · obtain ⟨g, args1, args, r, τ, h0, h1, h1b, h2⟩ := h
    refine ⟨g, args1, args, r, τ, h0, h1, ?_, h2⟩
    rcases h1b with h1b | ⟨h1b, h3⟩
    · exact .inl h1b
    · exact .inr ⟨h1b.trans (frzL_grow hs _ (callOf_men hρ h1)).symm, h3⟩
theorem locG_grow {all : List Oper} {o : Oper} {p : Nat → Bool} {e : Env} {s s' : Store} {v : V} {ext : Store} (hw : cls o.op ≠ .w) (hρ : V.menL p e = false) (hs : ∀ i, p i = false → getB s' i = getB s i) (h : LocG P all o e s v ext) : LocG P all o e s' v ext := by
  unfold LocG at h ⊢
  cases hg : guardOf all e o.guard with
  | none => rw [hg] at h; exact h
  | some g =>
    rw [hg] at h
    cases g with
    | none => exact locX_grow hw (look_men hρ) hs h
    | some q => exact ⟨fun hb => locX_grow hw (look_men hρ) hs (h.1 hb), h.2⟩
theorem locX_any {o : Oper} {ρ : Operand → V} {s s' : Store} {v : V} {ext : Store} (hp : cls o.op = .p) (h : LocX P o ρ s v ext) : LocX P o ρ s' v ext := by
  unfold LocX at h ⊢; rw [hp] at h ⊢; exact h
theorem locG_any {all : List Oper} {o : Oper} {e : Env} {s s' : Store} {v : V} {ext : Store} (hp : cls o.op = .p) (h : LocG P all o e s v ext) : LocG P all o e s' v ext := by
  unfold LocG at h ⊢
  cases hg : guardOf all e o.guard with
  | none => rw [hg] at h; exact h
  | some g =>
    rw [hg] at h
    cases g with
    | none => exact locX_any hp h
    | some q => exact ⟨fun hb => locX_any hp (h.1 hb), h.2⟩
theorem locX_ext {o : Oper} {ρ : Operand → V} {s : Store} {v : V} {ext : Store} (hw : cls o.op ≠ .w) (h : LocX P o ρ s v ext) : ∀ x ∈ ext, makes o = true ∧ mine o x.1 = true := by
  unfold LocX at h
  intro x hx
  cases hc : cls o.op <;> rw [hc] at h <;> simp only at h
  · obtain ⟨c, h1, h2, rfl⟩ := h; cases hx
  · obtain ⟨c, h1, h2, rfl⟩ := h; cases hx
  · obtain ⟨c, blk, h0, h1, h2, rfl⟩ := h
    simp at hx
    subst hx
    exact ⟨by simp [makes, hc], by simp [mine]⟩
  · exact absurd hc hw
  · obtain ⟨g, args1, args, r, τ, h0, h1, h1b, h2, h3, h4, rfl, rfl⟩ := h
    obtain ⟨q, _, hq⟩ := newId_some h0
    simp only [shiftS, List.mem_map] at hx
    obtain ⟨⟨i, b⟩, hi, rfl⟩ := hx
    refine ⟨by simp [makes, hc], ?_⟩
    have : i < 100 := by
      simp only [okIds, Bool.and_eq_true] at h4
      have : ∀ {τ : Store}, okT τ = true → (i, b) ∈ τ → i < 100 := by
        intro τ
        induction τ with
        | nil => intro _ h; cases h
        | cons y r ih =>
          obtain ⟨j, c⟩ := y
          intro h hm
          simp only [okT, Bool.and_eq_true] at h
          rcases List.mem_cons.1 hm with e | hm
          · cases e; have := h.1.1; simp [big] at this; omega
          · exact ih h.2 hm
      exact this h4.2 hi
    simp only [mine, hq, decide_eq_true_eq]
    omega
theorem locG_ext {all : List Oper} {o : Oper} {e : Env} {s : Store} {v : V} {ext : Store} (hw : cls o.op ≠ .w) (h : LocG P all o e s v ext) : ∀ x ∈ ext, makes o = true ∧ mine o x.1 = true := by
  unfold LocG at h
  cases hg : guardOf all e o.guard with
  | none => rw [hg] at h; exact h.elim
  | some g =>
    rw [hg] at h
    cases g with
    | none => exact locX_ext hw h
    | some q =>
      obtain ⟨k, want, b⟩ := q
      rcases bool_or b want with hb | hb
      · exact locX_ext hw (h.1 hb)
      · intro x hx; rw [(h.2 hb).2] at hx; cases hx

/-! two operations that stand in no order -/
def apart (all : List Oper) (x y : Oper) : Bool := (match x.dst with | some d => !looks all y d && y.dst != some d | none => true) && (match y.dst with | some d => !looks all x d | none => true)
def quiet (im : Bool) (o : Oper) : Bool := match cls o.op with | .w | .x => false | .c => !im | _ => true
def comm (im : Bool) (all : List Oper) (x y : Oper) : Bool := apart all x y && ((quiet im x && quiet im y) || (cls x.op == .p && cls y.op == .w) || (cls x.op == .w && cls y.op == .p))
theorem put_getD {e : Env} {d : Option Nat} {v : V} {k : Nat} (h : d ≠ some k) : (put e d v).getD k .top = e.getD k .top := by
  cases d with
  | none => rfl
  | some j =>
    simp only [put, List.getD_eq_getElem?_getD]
    rw [List.getElem?_set_ne (fun e => h (by rw [e]))]
theorem put_comm {e : Env} {d d' : Option Nat} {v v' : V} (h : ∀ k, d = some k → d' ≠ some k) : put (put e d v) d' v' = put (put e d' v') d v := by
  cases d with
  | none => rfl
  | some k =>
    cases d' with
    | none => rfl
    | some k' =>
      simp only [put]
      exact List.set_comm _ _ (fun e => h k rfl (by rw [e]))
theorem exchange {im : Bool} {all : List Oper} {x y : Oper} (hc : comm im all x y = true) {E E1 E2 : St} (hfx : makes x = true → Fresh (mine x) E.e E.s) (hfy : makes y = true → Fresh (mine y) E.e E.s)
    (hd : makes x = true → makes y = true → ∀ i, mine x i = true → mine y i = false) (h1 : Stp P im all x E E1) (h2 : Stp P im all y E1 E2) : ∃ E1', Stp P im all y E E1' ∧ Stp P im all x E1' E2 := by
  simp only [comm, Bool.and_eq_true, Bool.or_eq_true] at hc
  obtain ⟨ha, hq⟩ := hc
  have hxx : cls x.op ≠ .x := by
    rcases hq with (⟨h, _⟩ | ⟨h, _⟩) | ⟨h, _⟩
    · intro e; simp [quiet, e] at h
    · intro e; simp [e] at h
    · intro e; simp [e] at h
  have hyx : cls y.op ≠ .x := by
    rcases hq with (⟨_, h⟩ | ⟨_, h⟩) | ⟨_, h⟩
    · intro e; simp [quiet, e] at h
    · intro e; simp [e] at h
    · intro e; simp [e] at h
  have hxc : im = true → cls x.op ≠ .c := by
    rintro rfl
    rcases hq with (⟨h, _⟩ | ⟨h, _⟩) | ⟨h, _⟩
    · intro e; simp [quiet, e] at h
    · intro e; simp [e] at h
    · intro e; simp [e] at h
  have hyc : im = true → cls y.op ≠ .c := by
    rintro rfl
    rcases hq with (⟨_, h⟩ | ⟨_, h⟩) | ⟨_, h⟩
    · intro e; simp [quiet, e] at h
    · intro e; simp [e] at h
    · intro e; simp [e] at h
  rw [locG_of hxx hxc] at h1
  obtain ⟨vx, ex, g1, rfl⟩ := h1
  rw [locG_of hyx hyc] at h2
  obtain ⟨vy, ey, g2, rfl⟩ := h2
  simp only [apart, Bool.and_eq_true] at ha
  have hne : ∀ k, x.dst = some k → y.dst ≠ some k := fun k e => by
    have := ha.1; rw [e] at this; simp at this; exact this.2
  have hlx : ∀ k, looks all y k = true → x.dst ≠ some k := fun k hk e => by
    have := ha.1; rw [e] at this; simp [hk] at this
  have hly : ∀ k, looks all x k = true → y.dst ≠ some k := fun k hk e => by
    have := ha.2; rw [e] at this; simp [hk] at this
  have g2' : LocG P all y E.e (puts E.s ex) vy ey := (locG_congr fun k hk => put_getD (hlx k hk)).1 g2
  have g1' : LocG P all x (put E.e y.dst vy) E.s vx ex := (locG_congr fun k hk => put_getD (hly k hk)).2 g1
  have key : LocG P all y E.e E.s vy ey ∧ LocG P all x (put E.e y.dst vy) (puts E.s ey) vx ex ∧ puts (puts E.s ex) ey = puts (puts E.s ey) ex := by
    rcases hq with (⟨q1, q2⟩ | ⟨q1, q2⟩) | ⟨q1, q2⟩
    · have wx : cls x.op ≠ .w := fun e => by simp [quiet, e] at q1
      have wy : cls y.op ≠ .w := fun e => by simp [quiet, e] at q2
      have ex1 := locG_ext wx g1
      have ey1 := locG_ext wy g2
      have a1 : LocG P all y E.e E.s vy ey := by
        by_cases hex : ex = []
        · subst hex; exact g2'
        · obtain ⟨z, zs, rfl⟩ := List.exists_cons_of_ne_nil hex
          have hm := (ex1 z (by simp)).1
          exact locG_grow (p := mine x) wy (hfx hm).env (fun i hi => (getB_puts _ _ _ fun q hq e => by rw [← e, (ex1 q hq).2] at hi; cases hi).symm) g2'
      have a2 : LocG P all x E.e (puts E.s ey) vx ex := by
        by_cases hey : ey = []
        · subst hey; exact g1
        · obtain ⟨z, zs, rfl⟩ := List.exists_cons_of_ne_nil hey
          have hm := (ey1 z (by simp)).1
          exact locG_grow (p := mine y) wx (hfy hm).env (fun i hi => getB_puts _ _ _ fun q hq e => by rw [← e, (ey1 q hq).2] at hi; cases hi) g1
      refine ⟨a1, (locG_congr fun k hk => put_getD (hly k hk)).2 a2, puts_comm _ _ _ fun q hq r hr e => ?_⟩
      have := hd (ex1 q hq).1 (ey1 r hr).1 q.1 (ex1 q hq).2
      rw [e, (ey1 r hr).2] at this
      cases this
    · have px : cls x.op = .p := by simpa using q1
      have e0 : ex = [] := by
        have := locG_ext (by rw [px]; simp) g1
        cases ex with
        | nil => rfl
        | cons z zs => have := (this z (by simp)).1; simp [makes, px] at this
      subst e0
      exact ⟨g2', locG_any px g1', rfl⟩
    · have py : cls y.op = .p := by simpa using q2
      have e0 : ey = [] := by
        have := locG_ext (by rw [py]; simp) g2
        cases ey with
        | nil => rfl
        | cons z zs => have := (this z (by simp)).1; simp [makes, py] at this
      subst e0
      exact ⟨locG_any py g2', g1', rfl⟩
  obtain ⟨k1, k2, k3⟩ := key
  refine ⟨⟨put E.e y.dst vy, puts E.s ey⟩, (locG_of hyx hyc).2 ⟨vy, ey, k1, rfl⟩, (locG_of hxx hxc).2 ⟨vx, ex, k2, ?_⟩⟩
  rw [k3, put_comm hne]
end Go.Fw
end
section
namespace Go.Fw
variable {P : Program}

theorem put_menL {p : Nat → Bool} {e : Env} {d : Option Nat} {v : V} (h : V.menL p e = false) (hv : v.men p = false) : V.menL p (put e d v) = false := by
  cases d with
  | none => exact h
  | some k =>
    refine menL_of fun j x hj => ?_
    rcases List.mem_or_eq_of_mem_set (List.mem_of_getElem? hj) with hx | rfl
    · obtain ⟨i, hi⟩ := List.getElem?_of_mem hx; exact menL_at h hi
    · exact hv
theorem Fresh.puts {p : Nat → Bool} {e : Env} {s : Store} (h : Fresh p e s) {ext : Store} (hx : ∀ x ∈ ext, p x.1 = false ∧ FreshB p x.2) : Fresh p e (puts s ext) := by
  refine ⟨h.env, ?_⟩
  induction ext with
  | nil => exact h.sto
  | cons y r ih =>
    obtain ⟨i, b⟩ := y
    intro j blk hj
    simp only [Fw.puts, getB_putB] at hj
    split at hj
    · rename_i e; subst e; cases hj; exact hx (j, b) (by simp)
    · exact ih (fun x hx' => hx x (by simp [hx'])) j blk hj
theorem locX_fresh {o : Oper} {p : Nat → Bool} {e : Env} {s : Store} {v : V} {ext : Store} (hf : Fresh p e s) (hp : makes o = true → ∀ i, mine o i = true → p i = false) (h : LocX P o (look e) s v ext) : v.men p = false ∧ ∀ x ∈ ext, p x.1 = false ∧ FreshB p x.2 := by
  have hρ := look_men hf.env
  unfold LocX at h
  cases hc : cls o.op <;> rw [hc] at h <;> simp only at h
  · obtain ⟨c, h1, h2, rfl⟩ := h; exact ⟨opP_men hρ h1, by simp⟩
  · obtain ⟨c, h1, h2, rfl⟩ := h; exact ⟨opR_men hf hρ h1, by simp⟩
  · obtain ⟨c, blk, h0, h1, h2, rfl⟩ := h
    have hid : p (newId o.dst) = false := hp (by simp [makes, hc]) _ (by simp [mine])
    have key : v.men p = false ∧ FreshB p blk := by
      unfold opA at h1
      split at h1 <;> try (cases h1; done)
      · split at h1
        · rename_i hcs; cases h1; exact ⟨hid, men_cells (hρ _) hcs⟩
        · cases h1
      · split at h1
        · split at h1
          · cases h1; exact ⟨hid, lits_men p _⟩
          · cases h1
        · cases h1
      · split at h1
        · split at h1
          · split at h1
            · split at h1
              · rename_i hcs
                have hfm : V.menL p _ = false := fillV_men (lits_men p _) (fun x hx => by
                  simp only [List.mem_map] at hx
                  obtain ⟨u, _, rfl⟩ := hx
                  exact hρ u.2) hcs
                split at h1
                · cases h1; exact ⟨hid, trivial⟩
                · cases h1; exact ⟨hid, hfm⟩
              · cases h1
            · cases h1
          · cases h1
        · cases h1
      · split at h1
        · split at h1
          · split at h1
            · cases h1; exact ⟨hid, trivial⟩
            · cases h1
          · cases h1
        · cases h1
      · cases h1; exact ⟨hid, rfl⟩
    exact ⟨key.1, by simpa using ⟨hid, key.2⟩⟩
  · obtain ⟨c, s', h1, h2, rfl, id, blk, rfl, rfl⟩ := h
    refine ⟨rfl, ?_⟩
    simp only [List.mem_singleton, forall_eq]
    have key0 : ∀ {id0 : Nat} {b0 : Blk}, p id0 = false → FreshB p b0 → putB s id0 b0 = putB s id blk → p id = false ∧ FreshB p blk := by
      intro id0 b0 hp0 hb0 he
      have e1 := congrArg (fun t => getB t id) he
      simp only [getB_putB, if_true] at e1
      by_cases e2 : id = id0
      · subst e2; simp at e1; exact ⟨hp0, e1 ▸ hb0⟩
      · rw [if_neg e2] at e1
        exact ⟨(hf.sto id blk e1).1, (hf.sto id blk e1).2⟩
    have upd : ∀ {t : TypeId} {x k y : Operand}, updV P t (look e x) (look e k) (look e y) s = some (c, putB s id blk) → p id = false ∧ FreshB p blk := by
      intro t x k y h
      obtain ⟨id0, ks, vs, ks', vs', g1, _, g2, g3⟩ := updV_put h
      refine key0 (b0 := .mp ks' vs') (hf.sto _ _ g1).1 (menL_of fun j v hj => ?_) g2.symm
      rcases g3 v (List.mem_of_getElem? hj) with q | rfl
      · obtain ⟨i, hi⟩ := List.getElem?_of_mem q
        exact menL_at (hf.sto _ _ g1).2 hi
      · exact hρ y
    unfold opW at h1
    split at h1 <;> try (cases h1; done)
    case h_2 => exact upd h1
    case h_3 => exact upd h1
    split at h1
    · rename_i id' sz r cl vs ex hcs
      have hvs := men_cells (hρ _) hcs
      have same : ∀ {id0 : Nat} {b0 : Blk}, putB s id0 b0 = putB s id blk → id0 = id ∧ b0 = blk ∨ True := fun _ => .inr trivial
      have key : ∀ {id0 : Nat} {b0 : Blk}, p id0 = false → FreshB p b0 → putB s id0 b0 = putB s id blk → getB s id0 ≠ some b0 → p id = false ∧ FreshB p blk := by
        intro id0 b0 hp0 hb0 he hne
        have e1 := congrArg (fun t => getB t id) he
        simp only [getB_putB, if_true] at e1
        by_cases e2 : id = id0
        · subst e2; simp at e1; exact ⟨hp0, e1 ▸ hb0⟩
        · rw [if_neg e2] at e1
          exact ⟨(hf.sto id blk e1).1, (hf.sto id blk e1).2⟩
      have key2 : ∀ {id0 : Nat} {b0 : Blk}, p id0 = false → FreshB p b0 → putB s id0 b0 = putB s id blk → p id = false ∧ FreshB p blk := by
        intro id0 b0 hp0 hb0 he
        have e1 := congrArg (fun t => getB t id) he
        simp only [getB_putB, if_true] at e1
        by_cases e2 : id = id0
        · subst e2; simp at e1; exact ⟨hp0, e1 ▸ hb0⟩
        · rw [if_neg e2] at e1
          exact ⟨(hf.sto id blk e1).1, (hf.sto id blk e1).2⟩
      split at h1
      · split at h1
        · rename_i cells hg
          split at h1
          · simp only [Option.some.injEq, Prod.mk.injEq] at h1
            exact key2 (b0 := .vals (setAt cells (r * sz + cl) vs)) (hf.sto _ _ hg).1 (setAt_men hvs _ (hf.sto _ _ hg).2) h1.2
          · cases h1
        · rename_i n rows hg
          split at h1
          · split at h1
            · simp only [Option.some.injEq, Prod.mk.injEq] at h1
              refine key2 (hf.sto _ _ hg).1 ?_ h1.2
              trivial
            · cases h1
          · cases h1
        · cases h1
      · cases h1
    · cases h1
  · obtain ⟨g, args1, args, r, τ, h0, h1, h1b, h2, h3, h4, rfl, rfl⟩ := h
    obtain ⟨q, _, hq⟩ := newId_some h0
    simp only [okIds, Bool.and_eq_true, Bool.not_eq_true'] at h4
    have hsh : ∀ id, big id = false → p (newId o.dst + id) = false := fun id hb => by
      refine hp (by simp [makes, hc]) _ ?_
      have : id < 100 := by simpa [big] using hb
      simp only [mine, hq, decide_eq_true_eq]; omega
    refine ⟨shift_men hsh r h4.1, ?_⟩
    have : ∀ {τ : Store}, okT τ = true → ∀ x ∈ shiftS (newId o.dst) τ, p x.1 = false ∧ FreshB p x.2 := by
      intro τ
      induction τ with
      | nil => intro _ x hx; cases hx
      | cons y r ih =>
        obtain ⟨i, b⟩ := y
        intro h x hx
        simp only [okT, Bool.and_eq_true, Bool.not_eq_true'] at h
        simp only [shiftS, List.map_cons, List.mem_cons] at hx
        rcases hx with rfl | hx
        · refine ⟨hsh i h.1.1, ?_⟩
          cases b with
          | vals cells =>
            refine menL_of fun j x hj => ?_
            rw [shiftL_at] at hj
            obtain ⟨y, hy, rfl⟩ := Option.map_eq_some_iff.1 hj
            exact shift_men hsh y (menL_at (by simpa [okB] using h.1.2) hy)
          | mp ks vs =>
            refine menL_of fun j x hj => ?_
            rw [shiftL_at] at hj
            obtain ⟨y, hy, rfl⟩ := Option.map_eq_some_iff.1 hj
            exact shift_men hsh y (menL_at (by simpa [okB] using h.1.2) hy)
          | data sz rows => trivial
        · exact ih h.2 x hx
    exact this h4.2
theorem fgtL_men {p q : Nat → Bool} {l : List V} (h : V.menL p l = false) : V.menL p (V.fgtL q l) = false := by
  have key : ∀ x : V, x.men p = false → (x.fgt q).men p = false := fun x => by
    induction x using V.rec (motive_2 := fun l => V.menL p l = false → V.menL p (V.fgtL q l) = false) <;> simp_all [V.fgt, V.fgtL, V.men, V.menL]
    all_goals (split <;> simp_all [V.men])
  refine menL_of fun j x hj => ?_
  rw [fgtL_at] at hj
  obtain ⟨y, hy, rfl⟩ := Option.map_eq_some_iff.1 hj
  exact key y (menL_at h hy)
theorem stp_fresh {im : Bool} {all : List Oper} {o : Oper} {p : Nat → Bool} {E E' : St} (hf : Fresh p E.e E.s) (hp : ∀ i, mine o i = true → p i = false) (h : Stp P im all o E E') : Fresh p E'.e E'.s := by
  by_cases hx : cls o.op = .x
  · have hdo : DoI P im o E E' → Fresh p E'.e E'.s := by
      intro h
      rw [doI_do (fun _ => by rw [hx]; simp)] at h
      unfold Do at h
      rw [hx] at h
      obtain ⟨cl, ho, hcal, k, c, sz, n, blk, h1, hc, rfl⟩ := h
      have hid : p (newId o.dst) = false := hp _ (by simp [mine])
      refine ⟨put_menL (fgtL_men hf.env) hid, fun i blk hi => ?_⟩
      rw [getB_putB] at hi
      split at hi
      · rename_i e; subst e; cases hi
        refine ⟨hid, ?_⟩
        rcases h1 with ⟨all, h1, rfl, rfl⟩ | ⟨all, h1, rfl⟩
        · trivial
        · -- what is added names no block that is to be new
          refine fgtL_men ?_
          unfold opAppendV at h1
          split at h1
          · split at h1
            · split at h1
              · split at h1
                · split at h1
                  · rename_i hb hsr
                    cases h1
                    have sub : ∀ {l l' : List V}, V.menL p l = false → (∀ v ∈ l', v ∈ l) → V.menL p l' = false := fun h hs => menL_sub h hs
                    refine menL_of fun j x hj => ?_
                    rcases List.mem_append.1 (List.mem_of_getElem? hj) with hm | hm
                    · unfold baseV at hb
                      split at hb <;> try (cases hb; done)
                      · cases hb; cases hm
                      · split at hb
                        · split at hb
                          · rename_i hg
                            cases hb
                            obtain ⟨i, hi⟩ := List.getElem?_of_mem hm
                            exact menL_at (hf.sto _ _ hg).2 hi
                          · cases hb
                        · cases hb
                    · unfold srcV at hsr
                      split at hsr <;> try (cases hsr; done)
                      split at hsr
                      · split at hsr
                        · rename_i hg
                          cases hsr
                          obtain ⟨i, hi⟩ := List.getElem?_of_mem (List.mem_of_mem_drop (List.mem_of_mem_take hm))
                          exact menL_at (hf.sto _ _ hg).2 hi
                        · cases hsr
                      · cases hsr
                  · cases h1
                · cases h1
              · cases h1
            · cases h1
          · cases h1
      · rw [getB_fgtS] at hi
        split at hi
        · cases hi
        · obtain ⟨b0, hb0, rfl⟩ := Option.map_eq_some_iff.1 hi
          refine ⟨(hf.sto i b0 hb0).1, ?_⟩
          cases b0 with
          | vals cells => exact fgtL_men (hf.sto i _ hb0).2
          | mp ks vs => exact fgtL_men (hf.sto i _ hb0).2
          | data sz rows => trivial
    unfold Stp at h
    split at h
    · exact h.elim
    · exact hdo h
    · rename_i want b hg
      rcases bool_or b want with hb | hb
      · exact hdo (h.1 hb)
      · rw [h.2 hb]; exact ⟨put_menL hf.env rfl, hf.sto⟩
  · by_cases hi : im = true → cls o.op ≠ .c
    case neg =>
      have him : im = true := by
        cases im with
        | true => rfl
        | false => exact absurd (fun h => by cases h) hi
      subst him
      have hcl : cls o.op = .c := by
        cases hc : cls o.op <;> first | rfl | exact absurd (fun _ e => by cases hc.symm.trans e) hi
      have hdo : DoI P true o E E' → Fresh p E'.e E'.s := by
        intro h
        unfold DoI at h
        rw [hcl] at h
        obtain ⟨g, args, ids, s0, r, s1, hds, hco, hm0, hok, _, rfl⟩ := h
        have ok := okW_iff hok
        obtain ⟨q, hq0, hq⟩ := newId_some hds
        have hrho : ∀ j, badId ids.length s1 j = false → p (rho ids (newId o.dst) j) = false := fun j hj => by
          simp only [badId, Bool.or_eq_false_iff, decide_eq_false_iff_not] at hj
          by_cases hl : j < ids.length
          · rw [rho_lt hl]
            obtain ⟨c, hc⟩ := Option.isSome_iff_exists.1 (ok.all j hl)
            exact (hf.sto _ _ (hm0 _ (getB_mem hc))).1
          · rw [rho_ge hl]
            refine hp _ ?_
            simp only [mine, decide_eq_true_eq]
            omega
        have hren : ∀ x : V, x.men (badId ids.length s1) = false → (x.ren (rho ids (newId o.dst))).men p = false := fun x => by
          induction x using V.rec (motive_2 := fun l => V.menL (badId ids.length s1) l = false → V.menL p (V.renL (rho ids (newId o.dst)) l) = false) <;> simp_all [V.men, V.menL, V.ren, V.renL]
        have hren' : ∀ b : Blk, b.men (badId ids.length s1) = false → FreshB p (b.ren (rho ids (newId o.dst))) := fun b hb => by
          cases b with
          | vals cells =>
            refine menL_of fun j x hj => ?_
            rw [renL_at] at hj
            obtain ⟨y, hy, rfl⟩ := Option.map_eq_some_iff.1 hj
            exact hren y (menL_at (by simpa [Blk.men] using hb) hy)
          | mp ks vs =>
            refine menL_of fun j x hj => ?_
            rw [renL_at] at hj
            obtain ⟨y, hy, rfl⟩ := Option.map_eq_some_iff.1 hj
            exact hren y (menL_at (by simpa [Blk.men] using hb) hy)
          | data sz rows => trivial
        refine ⟨put_menL hf.env (hren _ ok.res), fun i blk hi => ?_⟩
        rw [getB_puts'] at hi
        split at hi
        · rename_i b hb
          cases hi
          obtain ⟨j, b0, h1, rfl, rfl⟩ := getB_renS hb
          refine ⟨hrho j ?_, hren' _ (ok.outs h1).2⟩
          have := (ok.outs h1).1
          simp only [badId, Bool.or_eq_false_iff, decide_eq_false_iff_not, Bool.and_eq_false_iff]
          exact ⟨by omega, .inr (by rw [h1]; rfl)⟩
        · rw [getB_dropS] at hi
          split at hi
          · cases hi
          · exact hf.sto i blk hi
      unfold Stp at h
      split at h
      · exact h.elim
      · exact hdo h
      · rename_i want b hg
        rcases bool_or b want with hb | hb
        · exact hdo (h.1 hb)
        · rw [h.2 hb]; exact ⟨put_menL hf.env rfl, hf.sto⟩
    rw [locG_of hx hi] at h
    obtain ⟨v, ext, hl, rfl⟩ := h
    have key : v.men p = false ∧ ∀ x ∈ ext, p x.1 = false ∧ FreshB p x.2 := by
      unfold LocG at hl
      split at hl
      · exact hl.elim
      · exact locX_fresh hf (fun _ => hp) hl
      · rename_i want b hg
        rcases bool_or b want with hb | hb
        · exact locX_fresh hf (fun _ => hp) (hl.1 hb)
        · obtain ⟨rfl, rfl⟩ := hl.2 hb; exact ⟨rfl, by simp⟩
    exact ⟨put_menL hf.env key.1, (hf.puts key.2).sto⟩

/-! the region -/
def Steps (P : Program) (im : Bool) (all : List Oper) : List Nat → St → St → Prop
  | [], E, E' => E' = E
  | i :: r, E, E' => ∃ o, all[i]? = some o ∧ ∃ E1, Stp P im all o E E1 ∧ Steps P im all r E1 E'
/-- the direct and the farther reasons why one stands behind another -/
def dep (all : List Oper) : Nat → Nat → Nat → Bool
  | 0, _, _ => false
  | n + 1, j, i => match all[i]? with
    | some o => o.after.toList.any fun e => Region.binds .any e && (e.on == j || dep all n j e.on)
    | none => false
def ahead (all : List Oper) : Bool := (List.range all.length).all fun i => match all[i]? with | some o => o.after.toList.all fun e => !Region.binds .any e || decide (e.on < i) | none => true
/-- what operations make stands in slots of their own -/
def alone (all : List Oper) : Bool := (List.range all.length).all fun j => match all[j]? with
  | some x => !makes x || (List.range all.length).all fun i => i == j || (match all[i]? with | some y => y.dst != x.dst | none => true)
  | none => true
def indep (im : Bool) (all : List Oper) : Bool := ahead all && (List.range all.length).all fun i => (List.range i).all fun j => dep all all.length j i || (match all[j]?, all[i]? with | some x, some y => comm im all x y | _, _ => true)
def ks (all : List Oper) : List Nat := all.filterMap fun o => if makes o then some (newId o.dst / 100) else none
def madeIn (all : List Oper) (i : Nat) : Bool := (ks all).contains (i / 100)

def FreshAll (all : List Oper) (R : List Nat) (E : St) : Prop := ∀ i ∈ R, ∀ o, all[i]? = some o → makes o = true → Fresh (mine o) E.e E.s
theorem newId_inj {d d' : Option Nat} (h : newId d / 100 = newId d' / 100) : d = d' := by
  cases d with
  | none =>
    cases d' with
    | none => rfl
    | some k => simp only [newId] at h; omega
  | some k =>
    cases d' with
    | none => simp only [newId] at h; omega
    | some k' =>
      simp only [newId] at h
      rw [show k = k' by omega]
theorem alone_mine {all : List Oper} (ha : alone all = true) {i j : Nat} (hij : i ≠ j) {x y : Oper} (hx : all[i]? = some x) (hy : all[j]? = some y) (hm : makes x = true) (k : Nat) (hk : mine y k = true) : mine x k = false := by
  have hi : i < all.length := (List.getElem?_eq_some_iff.1 hx).1
  have hj : j < all.length := (List.getElem?_eq_some_iff.1 hy).1
  have h1 := List.all_eq_true.1 ha i (List.mem_range.2 hi)
  rw [hx] at h1
  simp only [hm, Bool.not_true, Bool.false_or] at h1
  have h2 := List.all_eq_true.1 h1 j (List.mem_range.2 hj)
  rw [hy] at h2
  have h3 : y.dst ≠ x.dst := by
    simp only [Bool.or_eq_true, beq_iff_eq, bne_iff_ne] at h2
    rcases h2 with h2 | h2
    · exact absurd h2.symm hij
    · exact h2
  simp only [mine, decide_eq_true_eq, decide_eq_false_iff_not] at hk ⊢
  intro e
  exact h3 (newId_inj (hk.symm.trans e))
theorem freshAll_step {im : Bool} {all : List Oper} (ha : alone all = true) {R : List Nat} {E E' : St} {i : Nat} {o : Oper} (hi : all[i]? = some o) (hni : i ∉ R) (hf : FreshAll all R E) (h : Stp P im all o E E') : FreshAll all R E' := by
  intro j hj x hx hm
  exact stp_fresh (hf j hj x hx hm) (fun k hk => alone_mine ha (fun e : j = i => hni (e ▸ hj)) hx hi hm k hk) h
/-- one that may stand first is taken first -/
theorem to_front {im : Bool} {all : List Oper} (ha : alone all = true) {i : Nat} {o : Oper} (hi : all[i]? = some o) : ∀ {R : List Nat} {E E' : St}, R.Nodup → i ∈ R → FreshAll all R E → (∀ j ∈ R.takeWhile (· != i), ∀ x, all[j]? = some x → comm im all x o = true) → Steps P im all R E E' →
    ∃ E1, Stp P im all o E E1 ∧ Steps P im all (R.erase i) E1 E' := by
  intro R
  induction R with
  | nil => intro E E' _ h; cases h
  | cons j r ih =>
    intro E E' hnd hm hf hc hs
    obtain ⟨x, hx, E1, h1, h2⟩ := hs
    by_cases e : j = i
    · subst e
      rw [hx] at hi; cases hi
      exact ⟨E1, h1, by simpa using h2⟩
    · have hmr : i ∈ r := (List.mem_cons.1 hm).resolve_left (Ne.symm e)
      have hnd' := List.nodup_cons.1 hnd
      have hfr : FreshAll all r E1 := freshAll_step ha hx hnd'.1 (fun k hk => hf k (by simp [hk])) h1
      have htw : (j :: r).takeWhile (· != i) = j :: r.takeWhile (· != i) := by simp [e]
      rw [htw] at hc
      obtain ⟨E2, g1, g2⟩ := ih hnd'.2 hmr hfr (fun k hk => hc k (by simp [hk])) h2
      obtain ⟨E3, g3, g4⟩ := exchange (hc j (by simp) x hx) (hf j (by simp) x hx) (hf i hm o hi) (fun m1 m2 k hk => alone_mine ha (Ne.symm e) hi hx m2 k hk) h1 g1
      refine ⟨E3, g3, ?_⟩
      rw [List.erase_cons_tail (by simpa using e)]
      exact ⟨x, hx, E2, g4, g2⟩

section
variable {w0 : World} {L0 : Par} {X : Nat → Prop}
theorem stp_op {im : Bool} {all : List Oper} {i : Nat} {o : Oper} (hi : all[i]? = some o) {m : Nat → Option Nat} {a : Act} {w : World} {E E1 : St} (h : Rel w0 L0 X m E.e E.s a w) (hf : makes o = true → Fresh (mine o) E.e E.s) (hs : Stp P im all o E E1) {K : Act → World → Prop} {Q : Exit → Act → World → Prop}
    (hK : ∀ m' a' w', Rel w0 L0 X m' E1.e E1.s a' w' → K a' w') : wpOp P all.toArray Q i K a w := by
  unfold wpOp
  have hi' : all.toArray[i]? = some o := by simpa using hi
  simp only [hi']
  have gy : ∀ {g : Nat} {want : Bool} {q : Oper} {k : Nat} {u : Value}, o.guard = some (g, want) → all[g]? = some q → q.dst = some k → k < E.e.length → a.tmps.toList[k]? = some u → Region.wanted o (yielded all.toArray a.tmps) = ((match u with | .bool b => some b | _ => none) == some want) := by
    intro g want q k u h1 h2 h3 _ h4
    have h5 : a.tmps[k]? = some u := by simpa using h4
    unfold Region.wanted
    rw [h1]
    simp only [yielded, List.getElem?_toArray, h2, Option.bind_some, h3, h5]
    cases u <;> rfl
  unfold Stp at hs
  cases hg : guardOf all E.e o.guard with
  | none => rw [hg] at hs; exact hs.elim
  | some gq =>
    rw [hg] at hs
    unfold guardOf at hg
    cases hog : o.guard with
    | none =>
      rw [hog] at hg
      cases hg
      have : Region.wanted o (yielded all.toArray a.tmps) = true := by simp [Region.wanted, hog]
      rw [if_pos this]
      exact .inl (doI_wp h hf hs hK)
    | some q0 =>
      obtain ⟨g, want⟩ := q0
      rw [hog] at hg
      simp only at hg
      cases hag : all[g]? with
      | none => rw [hag] at hg; cases hg
      | some q =>
        rw [hag] at hg
        simp only at hg
        cases hqd : q.dst with
        | none => rw [hqd] at hg; cases hg
        | some k =>
          rw [hqd] at hg
          simp only at hg
          have hlt : k < E.e.length := by
            rcases Nat.lt_or_ge k E.e.length with h | h
            · exact h
            · rw [List.getD_eq_getElem?_getD, List.getElem?_eq_none h] at hg
              cases hg
          have hek : E.e[k]? = some (E.e.getD k .top) := by simp [List.getD_eq_getElem?_getD, List.getElem?_eq_getElem hlt]
          obtain ⟨u, hu, hur⟩ := h.env.get hek
          have hw := gy hog hag hqd hlt hu
          split at hg
          · rename_i b hb
            cases hg
            rw [hb] at hur
            have := hur.lit_inv; subst this
            simp only at hw hs
            rcases bool_or b want with e | e
            · subst e
              rw [if_pos (by rw [hw]; simp)]
              exact .inl (doI_wp h hf (hs.1 rfl) hK)
            · rw [if_neg (by rw [hw, e]; cases want <;> simp)]
              have := hs.2 e
              subst this
              exact hK m _ _ (h.put o.dst .int)
          · rename_i vs hb
            cases hg
            rw [hb] at hur
            have := hur.lit_inv; subst this
            simp only at hw hs
            rw [if_neg (by rw [hw]; simp)]
            have := hs.2 (by first | rfl | trivial)
            subst this
            exact hK m _ _ (h.put o.dst .int)
          · cases hg
theorem fresh_enter {all : List Oper} {e : Env} {s : Store} : FreshAll all (List.range all.length) ⟨V.fgtL (madeIn all) e, fgtS (madeIn all) s⟩ := by
  intro i _ o ho hm
  refine (fgt_fresh (madeIn all) e s).sub fun j hj => ?_
  have : newId o.dst / 100 ∈ ks all := by
    simp only [ks, List.mem_filterMap]
    exact ⟨o, List.mem_of_getElem? ho, by simp [hm]⟩
  simp only [mine, decide_eq_false_iff_not]
  intro e
  have : madeIn all j = true := by simp [madeIn, e, this]
  rw [this] at hj; cases hj
theorem Rel.fgt {m : Nat → Option Nat} {e : Env} {s : Store} {a : Act} {w : World} (h : Rel w0 L0 X m e s a w) (p : Nat → Bool) : Rel w0 L0 X m (V.fgtL p e) (fgtS p s) a w := by
  have hown : ∀ b, Own m (fgtS p s) b → Own m s b := by
    rintro b ⟨i, blk, h1, h2⟩
    rw [getB_fgtS] at h1
    split at h1
    · cases h1
    · obtain ⟨b0, hb0, _⟩ := Option.map_eq_some_iff.1 h1; exact ⟨i, b0, hb0, h2⟩
  have hL : ∀ b, Live X m (fgtS p s) b → Live X m s b ∨ w.heap.size ≤ b := fun b hl => .inl (hl.imp_right (hown b))
  have hk : CellsKept (Live X m s) w w := fun _ _ _ q => q
  have hz : SizesKept w w := fun _ cs _ _ q => ⟨cs, q, rfl⟩
  refine ⟨⟨h.env.len.trans (fgtL_len _ _).symm, fun j x v q1 q2 => ?_⟩, ⟨fun i blk hi => ?_, fun i j b q1 q2 q3 q4 => ?_⟩, h.dfr, h.ext, fun b hl => h.liv b (hown b hl), h.old, fun i hi hs => h.par i hi (by
    rw [getB_fgtS] at hs
    split at hs
    · cases hs
    · simpa using hs)⟩
  · rw [fgtL_at] at q1
    obtain ⟨y, hy, rfl⟩ := Option.map_eq_some_iff.1 q1
    exact VRel.mono' hk hz hL ((h.env.at_ j y v hy q2).fgt p)
  · rw [getB_fgtS] at hi
    split at hi
    · cases hi
    · obtain ⟨b0, hb0, rfl⟩ := Option.map_eq_some_iff.1 hi
      rcases h.sto.blk i b0 hb0 with ⟨b, r1, r2⟩ | ⟨r1, sz, rfl⟩
      · exact .inl ⟨b, r1, BRel.mono (p := fun _ => false) hk hz hL (fun _ _ => rfl) rfl (by cases b0 <;> first | exact menL_false _ | trivial) (r2.fgt p)⟩
      · exact .inr ⟨r1, sz, rfl⟩
  · have key : ∀ i, (getB (fgtS p s) i).isSome = true → (getB s i).isSome = true := fun i q => by
      rw [getB_fgtS] at q
      split at q
      · cases q
      · simpa using q
    exact h.sto.inj i j b q1 q2 (key i q3) (key j q4)
/-- in the text's order -/
theorem seq_ops {im : Bool} {all : List Oper} (ha : alone all = true) : ∀ {R : List Nat} {m : Nat → Option Nat} {a : Act} {w : World} {E E' : St}, R.Nodup → FreshAll all R E → Rel w0 L0 X m E.e E.s a w → Steps P im all R E E' → ∀ {Q : Exit → Act → World → Prop}, (∀ m' a' w', Rel w0 L0 X m' E'.e E'.s a' w' → Q .normal a' w') → wpOps P all.toArray Q R a w := by
  intro R
  induction R with
  | nil => intro m a w E E' _ _ h hs Q hQ; cases hs; exact hQ m a w h
  | cons i r ih =>
    intro m a w E E' hnd hf h hs Q hQ
    obtain ⟨o, hi, E1, h1, h2⟩ := hs
    have hnd' := List.nodup_cons.1 hnd
    rw [wpOps_cons]
    exact stp_op hi h (hf i (by simp) o hi) h1 fun m' a' w' h' => ih hnd'.2 (freshAll_step ha hi hnd'.1 (fun k hk => hf k (by simp [hk])) h1) h' h2 hQ

theorem dep_listed {all : List Oper} {listed : Array Bool} (hcl : ∀ i o, all[i]? = some o → listed.getD i true = true → i < all.length → ∀ e ∈ o.after.toList, Region.binds .any e = true → listed.getD e.on false = true) (hlen : listed.size = all.length) :
    ∀ n j i o, all[i]? = some o → (∀ e ∈ o.after.toList, Region.binds .any e = true → listed.getD e.on false = true) → dep all n j i = true → listed.getD j false = true := by
  intro n
  induction n with
  | zero => intro j i o _ _ h; cases h
  | succ n ih =>
    intro j i o hi hd h
    simp only [dep, hi, List.any_eq_true, Bool.and_eq_true, Bool.or_eq_true, beq_iff_eq] at h
    obtain ⟨e, he, hb, h | h⟩ := h
    · rw [← h]; exact hd e he hb
    · have hl := hd e he hb
      cases hx : all[e.on]? with
      | none => cases n <;> simp [dep, hx] at h
      | some o' =>
        have hlt := (List.getElem?_eq_some_iff.1 hx).1
        refine ih j e.on o' hx (hcl e.on o' hx ?_ hlt) h
        have : e.on < listed.size := by omega
        simp [Array.getD, this] at hl ⊢
        exact hl
def undone (n : Nat) (listed : Array Bool) : List Nat := (List.range n).filter fun i => !listed.getD i true
theorem undone_set {n : Nat} {listed : Array Bool} {i : Nat} (hl : listed.size = n) (hi : i < n) : undone n (listed.setIfInBounds i true) = (undone n listed).erase i := by
  unfold undone
  rw [List.Nodup.erase_eq_filter (List.nodup_range.filter _), List.filter_filter]
  refine List.filter_congr fun k hk => ?_
  have hk' := List.mem_range.1 hk
  by_cases e : i = k
  · subst e; simp [Array.getD, hl, hi]
  · have h1 : (listed.setIfInBounds i true).getD k true = listed.getD k true := by
      simp [Array.getD_eq_getD_getElem?, Array.getElem?_setIfInBounds, e]
    rw [h1]
    simp [Ne.symm e]
theorem any_ops {im : Bool} {all : List Oper} (ha : alone all = true) (hi : indep im all = true) : ∀ (fuel : Nat) {listed : Array Bool} {m : Nat → Option Nat} {a : Act} {w : World} {E E' : St}, listed.size = all.length → (undone all.length listed).length ≤ fuel →
    (∀ i o, all[i]? = some o → listed.getD i true = true → i < all.length → ∀ e ∈ o.after.toList, Region.binds .any e = true → listed.getD e.on false = true) →
    FreshAll all (undone all.length listed) E → Rel w0 L0 X m E.e E.s a w → Steps P im all (undone all.length listed) E E' → ∀ {Q : Exit → Act → World → Prop}, (∀ m' a' w', Rel w0 L0 X m' E'.e E'.s a' w' → Q .normal a' w') → wpAny P .any all.toArray Q fuel listed a w := by
  simp only [indep, Bool.and_eq_true] at hi
  obtain ⟨hah, hco⟩ := hi
  intro fuel
  have rdy : ∀ {listed : Array Bool}, listed.size = all.length → ∀ i, i ∈ Region.ready .any all.toArray listed ↔ i ∈ undone all.length listed ∧ ∃ o, all[i]? = some o ∧ ∀ e ∈ o.after.toList, Region.binds .any e = true → listed.getD e.on false = true := by
    intro listed hl i
    simp only [Region.ready, undone, List.mem_filter, List.size_toArray, List.getElem?_toArray, Bool.and_eq_true]
    constructor
    · rintro ⟨h1, h2, h3⟩
      refine ⟨⟨h1, h2⟩, ?_⟩
      cases ho : all[i]? with
      | none => rw [ho] at h3; cases h3
      | some o =>
        rw [ho] at h3
        refine ⟨o, rfl, fun e he hb => ?_⟩
        simp only [Option.map_some, Option.getD_some, Array.all_eq_true_iff_forall_mem] at h3
        have := h3 e (by simpa using he)
        simpa [hb] using this
    · rintro ⟨⟨h1, h2⟩, o, ho, h3⟩
      refine ⟨h1, h2, ?_⟩
      rw [ho]
      simp only [Option.map_some, Option.getD_some, Array.all_eq_true_iff_forall_mem]
      intro e he
      by_cases hb : Region.binds .any e = true
      · simp [h3 e (by simpa using he) hb]
      · simp [hb]
  -- as long as one is left, one may be taken
  have least : ∀ {listed : Array Bool}, listed.size = all.length → Region.ready .any all.toArray listed = [] → undone all.length listed = [] := by
    intro listed hl hr
    cases hu : undone all.length listed with
    | nil => rfl
    | cons i r =>
      exfalso
      have hmem : ∀ k, k ∈ undone all.length listed ↔ k < all.length ∧ listed.getD k true = false := fun k => by simp [undone]
      have hmin : ∀ k, k < i → listed.getD k false = true := by
        intro k hk
        have hii : i < all.length := ((hmem i).1 (by rw [hu]; simp)).1
        have hsort : (undone all.length listed).Pairwise (· < ·) := List.pairwise_lt_range.filter _
        rw [hu] at hsort
        have hks : k < listed.size := by omega
        cases hq : listed.getD k true with
        | true => simp [Array.getD, hks] at hq ⊢; exact hq
        | false =>
          have : k ∈ undone all.length listed := (hmem k).2 ⟨by omega, hq⟩
          rw [hu] at this
          rcases List.mem_cons.1 this with e | hm
          · omega
          · have := (List.pairwise_cons.1 hsort).1 k hm
            omega
      have hii : i < all.length := ((hmem i).1 (by rw [hu]; simp)).1
      have : i ∈ Region.ready .any all.toArray listed := (rdy hl i).2 ⟨by rw [hu]; simp, all[i], List.getElem?_eq_getElem hii, fun e he hb => by
        have h1 := List.all_eq_true.1 hah i (List.mem_range.2 hii)
        rw [List.getElem?_eq_getElem hii] at h1
        have h2 := List.all_eq_true.1 h1 e he
        simp only [hb, Bool.not_true, Bool.false_or, decide_eq_true_eq] at h2
        exact hmin _ h2⟩
      rw [hr] at this; cases this
  induction fuel with
  | zero =>
    intro listed m a w E E' hl hn hcl hf h hs Q hQ
    have hu : undone all.length listed = [] := List.eq_nil_of_length_eq_zero (by omega)
    rw [hu] at hs
    cases hs
    refine ⟨?_, hQ m a w h⟩
    cases hr : Region.ready .any all.toArray listed with
    | nil => rfl
    | cons i r =>
      have := ((rdy hl i).1 (by rw [hr]; simp)).1
      rw [hu] at this; cases this
  | succ n ih =>
    intro listed m a w E E' hl hn hcl hf h hs Q hQ
    refine ⟨fun hr => ?_, fun i hri => ?_⟩
    · have hu := least hl hr
      rw [hu] at hs
      cases hs
      exact hQ m a w h
    · obtain ⟨hu, o, ho, hd⟩ := (rdy hl i).1 hri
      have hii : i < all.length := (List.getElem?_eq_some_iff.1 ho).1
      have hnd : (undone all.length listed).Nodup := List.nodup_range.filter _
      have hsort : (undone all.length listed).Pairwise (· < ·) := List.pairwise_lt_range.filter _
      obtain ⟨E1, g1, g2⟩ := to_front ha ho hnd hu hf (fun j hj x hx => by
        have hju : j ∈ undone all.length listed := (List.takeWhile_prefix _).subset hj
        have hne : j ≠ i := by have := List.all_eq_true.1 List.all_takeWhile j hj; simpa using this
        have hji : j < i := by
          have : ∀ (R : List Nat), R.Pairwise (· < ·) → i ∈ R → j ∈ R.takeWhile (· != i) → j < i := by
            intro R
            induction R with
            | nil => intro _ h; cases h
            | cons k r ih =>
              intro hp hm hj
              have hp' := List.pairwise_cons.1 hp
              by_cases e : k = i
              · simp [e] at hj
              · have hmr : i ∈ r := (List.mem_cons.1 hm).resolve_left (Ne.symm e)
                simp only [List.takeWhile_cons, bne_iff_ne, ne_eq, e, not_false_eq_true, if_true, List.mem_cons] at hj
                rcases hj with rfl | hj
                · exact hp'.1 i hmr
                · exact ih hp'.2 hmr hj
          exact this _ hsort hu hj
        have h1 := List.all_eq_true.1 (List.all_eq_true.1 hco i (List.mem_range.2 hii)) j (List.mem_range.2 hji)
        simp only [hx, ho, Bool.or_eq_true] at h1
        rcases h1 with h1 | h1
        · have := dep_listed hcl hl _ j i o ho hd h1
          have hjl : j < listed.size := by omega
          have h2 : listed.getD j true = false := by have := hju; simp only [undone, List.mem_filter, Bool.not_eq_true'] at this; exact this.2
          simp [Array.getD, hjl] at this h2
          rw [this] at h2; cases h2
        · exact h1) hs
      refine stp_op ho h (hf i hu o ho) g1 fun m' a' w' h' => ?_
      have hue := undone_set (listed := listed) hl hii
      refine ih (by simpa using hl) ?_ ?_ ?_ h' (by rw [hue]; exact g2) hQ
      · rw [hue, List.length_erase_of_mem hu]; omega
      · intro k x hx hk hkl e he hb
        by_cases e1 : i = k
        · subst e1
          rw [ho] at hx; cases hx
          have := hd e he hb
          have hne : e.on < all.length := by
            have hlt : e.on < listed.size := by
              rcases Nat.lt_or_ge e.on listed.size with h | h
              · exact h
              · simp [Array.getD, Nat.not_lt.2 h] at this
            omega
          simp [Array.getD_eq_getD_getElem?, Array.getElem?_setIfInBounds] at this ⊢
          split
          · split <;> simp_all
          · exact this
        · have hk' : listed.getD k true = true := by
            simpa [Array.getD_eq_getD_getElem?, Array.getElem?_setIfInBounds, e1] using hk
          have := hcl k x hx hk' hkl e he hb
          simp [Array.getD_eq_getD_getElem?, Array.getElem?_setIfInBounds] at this ⊢
          split
          · split <;> simp_all
          · exact this
      · rw [hue]
        have hf' : FreshAll all ((undone all.length listed).erase i) E := fun k hk => hf k (List.mem_of_mem_erase hk)
        exact freshAll_step ha ho (List.Nodup.not_mem_erase hnd) hf' g1
end
end Go.Fw
end
section
namespace Go.Fw
variable {P : Program}

def RunP (P : Program) (w0 : World) (L0 : Par) (X : Nat → Prop) (c : Code) (E : St) (Q : Exit → St → Prop) : Prop :=
  ∀ {m : Nat → Option Nat} {a : Act} {w : World}, Rel w0 L0 X m E.e E.s a w → c.wp P (fun x a' w' => ∃ E' m', Q x E' ∧ Rel w0 L0 X m' E'.e E'.s a' w') a w
/-- FROM THIS DESCRIPTION THE CODE COMES TO ONE OF WHICH Q HOLDS. -/
def Run (P : Program) (c : Code) (E : St) (Q : Exit → St → Prop) : Prop := ∀ (w0 : World) (L0 : Par) (X : Nat → Prop), RunP P w0 L0 X c E Q

def Then (R : St → Prop) (Q : Exit → St → Prop) : Exit → St → Prop
  | .normal, E => R E
  | x, E => Q x E
theorem Then_normal {R : St → Prop} {Q : Exit → St → Prop} {E : St} : Then R Q .normal E = R E := rfl
theorem Then_exit {R : St → Prop} {Q : Exit → St → Prop} {E : St} {i : Nat} : Then R Q (.exit i) E = Q (.exit i) E := rfl
theorem Then_goto {R : St → Prop} {Q : Exit → St → Prop} {E : St} {i : Nat} : Then R Q (.goto i) E = Q (.goto i) E := rfl
theorem Then_ret {R : St → Prop} {Q : Exit → St → Prop} {E : St} : Then R Q .ret E = Q .ret E := rfl
def Blok (id : Nat) (Q : Exit → St → Prop) : Exit → St → Prop
  | .exit i, E => if i = id then Q .normal E else Q (.exit i) E
  | x, E => Q x E
theorem Blok_normal {Q : Exit → St → Prop} {id : Nat} {E : St} : Blok id Q .normal E = Q .normal E := rfl
theorem Blok_exit {Q : Exit → St → Prop} {id i : Nat} {E : St} : Blok id Q (.exit i) E = if i = id then Q .normal E else Q (.exit i) E := rfl
theorem Blok_goto {Q : Exit → St → Prop} {id i : Nat} {E : St} : Blok id Q (.goto i) E = Q (.goto i) E := rfl
theorem Blok_ret {Q : Exit → St → Prop} {id : Nat} {E : St} : Blok id Q .ret E = Q .ret E := rfl

section
variable {w0 : World} {L0 : Par} {X : Nat → Prop} {Q Q' : Exit → St → Prop} {E : St}
theorem RunP.mono {c : Code} (h : RunP P w0 L0 X c E Q) (hq : ∀ x E, Q x E → Q' x E) : RunP P w0 L0 X c E Q' := fun hr => wp_mono (h hr) fun x a w ⟨E', m', q, r⟩ => ⟨E', m', hq _ _ q, r⟩
end
variable {Q Q' : Exit → St → Prop} {E : St}
theorem Run.mono {c : Code} (h : Run P c E Q) (hq : ∀ x E, Q x E → Q' x E) : Run P c E Q' := fun w0 L0 X => RunP.mono (h w0 L0 X) hq
theorem Run.skip (h : Q .normal E) : Run P .skip E Q := fun _ _ _ _ _ _ hr => wp_skip ⟨E, _, h, hr⟩
theorem Run.label {l : Nat} (h : Q .normal E) : Run P (.label l) E Q := fun _ _ _ _ _ _ hr => wp_label ⟨E, _, h, hr⟩
theorem Run.exit {id : Nat} (h : Q (.exit id) E) : Run P (.exit id) E Q := fun _ _ _ _ _ _ hr => wp_exit ⟨E, _, h, hr⟩
theorem Run.goto {l : Nat} (h : Q (.goto l) E) : Run P (.goto l) E Q := fun _ _ _ _ _ _ hr => wp_goto ⟨E, _, h, hr⟩
theorem Run.ret (h : Q .ret E) : Run P .ret E Q := fun _ _ _ _ _ _ hr => wp_ret ⟨E, _, h, hr⟩
theorem Run.seq {x y : Code} (h : Run P x E (Then (fun E' => Run P y E' Q) Q)) : Run P (.seq x y) E Q := fun w0 L0 X m a w hr => by
  refine wp_seq (wp_mono (h w0 L0 X hr) fun x a' w' hx => ?_)
  obtain ⟨E', m', q, r⟩ := hx
  cases x with
  | normal => exact q w0 L0 X r
  | exit i => exact ⟨E', m', q, r⟩
  | goto l => exact ⟨E', m', q, r⟩
  | ret => exact ⟨E', m', q, r⟩
  | panic ch => exact ⟨E', m', q, r⟩
  | outgrown => exact ⟨E', m', q, r⟩
theorem Run.cond {c : Operand} {x y : Code} {b : Bool} (hc : look E.e c = .d (.lit (.bool b))) (ht : b = true → Run P x E Q) (hf : b = false → Run P y E Q) : Run P (.cond c x y) E Q := fun w0 L0 X m a w hr => by
  have h1 := hr.look c
  rw [hc] at h1
  have h2 := h1.lit_inv
  cases b
  · exact wp_cond_false h2 (hf rfl w0 L0 X hr)
  · exact wp_cond_true h2 (ht rfl w0 L0 X hr)
theorem Run.block {id : Nat} {c : Code} (h : Run P c E (Blok id Q)) : Run P (.block id c) E Q := fun w0 L0 X m a w hr => by
  refine wp_block (wp_mono (h w0 L0 X hr) fun x a' w' hx => ?_)
  obtain ⟨E', m', q, r⟩ := hx
  cases x with
  | normal => exact ⟨E', m', q, r⟩
  | exit i =>
    simp only [Blok_exit] at q
    simp only [Exit.inBlock]
    split at q
    · rename_i e; rw [if_pos e]; exact ⟨E', m', q, r⟩
    · rename_i e; rw [if_neg e]; exact ⟨E', m', q, r⟩
  | goto l => exact ⟨E', m', q, r⟩
  | ret => exact ⟨E', m', q, r⟩
  | panic ch => exact ⟨E', m', q, r⟩
  | outgrown => exact ⟨E', m', q, r⟩

/-! less told -/
def leE : List V → List V → Prop
  | [], [] => True
  | a :: r, b :: t => (b = .top ∨ a = b) ∧ leE r t
  | _, _ => False
def leS (s : Store) : Store → Prop
  | [] => True
  | (i, b) :: r => getB s i = some b ∧ leS s r
def Le (E F : St) : Prop := leE E.e F.e ∧ leS E.s F.s
theorem leE_all {a b : List V} (h : leE a b) : b.length = a.length ∧ ∀ (j : Nat) (x : V), b[j]? = some x → x = .top ∨ a[j]? = some x := by
  induction a generalizing b with
  | nil => cases b <;> simp_all [leE]
  | cons v r ih =>
    cases b with
    | nil => exact h.elim
    | cons u t =>
      obtain ⟨h1, h2⟩ := h
      obtain ⟨h3, h4⟩ := ih h2
      refine ⟨by simp [h3], fun j x hj => ?_⟩
      cases j with
      | zero => simp at hj; subst hj; rcases h1 with h1 | h1 <;> simp [h1]
      | succ j => simp at hj ⊢; exact h4 j x hj
theorem leS_get {s t : Store} (h : leS s t) {i : Nat} {b : Blk} (hi : getB t i = some b) : getB s i = some b := by
  induction t with
  | nil => cases hi
  | cons x r ih =>
    obtain ⟨j, c⟩ := x
    simp only [getB] at hi
    split at hi
    · rename_i e; subst e; cases hi; exact h.1
    · exact ih h.2 hi
theorem Rel.le {w0 : World} {L0 : Par} {X : Nat → Prop} {m : Nat → Option Nat} {F : St} {a : Act} {w : World} (h : Rel w0 L0 X m E.e E.s a w) (hl : Le E F) : Rel w0 L0 X m F.e F.s a w := by
  obtain ⟨h1, h2⟩ := leE_all hl.1
  have hown : ∀ b, Own m F.s b → Own m E.s b := by
    rintro b ⟨i, blk, g1, g2⟩
    exact ⟨i, blk, leS_get hl.2 g1, g2⟩
  have hL : ∀ b, Live X m F.s b → Live X m E.s b ∨ w.heap.size ≤ b := fun b hb => .inl (hb.imp_right (hown b))
  have hk : CellsKept (Live X m E.s) w w := fun _ _ _ q => q
  have hz : SizesKept w w := fun _ cs _ _ q => ⟨cs, q, rfl⟩
  refine ⟨⟨h.env.len.trans h1.symm, fun j x v q1 q2 => ?_⟩, ⟨fun i blk hi => ?_, fun i j b q1 q2 q3 q4 => ?_⟩, h.dfr, h.ext, fun b hb => h.liv b (hown b hb), h.old, fun i hi hs => h.par i hi (by
    obtain ⟨c, hc⟩ := Option.isSome_iff_exists.1 hs
    rw [leS_get hl.2 hc]; rfl)⟩
  · rcases h2 j x q1 with rfl | g
    · exact .top v
    · exact VRel.mono' hk hz hL (h.env.at_ j x v g q2)
  · rcases h.sto.blk i blk (leS_get hl.2 hi) with ⟨b, r1, r2⟩ | r
    · exact .inl ⟨b, r1, BRel.mono (p := fun _ => false) hk hz hL (fun _ _ => rfl) rfl (by cases blk <;> first | exact menL_false _ | trivial) r2⟩
    · exact .inr r
  · have key : ∀ i, (getB F.s i).isSome = true → (getB E.s i).isSome = true := fun i q => by
      obtain ⟨c, hc⟩ := Option.isSome_iff_exists.1 q
      rw [leS_get hl.2 hc]; rfl
    exact h.sto.inj i j b q1 q2 (key i q3) (key j q4)
theorem Run.le {c : Code} {F : St} (hl : Le E F) (h : Run P c F Q) : Run P c E Q := fun w0 L0 X m a w hr => h w0 L0 X (hr.le hl)
/-- a nil slice as one of the call's own -/
theorem Run.virt {c : Code} {e : Env} {s : Store} (k id sz : Nat) (h90 : 90 ≤ id) (hk : e.getD k .top = vnil ∨ e.getD k .top = .d (.sl false [])) (h : Run P c ⟨(V.fgtL (· == id) e).set k (.rs id sz 0 0), putB (fgtS (· == id) s) id (.data sz [])⟩ Q) (hn : e.getD k .top = vnil) : Run P c ⟨e, s⟩ Q := fun w0 L0 X m a w hr => by
  have hp : hitO none id = (· == id) := by funext i; simp [hitO]
  have h1 := hr.swap h90 (k := none) (id := id) (ob := none) (blk := .data sz []) (w' := w) (by simp) (fun _ _ _ q => q) (fun _ cs _ _ q => ⟨cs, q, rfl⟩) (fun _ _ _ => rfl) rfl rfl rfl (Nat.le_refl _) (.inl ⟨rfl, sz, rfl⟩)
  rw [hp] at h1
  have hv := hr.look (.tmp k)
  simp only [look, hn] at hv
  have hv := hv.lit_inv
  have hlt : k < e.length := by
    rcases Nat.lt_or_ge k e.length with h | h
    · exact h
    · rw [List.getD_eq_getElem?_getD, List.getElem?_eq_none h] at hn; cases hn
  have hlt' : k < a.tmps.size := by have := hr.env.len; simp at this; omega
  have e1 : a.put (some k) (.slice none 0 0) = a := by
    cases a with
    | mk tmps defers =>
      simp only [Act.eval] at hv
      simp only [Act.put]
      congr 1
      apply Array.ext
      · simp
      · intro j h1 h2
        by_cases e : k = j
        · subst e
          have e2 : tmps.getD k undef = tmps[k] := by simp [Array.getD, h2]
          rw [e2] at hv
          simp [hv]
        · rw [Array.getElem_setIfInBounds, if_neg e]
  have h2 := h1.put (some k) (x := .rs id sz 0 0) (v := .slice none 0 0) (.rsE id sz)
  rw [e1] at h2
  exact h w0 L0 X h2
theorem wp_loop_by {α : Type} {c : Code} {Q : Exit → Act → World → Prop} (J : α → Act → World → Prop) (μ : α → Nat) (round : ∀ x a w, J x a w → c.wp P (Exit.then (fun a' w' => ∃ y, J y a' w' ∧ μ y < μ x) Q) a w) {x0 : α} {a : Act} {w : World} (h0 : J x0 a w) : (Code.loop c).wp P Q a w := by
  intro b k cs
  have key : ∀ n x a w, μ x = n → J x a w → ∃ e a' w', Q e a' w' ∧ Arrives P (lone (b.at a (.code c :: .inLoop c :: k)) cs w) b k cs e a' w' := by
    intro n
    induction n using Nat.strongRecOn with
    | _ n ih =>
      intro x a w hn hI
      obtain ⟨e, a₁, w₁, hq, harr⟩ := round x a w hI b (.inLoop c :: k) cs
      cases e with
      | normal =>
        obtain ⟨y, hI₁, hlt⟩ := hq
        obtain ⟨e₂, a₂, w₂, hq₂, harr₂⟩ := ih (μ y) (hn ▸ hlt) y a₁ w₁ rfl hI₁
        exact ⟨e₂, a₂, w₂, hq₂, .of_steps (Steps.trans harr (.one step_inLoop)) harr₂⟩
      | exit id => exact ⟨_, a₁, w₁, hq, .pass (x := .inLoop c) rfl (fun _ _ => .inl (by simp)) harr⟩
      | goto l => exact ⟨_, a₁, w₁, hq, .pass (x := .inLoop c) rfl (fun _ _ => .inl (by simp)) harr⟩
      | ret => exact ⟨_, a₁, w₁, hq, .pass (x := .inLoop c) rfl (fun _ _ => .inl (by simp)) harr⟩
      | panic ch => exact ⟨_, a₁, w₁, hq, .pass (x := .inLoop c) rfl (fun _ _ => .inl (by simp)) harr⟩
      | outgrown => exact ⟨_, a₁, w₁, hq, .pass (x := .inLoop c) rfl (fun _ _ => .inl (by simp)) harr⟩
  obtain ⟨e, a', w', hq, harr⟩ := key _ x0 a w rfl h0
  exact ⟨e, a', w', hq, .of_steps (.one step_loop) harr⟩
/-- A LOOP: what holds at each round's head, by what stands in F. -/
theorem Run.loop {c : Code} {α : Type} (F : α → St) (I : α → Prop) (μ : α → Nat) (x0 : α) (h0 : I x0) (hE : Le E (F x0))
    (hstep : ∀ x, I x → Run P c (F x) (Then (fun E' => ∃ y, I y ∧ μ y < μ x ∧ Le E' (F y)) Q)) : Run P (.loop c) E Q := fun w0 L0 X m a w hr => by
  refine wp_loop_by (fun x a w => I x ∧ ∃ m, Rel w0 L0 X m (F x).e (F x).s a w) μ (fun x a w hx => ?_) (x0 := x0) ⟨h0, m, hr.le hE⟩
  obtain ⟨hI, m, hr⟩ := hx
  refine wp_mono (hstep x hI w0 L0 X hr) fun ex a' w' hx => ?_
  obtain ⟨E', m', q, r⟩ := hx
  cases ex with
  | normal =>
    obtain ⟨y, hy, hlt, hle⟩ := q
    exact ⟨y, ⟨hy, m', r.le hle⟩, hlt⟩
  | exit i => exact ⟨E', m', q, r⟩
  | goto l => exact ⟨E', m', q, r⟩
  | ret => exact ⟨E', m', q, r⟩
  | panic ch => exact ⟨E', m', q, r⟩
  | outgrown => exact ⟨E', m', q, r⟩

/-! a region -/
def enterE (all : List Oper) (e : Env) : Env := if (ks all).isEmpty then e else V.fgtL (madeIn all) e
def enterS (all : List Oper) (s : Store) : Store := if (ks all).isEmpty then s else fgtS (madeIn all) s
def okReg (im draw : Bool) (all : List Oper) : Bool := alone all && (!draw || indep im all)
theorem ks_nil {all : List Oper} (h : (ks all).isEmpty = true) : ∀ o ∈ all, makes o = false := by
  intro o ho
  cases hm : makes o with
  | false => rfl
  | true =>
    have : newId o.dst / 100 ∈ ks all := by simp only [ks, List.mem_filterMap]; exact ⟨o, ho, by simp [hm]⟩
    rw [List.isEmpty_iff.1 h] at this
    cases this
theorem Run.region {im : Bool} {id : Nat} {ops : Array Oper} {draw : Bool} (hm : P.follows .mixedOrders = true) (hk : okReg im draw ops.toList = true) {e : Env} {s : Store} {E' : St}
    (hs : Steps P im ops.toList (List.range ops.toList.length) ⟨enterE ops.toList e, enterS ops.toList s⟩ E') (hq : Q .normal E') : Run P (.region id ops draw) ⟨e, s⟩ Q := fun w0 L0 X m a w hr => by
  simp only [okReg, Bool.and_eq_true, Bool.or_eq_true, Bool.not_eq_true'] at hk
  obtain ⟨ha, hd⟩ := hk
  have henter : Rel w0 L0 X m (enterE ops.toList e) (enterS ops.toList s) a w ∧ FreshAll ops.toList (List.range ops.toList.length) ⟨enterE ops.toList e, enterS ops.toList s⟩ := by
    unfold enterE enterS
    by_cases h : (ks ops.toList).isEmpty = true
    · simp only [h, if_true]
      refine ⟨hr, fun i _ o ho hm => ?_⟩
      have := ks_nil h o (List.mem_of_getElem? ho)
      rw [this] at hm; cases hm
    · simp only [h, if_false]
      exact ⟨hr.fgt _, fresh_enter⟩
  obtain ⟨h1, h2⟩ := henter
  have fin : ∀ m' a' w', Rel w0 L0 X m' E'.e E'.s a' w' → ∃ E'' m'', Q .normal E'' ∧ Rel w0 L0 X m'' E''.e E''.s a' w' := fun m' a' w' h => ⟨E', m', hq, h⟩
  cases draw with
  | false =>
    refine wp_region ?_
    have := seq_ops (P := P) (w0 := w0) (L0 := L0) (X := X) ha List.nodup_range h2 h1 hs (Q := fun x a' w' => ∃ E' m', Q x E' ∧ Rel w0 L0 X m' E'.e E'.s a' w') fin
    simpa using this
  | true =>
    have hi : indep im ops.toList = true := by rcases hd with h | h; exact absurd h (by simp); exact h
    refine wp_region_any hm ?_
    have hu : undone ops.toList.length (Array.replicate ops.size false) = List.range ops.toList.length := by
      unfold undone
      rw [List.filter_eq_self]
      intro k hk
      have := List.mem_range.1 hk
      simp at this
      simp [Array.getD, this]
    have h3 : Rel w0 L0 X m (enterE ops.toList e) (enterS ops.toList s) a { w with drawn := w.drawn + 1 } := by
      have hk : CellsKept (Live X m (enterS ops.toList s)) w { w with drawn := w.drawn + 1 } := fun _ _ _ q => q
      have hz : SizesKept w { w with drawn := w.drawn + 1 } := fun _ cs _ _ q => ⟨cs, q, rfl⟩
      refine ⟨⟨h1.env.len, fun j x v q1 q2 => VRel.mono' hk hz (fun b hb => .inl hb) (h1.env.at_ j x v q1 q2)⟩, ⟨fun i blk hi => ?_, h1.sto.inj⟩, h1.dfr, ⟨h1.ext.os, h1.ext.tape, h1.ext.output, h1.ext.size, h1.ext.block, h1.ext.sizes⟩, h1.liv, h1.old, h1.par⟩
      rcases h1.sto.blk i blk hi with ⟨b, r1, r2⟩ | r
      · exact .inl ⟨b, r1, BRel.mono (p := fun _ => false) hk hz (fun b hb => .inl hb) (fun _ _ => rfl) rfl (by cases blk <;> first | exact menL_false _ | trivial) r2⟩
      · exact .inr r
    have := any_ops (P := P) (w0 := w0) (L0 := L0) (X := X) ha hi ops.size (listed := Array.replicate ops.size false) (by simp) (by rw [hu]; simp) (fun i o ho hl hlt e he hb => by
      simp at hlt
      simp [Array.getD, hlt] at hl) (by rw [hu]; exact h2) h3 (by rw [hu]; exact hs) (Q := fun x a' w' => ∃ E' m', Q x E' ∧ Rel w0 L0 X m' E'.e E'.s a' w') fin
    simpa using this

/-! the operations one by one -/
/-- a call stands here -/
def ECall (P : Program) (g : FuncId) (args : List V) (dst : Option Nat) (k : Env → Store → Prop) (e : Env) (s : Store) : Prop := ∃ r τ, dst.isSome = true ∧ Snd P g args r τ ∧ okIds r τ = true ∧ k (put e dst (r.shift (newId dst))) (addS s (newId dst) τ)
/-- a call stands here that only reads what it is given, and answers a number, a bool, a string -/
def ECallF (P : Program) (g : FuncId) (args : List V) (dst : Option Nat) (k : Env → Store → Prop) (e : Env) (s : Store) : Prop := ∃ x, dst.isSome = true ∧ V.menL (fun _ => true) (V.finL [] s args) = false ∧ Snd P g (V.finL [] s args) (.d (.lit x)) [] ∧ k (put e dst (.d (.lit x))) s
/-- a call stands here that is given blocks -/
def ECallW (P : Program) (g : FuncId) (args : List V) (dst : Option Nat) (k : Env → Store → Prop) (e : Env) (s : Store) : Prop := ∃ ids args0 s0 r s1, dst.isSome = true ∧ args = V.renL (rho ids (newId dst)) args0 ∧ (∀ x ∈ s0, getB s (ids.getD x.1 0) = some (x.2.ren (rho ids (newId dst)))) ∧
  okW ids s0 args0 r s1 = true ∧ SndW P g args0 s0 r s1 ∧ k (put e dst (r.ren (rho ids (newId dst)))) (puts (dropS (lost ids s1) s) (renS (rho ids (newId dst)) s1))
def exec (P : Program) (im : Bool) (o : Oper) (k : Env → Store → Prop) (e : Env) (s : Store) : Prop := match cls o.op with
  | .p => match opP P o.op (look e) with | some (c, v) => c ∧ (c → k (put e o.dst v) s) | none => False
  | .r => match opR P o.op (look e) s with | some (c, v) => c ∧ (c → k (put e o.dst v) s) | none => False
  | .a => match o.dst with
    | some d => match opA P o.op (look e) (100 * (d + 1)) with | some (c, v, blk) => c ∧ (c → k (put e (some d) v) (putB s (100 * (d + 1)) blk)) | none => False
    | none => False
  | .w => match opW P o.op (look e) s with | some (c, s') => c ∧ (c → k (put e o.dst vundef) s') | none => False
  | .x => match o.op with
    | .call cl => match cl.callee with
      | .builtin .append => match opAppend P cl (look e) s with
        | some (kk, c, sz, all) => c ∧ (c → k (put (V.fgtL (hitO kk (newId o.dst)) e) o.dst (.rs (newId o.dst) sz 0 all.length)) (putB (fgtS (hitO kk (newId o.dst)) s) (newId o.dst) (.data sz all)))
        | none => match opAppendV P cl (look e) s with
          | some (kk, c, sz, n, all) => c ∧ (c → k (put (V.fgtL (hitO kk (newId o.dst)) e) o.dst (.rs (newId o.dst) sz 0 n)) (putB (fgtS (hitO kk (newId o.dst)) s) (newId o.dst) (.vals (V.fgtL (hitO kk (newId o.dst)) all))))
          | none => False
      | _ => False
    | _ => False
  | .c => match callOf o.op (look e) with
    | some (g, args) => match im with
      | true => ECallW P g args o.dst k e s
      | false => if V.menL (fun _ => true) args = false then ECall P g args o.dst k e s else ECallF P g args o.dst k e s
    | none => False
theorem exec_do {im : Bool} {o : Oper} {k : Env → Store → Prop} {e : Env} {s : Store} (h : exec P im o k e s) : ∃ E', DoI P im o ⟨e, s⟩ E' ∧ k E'.e E'.s := by
  unfold exec at h
  unfold DoI Do Loc
  cases hc : cls o.op <;> rw [hc] at h <;> simp only at h ⊢
  · split at h
    · rename_i c v hv; exact ⟨_, ⟨v, s, ⟨c, hv, h.1, rfl⟩, rfl⟩, h.2 h.1⟩
    · exact h.elim
  · split at h
    · rename_i c v hv; exact ⟨_, ⟨v, s, ⟨c, hv, h.1, rfl⟩, rfl⟩, h.2 h.1⟩
    · exact h.elim
  · split at h
    · rename_i d hd
      split at h
      · rename_i c v blk hv
        refine ⟨⟨put e (some d) v, putB s (100 * (d + 1)) blk⟩, ⟨v, _, ⟨c, blk, by rw [hd]; rfl, by rw [hd]; exact hv, h.1, rfl⟩, ?_⟩, h.2 h.1⟩
        rw [hd]; rfl
      · exact h.elim
    · exact h.elim
  · split at h
    · rename_i c s' hv; exact ⟨_, ⟨c, s', hv, h.1, rfl⟩, h.2 h.1⟩
    · exact h.elim
  · split at h
    · rename_i cl ho
      split at h
      · rename_i hcal
        split at h
        · rename_i kk c sz all hv
          exact ⟨_, ⟨cl, ho, hcal, kk, c, sz, _, _, .inl ⟨all, hv, rfl, rfl⟩, h.1, rfl⟩, h.2 h.1⟩
        · split at h
          · rename_i kk c sz n all hv
            exact ⟨_, ⟨cl, ho, hcal, kk, c, sz, n, _, .inr ⟨all, hv, rfl⟩, h.1, rfl⟩, h.2 h.1⟩
          · exact h.elim
      · exact h.elim
    · exact h.elim
  · split at h
    · rename_i g args hv
      cases im with
      | false =>
        simp only at h ⊢
        split at h
        · rename_i hp
          obtain ⟨r, τ, h1, h2, h3, h4⟩ := h
          exact ⟨_, ⟨_, _, ⟨g, args, args, r, τ, h1, hv, .inl rfl, hp, h2, h3, rfl, rfl⟩, rfl⟩, h4⟩
        · obtain ⟨x, h1, hp, h2, h4⟩ := h
          exact ⟨_, ⟨_, _, ⟨g, args, _, _, [], h1, hv, .inr ⟨rfl, x, rfl, rfl⟩, hp, h2, rfl, rfl, rfl⟩, rfl⟩, h4⟩
      | true =>
        simp only at h ⊢
        obtain ⟨ids, args0, s0, r, s1, h1, rfl, h3, h4, h5, h6⟩ := h
        exact ⟨_, ⟨g, args0, ids, s0, r, s1, h1, hv, h3, h4, h5, rfl⟩, h6⟩
    · exact h.elim
/-- two ways on, by what a guard holds -/
def GSplit (b want : Bool) (A B : Prop) : Prop := (b = want → A) ∧ (b = !want → B)
theorem gsplit {b want : Bool} {A B : Prop} (h1 : b = want → A) (h2 : b = !want → B) : GSplit b want A B := ⟨h1, h2⟩
theorem gs_tt {A B : Prop} : GSplit true true A B = A := by simp [GSplit]
theorem gs_ff {A B : Prop} : GSplit false false A B = A := by simp [GSplit]
theorem gs_tf {A B : Prop} : GSplit true false A B = B := by simp [GSplit]
theorem gs_ft {A B : Prop} : GSplit false true A B = B := by simp [GSplit]
@[congr] theorem gs_congr {b b' want : Bool} {A B : Prop} (h : b = b') : GSplit b want A B = GSplit b' want A B := by rw [h]
theorem set_same {e : Env} {k : Nat} {v : V} (h : e.getD k .top = v) : e.set k v = e := by
  apply List.ext_getElem?
  intro j
  rw [List.getElem?_set]
  split
  · rename_i e1; subst e1
    split
    · rename_i hlt; rw [← h]; simp [List.getD_eq_getElem?_getD, List.getElem?_eq_getElem hlt]
    · rename_i hlt; rw [List.getElem?_eq_none (by omega)]
  · rfl
/-- what the guard's slot holds where it is not as wanted -/
def setG (e : Env) (k : Nat) (want : Bool) : Env := match e.getD k .top with
  | .d (.lit (.bool _)) => e.set k (.d (.lit (.bool !want)))
  | _ => e
def EvO (P : Program) (im : Bool) (all : List Oper) (K : Env → Store → Prop) : List Oper → Env → Store → Prop
  | [], e, s => K e s
  | o :: os, e, s => match guardOf all e o.guard with
    | none => False
    | some none => exec P im o (EvO P im all K os) e s
    | some (some (k, want, b)) => GSplit b want (exec P im o (EvO P im all K os) (e.set k (.d (.lit (.bool want)))) s) (EvO P im all K os (put (setG e k want) o.dst vundef) s)
theorem evO_steps {im : Bool} {all : List Oper} {K : Env → Store → Prop} : ∀ {os : List Oper} {n : Nat} {e : Env} {s : Store}, all.drop n = os → EvO P im all K os e s → ∃ E', Steps P im all (List.range' n os.length) ⟨e, s⟩ E' ∧ K E'.e E'.s := by
  intro os
  induction os with
  | nil => intro n e s _ h; exact ⟨⟨e, s⟩, rfl, h⟩
  | cons o os ih =>
    intro n e s hd h
    have ho : all[n]? = some o := by
      have := congrArg List.head? hd
      simpa [List.head?_drop] using this
    have hd' : all.drop (n + 1) = os := by rw [← List.drop_drop, hd]; rfl
    have fin : ∀ {e' : Env} {s' : Store}, Stp P im all o ⟨e, s⟩ ⟨e', s'⟩ → EvO P im all K os e' s' → ∃ E', Steps P im all (List.range' n (o :: os).length) ⟨e, s⟩ E' ∧ K E'.e E'.s := by
      intro e' s' h1 h2
      obtain ⟨E', g1, g2⟩ := ih hd' h2
      exact ⟨E', ⟨o, ho, ⟨e', s'⟩, h1, g1⟩, g2⟩
    simp only [EvO] at h
    cases hg : guardOf all e o.guard with
    | none => rw [hg] at h; exact h.elim
    | some q =>
      rw [hg] at h
      cases q with
      | none =>
        obtain ⟨E1, h1, h2⟩ := exec_do h
        exact fin (by unfold Stp; rw [hg]; exact h1) h2
      | some q =>
        obtain ⟨k, want, b⟩ := q
        simp only [GSplit] at h
        rcases bool_or b want with hb | hb
        · have he : e.set k (.d (.lit (.bool want))) = e ∨ b = !want := by
            unfold guardOf at hg
            split at hg
            · cases hg
            · split at hg
              · split at hg
                · split at hg
                  · rename_i b' hk'
                    cases hg
                    left
                    rw [← hb, ← hk']
                    apply List.ext_getElem?
                    intro j
                    rw [List.getElem?_set]
                    split
                    · rename_i e1; subst e1
                      split
                      · rename_i hlt; simp [List.getD_eq_getElem?_getD, List.getElem?_eq_getElem hlt]
                      · rename_i hlt; rw [List.getElem?_eq_none (by omega)]
                    · rfl
                  · cases hg; right; rfl
                  · cases hg
                · cases hg
              · cases hg
          rcases he with he | he
          · have h1 := h.1 hb
            rw [he] at h1
            obtain ⟨E1, h1, h2⟩ := exec_do h1
            exact fin (by unfold Stp; rw [hg]; exact ⟨fun _ => h1, fun hn => by subst hb; cases b <;> simp at hn⟩) h2
          · exact absurd he (by rw [hb]; cases want <;> simp)
        · have he : setG e k want = e := by
            unfold guardOf at hg
            split at hg
            · cases hg
            · split at hg
              · split at hg
                · split at hg
                  · rename_i b' hk'
                    cases hg
                    unfold setG
                    rw [hk']
                    simp only
                    exact set_same (by rw [hk', hb])
                  · rename_i v hk'
                    cases hg
                    unfold setG
                    rw [hk']
                  · cases hg
                · cases hg
              · cases hg
          have h2 := h.2 hb
          rw [he] at h2
          exact fin (by unfold Stp; rw [hg]; exact ⟨fun hn => by subst hb; cases want <;> simp at hn, fun _ => rfl⟩) h2
/-- A REGION, what follows behind a variable. -/
theorem Run.opsI (im : Bool) {id : Nat} {ops : Array Oper} {draw : Bool} (hm : P.follows .mixedOrders = true) (hk : okReg im draw ops.toList = true) {e : Env} {s : Store}
    (h : ∀ K : Env → Store → Prop, (∀ e s, Q .normal ⟨e, s⟩ → K e s) → EvO P im ops.toList K ops.toList (enterE ops.toList e) (enterS ops.toList s)) : Run P (.region id ops draw) ⟨e, s⟩ Q := by
  obtain ⟨E', h1, h2⟩ := evO_steps (P := P) (im := im) (n := 0) (List.drop_zero ..) (h (fun e s => Q .normal ⟨e, s⟩) fun _ _ h => h)
  rw [← List.range_eq_range'] at h1
  exact Run.region hm hk h1 h2
theorem Run.ops {id : Nat} {ops : Array Oper} {draw : Bool} (hm : P.follows .mixedOrders = true) (hk : okReg false draw ops.toList = true) {e : Env} {s : Store}
    (h : ∀ K : Env → Store → Prop, (∀ e s, Q .normal ⟨e, s⟩ → K e s) → EvO P false ops.toList K ops.toList (enterE ops.toList e) (enterS ops.toList s)) : Run P (.region id ops draw) ⟨e, s⟩ Q := Run.opsI false hm hk h
/-- a call that is given blocks: ids are the caller's numbers of them -/
theorem ecallW (ids : List Nat) {g : FuncId} {args args0 : List V} {d : Nat} {k : Env → Store → Prop} {e : Env} {s s0 s1 : Store} {r : V} (h : SndW P g args0 s0 r s1) (ha : V.renL (rho ids (100 * (d + 1))) args0 = args) (hs : ∀ x ∈ s0, getB s (ids.getD x.1 0) = some (x.2.ren (rho ids (100 * (d + 1)))))
    (hok : okW ids s0 args0 r s1 = true) (hk : k (put e (some d) (r.ren (rho ids (100 * (d + 1))))) (puts (dropS (lost ids s1) s) (renS (rho ids (100 * (d + 1))) s1))) : ECallW P g args (some d) k e s := ⟨ids, args0, s0, r, s1, rfl, ha.symm, hs, hok, h, hk⟩
/-- a call that is given none, beside such as are -/
theorem ecallP {g : FuncId} {args : List V} {d : Nat} {k : Env → Store → Prop} {e : Env} {s : Store} {x : D} (hp : V.menL (fun _ => true) args = false) (h : Snd P g args (.d x) []) (hk : k (put e (some d) (.d x)) s) : ECallW P g args (some d) k e s := by
  refine ecallW [] (h.w hp) ?_ (fun x hx => (by cases hx)) ?_ ?_
  · have : ∀ (ρ : Nat → Nat) (x : V), x.men (fun _ => true) = false → x.ren ρ = x := fun ρ x => by
      induction x using V.rec (motive_2 := fun l => V.menL (fun _ => true) l = false → V.renL ρ l = l) <;> simp_all [V.men, V.menL, V.ren, V.renL]
    have l : ∀ (ρ : Nat → Nat) (l : List V), V.menL (fun _ => true) l = false → V.renL ρ l = l := fun ρ l => by
      induction l with
      | nil => intro _; rfl
      | cons v r ih => intro h; simp only [V.menL, Bool.or_eq_false_iff] at h; simp only [V.renL]; rw [this _ _ h.1, ih h.2]
    exact l _ _ hp
  · have : V.menL (fun j => decide (([] : List Nat).length ≤ j)) args = false := by
      have : (fun j => decide (([] : List Nat).length ≤ j)) = fun _ => true := by funext j; simp
      rw [this]; exact hp
    simp only [okW, this]
    rfl
  · have : dropS (lost [] []) s = s := by
      have nl : ∀ i, lost [] [] i = false := fun i => rfl
      clear hk
      induction s with
      | nil => rfl
      | cons x r ih => obtain ⟨i, b⟩ := x; simp [dropS, nl, ih]
    rw [this]
    exact hk
theorem ecall {g : FuncId} {args : List V} {d : Nat} {k : Env → Store → Prop} {e : Env} {s : Store} {r : V} {τ : Store} (h : Snd P g args r τ) (hok : okIds r τ = true) (hk : k (put e (some d) (r.shift (100 * (d + 1)))) (addS s (100 * (d + 1)) τ)) : ECall P g args (some d) k e s := ⟨r, τ, rfl, h, hok, hk⟩
theorem ecallD {g : FuncId} {args : List V} {d : Nat} {k : Env → Store → Prop} {e : Env} {s : Store} {x : D} (h : Snd P g args (.d x) []) (hk : k (put e (some d) (.d x)) s) : ECall P g args (some d) k e s := ⟨_, _, rfl, h, rfl, hk⟩
theorem ecallF {g : FuncId} {args args0 : List V} {d : Nat} {k : Env → Store → Prop} {e : Env} {s : Store} {x : Value} (ha : V.finL [] s args = args0) (hp : V.menL (fun _ => true) args0 = false) (h : Snd P g args0 (.d (.lit x)) []) (hk : k (put e (some d) (.d (.lit x))) s) : ECallF P g args (some d) k e s := by
  subst ha; exact ⟨x, rfl, hp, h, hk⟩
end Go.Fw
end
section
namespace Go.Fw
variable {P : Program}
section
variable {w0 : World} {L0 : Par} {X : Nat → Prop} {m : Nat → Option Nat} {e : Env} {s : Store} {a : Act} {w : World}
theorem fin_sto (h : Rel w0 L0 X m e s a w) {keep : List Nat} (hnd : keep.Nodup) : SRel w X (finM keep m) (finS keep s keep 0) := by
  refine ⟨fun j blk hj => ?_, fun i j b q1 q2 q3 q4 => ?_⟩
  · rw [getB_finS] at hj
    simp only [Nat.zero_le, if_true, Nat.sub_zero] at hj
    obtain ⟨id, g1, g2⟩ := Option.bind_eq_some_iff.1 hj
    obtain ⟨b0, g3, rfl⟩ := Option.map_eq_some_iff.1 g2
    have hm : finM keep m j = m id := by simp [finM, g1]
    rcases h.sto.blk id b0 g3 with ⟨b, r1, r2⟩ | ⟨r1, sz, rfl⟩
    · refine .inl ⟨b, hm.trans r1, ?_⟩
      cases b0 with
      | vals cells =>
        obtain ⟨vs, ex, ty, fr, t1, t2, t3, t4⟩ := r2
        refine ⟨vs, ex, ty, fr, t1, t2, t3, t4.len.trans (finL_len _ _ _).symm, fun j x v s1 s2 => ?_⟩
        rw [finL_at] at s1
        obtain ⟨y, hy, rfl⟩ := Option.map_eq_some_iff.1 s1
        exact fin_rel h (t4.at_ j y v hy s2)
      | mp ks vs =>
        obtain ⟨es, cl, t1, t2, t4⟩ := r2
        refine ⟨es, cl, t1, t2, t4.len.trans (finL_len _ _ _).symm, fun j x v s1 s2 => ?_⟩
        rw [finL_at] at s1
        obtain ⟨y, hy, rfl⟩ := Option.map_eq_some_iff.1 s1
        exact fin_rel h (t4.at_ j y v hy s2)
      | data sz rows =>
        obtain ⟨cs, ty, fr, t1, t2, t3, t4, t5⟩ := r2
        exact ⟨cs, ty, fr, t1, t2, t3, t4, fun i j r x s1 s2 => by
          obtain ⟨v, u1, u2, u3⟩ := t5 i j r x s1 s2
          exact ⟨v, u1, u2, u3.mono (fun _ _ _ q => q) (fun b hl => .inl (live_fin hl))⟩⟩
    · exact .inr ⟨hm.trans r1, sz, rfl⟩
  · have key : ∀ i, finM keep m i = some b → (getB (finS keep s keep 0) i).isSome = true → ∃ id, keep[i]? = some id ∧ m id = some b ∧ (getB s id).isSome = true := by
      intro i r1 r2
      obtain ⟨c, hc⟩ := Option.isSome_iff_exists.1 r2
      rw [getB_finS] at hc
      simp only [Nat.zero_le, if_true, Nat.sub_zero] at hc
      obtain ⟨id, g1, g2⟩ := Option.bind_eq_some_iff.1 hc
      obtain ⟨b0, g3, _⟩ := Option.map_eq_some_iff.1 g2
      exact ⟨id, g1, by simpa [finM, g1] using r1, by rw [g3]; rfl⟩
    obtain ⟨a1, a2, a3, a4⟩ := key i q1 q3
    obtain ⟨b1, b2, b3, b4⟩ := key j q2 q4
    have := h.sto.inj a1 b1 b a3 b3 a4 b4
    subst this
    have h1 := (List.getElem?_eq_some_iff.1 a2)
    have h2 := (List.getElem?_eq_some_iff.1 b2)
    exact (List.getElem_inj (h₀ := h1.1) (h₁ := h2.1) hnd).1 (h1.2.trans h2.2.symm)

/-! results -/
def resList (P : Program) (e : Env) (s : Store) : List ResultVar → Option (List V)
  | [] => some []
  | .tmp t :: r => match resList P e s r with | some l => some (e.getD t .top :: l) | none => none
  | .cell a t :: r => match e.getD a .top with
    | .pt id sz row col => match getB s id with
      | some (.vals cells) => if row = 0 then match loadV P t cells col, resList P e s r with | some v, some l => some (v :: l) | _, _ => none else none
      | _ => none
    | _ => none
def resV (P : Program) (rs : List ResultVar) (e : Env) (s : Store) : Option V := match resList P e s rs with
  | some [v] => some v
  | some l => some (.tup l)
  | none => none
def resSem (tmps : Array Value) : ResultVar → Sem Value
  | .tmp t => pure (tmps.getD t undef)
  | .cell b t => do loadVar t (← asAddr (tmps.getD b undef))
theorem results_eq (fn : Func) (tmps : Array Value) : results fn tmps = (do let vs ← fn.results.mapM (resSem tmps); pure (if h : vs.size = 1 then vs[0] else .tuple vs)) := rfl
theorem resList_run (h : Rel w0 L0 X m e s a w) : ∀ {rs : List ResultVar} {l : List V}, resList P e s rs = some l → ∃ vs : List Value, (rs.mapM (resSem a.tmps)).run P w = .ok vs w ∧ All2 (VRel w (Live X m s) m) l vs := by
  intro rs
  induction rs with
  | nil => intro l hl; cases hl; exact ⟨[], rfl, All2.nil⟩
  | cons r rs ih =>
    intro l hl
    cases r with
    | tmp t =>
      simp only [resList] at hl
      split at hl
      · rename_i l' hl'
        cases hl
        obtain ⟨vs, h1, h2⟩ := ih hl'
        refine ⟨a.tmps.getD t undef :: vs, ?_, All2.cons (h.look (.tmp t)) h2⟩
        simp [List.mapM_cons, resSem, h1]
      · cases hl
    | cell b t =>
      simp only [resList] at hl
      split at hl
      · rename_i id sz row col hv
        split at hl
        · rename_i cells hg
          split at hl
          · rename_i h0
            subst h0
            split at hl
            · rename_i v l' hv' hl'
              cases hl
              obtain ⟨vs, h1, h2⟩ := ih hl'
              have hb := h.look (.tmp b)
              simp only [look, hv, Act.eval] at hb
              obtain ⟨u, hu⟩ : ∃ u, a.tmps.getD b undef = u := ⟨_, rfl⟩
              rw [hu] at hb
              cases hb with
              | pt _ _ _ _ bb hm =>
                rcases h.sto.blk id _ hg with ⟨b', hm', arr, ex, ty, fr, hh, hfr, hone, hall⟩ | ⟨hn, _, hn'⟩
                · rw [hm] at hm'; cases hm'
                  obtain ⟨q, g1, g2⟩ := loadVar_run (P := P) (b := bb) (o := 0) hall hone (fun j v hj => by rw [cell_of hh, List.getElem?_toArray, Nat.zero_add, List.getElem?_append_left (List.getElem?_eq_some_iff.1 hj).1]; exact hj) hv'
                  refine ⟨q :: vs, ?_, All2.cons g2 h2⟩
                  simp only [Nat.zero_add] at g1
                  simp only [List.mapM_cons, resSem, Sem.run_bind, hu, asAddr, Sem.run_pure, Result.andThen_ok, Nat.zero_mul, Nat.zero_add, g1, h1]
                · cases hn'
            · cases hl
          · cases hl
        · cases hl
      · cases hl
theorem res_run (h : Rel w0 L0 X m e s a w) {fn : Func} {r : V} (hr : resV P fn.results.toList e s = some r) : ∃ v, (results fn a.tmps).run P w = .ok v w ∧ VRel w (Live X m s) m r v := by
  unfold resV at hr
  cases hl : resList P e s fn.results.toList with
  | none => rw [hl] at hr; cases hr
  | some l =>
    rw [hl] at hr
    obtain ⟨vs, h1, h2⟩ := resList_run h hl
    have run : (results fn a.tmps).run P w = .ok (if h : vs.toArray.size = 1 then vs.toArray[0] else .tuple vs.toArray) w := by
      rw [results_eq, Array.mapM_eq_mapM_toList]
      simp [h1]
    refine ⟨_, run, ?_⟩
    match l, hr, h2 with
    | [], hr, h2 =>
      cases hr
      have : vs = [] := by have := h2.len; simpa using this
      subst this
      exact .tup [] [] rfl (by simp)
    | [x], hr, h2 =>
      cases hr
      obtain ⟨y, t, rfl, h3, h4⟩ := h2.head
      have : t = [] := by have := h4.len; simpa using this
      subst this
      simpa using h3
    | x :: y :: r, hr, h2 =>
      cases hr
      have hlen := h2.len
      rw [dif_neg (by simp; simp at hlen; omega)]
      exact .tup _ vs h2.len h2.at_

/-- what a walk's end is to tell -/
def Told (P : Program) (rs : List ResultVar) (keep : List Nat) (r : V) (τ : Store) (x : Exit) (E : St) : Prop := (x = .normal ∨ x = .ret) ∧ ∃ r', resV P rs E.e E.s = some r' ∧ r'.fin keep E.s = r ∧ finS keep E.s keep 0 = τ
theorem sndW_of {f : FuncId} {fn : Func} {c : Code} {args : List V} {s0 : Store} {r : V} {s1 : Store} {n : Nat} (keep : List Nat) (hfn : P.funcs[f]? = some fn) (hb : fn.body = some c) (hg : goFn P f = true) (hn : fn.ntmps = n) (hnd : keep.Nodup) (hs0 : s0.all (fun x => decide (x.1 < 90) && (keep[x.1]? == some x.1)) = true)
    (h : Run P c ⟨args ++ List.replicate (n - args.length) vundef, s0⟩ (Told P fn.results.toList keep r s1)) : SndW P f args s0 r s1 := by
  refine ⟨hg, fun w X m0 vs hX hS hargs => ?_⟩
  subst hn
  refine calls_of_wp hfn hb ?_
  have hkey : ∀ {j : Nat}, (getB s0 j).isSome = true → j < 90 ∧ keep[j]? = some j := fun {j} hj => by
    obtain ⟨c, hc⟩ := Option.isSome_iff_exists.1 hj
    have := all_get hs0 hc
    simpa using this
  -- what the call is given, by numbers
  have hZ : ∀ b, Reach (fun j => if (getB s0 j).isSome then m0 j else none) b ↔ Own m0 s0 b := by
    intro b
    constructor
    · rintro ⟨j, hj⟩
      simp only at hj
      split at hj
      · rename_i h1
        obtain ⟨c, hc⟩ := Option.isSome_iff_exists.1 h1
        exact ⟨j, c, hc, hj⟩
      · cases hj
    · rintro ⟨j, c, h1, h2⟩
      exact ⟨j, by simp [h1, h2]⟩
  have hrel : Rel w (fun j => if (getB s0 j).isSome then m0 j else none) X m0 (args ++ List.replicate (fn.ntmps - args.length) vundef) s0 { tmps := vs.toArray ++ Array.replicate (fn.ntmps - vs.toArray.size) undef, defers := [] } w := by
    refine ⟨?_, hS, rfl, ⟨rfl, rfl, rfl, Nat.le_refl _, fun _ _ _ => rfl, fun _ cs _ _ q => ⟨cs, q, rfl⟩⟩, fun b hb => .inl ((hZ b).2 hb), fun b hb => ⟨(hX b hb).1, fun q => (hX b hb).2 ((hZ b).1 q)⟩, fun i hi hs => by simp [hs]⟩
    simp only [Array.toList_append, Array.toList_replicate, List.size_toArray]
    refine All2.append hargs ⟨by simp [hargs.len], fun j x v h1 h2 => ?_⟩
    rw [List.getElem?_replicate] at h1 h2
    split at h1
    · cases h1
      split at h2
      · cases h2; exact .d (.lit _ rfl)
      · cases h2
    · cases h1
  refine wp_mono (h w _ X hrel) fun x a' w' hx => ?_
  obtain ⟨E', m', ⟨hx, r', h1, h2, h3⟩, hr⟩ := hx
  obtain ⟨v, g1, g2⟩ := res_run (fn := fn) hr h1
  have fin : a'.defers = [] ∧ ∃ v, (results fn a'.tmps).run P w' = .ok v w' ∧ ∃ v_1 m', Ending.returned v = Ending.returned v_1 ∧ Ext (Own m0 s0) w w' ∧ VRel w' (Live X m' s1) m' r v_1 ∧ SRel w' X m' s1 ∧ (∀ b, Own m' s1 b → Own m0 s0 b ∨ w.heap.size ≤ b) ∧
      ∀ j, (getB s0 j).isSome = true → (getB s1 j).isSome = true → m' j = m0 j := by
    refine ⟨hr.dfr, v, g1, v, finM keep m', rfl, ⟨hr.ext.os, hr.ext.tape, hr.ext.output, hr.ext.size, fun b hb hl => hr.ext.block b hb fun q => hl ((hZ b).1 q), hr.ext.sizes⟩, ?_, ?_, ?_, fun j hj hj' => ?_⟩
    · rw [← h2, ← h3]; exact fin_rel hr g2
    · rw [← h3]; exact fin_sto hr hnd
    · rw [← h3]
      intro b hb
      obtain ⟨id, blk, _, q1, q2⟩ := own_fin hb
      exact (hr.liv b ⟨id, blk, q1, q2⟩).imp_left fun q => (hZ b).1 q
    · obtain ⟨k1, k2⟩ := hkey hj
      rw [← h3, getB_finS] at hj'
      simp only [Nat.zero_le, if_true, Nat.sub_zero, k2, Option.bind_some, Option.isSome_map] at hj'
      have := hr.par j k1 hj'
      simp only [hj, if_true] at this
      simp only [finM, k2, Option.bind_some, this]
  rcases hx with rfl | rfl
  · exact fin
  · exact fin
theorem snd_of {f : FuncId} {fn : Func} {c : Code} {args : List V} {r : V} {τ : Store} {n : Nat} (keep : List Nat) (hfn : P.funcs[f]? = some fn) (hb : fn.body = some c) (hg : goFn P f = true) (hn : fn.ntmps = n) (hnd : keep.Nodup)
    (h : Run P c ⟨args ++ List.replicate (n - args.length) vundef, []⟩ (Told P fn.results.toList keep r τ)) : Snd P f args r τ :=
  (sndW_of keep hfn hb hg hn hnd rfl h).pure
end
end Go.Fw
end
section
namespace Go.Fw
attribute [simp] EvO exec cls look put getB putB guardOf opP opR opA opW opAppend callOf loadV partV one mkAg toDs cellsOfV aggCells binV binI isNil nilLit vkind nilV eqNil unV idxV sliceV sliceS optInt cutSl cutRs cutStr convV minmax lenV fillV setAt lits litsD oneCells chop newId hitO srcRows baseRows srcV baseV opAppendV lookV updV findK lookR Instr.sameNow V.fgt V.fgtL Blk.fgt fgtS V.men V.menL setRow V.shift V.shiftL Blk.shift addS Value.oneCell
attribute [simp] V.ren V.renL Blk.ren rho renS dropS lost puts Blk.men badId okW give
attribute [simp] setG gs_tt gs_ff gs_tf gs_ft
attribute [simp] Then_normal Then_exit Then_goto Then_ret Blok_normal Blok_exit Blok_goto Blok_ret leE leS
attribute [simp] enterE enterS ks makes madeIn
attribute [simp] resV resList V.fin V.finL Blk.fin finS frz frzP
/-- an element, by an index that is in bounds -/
def rdI {α : Type} [Inhabited α] (l : List α) (i : Int) : α := l.getD i.toNat default
theorem rdI_mem {α : Type} [Inhabited α] {l : List α} {i : Int} (h0 : 0 ≤ i) (h1 : i < (l.length : Int)) : rdI l i ∈ l := by
  have : i.toNat < l.length := by omega
  simp [rdI, List.getD_eq_getElem?_getD, this]
@[simp] theorem rowAt_map {α : Type} [Inhabited α] {f : α → List D} {l : List α} {i : Int} (h0 : 0 ≤ i) (h1 : i < (l.length : Int)) : rowAt (l.map f) i = f (rdI l i) := by
  have : i.toNat < l.length := by omega
  simp [rowAt, rdI, List.getD_eq_getElem?_getD, this]
end Go.Fw
end
section
namespace Go.Fw
variable {P : Program}

/-! what is known of data that stands in a slot -/
mutual
def D.ok : D → Prop
  | .lit v => okLit v = true
  | .sl _ rows => rows.length ≤ 9223372036854775807 ∧ D.okR rows
  | .ip row _ => D.okL row
  | .ag cells => D.okL cells
def D.okL : List D → Prop
  | [] => True
  | x :: r => x.ok ∧ D.okL r
def D.okR : List (List D) → Prop
  | [] => True
  | x :: r => D.okL x ∧ D.okR r
end
theorem okL_iff (l : List D) : D.okL l ↔ ∀ x ∈ l, x.ok := by
  induction l with
  | nil => simp [D.okL]
  | cons x r ih => simp [D.okL, ih]
theorem okR_iff (l : List (List D)) : D.okR l ↔ ∀ x ∈ l, D.okL x := by
  induction l with
  | nil => simp [D.okR]
  | cons x r ih => simp [D.okR, ih]
theorem okR_map {α : Type} (f : α → List D) (l : List α) : D.okR (l.map f) ↔ ∀ x ∈ l, D.okL (f x) := by simp [okR_iff]
theorem okL_map {α : Type} (f : α → D) (l : List α) : D.okL (l.map f) ↔ ∀ x ∈ l, (f x).ok := by simp [okL_iff]
theorem DRel.ok {w : World} {L : Nat → Prop} {x : D} {v : Value} (h : DRel w L x v) : x.ok := by
  induction h with
  | lit v h => exact h
  | slE nn A cap h => simp [D.ok, D.okR]
  | sl nn rows b off cap sz vals hb hc hm hz hv ho hr ih =>
    refine ⟨hm, (okR_iff _).2 fun r hr => (okL_iff _).2 fun x hx => ?_⟩
    obtain ⟨i, hi⟩ := List.getElem?_of_mem hr
    obtain ⟨j, hj⟩ := List.getElem?_of_mem hx
    exact ih i j r x hi hj
  | ip row b off col vals hb hv ho hr ih =>
    refine (okL_iff _).2 fun x hx => ?_
    obtain ⟨j, hj⟩ := List.getElem?_of_mem hx
    exact ih j x hj
  | ag cells vs hl ho hr ih =>
    refine (okL_iff _).2 fun x hx => ?_
    obtain ⟨j, hj⟩ := List.getElem?_of_mem hx
    have hlt : j < vs.length := by rw [hl]; exact (List.getElem?_eq_some_iff.1 hj).1
    exact ih j x _ hj (List.getElem?_eq_getElem hlt)
theorem ok_int {k : IntKind} {n : Int} : (D.lit (.int k n)).ok ↔ k.min ≤ n ∧ n ≤ k.max := by simp [D.ok, int_lit]
theorem ok_i64 {n : Int} : (D.lit (.int .i64 n)).ok ↔ -9223372036854775808 ≤ n ∧ n ≤ 9223372036854775807 := by
  rw [ok_int]; simp [IntKind.min, IntKind.max, IntKind.signed, IntKind.bits]
theorem ok_str {s : ByteArray} : (D.lit (.string s)).ok ↔ s.size ≤ 9223372036854775807 := by simp [D.ok, okLit]
variable {Q : Exit → St → Prop} {E : St}
theorem Run.ok {c : Code} (i : Nat) {x : D} (hi : E.e.getD i .top = .d x) (h : x.ok → Run P c E Q) : Run P c E Q := fun w0 L0 X m a w hr => by
  have h1 := hr.look (.tmp i)
  simp only [look, hi] at h1
  cases h1 with
  | d hd => exact h hd.ok w0 L0 X hr
theorem Run.okB {c : Code} (id : Nat) {sz : Nat} {rows : List (List D)} (hi : getB E.s id = some (.data sz rows)) (h : D.okR rows → Run P c E Q) : Run P c E Q := fun w0 L0 X m a w hr => by
  refine h ?_ w0 L0 X hr
  rcases hr.sto.blk id _ hi with ⟨b, _, cs, ty, fr, _, _, _, _, h5⟩ | ⟨_, sz', h5⟩
  · refine (okR_iff _).2 fun r hr => (okL_iff _).2 fun x hx => ?_
    obtain ⟨i, hi⟩ := List.getElem?_of_mem hr
    obtain ⟨j, hj⟩ := List.getElem?_of_mem hx
    obtain ⟨v, _, _, h6⟩ := h5 i j r x hi hj
    exact h6.ok
  · cases h5; trivial
theorem Run.okV {c : Code} (i : Nat) {id sz off len : Nat} (hi : E.e.getD i .top = .rs id sz off len) (h : len ≤ 9223372036854775807 → Run P c E Q) : Run P c E Q := fun w0 L0 X m a w hr => by
  have h1 := hr.look (.tmp i)
  simp only [look, hi] at h1
  generalize a.eval (.tmp i) = u at h1
  cases h1 with
  | rsE => exact h (by omega) w0 L0 X hr
  | rs => exact h (by assumption) w0 L0 X hr
/-- a function's answer may be shown by what is known of its data -/
theorem SndW.ok {f : FuncId} {args : List V} {s0 s1 : Store} {r : V} (i : Nat) {x : D} (hi : args[i]? = some (.d x)) (hg : goFn P f = true) (h : x.ok → SndW P f args s0 r s1) : SndW P f args s0 r s1 := by
  refine ⟨hg, fun w X m0 vs hX hS hargs => ?_⟩
  obtain ⟨v, _, hv⟩ := hargs.get hi
  cases hv with
  | d hd => exact (h hd.ok).2 w X m0 vs hX hS hargs
theorem Snd.ok {f : FuncId} {args : List V} {τ : Store} {r : V} (i : Nat) {x : D} (hi : args[i]? = some (.d x)) (hg : goFn P f = true) (h : x.ok → Snd P f args r τ) : Snd P f args r τ := by
  refine ⟨hg, fun w X vs hX hargs => ?_⟩
  obtain ⟨v, _, hv⟩ := hargs.get hi
  cases hv with
  | d hd => exact (h hd.ok).2 w X vs hX hargs

/-! cuts -/
def over (e : Env) (tops : List Nat) (vals : List (Nat × V)) : Env := vals.foldl (fun e x => e.set x.1 x.2) (tops.foldl (fun e k => e.set k .top) e)
theorem Run.cut {x y : Code} {e : Env} {s : Store} (tops : List Nat) (vals : List (Nat × V)) (s' : Store) (hx : Run P x ⟨e, s⟩ (Then (fun E' => Le E' ⟨over e tops vals, s'⟩) Q)) (hy : Run P y ⟨over e tops vals, s'⟩ Q) : Run P (.seq x y) ⟨e, s⟩ Q :=
  Run.seq (hx.mono fun x E h => by cases x <;> first | exact hy.le h | exact h)
theorem Run.cut0 {x y : Code} {e : Env} {s : Store} (tops : List Nat) (vals : List (Nat × V)) (hx : Run P x ⟨e, s⟩ (Then (fun E' => Le E' ⟨over e tops vals, s⟩) Q)) (hy : Run P y ⟨over e tops vals, s⟩ Q) : Run P (.seq x y) ⟨e, s⟩ Q := Run.cut tops vals s hx hy
theorem Run.loopO {c : Code} {e : Env} {s : Store} (tops : List Nat) {α : Type} (vals : α → List (Nat × V)) (st : α → Store) (I : α → Prop) (μ : α → Nat) (x0 : α) (h0 : I x0) (hE : Le ⟨e, s⟩ ⟨over e tops (vals x0), st x0⟩)
    (hstep : ∀ x, I x → Run P c ⟨over e tops (vals x), st x⟩ (Then (fun E' => ∃ y, I y ∧ μ y < μ x ∧ Le E' ⟨over e tops (vals y), st y⟩) Q)) : Run P (.loop c) ⟨e, s⟩ Q :=
  Run.loop (fun x => ⟨over e tops (vals x), st x⟩) I μ x0 h0 hE hstep
attribute [simp] Told over Le okLit IntKind.min IntKind.max IntKind.signed IntKind.bits

/-! blocks numbered anew -/
def swp (x y j : Nat) : Nat := if j = x then y else j
def renM (m : Nat → Option Nat) (x y i : Nat) : Option Nat := if i = y then m x else m i
theorem Rel.ren {w0 : World} {L0 : Par} {X : Nat → Prop} {m : Nat → Option Nat} {e : Env} {s : Store} {a : Act} {w : World} (h : Rel w0 L0 X m e s a w) (x y : Nat) (hx : 90 ≤ x) (hy : 90 ≤ y) (he : V.menL (· == y) e = false) (hs : s.all (fun z => z.1 != y && !z.2.men (· == y)) = true) :
    Rel w0 L0 X (renM m x y) (V.renL (swp x y) e) (puts [] (renS (swp x y) s)) a w := by
  have hid : ∀ j, (j == y) = false → renM m x y (swp x y j) = m j := fun j hj => by
    have hj : j ≠ y := by simpa using hj
    unfold renM swp
    by_cases e1 : j = x
    · simp [e1]
    · simp [e1, hj]
  have hkey : ∀ {j b}, getB s j = some b → j ≠ y ∧ b.men (· == y) = false := fun {j b} hg => by
    have := all_get hs hg
    simpa using this
  have hget : ∀ i blk, getB (puts [] (renS (swp x y) s)) i = some blk → ∃ j b0, getB s j = some b0 ∧ swp x y j = i ∧ blk = b0.ren (swp x y) := by
    intro i blk hg
    rw [getB_puts'] at hg
    split at hg
    · rename_i b hb; cases hg; exact getB_renS hb
    · cases hg
  have hown : ∀ b, Own (renM m x y) (puts [] (renS (swp x y) s)) b → Own m s b := by
    rintro b ⟨i, blk, h1, h2⟩
    obtain ⟨j, b0, g1, rfl, _⟩ := hget i blk h1
    rw [hid j (by simpa using (hkey g1).1)] at h2
    exact ⟨j, b0, g1, h2⟩
  have hL : ∀ b, Live X (renM m x y) (puts [] (renS (swp x y) s)) b → Live X m s b := fun b hl => hl.imp_right (hown b)
  refine ⟨⟨h.env.len.trans (renL_len _ _).symm, fun j v u q1 q2 => ?_⟩, ⟨fun i blk hi => ?_, fun i j b q1 q2 q3 q4 => ?_⟩, h.dfr, h.ext, fun b hb => h.liv b (hown b hb), h.old, fun i hi hsm => ?_⟩
  · rw [renL_at] at q1
    obtain ⟨z, hz, rfl⟩ := Option.map_eq_some_iff.1 q1
    exact VRel.ren hL hid (menL_at he hz) (h.env.at_ j z u hz q2)
  · obtain ⟨j, b0, g1, rfl, rfl⟩ := hget i blk hi
    have ej := hid j (by simpa using (hkey g1).1)
    rcases h.sto.blk j b0 g1 with ⟨b, r1, r2⟩ | ⟨r1, sz, rfl⟩
    · exact .inl ⟨b, ej.trans r1, BRel.ren hL hid (hkey g1).2 r2⟩
    · exact .inr ⟨ej.trans r1, sz, rfl⟩
  · obtain ⟨c1, hc1⟩ := Option.isSome_iff_exists.1 q3
    obtain ⟨c2, hc2⟩ := Option.isSome_iff_exists.1 q4
    obtain ⟨j1, b1, g1, rfl, _⟩ := hget i c1 hc1
    obtain ⟨j2, b2, g2, rfl, _⟩ := hget j c2 hc2
    rw [hid j1 (by simpa using (hkey g1).1)] at q1
    rw [hid j2 (by simpa using (hkey g2).1)] at q2
    rw [h.sto.inj j1 j2 b q1 q2 (by rw [g1]; rfl) (by rw [g2]; rfl)]
  · obtain ⟨c1, hc1⟩ := Option.isSome_iff_exists.1 hsm
    obtain ⟨j1, b1, g1, e1, _⟩ := hget i c1 hc1
    have : j1 = i := by unfold swp at e1; split at e1 <;> omega
    subst this
    simp only [renM, if_neg (show j1 ≠ y by omega)]
    exact h.par j1 hi (by rw [g1]; rfl)
theorem Run.ren {c : Code} {e : Env} {s : Store} (x y : Nat) (hx : 90 ≤ x) (hy : 90 ≤ y) (he : V.menL (· == y) e = false) (hs : s.all (fun z => z.1 != y && !z.2.men (· == y)) = true) (h : Run P c ⟨V.renL (swp x y) e, puts [] (renS (swp x y) s)⟩ Q) : Run P c ⟨e, s⟩ Q :=
  fun w0 L0 X m a w hr => h w0 L0 X (hr.ren x y hx hy he hs)
attribute [simp] swp

/-! gotos that lead forward -/
def NoGoto (Q : Exit → St → Prop) : Exit → St → Prop
  | .goto _, _ => False
  | x, E => Q x E
def Fwd (P : Program) (l : Nat) (rest : Code) (Q : Exit → St → Prop) : Exit → St → Prop
  | .goto l', E => l' = l ∧ Run P rest E (NoGoto Q)
  | x, E => Q x E
theorem Fwd_normal {l : Nat} {rest : Code} {Q : Exit → St → Prop} {E : St} : Fwd P l rest Q .normal E = Q .normal E := rfl
theorem Fwd_exit {l i : Nat} {rest : Code} {Q : Exit → St → Prop} {E : St} : Fwd P l rest Q (.exit i) E = Q (.exit i) E := rfl
theorem Fwd_ret {l : Nat} {rest : Code} {Q : Exit → St → Prop} {E : St} : Fwd P l rest Q .ret E = Q .ret E := rfl
theorem Fwd_goto {l : Nat} {rest : Code} {Q : Exit → St → Prop} {E : St} : Fwd P l rest Q (.goto l) E = Run P rest E (NoGoto Q) := by simp [Fwd]
theorem NoGoto_normal {Q : Exit → St → Prop} {E : St} : NoGoto Q .normal E = Q .normal E := rfl
theorem NoGoto_exit {Q : Exit → St → Prop} {i : Nat} {E : St} : NoGoto Q (.exit i) E = Q (.exit i) E := rfl
theorem NoGoto_ret {Q : Exit → St → Prop} {E : St} : NoGoto Q .ret E = Q .ret E := rfl
theorem Run.scope (l : Nat) (rest : Code) {c : Code} (hf : findLabel c l = some rest) (h : Run P c E (Fwd P l rest Q)) : Run P (.scope c) E Q := fun w0 L0 X m a w hr => by
  refine wp_scope_jumps l (fun a w => rest.wp P (Exit.noGoto (fun x a' w' => ∃ E' m', Q x E' ∧ Rel w0 L0 X m' E'.e E'.s a' w')) a w) (fun _ _ => 0) hf ?_ ?_
  · refine wp_mono (h w0 L0 X hr) fun x a' w' hx => ?_
    obtain ⟨E', m', q, r⟩ := hx
    cases x with
    | goto l' =>
      obtain ⟨rfl, q⟩ := q
      refine ⟨rfl, wp_mono (q w0 L0 X r) fun x a' w' hx => ?_⟩
      obtain ⟨E', m', q, r⟩ := hx
      cases x <;> first | exact q.elim | exact ⟨E', m', q, r⟩
    | normal => exact ⟨E', m', q, r⟩
    | exit i => exact ⟨E', m', q, r⟩
    | ret => exact ⟨E', m', q, r⟩
    | panic ch => exact ⟨E', m', q, r⟩
    | outgrown => exact ⟨E', m', q, r⟩
  · intro a w hJ
    refine wp_mono hJ fun x a w q => ?_
    cases x <;> first | exact q | exact q.elim

@[congr] theorem ECall_congr {g : FuncId} {args args' : List V} {dst : Option Nat} {k : Env → Store → Prop} {e e' : Env} {s s' : Store} (ha : args = args') (he : e = e') (hs : s = s') : ECall P g args dst k e s = ECall P g args' dst k e' s' := by subst ha he hs; rfl
@[congr] theorem ECallF_congr {g : FuncId} {args args' : List V} {dst : Option Nat} {k : Env → Store → Prop} {e e' : Env} {s s' : Store} (ha : args = args') (he : e = e') (hs : s = s') : ECallF P g args dst k e s = ECallF P g args' dst k e' s' := by subst ha he hs; rfl
@[congr] theorem ECallW_congr {g : FuncId} {args args' : List V} {dst : Option Nat} {k : Env → Store → Prop} {e e' : Env} {s s' : Store} (ha : args = args') (he : e = e') (hs : s = s') : ECallW P g args dst k e s = ECallW P g args' dst k e' s' := by subst ha he hs; rfl
@[congr] theorem Run_congr {c : Code} {E E' : St} {Q : Exit → St → Prop} (he : E = E') : Run P c E Q = Run P c E' Q := by subst he; rfl

/-! a region's operations, without what the walk does not ask -/
structure LOp where
  op : Op
  dst : Option Nat
  guard : Option (Option Nat × Bool)
def lite (all : List Oper) (o : Oper) : LOp := ⟨o.op, o.dst, match o.guard with | none => none | some (j, want) => some ((all[j]?).bind (·.dst), want)⟩
def mkO (op : Op) (dst : Option Nat) : Oper := { op := op, dst := dst, type := 0, pos := "", after := #[], guard := none }
def EvL (P : Program) (im : Bool) (K : Env → Store → Prop) : List LOp → Env → Store → Prop
  | [], e, s => K e s
  | o :: os, e, s => match o.guard with
    | none => exec P im (mkO o.op o.dst) (EvL P im K os) e s
    | some (none, _) => False
    | some (some k, want) => match e.getD k .top with
      | .d (.lit (.bool b)) => GSplit b want (exec P im (mkO o.op o.dst) (EvL P im K os) (e.set k (.d (.lit (.bool want)))) s) (EvL P im K os (put (e.set k (.d (.lit (.bool !want)))) o.dst vundef) s)
      | .d (.lit (.tuple _)) => EvL P im K os (put e o.dst vundef) s
      | _ => False
theorem exec_mono {im : Bool} {o o' : Oper} {k k' : Env → Store → Prop} {e : Env} {s : Store} (h1 : o'.op = o.op) (h2 : o'.dst = o.dst) (hk : ∀ e s, k e s → k' e s) (h : exec P im o k e s) : exec P im o' k' e s := by
  unfold exec at h ⊢
  rw [h1, h2]
  cases hc : cls o.op <;> rw [hc] at h <;> simp only at h ⊢
  · split at h
    · exact ⟨h.1, fun c => hk _ _ (h.2 c)⟩
    · exact h
  · split at h
    · exact ⟨h.1, fun c => hk _ _ (h.2 c)⟩
    · exact h
  · split at h
    · split at h
      · exact ⟨h.1, fun c => hk _ _ (h.2 c)⟩
      · exact h
    · exact h
  · split at h
    · exact ⟨h.1, fun c => hk _ _ (h.2 c)⟩
    · exact h
  · split at h
    · split at h
      · split at h
        · exact ⟨h.1, fun c => hk _ _ (h.2 c)⟩
        · split at h
          · exact ⟨h.1, fun c => hk _ _ (h.2 c)⟩
          · exact h
      · exact h
    · exact h
  · split at h
    · cases im with
      | true =>
        simp only at h ⊢
        obtain ⟨ids, a0, s0, r, s1, q1, q2, q3, q4, q5, q6⟩ := h
        exact ⟨ids, a0, s0, r, s1, q1, q2, q3, q4, q5, hk _ _ q6⟩
      | false =>
        simp only at h ⊢
        split at h
        · rename_i hp
          rw [if_pos hp]
          obtain ⟨r, t, q1, q2, q3, q4⟩ := h
          exact ⟨r, t, q1, q2, q3, hk _ _ q4⟩
        · rename_i hp
          rw [if_neg hp]
          obtain ⟨x, q1, q2, q3, q4⟩ := h
          exact ⟨x, q1, q2, q3, hk _ _ q4⟩
    · exact h
theorem evL_evO {im : Bool} {all : List Oper} {K : Env → Store → Prop} : ∀ {os : List Oper} {e : Env} {s : Store}, EvL P im K (os.map (lite all)) e s → EvO P im all K os e s := by
  intro os
  induction os with
  | nil => intro e s h; exact h
  | cons o os ih =>
    intro e s h
    simp only [List.map_cons, EvL, lite] at h
    simp only [EvO, guardOf]
    cases hg : o.guard with
    | none =>
      rw [hg] at h
      exact exec_mono rfl rfl (fun e s h => ih h) h
    | some q =>
      obtain ⟨j, want⟩ := q
      rw [hg] at h
      simp only at h ⊢
      cases ha : all[j]? with
      | none => rw [ha] at h; exact h.elim
      | some g =>
        rw [ha] at h
        simp only [Option.bind_some] at h ⊢
        cases hd : g.dst with
        | none => rw [hd] at h; exact h.elim
        | some k =>
          rw [hd] at h
          simp only at h ⊢
          split at h
          · rename_i b hb
            rw [hb]
            refine ⟨fun q => exec_mono rfl rfl (fun e s h => ih h) (h.1 q), fun q => ?_⟩
            have e1 : setG e k want = e.set k (.d (.lit (.bool !want))) := by unfold setG; rw [hb]
            rw [e1]
            exact ih (h.2 q)
          · rename_i v hb
            rw [hb]
            refine ⟨fun q => by cases want <;> simp at q, fun q => ?_⟩
            have e1 : setG e k want = e := by unfold setG; rw [hb]
            rw [e1]
            exact ih h
          · exact h.elim
theorem evL_cons {im : Bool} {K : Env → Store → Prop} {op : Op} {dst : Option Nat} {os : List LOp} {e : Env} {s : Store} : EvL P im K (⟨op, dst, none⟩ :: os) e s = exec P im (mkO op dst) (EvL P im K os) e s := rfl
theorem evL_guard {im : Bool} {K : Env → Store → Prop} {op : Op} {dst : Option Nat} {k : Nat} {want : Bool} {os : List LOp} {e : Env} {s : Store} : EvL P im K (⟨op, dst, some (some k, want)⟩ :: os) e s = (match e.getD k .top with
      | .d (.lit (.bool b)) => GSplit b want (exec P im (mkO op dst) (EvL P im K os) (e.set k (.d (.lit (.bool want)))) s) (EvL P im K os (put (e.set k (.d (.lit (.bool !want)))) dst vundef) s)
      | .d (.lit (.tuple _)) => EvL P im K os (put e dst vundef) s
      | _ => False) := rfl
theorem evL_nil {im : Bool} {K : Env → Store → Prop} {e : Env} {s : Store} : EvL P im K [] e s = K e s := rfl
/-- A REGION, operation by operation. -/
theorem Run.opsL (im : Bool) {id : Nat} {ops : Array Oper} {draw : Bool} (los : List LOp) (hm : P.follows .mixedOrders = true) (hk : okReg im draw ops.toList = true) (hl : ops.toList.map (lite ops.toList) = los) {e : Env} {s : Store}
    (h : ∀ K : Env → Store → Prop, (∀ e s, Q .normal ⟨e, s⟩ → K e s) → EvL P im K los (enterE ops.toList e) (enterS ops.toList s)) : Run P (.region id ops draw) ⟨e, s⟩ Q :=
  Run.opsI im hm hk fun K hK => by subst hl; exact evL_evO (h K hK)
attribute [simp] mkO
/-- what is to be shown of the region's end -/
def Fin (Q : Exit → St → Prop) (K : Env → Store → Prop) : Prop := ∀ e s, Q .normal ⟨e, s⟩ → K e s
theorem Fin.go {im : Bool} {K : Env → Store → Prop} {e : Env} {s : Store} (h : Fin Q K) (hq : Q .normal ⟨e, s⟩) : EvL P im K [] e s := h e s hq
theorem Run.opsM (im : Bool) {id : Nat} {ops : Array Oper} {draw : Bool} (los : List LOp) (hm : P.follows .mixedOrders = true) (hk : okReg im draw ops.toList = true) (hl : ops.toList.map (lite ops.toList) = los) {e : Env} {s : Store}
    (h : ∀ K : Env → Store → Prop, Fin Q K → EvL P im K los (enterE ops.toList e) (enterS ops.toList s)) : Run P (.region id ops draw) ⟨e, s⟩ Q := Run.opsL im los hm hk hl h
theorem evL_c {im : Bool} {K : Env → Store → Prop} {op : Op} {dst : Option Nat} {os : List LOp} {e : Env} {s : Store} (h : exec P im (mkO op dst) (EvL P im K os) e s) : EvL P im K (⟨op, dst, none⟩ :: os) e s := h
theorem evL_g {im : Bool} {K : Env → Store → Prop} {op : Op} {dst : Option Nat} {k : Nat} {want : Bool} {os : List LOp} {e : Env} {s : Store} {b : Bool} (hb : e.getD k .top = .d (.lit (.bool b)))
    (h : GSplit b want (exec P im (mkO op dst) (EvL P im K os) (e.set k (.d (.lit (.bool want)))) s) (EvL P im K os (put (e.set k (.d (.lit (.bool !want)))) dst vundef) s)) : EvL P im K (⟨op, dst, some (some k, want)⟩ :: os) e s := by
  rw [evL_guard, hb]; exact h
theorem evL_u {im : Bool} {K : Env → Store → Prop} {op : Op} {dst : Option Nat} {k : Nat} {want : Bool} {os : List LOp} {e : Env} {s : Store} {a : Array Value} (hb : e.getD k .top = .d (.lit (.tuple a)))
    (h : EvL P im K os (put e dst vundef) s) : EvL P im K (⟨op, dst, some (some k, want)⟩ :: os) e s := by
  rw [evL_guard, hb]; exact h

/-- blocks may be forgotten -/
theorem leE_refl (e : Env) : leE e e := by
  induction e with
  | nil => trivial
  | cons v r ih => exact ⟨.inr rfl, ih⟩
theorem Run.drop {c : Code} {e : Env} {s : Store} (s' : Store) (hs : leS s s') (h : Run P c ⟨e, s'⟩ Q) : Run P c ⟨e, s⟩ Q := Run.le ⟨leE_refl e, hs⟩ h

/-! rows of blocks -/
@[simp] theorem rowN_map {α : Type} [Inhabited α] {f : α → List D} {l : List α} {i : Nat} (h : i < l.length) : rowN (l.map f) i = f (rdI l i) := by
  simp [rowN, rdI, List.getD_eq_getElem?_getD, h]
@[simp] theorem rowN_zero (x : List D) (l : List (List D)) : rowN (x :: l) 0 = x := rfl
@[simp] theorem rowN_succ (x : List D) (l : List (List D)) (n : Nat) : rowN (x :: l) (n + 1) = rowN l n := rfl

/-! numbers -/
@[simp] theorem beq_dec (a b : Int) : (a == b) = decide (a = b) := rfl
@[simp] theorem bne_dec (a b : Int) : (a != b) = !decide (a = b) := rfl
theorem wrap_id {n : Int} (h0 : -9223372036854775808 ≤ n) (h1 : n ≤ 9223372036854775807) : IntKind.i64.wrap n = n := by
  simp only [IntKind.wrap, IntKind.bits, IntKind.signed, Bool.true_and, decide_eq_true_eq, Nat.reduceSub, Int.reducePow, ge_iff_le]
  split <;> omega
end Go.Fw
end
section
namespace Go.Proofs.Ytihbejpkfifplaa.Z
open Go Go.Fw
noncomputable abbrev P := Try.prog
theorem mixed : P.follows .mixedOrders = true := by kernel_rfl
@[simp] theorem ty_ag100 : aggOf P 100 = some false := by kernel_rfl
@[simp] theorem ty_ag101 : aggOf P 101 = some false := by kernel_rfl
@[simp] theorem ty_ag103 : aggOf P 103 = some false := by kernel_rfl
@[simp] theorem ty_ag105 : aggOf P 105 = some true := by kernel_rfl
@[simp] theorem ty_ag127 : aggOf P 127 = some false := by kernel_rfl
@[simp] theorem ty_ag2 : aggOf P 2 = some false := by kernel_rfl
@[simp] theorem ty_ag22 : aggOf P 22 = some false := by kernel_rfl
@[simp] theorem ty_ag23 : aggOf P 23 = some false := by kernel_rfl
@[simp] theorem ty_ag24 : aggOf P 24 = some false := by kernel_rfl
@[simp] theorem ty_ag25 : aggOf P 25 = some false := by kernel_rfl
@[simp] theorem ty_ag27 : aggOf P 27 = some true := by kernel_rfl
@[simp] theorem ty_ag28 : aggOf P 28 = some false := by kernel_rfl
@[simp] theorem ty_ag29 : aggOf P 29 = some false := by kernel_rfl
@[simp] theorem ty_ag3 : aggOf P 3 = some false := by kernel_rfl
@[simp] theorem ty_ag33 : aggOf P 33 = some true := by kernel_rfl
@[simp] theorem ty_ag36 : aggOf P 36 = some false := by kernel_rfl
@[simp] theorem ty_ag37 : aggOf P 37 = some false := by kernel_rfl
@[simp] theorem ty_ag39 : aggOf P 39 = some true := by kernel_rfl
@[simp] theorem ty_ag4 : aggOf P 4 = some false := by kernel_rfl
@[simp] theorem ty_ag43 : aggOf P 43 = some false := by kernel_rfl
@[simp] theorem ty_ag45 : aggOf P 45 = some true := by kernel_rfl
@[simp] theorem ty_ag46 : aggOf P 46 = some false := by kernel_rfl
@[simp] theorem ty_ag48 : aggOf P 48 = some true := by kernel_rfl
@[simp] theorem ty_ag51 : aggOf P 51 = some false := by kernel_rfl
@[simp] theorem ty_ag53 : aggOf P 53 = some true := by kernel_rfl
@[simp] theorem ty_ag58 : aggOf P 58 = some false := by kernel_rfl
@[simp] theorem ty_ag60 : aggOf P 60 = some false := by kernel_rfl
@[simp] theorem ty_ag65 : aggOf P 65 = some false := by kernel_rfl
@[simp] theorem ty_ag66 : aggOf P 66 = some false := by kernel_rfl
@[simp] theorem ty_ag68 : aggOf P 68 = some true := by kernel_rfl
@[simp] theorem ty_ag70 : aggOf P 70 = some true := by kernel_rfl
@[simp] theorem ty_ag82 : aggOf P 82 = some true := by kernel_rfl
@[simp] theorem ty_ag86 : aggOf P 86 = some true := by kernel_rfl
@[simp] theorem ty_ag9 : aggOf P 9 = some false := by kernel_rfl
@[simp] theorem ty_bool4 : boolT P 4 = true := by kernel_rfl
@[simp] theorem ty_by2 : bytesOfT P 2 = 8 := by kernel_rfl
@[simp] theorem ty_by24 : bytesOfT P 24 = 24 := by kernel_rfl
@[simp] theorem ty_by27 : bytesOfT P 27 = 96 := by kernel_rfl
@[simp] theorem ty_by3 : bytesOfT P 3 = 8 := by kernel_rfl
@[simp] theorem ty_by4 : bytesOfT P 4 = 1 := by kernel_rfl
@[simp] theorem ty_by45 : bytesOfT P 45 = 40 := by kernel_rfl
@[simp] theorem ty_by48 : bytesOfT P 48 = 80 := by kernel_rfl
@[simp] theorem ty_by60 : bytesOfT P 60 = 24 := by kernel_rfl
@[simp] theorem ty_by70 : bytesOfT P 70 = 120 := by kernel_rfl
@[simp] theorem ty_by76 : bytesOfT P 76 = 24 := by kernel_rfl
@[simp] theorem ty_el106 : elemOfT P 106 = none := by kernel_rfl
@[simp] theorem ty_el121 : elemOfT P 121 = some 60 := by kernel_rfl
@[simp] theorem ty_el23 : elemOfT P 23 = some 27 := by kernel_rfl
@[simp] theorem ty_el24 : elemOfT P 24 = some 3 := by kernel_rfl
@[simp] theorem ty_el25 : elemOfT P 25 = some 70 := by kernel_rfl
@[simp] theorem ty_el28 : elemOfT P 28 = some 76 := by kernel_rfl
@[simp] theorem ty_el29 : elemOfT P 29 = some 105 := by kernel_rfl
@[simp] theorem ty_el36 : elemOfT P 36 = some 24 := by kernel_rfl
@[simp] theorem ty_el37 : elemOfT P 37 = some 45 := by kernel_rfl
@[simp] theorem ty_el43 : elemOfT P 43 = some 48 := by kernel_rfl
@[simp] theorem ty_el51 : elemOfT P 51 = some 2 := by kernel_rfl
@[simp] theorem ty_el57 : elemOfT P 57 = some 58 := by kernel_rfl
@[simp] theorem ty_el60 : elemOfT P 60 = some 4 := by kernel_rfl
@[simp] theorem ty_fl105_1 : fldOf P 105 1 = some (1, 3) := by kernel_rfl
@[simp] theorem ty_fl105_2 : fldOf P 105 2 = some (2, 3) := by kernel_rfl
@[simp] theorem ty_fl105_3 : fldOf P 105 3 = some (3, 3) := by kernel_rfl
@[simp] theorem ty_fl105_4 : fldOf P 105 4 = some (4, 103) := by kernel_rfl
@[simp] theorem ty_fl105_6 : fldOf P 105 6 = some (6, 3) := by kernel_rfl
@[simp] theorem ty_fl27_0 : fldOf P 27 0 = some (0, 22) := by kernel_rfl
@[simp] theorem ty_fl27_1 : fldOf P 27 1 = some (1, 23) := by kernel_rfl
@[simp] theorem ty_fl27_2 : fldOf P 27 2 = some (2, 3) := by kernel_rfl
@[simp] theorem ty_fl27_3 : fldOf P 27 3 = some (3, 24) := by kernel_rfl
@[simp] theorem ty_fl27_4 : fldOf P 27 4 = some (4, 4) := by kernel_rfl
@[simp] theorem ty_fl27_5 : fldOf P 27 5 = some (5, 25) := by kernel_rfl
@[simp] theorem ty_fl33_0 : fldOf P 33 0 = some (0, 28) := by kernel_rfl
@[simp] theorem ty_fl33_1 : fldOf P 33 1 = some (1, 29) := by kernel_rfl
@[simp] theorem ty_fl33_2 : fldOf P 33 2 = some (2, 25) := by kernel_rfl
@[simp] theorem ty_fl39_0 : fldOf P 39 0 = some (0, 36) := by kernel_rfl
@[simp] theorem ty_fl39_1 : fldOf P 39 1 = some (1, 37) := by kernel_rfl
@[simp] theorem ty_fl45_1 : fldOf P 45 1 = some (1, 43) := by kernel_rfl
@[simp] theorem ty_fl45_2 : fldOf P 45 2 = some (2, 3) := by kernel_rfl
@[simp] theorem ty_fl48_0 : fldOf P 48 0 = some (0, 46) := by kernel_rfl
@[simp] theorem ty_fl48_5 : fldOf P 48 5 = some (5, 3) := by kernel_rfl
@[simp] theorem ty_fl53_0 : fldOf P 53 0 = some (0, 51) := by kernel_rfl
@[simp] theorem ty_fl53_1 : fldOf P 53 1 = some (1, 51) := by kernel_rfl
@[simp] theorem ty_fl68_0 : fldOf P 68 0 = some (0, 66) := by kernel_rfl
@[simp] theorem ty_fl68_1 : fldOf P 68 1 = some (1, 4) := by kernel_rfl
@[simp] theorem ty_fl68_2 : fldOf P 68 2 = some (2, 2) := by kernel_rfl
@[simp] theorem ty_fl68_3 : fldOf P 68 3 = some (3, 9) := by kernel_rfl
@[simp] theorem ty_fl68_4 : fldOf P 68 4 = some (4, 51) := by kernel_rfl
@[simp] theorem ty_fl70_0 : fldOf P 70 0 = some (0, 65) := by kernel_rfl
@[simp] theorem ty_fl70_1 : fldOf P 70 1 = some (1, 25) := by kernel_rfl
@[simp] theorem ty_fl70_2 : fldOf P 70 2 = some (2, 3) := by kernel_rfl
@[simp] theorem ty_fl70_3 : fldOf P 70 3 = some (3, 9) := by kernel_rfl
@[simp] theorem ty_fl70_4 : fldOf P 70 4 = some (4, 68) := by kernel_rfl
@[simp] theorem ty_fl76_1 : fldOf P 76 1 = some (1, 3) := by kernel_rfl
@[simp] theorem ty_fl79_0 : fldOf P 79 0 = some (0, 33) := by kernel_rfl
@[simp] theorem ty_fl79_1 : fldOf P 79 1 = some (7, 39) := by kernel_rfl
@[simp] theorem ty_fl82_0 : fldOf P 82 0 = some (0, 33) := by kernel_rfl
@[simp] theorem ty_fl82_1 : fldOf P 82 1 = some (7, 53) := by kernel_rfl
@[simp] theorem ty_fl86_0 : fldOf P 86 0 = some (0, 33) := by kernel_rfl
@[simp] theorem ty_fl86_1 : fldOf P 86 1 = some (7, 3) := by kernel_rfl
@[simp] theorem ty_int141 : intOf? P 141 = some .u64 := by kernel_rfl
@[simp] theorem ty_int2 : intOf? P 2 = some .i64 := by kernel_rfl
@[simp] theorem ty_int3 : intOf? P 3 = some .i64 := by kernel_rfl
@[simp] theorem ty_int58 : intOf? P 58 = some .u32 := by kernel_rfl
@[simp] theorem ty_key22 : keyD P 22 = some (.int .i64) := by kernel_rfl
@[simp] theorem ty_key3 : keyD P 3 = some (.int .i64) := by kernel_rfl
@[simp] theorem ty_map101 : mapT P 101 = some (3, 4) := by kernel_rfl
@[simp] theorem ty_map119 : mapT P 119 = some (22, 3) := by kernel_rfl
@[simp] theorem ty_pl27 : placesT P 27 = some [(0, 1), (1, 1), (2, 1), (3, 1), (4, 1), (5, 1)] := by kernel_rfl
@[simp] theorem ty_pl33 : placesT P 33 = some [(0, 1), (1, 1), (2, 1), (3, 1), (4, 1), (5, 1), (6, 1)] := by kernel_rfl
@[simp] theorem ty_pl39 : placesT P 39 = some [(0, 1), (1, 1)] := by kernel_rfl
@[simp] theorem ty_pl45 : placesT P 45 = some [(0, 1), (1, 1), (2, 1)] := by kernel_rfl
@[simp] theorem ty_pl48 : placesT P 48 = some [(0, 1), (1, 1), (2, 1), (3, 1), (4, 1), (5, 1)] := by kernel_rfl
@[simp] theorem ty_pl53 : placesT P 53 = some [(0, 1), (1, 1)] := by kernel_rfl
@[simp] theorem ty_pl76 : placesT P 76 = some [(0, 1), (1, 1)] := by kernel_rfl
@[simp] theorem ty_pl79 : placesT P 79 = some [(0, 7), (7, 2)] := by kernel_rfl
@[simp] theorem ty_pl82 : placesT P 82 = some [(0, 7), (7, 2)] := by kernel_rfl
@[simp] theorem ty_pl86 : placesT P 86 = some [(0, 7), (7, 1)] := by kernel_rfl
@[simp] theorem ty_sz100 : szOf P 100 = 1 := by kernel_rfl
@[simp] theorem ty_sz101 : szOf P 101 = 1 := by kernel_rfl
@[simp] theorem ty_sz103 : szOf P 103 = 1 := by kernel_rfl
@[simp] theorem ty_sz105 : szOf P 105 = 7 := by kernel_rfl
@[simp] theorem ty_sz127 : szOf P 127 = 1 := by kernel_rfl
@[simp] theorem ty_sz2 : szOf P 2 = 1 := by kernel_rfl
@[simp] theorem ty_sz22 : szOf P 22 = 1 := by kernel_rfl
@[simp] theorem ty_sz23 : szOf P 23 = 1 := by kernel_rfl
@[simp] theorem ty_sz24 : szOf P 24 = 1 := by kernel_rfl
@[simp] theorem ty_sz25 : szOf P 25 = 1 := by kernel_rfl
@[simp] theorem ty_sz27 : szOf P 27 = 6 := by kernel_rfl
@[simp] theorem ty_sz28 : szOf P 28 = 1 := by kernel_rfl
@[simp] theorem ty_sz29 : szOf P 29 = 1 := by kernel_rfl
@[simp] theorem ty_sz3 : szOf P 3 = 1 := by kernel_rfl
@[simp] theorem ty_sz33 : szOf P 33 = 7 := by kernel_rfl
@[simp] theorem ty_sz36 : szOf P 36 = 1 := by kernel_rfl
@[simp] theorem ty_sz37 : szOf P 37 = 1 := by kernel_rfl
@[simp] theorem ty_sz39 : szOf P 39 = 2 := by kernel_rfl
@[simp] theorem ty_sz4 : szOf P 4 = 1 := by kernel_rfl
@[simp] theorem ty_sz43 : szOf P 43 = 1 := by kernel_rfl
@[simp] theorem ty_sz45 : szOf P 45 = 3 := by kernel_rfl
@[simp] theorem ty_sz46 : szOf P 46 = 1 := by kernel_rfl
@[simp] theorem ty_sz48 : szOf P 48 = 6 := by kernel_rfl
@[simp] theorem ty_sz51 : szOf P 51 = 1 := by kernel_rfl
@[simp] theorem ty_sz53 : szOf P 53 = 2 := by kernel_rfl
@[simp] theorem ty_sz58 : szOf P 58 = 1 := by kernel_rfl
@[simp] theorem ty_sz60 : szOf P 60 = 1 := by kernel_rfl
@[simp] theorem ty_sz65 : szOf P 65 = 1 := by kernel_rfl
@[simp] theorem ty_sz66 : szOf P 66 = 1 := by kernel_rfl
@[simp] theorem ty_sz68 : szOf P 68 = 5 := by kernel_rfl
@[simp] theorem ty_sz70 : szOf P 70 = 9 := by kernel_rfl
@[simp] theorem ty_sz76 : szOf P 76 = 2 := by kernel_rfl
@[simp] theorem ty_sz82 : szOf P 82 = 9 := by kernel_rfl
@[simp] theorem ty_sz86 : szOf P 86 = 8 := by kernel_rfl
@[simp] theorem ty_sz9 : szOf P 9 = 1 := by kernel_rfl
@[simp] theorem ty_tk121 : tkind P 121 = 1 := by kernel_rfl
@[simp] theorem ty_tk23 : tkind P 23 = 1 := by kernel_rfl
@[simp] theorem ty_tk24 : tkind P 24 = 1 := by kernel_rfl
@[simp] theorem ty_tk25 : tkind P 25 = 1 := by kernel_rfl
@[simp] theorem ty_tk28 : tkind P 28 = 1 := by kernel_rfl
@[simp] theorem ty_tk29 : tkind P 29 = 1 := by kernel_rfl
@[simp] theorem ty_tk36 : tkind P 36 = 1 := by kernel_rfl
@[simp] theorem ty_tk37 : tkind P 37 = 1 := by kernel_rfl
@[simp] theorem ty_tk43 : tkind P 43 = 1 := by kernel_rfl
@[simp] theorem ty_tk51 : tkind P 51 = 1 := by kernel_rfl
@[simp] theorem ty_tk57 : tkind P 57 = 1 := by kernel_rfl
@[simp] theorem ty_tk60 : tkind P 60 = 1 := by kernel_rfl
@[simp] theorem ty_zero100 : zeroOf P 100 = some [.nilFunc] := by kernel_rfl
@[simp] theorem ty_zero101 : zeroOf P 101 = some [.map none] := by kernel_rfl
@[simp] theorem ty_zero105 : zeroOf P 105 = some [.string ByteArray.empty, .int .i64 0, .int .i64 0, .int .i64 0, .int .i64 0, .int .i64 0, .int .i64 0] := by kernel_rfl
@[simp] theorem ty_zero106 : zeroOf P 106 = some [.bool false, .bool false] := by kernel_rfl
@[simp] theorem ty_zero2 : zeroOf P 2 = some [.int .i64 0] := by kernel_rfl
@[simp] theorem ty_zero24 : zeroOf P 24 = some [.slice none 0 0] := by kernel_rfl
@[simp] theorem ty_zero25 : zeroOf P 25 = some [.slice none 0 0] := by kernel_rfl
@[simp] theorem ty_zero27 : zeroOf P 27 = some [.int .i64 0, .slice none 0 0, .int .i64 0, .slice none 0 0, .bool false, .slice none 0 0] := by kernel_rfl
@[simp] theorem ty_zero3 : zeroOf P 3 = some [.int .i64 0] := by kernel_rfl
@[simp] theorem ty_zero33 : zeroOf P 33 = some [.slice none 0 0, .slice none 0 0, .slice none 0 0, .slice none 0 0, .bool false, .slice none 0 0, .int .i64 0] := by kernel_rfl
@[simp] theorem ty_zero39 : zeroOf P 39 = some [.slice none 0 0, .slice none 0 0] := by kernel_rfl
@[simp] theorem ty_zero4 : zeroOf P 4 = some [.bool false] := by kernel_rfl
@[simp] theorem ty_zero45 : zeroOf P 45 = some [.int .i64 0, .slice none 0 0, .int .i64 0] := by kernel_rfl
@[simp] theorem ty_zero48 : zeroOf P 48 = some [.int .i64 0, .int .i64 0, .slice none 0 0, .bool false, .slice none 0 0, .int .i64 0] := by kernel_rfl
@[simp] theorem ty_zero53 : zeroOf P 53 = some [.slice none 0 0, .slice none 0 0] := by kernel_rfl
@[simp] theorem ty_zero60 : zeroOf P 60 = some [.slice none 0 0] := by kernel_rfl
@[simp] theorem ty_zero70 : zeroOf P 70 = some [.int .i64 0, .slice none 0 0, .int .i64 0, .string ByteArray.empty, .int .i64 0, .bool false, .int .i64 0, .string ByteArray.empty, .slice none 0 0] := by kernel_rfl
@[simp] theorem ty_zero76 : zeroOf P 76 = some [.string ByteArray.empty, .int .i64 0] := by kernel_rfl
@[simp] theorem ty_zero79 : zeroOf P 79 = some [.slice none 0 0, .slice none 0 0, .slice none 0 0, .slice none 0 0, .bool false, .slice none 0 0, .int .i64 0, .slice none 0 0, .slice none 0 0] := by kernel_rfl
@[simp] theorem ty_zero82 : zeroOf P 82 = some [.slice none 0 0, .slice none 0 0, .slice none 0 0, .slice none 0 0, .bool false, .slice none 0 0, .int .i64 0, .slice none 0 0, .slice none 0 0] := by kernel_rfl
@[simp] theorem ty_zero86 : zeroOf P 86 = some [.slice none 0 0, .slice none 0 0, .slice none 0 0, .slice none 0 0, .bool false, .slice none 0 0, .int .i64 0, .int .i64 0] := by kernel_rfl
@[simp] theorem ty_zv3 : zeroV P 3 = some (.d (.lit (.int .i64 0))) := by kernel_rfl
@[simp] theorem ty_zv4 : zeroV P 4 = some (.d (.lit (.bool false))) := by kernel_rfl

/-! data -/
structure NodeT where
  name : ByteArray
  type : Int
structure EdgeT where
  name : ByteArray
  type : Int
  src : Int
  dst : Int
  mode : Int
  lo : Int
  hi : Int
structure ValT where
  kind : Int
  bool : Bool
  num : Int
  text : ByteArray
  path : List Int
inductive TermT where
  | mk (op : Int) (kids : List TermT) (slot : Int) (prop : ByteArray) (val : ValT)
inductive PlanT where
  | mk (op : Int) (kids : List PlanT) (slot : Int) (edges : List Int) (back : Bool) (terms : List TermT)
structure CoreT where
  nodes : List NodeT
  edges : List EdgeT
  wher : List TermT
  cols : D
  distinct : Bool
  order : D
  limit : Int
structure StatsT where
  nodes : List Int
  edges : List Int
instance : Inhabited NodeT := ⟨⟨ByteArray.empty, 0⟩⟩
instance : Inhabited EdgeT := ⟨⟨ByteArray.empty, 0, 0, 0, 0, 0, 0⟩⟩
instance : Inhabited TermT := ⟨⟨0, [], 0, ByteArray.empty, ⟨0, false, 0, ByteArray.empty, []⟩⟩⟩
instance : Inhabited PlanT := ⟨⟨0, [], 0, [], false, []⟩⟩
namespace TermT
def op : TermT → Int | mk o _ _ _ _ => o
def kids : TermT → List TermT | mk _ k _ _ _ => k
def slot : TermT → Int | mk _ _ s _ _ => s
def prop : TermT → ByteArray | mk _ _ _ p _ => p
def val : TermT → ValT | mk _ _ _ _ v => v
end TermT
namespace PlanT
def op : PlanT → Int | mk o _ _ _ _ _ => o
def kids : PlanT → List PlanT | mk _ k _ _ _ _ => k
def slot : PlanT → Int | mk _ _ s _ _ _ => s
def edges : PlanT → List Int | mk _ _ _ e _ _ => e
def back : PlanT → Bool | mk _ _ _ _ b _ => b
def terms : PlanT → List TermT | mk _ _ _ _ _ t => t
end PlanT
def encI (n : Int) : List D := [.int n]
def encB (b : Bool) : List D := [.bool b]
def encV (v : ValT) : List D := [.int v.kind, .bool v.bool, .int v.num, .str v.text, .sl false (v.path.map encI)]
mutual
def encT : TermT → List D
  | .mk o k s p v => .int o :: .sl false (encTs k) :: .int s :: .str p :: encV v
def encTs : List TermT → List (List D)
  | [] => []
  | t :: r => encT t :: encTs r
end
mutual
def encP : PlanT → List D
  | .mk o k s e b t => [.int o, .sl false (encPs k), .int s, .sl false (e.map encI), .bool b, .sl false (t.map encT)]
def encPs : List PlanT → List (List D)
  | [] => []
  | t :: r => encP t :: encPs r
end
theorem encTs_eq (l : List TermT) : encTs l = l.map encT := by
  induction l with
  | nil => rfl
  | cons t r ih => simp [encTs, ih]
theorem encPs_eq (l : List PlanT) : encPs l = l.map encP := by
  induction l with
  | nil => rfl
  | cons t r ih => simp [encPs, ih]
def encN (n : NodeT) : List D := [.str n.name, .int n.type]
def encE (e : EdgeT) : List D := [.str e.name, .int e.type, .int e.src, .int e.dst, .int e.mode, .int e.lo, .int e.hi]
def encC (c : CoreT) : List D := [.sl false (c.nodes.map encN), .sl false (c.edges.map encE), .sl false (c.wher.map encT), c.cols, .bool c.distinct, c.order, .int c.limit]
def encS (s : StatsT) : List D := [.sl false (s.nodes.map encI), .sl false (s.edges.map encI)]
@[simp] theorem encT_cells (t : TermT) : encT t = [.int t.op, .sl false (t.kids.map encT), .int t.slot, .str t.prop, .int t.val.kind, .bool t.val.bool, .int t.val.num, .str t.val.text, .sl false (t.val.path.map encI)] := by
  cases t; simp [encT, encV, encTs_eq, TermT.op, TermT.kids, TermT.slot, TermT.prop, TermT.val]
@[simp] theorem encP_cells (p : PlanT) : encP p = [.int p.op, .sl false (p.kids.map encP), .int p.slot, .sl false (p.edges.map encI), .bool p.back, .sl false (p.terms.map encT)] := by
  cases p; simp [encP, encPs_eq, PlanT.op, PlanT.kids, PlanT.slot, PlanT.edges, PlanT.back, PlanT.terms]
attribute [simp] encI encB encN encE encC encS
end Go.Proofs.Ytihbejpkfifplaa.Z
end
