/- Code: from one description to the next. -/
import Derived.Test.YtihbejpkfifplaaFs
import Derived.ScopeJumps
set_option linter.unusedVariables false
set_option linter.unusedSimpArgs false
namespace Go.Fw
variable {P : Program}

def RunP (P : Program) (w0 : World) (L0 : Par) (X : Nat → Prop) (c : Code) (E : St) (Q : Exit → St → Prop) : Prop :=
  ∀ {m : Nat → Option Nat} {a : Act} {w : World}, Rel w0 L0 X m E.e E.s a w → c.wp P (fun x a' w' => ∃ E' m', Q x E' ∧ Rel w0 L0 X m' E'.e E'.s a' w') a w
/-- FROM THIS DESCRIPTION THE CODE COMES TO ONE OF WHICH Q HOLDS. -/
def Run (P : Program) (c : Code) (E : St) (Q : Exit → St → Prop) : Prop := ∀ (w0 : World) (L0 : Par) (X : Nat → Prop), RunP P w0 L0 X c E Q

def Then (R : St → Prop) (Q : Exit → St → Prop) : Exit → St → Prop
  | .normal, E => R E
  | x, E => Q x E
theorem Then_normal {R : St → Prop} {Q : Exit → St → Prop} {E : St} : Then R Q .normal E = R E := rfl
theorem Then_exit {R : St → Prop} {Q : Exit → St → Prop} {E : St} {i : Nat} : Then R Q (.exit i) E = Q (.exit i) E := rfl
theorem Then_goto {R : St → Prop} {Q : Exit → St → Prop} {E : St} {i : Nat} : Then R Q (.goto i) E = Q (.goto i) E := rfl
theorem Then_ret {R : St → Prop} {Q : Exit → St → Prop} {E : St} : Then R Q .ret E = Q .ret E := rfl
def Blok (id : Nat) (Q : Exit → St → Prop) : Exit → St → Prop
  | .exit i, E => if i = id then Q .normal E else Q (.exit i) E
  | x, E => Q x E
theorem Blok_normal {Q : Exit → St → Prop} {id : Nat} {E : St} : Blok id Q .normal E = Q .normal E := rfl
theorem Blok_exit {Q : Exit → St → Prop} {id i : Nat} {E : St} : Blok id Q (.exit i) E = if i = id then Q .normal E else Q (.exit i) E := rfl
theorem Blok_goto {Q : Exit → St → Prop} {id i : Nat} {E : St} : Blok id Q (.goto i) E = Q (.goto i) E := rfl
theorem Blok_ret {Q : Exit → St → Prop} {id : Nat} {E : St} : Blok id Q .ret E = Q .ret E := rfl

section
variable {w0 : World} {L0 : Par} {X : Nat → Prop} {Q Q' : Exit → St → Prop} {E : St}
theorem RunP.mono {c : Code} (h : RunP P w0 L0 X c E Q) (hq : ∀ x E, Q x E → Q' x E) : RunP P w0 L0 X c E Q' := fun hr => wp_mono (h hr) fun x a w ⟨E', m', q, r⟩ => ⟨E', m', hq _ _ q, r⟩
end
variable {Q Q' : Exit → St → Prop} {E : St}
theorem Run.mono {c : Code} (h : Run P c E Q) (hq : ∀ x E, Q x E → Q' x E) : Run P c E Q' := fun w0 L0 X => RunP.mono (h w0 L0 X) hq
theorem Run.skip (h : Q .normal E) : Run P .skip E Q := fun _ _ _ _ _ _ hr => wp_skip ⟨E, _, h, hr⟩
theorem Run.label {l : Nat} (h : Q .normal E) : Run P (.label l) E Q := fun _ _ _ _ _ _ hr => wp_label ⟨E, _, h, hr⟩
theorem Run.exit {id : Nat} (h : Q (.exit id) E) : Run P (.exit id) E Q := fun _ _ _ _ _ _ hr => wp_exit ⟨E, _, h, hr⟩
theorem Run.goto {l : Nat} (h : Q (.goto l) E) : Run P (.goto l) E Q := fun _ _ _ _ _ _ hr => wp_goto ⟨E, _, h, hr⟩
theorem Run.ret (h : Q .ret E) : Run P .ret E Q := fun _ _ _ _ _ _ hr => wp_ret ⟨E, _, h, hr⟩
theorem Run.seq {x y : Code} (h : Run P x E (Then (fun E' => Run P y E' Q) Q)) : Run P (.seq x y) E Q := fun w0 L0 X m a w hr => by
  refine wp_seq (wp_mono (h w0 L0 X hr) fun x a' w' hx => ?_)
  obtain ⟨E', m', q, r⟩ := hx
  cases x with
  | normal => exact q w0 L0 X r
  | exit i => exact ⟨E', m', q, r⟩
  | goto l => exact ⟨E', m', q, r⟩
  | ret => exact ⟨E', m', q, r⟩
  | panic ch => exact ⟨E', m', q, r⟩
  | outgrown => exact ⟨E', m', q, r⟩
theorem Run.cond {c : Operand} {x y : Code} {b : Bool} (hc : look E.e c = .d (.lit (.bool b))) (ht : b = true → Run P x E Q) (hf : b = false → Run P y E Q) : Run P (.cond c x y) E Q := fun w0 L0 X m a w hr => by
  have h1 := hr.look c
  rw [hc] at h1
  have h2 := h1.lit_inv
  cases b
  · exact wp_cond_false h2 (hf rfl w0 L0 X hr)
  · exact wp_cond_true h2 (ht rfl w0 L0 X hr)
theorem Run.block {id : Nat} {c : Code} (h : Run P c E (Blok id Q)) : Run P (.block id c) E Q := fun w0 L0 X m a w hr => by
  refine wp_block (wp_mono (h w0 L0 X hr) fun x a' w' hx => ?_)
  obtain ⟨E', m', q, r⟩ := hx
  cases x with
  | normal => exact ⟨E', m', q, r⟩
  | exit i =>
    simp only [Blok_exit] at q
    simp only [Exit.inBlock]
    split at q
    · rename_i e; rw [if_pos e]; exact ⟨E', m', q, r⟩
    · rename_i e; rw [if_neg e]; exact ⟨E', m', q, r⟩
  | goto l => exact ⟨E', m', q, r⟩
  | ret => exact ⟨E', m', q, r⟩
  | panic ch => exact ⟨E', m', q, r⟩
  | outgrown => exact ⟨E', m', q, r⟩

/-! less told -/
def leE : List V → List V → Prop
  | [], [] => True
  | a :: r, b :: t => (b = .top ∨ a = b) ∧ leE r t
  | _, _ => False
def leS (s : Store) : Store → Prop
  | [] => True
  | (i, b) :: r => getB s i = some b ∧ leS s r
def Le (E F : St) : Prop := leE E.e F.e ∧ leS E.s F.s
theorem leE_all {a b : List V} (h : leE a b) : b.length = a.length ∧ ∀ (j : Nat) (x : V), b[j]? = some x → x = .top ∨ a[j]? = some x := by
  induction a generalizing b with
  | nil => cases b <;> simp_all [leE]
  | cons v r ih =>
    cases b with
    | nil => exact h.elim
    | cons u t =>
      obtain ⟨h1, h2⟩ := h
      obtain ⟨h3, h4⟩ := ih h2
      refine ⟨by simp [h3], fun j x hj => ?_⟩
      cases j with
      | zero => simp at hj; subst hj; rcases h1 with h1 | h1 <;> simp [h1]
      | succ j => simp at hj ⊢; exact h4 j x hj
theorem leS_get {s t : Store} (h : leS s t) {i : Nat} {b : Blk} (hi : getB t i = some b) : getB s i = some b := by
  induction t with
  | nil => cases hi
  | cons x r ih =>
    obtain ⟨j, c⟩ := x
    simp only [getB] at hi
    split at hi
    · rename_i e; subst e; cases hi; exact h.1
    · exact ih h.2 hi
theorem Rel.le {w0 : World} {L0 : Par} {X : Nat → Prop} {m : Nat → Option Nat} {F : St} {a : Act} {w : World} (h : Rel w0 L0 X m E.e E.s a w) (hl : Le E F) : Rel w0 L0 X m F.e F.s a w := by
  obtain ⟨h1, h2⟩ := leE_all hl.1
  have hown : ∀ b, Own m F.s b → Own m E.s b := by
    rintro b ⟨i, blk, g1, g2⟩
    exact ⟨i, blk, leS_get hl.2 g1, g2⟩
  have hL : ∀ b, Live X m F.s b → Live X m E.s b ∨ w.heap.size ≤ b := fun b hb => .inl (hb.imp_right (hown b))
  have hk : CellsKept (Live X m E.s) w w := fun _ _ _ q => q
  have hz : SizesKept w w := fun _ cs _ _ q => ⟨cs, q, rfl⟩
  refine ⟨⟨h.env.len.trans h1.symm, fun j x v q1 q2 => ?_⟩, ⟨fun i blk hi => ?_, fun i j b q1 q2 q3 q4 => ?_⟩, h.dfr, h.ext, fun b hb => h.liv b (hown b hb), h.old, fun i hi hs => h.par i hi (by
    obtain ⟨c, hc⟩ := Option.isSome_iff_exists.1 hs
    rw [leS_get hl.2 hc]; rfl)⟩
  · rcases h2 j x q1 with rfl | g
    · exact .top v
    · exact VRel.mono' hk hz hL (h.env.at_ j x v g q2)
  · rcases h.sto.blk i blk (leS_get hl.2 hi) with ⟨b, r1, r2⟩ | r
    · exact .inl ⟨b, r1, BRel.mono (p := fun _ => false) hk hz hL (fun _ _ => rfl) rfl (by cases blk <;> first | exact menL_false _ | trivial) r2⟩
    · exact .inr r
  · have key : ∀ i, (getB F.s i).isSome = true → (getB E.s i).isSome = true := fun i q => by
      obtain ⟨c, hc⟩ := Option.isSome_iff_exists.1 q
      rw [leS_get hl.2 hc]; rfl
    exact h.sto.inj i j b q1 q2 (key i q3) (key j q4)
theorem Run.le {c : Code} {F : St} (hl : Le E F) (h : Run P c F Q) : Run P c E Q := fun w0 L0 X m a w hr => h w0 L0 X (hr.le hl)
/-- a nil slice as one of the call's own -/
theorem Run.virt {c : Code} {e : Env} {s : Store} (k id sz : Nat) (h90 : 90 ≤ id) (hk : e.getD k .top = vnil ∨ e.getD k .top = .d (.sl false [])) (h : Run P c ⟨(V.fgtL (· == id) e).set k (.rs id sz 0 0), putB (fgtS (· == id) s) id (.data sz [])⟩ Q) (hn : e.getD k .top = vnil) : Run P c ⟨e, s⟩ Q := fun w0 L0 X m a w hr => by
  have hp : hitO none id = (· == id) := by funext i; simp [hitO]
  have h1 := hr.swap h90 (k := none) (id := id) (ob := none) (blk := .data sz []) (w' := w) (by simp) (fun _ _ _ q => q) (fun _ cs _ _ q => ⟨cs, q, rfl⟩) (fun _ _ _ => rfl) rfl rfl rfl (Nat.le_refl _) (.inl ⟨rfl, sz, rfl⟩)
  rw [hp] at h1
  have hv := hr.look (.tmp k)
  simp only [look, hn] at hv
  have hv := hv.lit_inv
  have hlt : k < e.length := by
    rcases Nat.lt_or_ge k e.length with h | h
    · exact h
    · rw [List.getD_eq_getElem?_getD, List.getElem?_eq_none h] at hn; cases hn
  have hlt' : k < a.tmps.size := by have := hr.env.len; simp at this; omega
  have e1 : a.put (some k) (.slice none 0 0) = a := by
    cases a with
    | mk tmps defers =>
      simp only [Act.eval] at hv
      simp only [Act.put]
      congr 1
      apply Array.ext
      · simp
      · intro j h1 h2
        by_cases e : k = j
        · subst e
          have e2 : tmps.getD k undef = tmps[k] := by simp [Array.getD, h2]
          rw [e2] at hv
          simp [hv]
        · rw [Array.getElem_setIfInBounds, if_neg e]
  have h2 := h1.put (some k) (x := .rs id sz 0 0) (v := .slice none 0 0) (.rsE id sz)
  rw [e1] at h2
  exact h w0 L0 X h2
theorem wp_loop_by {α : Type} {c : Code} {Q : Exit → Act → World → Prop} (J : α → Act → World → Prop) (μ : α → Nat) (round : ∀ x a w, J x a w → c.wp P (Exit.then (fun a' w' => ∃ y, J y a' w' ∧ μ y < μ x) Q) a w) {x0 : α} {a : Act} {w : World} (h0 : J x0 a w) : (Code.loop c).wp P Q a w := by
  intro b k cs
  have key : ∀ n x a w, μ x = n → J x a w → ∃ e a' w', Q e a' w' ∧ Arrives P (lone (b.at a (.code c :: .inLoop c :: k)) cs w) b k cs e a' w' := by
    intro n
    induction n using Nat.strongRecOn with
    | _ n ih =>
      intro x a w hn hI
      obtain ⟨e, a₁, w₁, hq, harr⟩ := round x a w hI b (.inLoop c :: k) cs
      cases e with
      | normal =>
        obtain ⟨y, hI₁, hlt⟩ := hq
        obtain ⟨e₂, a₂, w₂, hq₂, harr₂⟩ := ih (μ y) (hn ▸ hlt) y a₁ w₁ rfl hI₁
        exact ⟨e₂, a₂, w₂, hq₂, .of_steps (Steps.trans harr (.one step_inLoop)) harr₂⟩
      | exit id => exact ⟨_, a₁, w₁, hq, .pass (x := .inLoop c) rfl (fun _ _ => .inl (by simp)) harr⟩
      | goto l => exact ⟨_, a₁, w₁, hq, .pass (x := .inLoop c) rfl (fun _ _ => .inl (by simp)) harr⟩
      | ret => exact ⟨_, a₁, w₁, hq, .pass (x := .inLoop c) rfl (fun _ _ => .inl (by simp)) harr⟩
      | panic ch => exact ⟨_, a₁, w₁, hq, .pass (x := .inLoop c) rfl (fun _ _ => .inl (by simp)) harr⟩
      | outgrown => exact ⟨_, a₁, w₁, hq, .pass (x := .inLoop c) rfl (fun _ _ => .inl (by simp)) harr⟩
  obtain ⟨e, a', w', hq, harr⟩ := key _ x0 a w rfl h0
  exact ⟨e, a', w', hq, .of_steps (.one step_loop) harr⟩
/-- A LOOP: what holds at each round's head, by what stands in F. -/
theorem Run.loop {c : Code} {α : Type} (F : α → St) (I : α → Prop) (μ : α → Nat) (x0 : α) (h0 : I x0) (hE : Le E (F x0))
    (hstep : ∀ x, I x → Run P c (F x) (Then (fun E' => ∃ y, I y ∧ μ y < μ x ∧ Le E' (F y)) Q)) : Run P (.loop c) E Q := fun w0 L0 X m a w hr => by
  refine wp_loop_by (fun x a w => I x ∧ ∃ m, Rel w0 L0 X m (F x).e (F x).s a w) μ (fun x a w hx => ?_) (x0 := x0) ⟨h0, m, hr.le hE⟩
  obtain ⟨hI, m, hr⟩ := hx
  refine wp_mono (hstep x hI w0 L0 X hr) fun ex a' w' hx => ?_
  obtain ⟨E', m', q, r⟩ := hx
  cases ex with
  | normal =>
    obtain ⟨y, hy, hlt, hle⟩ := q
    exact ⟨y, ⟨hy, m', r.le hle⟩, hlt⟩
  | exit i => exact ⟨E', m', q, r⟩
  | goto l => exact ⟨E', m', q, r⟩
  | ret => exact ⟨E', m', q, r⟩
  | panic ch => exact ⟨E', m', q, r⟩
  | outgrown => exact ⟨E', m', q, r⟩

/-! a region -/
def enterE (all : List Oper) (e : Env) : Env := if (ks all).isEmpty then e else V.fgtL (madeIn all) e
def enterS (all : List Oper) (s : Store) : Store := if (ks all).isEmpty then s else fgtS (madeIn all) s
def okReg (im draw : Bool) (all : List Oper) : Bool := alone all && (!draw || indep im all)
theorem ks_nil {all : List Oper} (h : (ks all).isEmpty = true) : ∀ o ∈ all, makes o = false := by
  intro o ho
  cases hm : makes o with
  | false => rfl
  | true =>
    have : newId o.dst / 100 ∈ ks all := by simp only [ks, List.mem_filterMap]; exact ⟨o, ho, by simp [hm]⟩
    rw [List.isEmpty_iff.1 h] at this
    cases this
theorem Run.region {im : Bool} {id : Nat} {ops : Array Oper} {draw : Bool} (hm : P.follows .mixedOrders = true) (hk : okReg im draw ops.toList = true) {e : Env} {s : Store} {E' : St}
    (hs : Steps P im ops.toList (List.range ops.toList.length) ⟨enterE ops.toList e, enterS ops.toList s⟩ E') (hq : Q .normal E') : Run P (.region id ops draw) ⟨e, s⟩ Q := fun w0 L0 X m a w hr => by
  simp only [okReg, Bool.and_eq_true, Bool.or_eq_true, Bool.not_eq_true'] at hk
  obtain ⟨ha, hd⟩ := hk
  have henter : Rel w0 L0 X m (enterE ops.toList e) (enterS ops.toList s) a w ∧ FreshAll ops.toList (List.range ops.toList.length) ⟨enterE ops.toList e, enterS ops.toList s⟩ := by
    unfold enterE enterS
    by_cases h : (ks ops.toList).isEmpty = true
    · simp only [h, if_true]
      refine ⟨hr, fun i _ o ho hm => ?_⟩
      have := ks_nil h o (List.mem_of_getElem? ho)
      rw [this] at hm; cases hm
    · simp only [h, if_false]
      exact ⟨hr.fgt _, fresh_enter⟩
  obtain ⟨h1, h2⟩ := henter
  have fin : ∀ m' a' w', Rel w0 L0 X m' E'.e E'.s a' w' → ∃ E'' m'', Q .normal E'' ∧ Rel w0 L0 X m'' E''.e E''.s a' w' := fun m' a' w' h => ⟨E', m', hq, h⟩
  cases draw with
  | false =>
    refine wp_region ?_
    have := seq_ops (P := P) (w0 := w0) (L0 := L0) (X := X) ha List.nodup_range h2 h1 hs (Q := fun x a' w' => ∃ E' m', Q x E' ∧ Rel w0 L0 X m' E'.e E'.s a' w') fin
    simpa using this
  | true =>
    have hi : indep im ops.toList = true := by rcases hd with h | h; exact absurd h (by simp); exact h
    refine wp_region_any hm ?_
    have hu : undone ops.toList.length (Array.replicate ops.size false) = List.range ops.toList.length := by
      unfold undone
      rw [List.filter_eq_self]
      intro k hk
      have := List.mem_range.1 hk
      simp at this
      simp [Array.getD, this]
    have h3 : Rel w0 L0 X m (enterE ops.toList e) (enterS ops.toList s) a { w with drawn := w.drawn + 1 } := by
      have hk : CellsKept (Live X m (enterS ops.toList s)) w { w with drawn := w.drawn + 1 } := fun _ _ _ q => q
      have hz : SizesKept w { w with drawn := w.drawn + 1 } := fun _ cs _ _ q => ⟨cs, q, rfl⟩
      refine ⟨⟨h1.env.len, fun j x v q1 q2 => VRel.mono' hk hz (fun b hb => .inl hb) (h1.env.at_ j x v q1 q2)⟩, ⟨fun i blk hi => ?_, h1.sto.inj⟩, h1.dfr, ⟨h1.ext.os, h1.ext.tape, h1.ext.output, h1.ext.size, h1.ext.block, h1.ext.sizes⟩, h1.liv, h1.old, h1.par⟩
      rcases h1.sto.blk i blk hi with ⟨b, r1, r2⟩ | r
      · exact .inl ⟨b, r1, BRel.mono (p := fun _ => false) hk hz (fun b hb => .inl hb) (fun _ _ => rfl) rfl (by cases blk <;> first | exact menL_false _ | trivial) r2⟩
      · exact .inr r
    have := any_ops (P := P) (w0 := w0) (L0 := L0) (X := X) ha hi ops.size (listed := Array.replicate ops.size false) (by simp) (by rw [hu]; simp) (fun i o ho hl hlt e he hb => by
      simp at hlt
      simp [Array.getD, hlt] at hl) (by rw [hu]; exact h2) h3 (by rw [hu]; exact hs) (Q := fun x a' w' => ∃ E' m', Q x E' ∧ Rel w0 L0 X m' E'.e E'.s a' w') fin
    simpa using this

/-! the operations one by one -/
/-- a call stands here -/
def ECall (P : Program) (g : FuncId) (args : List V) (dst : Option Nat) (k : Env → Store → Prop) (e : Env) (s : Store) : Prop := ∃ r τ, dst.isSome = true ∧ Snd P g args r τ ∧ okIds r τ = true ∧ k (put e dst (r.shift (newId dst))) (addS s (newId dst) τ)
/-- a call stands here that only reads what it is given, and answers a number, a bool, a string -/
def ECallF (P : Program) (g : FuncId) (args : List V) (dst : Option Nat) (k : Env → Store → Prop) (e : Env) (s : Store) : Prop := ∃ x, dst.isSome = true ∧ V.menL (fun _ => true) (V.finL [] s args) = false ∧ Snd P g (V.finL [] s args) (.d (.lit x)) [] ∧ k (put e dst (.d (.lit x))) s
/-- a call stands here that is given blocks -/
def ECallW (P : Program) (g : FuncId) (args : List V) (dst : Option Nat) (k : Env → Store → Prop) (e : Env) (s : Store) : Prop := ∃ ids args0 s0 r s1, dst.isSome = true ∧ args = V.renL (rho ids (newId dst)) args0 ∧ (∀ x ∈ s0, getB s (ids.getD x.1 0) = some (x.2.ren (rho ids (newId dst)))) ∧
  okW ids s0 args0 r s1 = true ∧ SndW P g args0 s0 r s1 ∧ k (put e dst (r.ren (rho ids (newId dst)))) (puts (dropS (lost ids s1) s) (renS (rho ids (newId dst)) s1))
def exec (P : Program) (im : Bool) (o : Oper) (k : Env → Store → Prop) (e : Env) (s : Store) : Prop := match cls o.op with
  | .p => match opP P o.op (look e) with | some (c, v) => c ∧ (c → k (put e o.dst v) s) | none => False
  | .r => match opR P o.op (look e) s with | some (c, v) => c ∧ (c → k (put e o.dst v) s) | none => False
  | .a => match o.dst with
    | some d => match opA P o.op (look e) (100 * (d + 1)) with | some (c, v, blk) => c ∧ (c → k (put e (some d) v) (putB s (100 * (d + 1)) blk)) | none => False
    | none => False
  | .w => match opW P o.op (look e) s with | some (c, s') => c ∧ (c → k (put e o.dst vundef) s') | none => False
  | .x => match o.op with
    | .call cl => match cl.callee with
      | .builtin .append => match opAppend P cl (look e) s with
        | some (kk, c, sz, all) => c ∧ (c → k (put (V.fgtL (hitO kk (newId o.dst)) e) o.dst (.rs (newId o.dst) sz 0 all.length)) (putB (fgtS (hitO kk (newId o.dst)) s) (newId o.dst) (.data sz all)))
        | none => match opAppendV P cl (look e) s with
          | some (kk, c, sz, n, all) => c ∧ (c → k (put (V.fgtL (hitO kk (newId o.dst)) e) o.dst (.rs (newId o.dst) sz 0 n)) (putB (fgtS (hitO kk (newId o.dst)) s) (newId o.dst) (.vals (V.fgtL (hitO kk (newId o.dst)) all))))
          | none => False
      | _ => False
    | _ => False
  | .c => match callOf o.op (look e) with
    | some (g, args) => match im with
      | true => ECallW P g args o.dst k e s
      | false => if V.menL (fun _ => true) args = false then ECall P g args o.dst k e s else ECallF P g args o.dst k e s
    | none => False
theorem exec_do {im : Bool} {o : Oper} {k : Env → Store → Prop} {e : Env} {s : Store} (h : exec P im o k e s) : ∃ E', DoI P im o ⟨e, s⟩ E' ∧ k E'.e E'.s := by
  unfold exec at h
  unfold DoI Do Loc
  cases hc : cls o.op <;> rw [hc] at h <;> simp only at h ⊢
  · split at h
    · rename_i c v hv; exact ⟨_, ⟨v, s, ⟨c, hv, h.1, rfl⟩, rfl⟩, h.2 h.1⟩
    · exact h.elim
  · split at h
    · rename_i c v hv; exact ⟨_, ⟨v, s, ⟨c, hv, h.1, rfl⟩, rfl⟩, h.2 h.1⟩
    · exact h.elim
  · split at h
    · rename_i d hd
      split at h
      · rename_i c v blk hv
        refine ⟨⟨put e (some d) v, putB s (100 * (d + 1)) blk⟩, ⟨v, _, ⟨c, blk, by rw [hd]; rfl, by rw [hd]; exact hv, h.1, rfl⟩, ?_⟩, h.2 h.1⟩
        rw [hd]; rfl
      · exact h.elim
    · exact h.elim
  · split at h
    · rename_i c s' hv; exact ⟨_, ⟨c, s', hv, h.1, rfl⟩, h.2 h.1⟩
    · exact h.elim
  · split at h
    · rename_i cl ho
      split at h
      · rename_i hcal
        split at h
        · rename_i kk c sz all hv
          exact ⟨_, ⟨cl, ho, hcal, kk, c, sz, _, _, .inl ⟨all, hv, rfl, rfl⟩, h.1, rfl⟩, h.2 h.1⟩
        · split at h
          · rename_i kk c sz n all hv
            exact ⟨_, ⟨cl, ho, hcal, kk, c, sz, n, _, .inr ⟨all, hv, rfl⟩, h.1, rfl⟩, h.2 h.1⟩
          · exact h.elim
      · exact h.elim
    · exact h.elim
  · split at h
    · rename_i g args hv
      cases im with
      | false =>
        simp only at h ⊢
        split at h
        · rename_i hp
          obtain ⟨r, τ, h1, h2, h3, h4⟩ := h
          exact ⟨_, ⟨_, _, ⟨g, args, args, r, τ, h1, hv, .inl rfl, hp, h2, h3, rfl, rfl⟩, rfl⟩, h4⟩
        · obtain ⟨x, h1, hp, h2, h4⟩ := h
          exact ⟨_, ⟨_, _, ⟨g, args, _, _, [], h1, hv, .inr ⟨rfl, x, rfl, rfl⟩, hp, h2, rfl, rfl, rfl⟩, rfl⟩, h4⟩
      | true =>
        simp only at h ⊢
        obtain ⟨ids, args0, s0, r, s1, h1, rfl, h3, h4, h5, h6⟩ := h
        exact ⟨_, ⟨g, args0, ids, s0, r, s1, h1, hv, h3, h4, h5, rfl⟩, h6⟩
    · exact h.elim
/-- two ways on, by what a guard holds -/
def GSplit (b want : Bool) (A B : Prop) : Prop := (b = want → A) ∧ (b = !want → B)
theorem gsplit {b want : Bool} {A B : Prop} (h1 : b = want → A) (h2 : b = !want → B) : GSplit b want A B := ⟨h1, h2⟩
theorem gs_tt {A B : Prop} : GSplit true true A B = A := by simp [GSplit]
theorem gs_ff {A B : Prop} : GSplit false false A B = A := by simp [GSplit]
theorem gs_tf {A B : Prop} : GSplit true false A B = B := by simp [GSplit]
theorem gs_ft {A B : Prop} : GSplit false true A B = B := by simp [GSplit]
@[congr] theorem gs_congr {b b' want : Bool} {A B : Prop} (h : b = b') : GSplit b want A B = GSplit b' want A B := by rw [h]
theorem set_same {e : Env} {k : Nat} {v : V} (h : e.getD k .top = v) : e.set k v = e := by
  apply List.ext_getElem?
  intro j
  rw [List.getElem?_set]
  split
  · rename_i e1; subst e1
    split
    · rename_i hlt; rw [← h]; simp [List.getD_eq_getElem?_getD, List.getElem?_eq_getElem hlt]
    · rename_i hlt; rw [List.getElem?_eq_none (by omega)]
  · rfl
/-- what the guard's slot holds where it is not as wanted -/
def setG (e : Env) (k : Nat) (want : Bool) : Env := match e.getD k .top with
  | .d (.lit (.bool _)) => e.set k (.d (.lit (.bool !want)))
  | _ => e
def EvO (P : Program) (im : Bool) (all : List Oper) (K : Env → Store → Prop) : List Oper → Env → Store → Prop
  | [], e, s => K e s
  | o :: os, e, s => match guardOf all e o.guard with
    | none => False
    | some none => exec P im o (EvO P im all K os) e s
    | some (some (k, want, b)) => GSplit b want (exec P im o (EvO P im all K os) (e.set k (.d (.lit (.bool want)))) s) (EvO P im all K os (put (setG e k want) o.dst vundef) s)
theorem evO_steps {im : Bool} {all : List Oper} {K : Env → Store → Prop} : ∀ {os : List Oper} {n : Nat} {e : Env} {s : Store}, all.drop n = os → EvO P im all K os e s → ∃ E', Steps P im all (List.range' n os.length) ⟨e, s⟩ E' ∧ K E'.e E'.s := by
  intro os
  induction os with
  | nil => intro n e s _ h; exact ⟨⟨e, s⟩, rfl, h⟩
  | cons o os ih =>
    intro n e s hd h
    have ho : all[n]? = some o := by
      have := congrArg List.head? hd
      simpa [List.head?_drop] using this
    have hd' : all.drop (n + 1) = os := by rw [← List.drop_drop, hd]; rfl
    have fin : ∀ {e' : Env} {s' : Store}, Stp P im all o ⟨e, s⟩ ⟨e', s'⟩ → EvO P im all K os e' s' → ∃ E', Steps P im all (List.range' n (o :: os).length) ⟨e, s⟩ E' ∧ K E'.e E'.s := by
      intro e' s' h1 h2
      obtain ⟨E', g1, g2⟩ := ih hd' h2
      exact ⟨E', ⟨o, ho, ⟨e', s'⟩, h1, g1⟩, g2⟩
    simp only [EvO] at h
    cases hg : guardOf all e o.guard with
    | none => rw [hg] at h; exact h.elim
    | some q =>
      rw [hg] at h
      cases q with
      | none =>
        obtain ⟨E1, h1, h2⟩ := exec_do h
        exact fin (by unfold Stp; rw [hg]; exact h1) h2
      | some q =>
        obtain ⟨k, want, b⟩ := q
        simp only [GSplit] at h
        rcases bool_or b want with hb | hb
        · have he : e.set k (.d (.lit (.bool want))) = e ∨ b = !want := by
            unfold guardOf at hg
            split at hg
            · cases hg
            · split at hg
              · split at hg
                · split at hg
                  · rename_i b' hk'
                    cases hg
                    left
                    rw [← hb, ← hk']
                    apply List.ext_getElem?
                    intro j
                    rw [List.getElem?_set]
                    split
                    · rename_i e1; subst e1
                      split
                      · rename_i hlt; simp [List.getD_eq_getElem?_getD, List.getElem?_eq_getElem hlt]
                      · rename_i hlt; rw [List.getElem?_eq_none (by omega)]
                    · rfl
                  · cases hg; right; rfl
                  · cases hg
                · cases hg
              · cases hg
          rcases he with he | he
          · have h1 := h.1 hb
            rw [he] at h1
            obtain ⟨E1, h1, h2⟩ := exec_do h1
            exact fin (by unfold Stp; rw [hg]; exact ⟨fun _ => h1, fun hn => by subst hb; cases b <;> simp at hn⟩) h2
          · exact absurd he (by rw [hb]; cases want <;> simp)
        · have he : setG e k want = e := by
            unfold guardOf at hg
            split at hg
            · cases hg
            · split at hg
              · split at hg
                · split at hg
                  · rename_i b' hk'
                    cases hg
                    unfold setG
                    rw [hk']
                    simp only
                    exact set_same (by rw [hk', hb])
                  · rename_i v hk'
                    cases hg
                    unfold setG
                    rw [hk']
                  · cases hg
                · cases hg
              · cases hg
          have h2 := h.2 hb
          rw [he] at h2
          exact fin (by unfold Stp; rw [hg]; exact ⟨fun hn => by subst hb; cases want <;> simp at hn, fun _ => rfl⟩) h2
/-- A REGION, what follows behind a variable. -/
theorem Run.opsI (im : Bool) {id : Nat} {ops : Array Oper} {draw : Bool} (hm : P.follows .mixedOrders = true) (hk : okReg im draw ops.toList = true) {e : Env} {s : Store}
    (h : ∀ K : Env → Store → Prop, (∀ e s, Q .normal ⟨e, s⟩ → K e s) → EvO P im ops.toList K ops.toList (enterE ops.toList e) (enterS ops.toList s)) : Run P (.region id ops draw) ⟨e, s⟩ Q := by
  obtain ⟨E', h1, h2⟩ := evO_steps (P := P) (im := im) (n := 0) (List.drop_zero ..) (h (fun e s => Q .normal ⟨e, s⟩) fun _ _ h => h)
  rw [← List.range_eq_range'] at h1
  exact Run.region hm hk h1 h2
theorem Run.ops {id : Nat} {ops : Array Oper} {draw : Bool} (hm : P.follows .mixedOrders = true) (hk : okReg false draw ops.toList = true) {e : Env} {s : Store}
    (h : ∀ K : Env → Store → Prop, (∀ e s, Q .normal ⟨e, s⟩ → K e s) → EvO P false ops.toList K ops.toList (enterE ops.toList e) (enterS ops.toList s)) : Run P (.region id ops draw) ⟨e, s⟩ Q := Run.opsI false hm hk h
/-- a call that is given blocks: ids are the caller's numbers of them -/
theorem ecallW (ids : List Nat) {g : FuncId} {args args0 : List V} {d : Nat} {k : Env → Store → Prop} {e : Env} {s s0 s1 : Store} {r : V} (h : SndW P g args0 s0 r s1) (ha : V.renL (rho ids (100 * (d + 1))) args0 = args) (hs : ∀ x ∈ s0, getB s (ids.getD x.1 0) = some (x.2.ren (rho ids (100 * (d + 1)))))
    (hok : okW ids s0 args0 r s1 = true) (hk : k (put e (some d) (r.ren (rho ids (100 * (d + 1))))) (puts (dropS (lost ids s1) s) (renS (rho ids (100 * (d + 1))) s1))) : ECallW P g args (some d) k e s := ⟨ids, args0, s0, r, s1, rfl, ha.symm, hs, hok, h, hk⟩
/-- a call that is given none, beside such as are -/
theorem ecallP {g : FuncId} {args : List V} {d : Nat} {k : Env → Store → Prop} {e : Env} {s : Store} {x : D} (hp : V.menL (fun _ => true) args = false) (h : Snd P g args (.d x) []) (hk : k (put e (some d) (.d x)) s) : ECallW P g args (some d) k e s := by
  refine ecallW [] (h.w hp) ?_ (fun x hx => (by cases hx)) ?_ ?_
  · have : ∀ (ρ : Nat → Nat) (x : V), x.men (fun _ => true) = false → x.ren ρ = x := fun ρ x => by
      induction x using V.rec (motive_2 := fun l => V.menL (fun _ => true) l = false → V.renL ρ l = l) <;> simp_all [V.men, V.menL, V.ren, V.renL]
    have l : ∀ (ρ : Nat → Nat) (l : List V), V.menL (fun _ => true) l = false → V.renL ρ l = l := fun ρ l => by
      induction l with
      | nil => intro _; rfl
      | cons v r ih => intro h; simp only [V.menL, Bool.or_eq_false_iff] at h; simp only [V.renL]; rw [this _ _ h.1, ih h.2]
    exact l _ _ hp
  · have : V.menL (fun j => decide (([] : List Nat).length ≤ j)) args = false := by
      have : (fun j => decide (([] : List Nat).length ≤ j)) = fun _ => true := by funext j; simp
      rw [this]; exact hp
    simp only [okW, this]
    rfl
  · have : dropS (lost [] []) s = s := by
      have nl : ∀ i, lost [] [] i = false := fun i => rfl
      clear hk
      induction s with
      | nil => rfl
      | cons x r ih => obtain ⟨i, b⟩ := x; simp [dropS, nl, ih]
    rw [this]
    exact hk
theorem ecall {g : FuncId} {args : List V} {d : Nat} {k : Env → Store → Prop} {e : Env} {s : Store} {r : V} {τ : Store} (h : Snd P g args r τ) (hok : okIds r τ = true) (hk : k (put e (some d) (r.shift (100 * (d + 1)))) (addS s (100 * (d + 1)) τ)) : ECall P g args (some d) k e s := ⟨r, τ, rfl, h, hok, hk⟩
theorem ecallD {g : FuncId} {args : List V} {d : Nat} {k : Env → Store → Prop} {e : Env} {s : Store} {x : D} (h : Snd P g args (.d x) []) (hk : k (put e (some d) (.d x)) s) : ECall P g args (some d) k e s := ⟨_, _, rfl, h, rfl, hk⟩
theorem ecallF {g : FuncId} {args args0 : List V} {d : Nat} {k : Env → Store → Prop} {e : Env} {s : Store} {x : Value} (ha : V.finL [] s args = args0) (hp : V.menL (fun _ => true) args0 = false) (h : Snd P g args0 (.d (.lit x)) []) (hk : k (put e (some d) (.d (.lit x))) s) : ECallF P g args (some d) k e s := by
  subst ha; exact ⟨x, rfl, hp, h, hk⟩
end Go.Fw
