/- Texts of this claim, put together: Ft, Fu, Fv, Fw, Fx, Fy, Pa, Pb, Pc, Pd, Pf, Pq. -/
import Derived.Test.YtimgbdkgjfbhkaaMb
import Derived.ScopeJumps
import Derived.Test.YtimgbdkgjfbhkaaProg
import Derived.Test.YtimgbdkgjfbhkaaShelf
import Derived.Sort.OwnSortedInts
set_option linter.unusedVariables false
set_option linter.unusedSimpArgs false
section
namespace Go.Fw
variable {P : Program}

def RunP (P : Program) (w0 : World) (L0 : Par) (X : Nat → Prop) (c : Code) (E : St) (Q : Exit → St → Prop) : Prop :=
  ∀ {m : Nat → Option Nat} {a : Act} {w : World}, Rel w0 L0 X m E.e E.s a w → c.wp P (fun x a' w' => ∃ E' m', Q x E' ∧ Rel w0 L0 X m' E'.e E'.s a' w') a w
/-- FROM THIS DESCRIPTION THE CODE COMES TO ONE OF WHICH Q HOLDS. -/
def Run (P : Program) (c : Code) (E : St) (Q : Exit → St → Prop) : Prop := ∀ (w0 : World) (L0 : Par) (X : Nat → Prop), RunP P w0 L0 X c E Q

def Then (R : St → Prop) (Q : Exit → St → Prop) : Exit → St → Prop
  | .normal, E => R E
  | x, E => Q x E
theorem Then_normal {R : St → Prop} {Q : Exit → St → Prop} {E : St} : Then R Q .normal E = R E := rfl
theorem Then_exit {R : St → Prop} {Q : Exit → St → Prop} {E : St} {i : Nat} : Then R Q (.exit i) E = Q (.exit i) E := rfl
theorem Then_goto {R : St → Prop} {Q : Exit → St → Prop} {E : St} {i : Nat} : Then R Q (.goto i) E = Q (.goto i) E := rfl
theorem Then_ret {R : St → Prop} {Q : Exit → St → Prop} {E : St} : Then R Q .ret E = Q .ret E := rfl
def Blok (id : Nat) (Q : Exit → St → Prop) : Exit → St → Prop
  | .exit i, E => if i = id then Q .normal E else Q (.exit i) E
  | x, E => Q x E
theorem Blok_normal {Q : Exit → St → Prop} {id : Nat} {E : St} : Blok id Q .normal E = Q .normal E := rfl
theorem Blok_exit {Q : Exit → St → Prop} {id i : Nat} {E : St} : Blok id Q (.exit i) E = if i = id then Q .normal E else Q (.exit i) E := rfl
theorem Blok_goto {Q : Exit → St → Prop} {id i : Nat} {E : St} : Blok id Q (.goto i) E = Q (.goto i) E := rfl
theorem Blok_ret {Q : Exit → St → Prop} {id : Nat} {E : St} : Blok id Q .ret E = Q .ret E := rfl

section
variable {w0 : World} {L0 : Par} {X : Nat → Prop} {Q Q' : Exit → St → Prop} {E : St}
theorem RunP.mono {c : Code} (h : RunP P w0 L0 X c E Q) (hq : ∀ x E, Q x E → Q' x E) : RunP P w0 L0 X c E Q' := fun hr => wp_mono (h hr) fun x a w ⟨E', m', q, r⟩ => ⟨E', m', hq _ _ q, r⟩
end
variable {Q Q' : Exit → St → Prop} {E : St}
theorem Run.mono {c : Code} (h : Run P c E Q) (hq : ∀ x E, Q x E → Q' x E) : Run P c E Q' := fun w0 L0 X => RunP.mono (h w0 L0 X) hq
theorem Run.skip (h : Q .normal E) : Run P .skip E Q := fun _ _ _ _ _ _ hr => wp_skip ⟨E, _, h, hr⟩
theorem Run.label {l : Nat} (h : Q .normal E) : Run P (.label l) E Q := fun _ _ _ _ _ _ hr => wp_label ⟨E, _, h, hr⟩
theorem Run.exit {id : Nat} (h : Q (.exit id) E) : Run P (.exit id) E Q := fun _ _ _ _ _ _ hr => wp_exit ⟨E, _, h, hr⟩
theorem Run.goto {l : Nat} (h : Q (.goto l) E) : Run P (.goto l) E Q := fun _ _ _ _ _ _ hr => wp_goto ⟨E, _, h, hr⟩
theorem Run.ret (h : Q .ret E) : Run P .ret E Q := fun _ _ _ _ _ _ hr => wp_ret ⟨E, _, h, hr⟩
theorem Run.seq {x y : Code} (h : Run P x E (Then (fun E' => Run P y E' Q) Q)) : Run P (.seq x y) E Q := fun w0 L0 X m a w hr => by
  refine wp_seq (wp_mono (h w0 L0 X hr) fun x a' w' hx => ?_)
  obtain ⟨E', m', q, r⟩ := hx
  cases x with
  | normal => exact q w0 L0 X r
  | exit i => exact ⟨E', m', q, r⟩
  | goto l => exact ⟨E', m', q, r⟩
  | ret => exact ⟨E', m', q, r⟩
  | panic ch => exact ⟨E', m', q, r⟩
  | outgrown => exact ⟨E', m', q, r⟩
theorem Run.cond {c : Operand} {x y : Code} {b : Bool} (hc : look E.e c = .d (.lit (.bool b))) (ht : b = true → Run P x E Q) (hf : b = false → Run P y E Q) : Run P (.cond c x y) E Q := fun w0 L0 X m a w hr => by
  have h1 := hr.look c
  rw [hc] at h1
  have h2 := h1.lit_inv
  cases b
  · exact wp_cond_false h2 (hf rfl w0 L0 X hr)
  · exact wp_cond_true h2 (ht rfl w0 L0 X hr)
theorem Run.block {id : Nat} {c : Code} (h : Run P c E (Blok id Q)) : Run P (.block id c) E Q := fun w0 L0 X m a w hr => by
  refine wp_block (wp_mono (h w0 L0 X hr) fun x a' w' hx => ?_)
  obtain ⟨E', m', q, r⟩ := hx
  cases x with
  | normal => exact ⟨E', m', q, r⟩
  | exit i =>
    simp only [Blok_exit] at q
    simp only [Exit.inBlock]
    split at q
    · rename_i e; rw [if_pos e]; exact ⟨E', m', q, r⟩
    · rename_i e; rw [if_neg e]; exact ⟨E', m', q, r⟩
  | goto l => exact ⟨E', m', q, r⟩
  | ret => exact ⟨E', m', q, r⟩
  | panic ch => exact ⟨E', m', q, r⟩
  | outgrown => exact ⟨E', m', q, r⟩

/-! less told -/
def leE : List V → List V → Prop
  | [], [] => True
  | a :: r, b :: t => (b = .top ∨ a = b) ∧ leE r t
  | _, _ => False
def leS (s : Store) : Store → Prop
  | [] => True
  | (i, b) :: r => getB s i = some b ∧ leS s r
def Le (E F : St) : Prop := leE E.e F.e ∧ leS E.s F.s
theorem leE_all {a b : List V} (h : leE a b) : b.length = a.length ∧ ∀ (j : Nat) (x : V), b[j]? = some x → x = .top ∨ a[j]? = some x := by
  induction a generalizing b with
  | nil => cases b <;> simp_all [leE]
  | cons v r ih =>
    cases b with
    | nil => exact h.elim
    | cons u t =>
      obtain ⟨h1, h2⟩ := h
      obtain ⟨h3, h4⟩ := ih h2
      refine ⟨by simp [h3], fun j x hj => ?_⟩
      cases j with
      | zero => simp at hj; subst hj; rcases h1 with h1 | h1 <;> simp [h1]
      | succ j => simp at hj ⊢; exact h4 j x hj
theorem leS_get {s t : Store} (h : leS s t) {i : Nat} {b : Blk} (hi : getB t i = some b) : getB s i = some b := by
  induction t with
  | nil => cases hi
  | cons x r ih =>
    obtain ⟨j, c⟩ := x
    simp only [getB] at hi
    split at hi
    · rename_i e; subst e; cases hi; exact h.1
    · exact ih h.2 hi
theorem Rel.le {w0 : World} {L0 : Par} {X : Nat → Prop} {m : Nat → Option Nat} {F : St} {a : Act} {w : World} (h : Rel w0 L0 X m E.e E.s a w) (hl : Le E F) : Rel w0 L0 X m F.e F.s a w := by
  obtain ⟨h1, h2⟩ := leE_all hl.1
  have hown : ∀ b, Own m F.s b → Own m E.s b := by
    rintro b ⟨i, blk, g1, g2⟩
    exact ⟨i, blk, leS_get hl.2 g1, g2⟩
  have hL : ∀ b, Live X m F.s b → Live X m E.s b ∨ w.heap.size ≤ b := fun b hb => .inl (hb.imp_right (hown b))
  have hk : CellsKept (Live X m E.s) w w := fun _ _ _ q => q
  have hz : SizesKept w w := fun _ cs _ _ q => ⟨cs, q, rfl⟩
  refine ⟨⟨h.env.len.trans h1.symm, fun j x v q1 q2 => ?_⟩, ⟨fun i blk hi => ?_, fun i j b q1 q2 q3 q4 => ?_⟩, h.dfr, h.ext, fun b hb => h.liv b (hown b hb), h.old, fun i hi hs => h.par i hi (by
    obtain ⟨c, hc⟩ := Option.isSome_iff_exists.1 hs
    rw [leS_get hl.2 hc]; rfl)⟩
  · rcases h2 j x q1 with rfl | g
    · exact .top v
    · exact VRel.mono' hk hz hL (h.env.at_ j x v g q2)
  · rcases h.sto.blk i blk (leS_get hl.2 hi) with ⟨b, r1, r2⟩ | r
    · exact .inl ⟨b, r1, BRel.mono (p := fun _ => false) hk hz hL (fun _ _ => rfl) rfl (by cases blk <;> first | exact menL_false _ | trivial) r2⟩
    · exact .inr r
  · have key : ∀ i, (getB F.s i).isSome = true → (getB E.s i).isSome = true := fun i q => by
      obtain ⟨c, hc⟩ := Option.isSome_iff_exists.1 q
      rw [leS_get hl.2 hc]; rfl
    exact h.sto.inj i j b q1 q2 (key i q3) (key j q4)
theorem Run.le {c : Code} {F : St} (hl : Le E F) (h : Run P c F Q) : Run P c E Q := fun w0 L0 X m a w hr => h w0 L0 X (hr.le hl)
/-- a nil slice as one of the call's own -/
theorem Run.virt {c : Code} {e : Env} {s : Store} (k id sz : Nat) (h90 : 90 ≤ id) (hk : e.getD k .top = vnil ∨ e.getD k .top = .d (.sl false [])) (h : Run P c ⟨(V.fgtL (· == id) e).set k (.rs id sz 0 0), putB (fgtS (· == id) s) id (.data sz [])⟩ Q) (hn : e.getD k .top = vnil) : Run P c ⟨e, s⟩ Q := fun w0 L0 X m a w hr => by
  have hp : hitO none id = (· == id) := by funext i; simp [hitO]
  have h1 := hr.swap h90 (k := none) (id := id) (ob := none) (blk := .data sz []) (w' := w) (by simp) (fun _ _ _ q => q) (fun _ cs _ _ q => ⟨cs, q, rfl⟩) (fun _ _ _ => rfl) rfl rfl rfl (Nat.le_refl _) (.inl ⟨rfl, sz, rfl⟩)
  rw [hp] at h1
  have hv := hr.look (.tmp k)
  simp only [look, hn] at hv
  have hv := hv.lit_inv
  have hlt : k < e.length := by
    rcases Nat.lt_or_ge k e.length with h | h
    · exact h
    · rw [List.getD_eq_getElem?_getD, List.getElem?_eq_none h] at hn; cases hn
  have hlt' : k < a.tmps.size := by have := hr.env.len; simp at this; omega
  have e1 : a.put (some k) (.slice none 0 0) = a := by
    cases a with
    | mk tmps defers =>
      simp only [Act.eval] at hv
      simp only [Act.put]
      congr 1
      apply Array.ext
      · simp
      · intro j h1 h2
        by_cases e : k = j
        · subst e
          have e2 : tmps.getD k undef = tmps[k] := by simp [Array.getD, h2]
          rw [e2] at hv
          simp [hv]
        · rw [Array.getElem_setIfInBounds, if_neg e]
  have h2 := h1.put (some k) (x := .rs id sz 0 0) (v := .slice none 0 0) (.rsE id sz)
  rw [e1] at h2
  exact h w0 L0 X h2
theorem wp_loop_by {α : Type} {c : Code} {Q : Exit → Act → World → Prop} (J : α → Act → World → Prop) (μ : α → Nat) (round : ∀ x a w, J x a w → c.wp P (Exit.then (fun a' w' => ∃ y, J y a' w' ∧ μ y < μ x) Q) a w) {x0 : α} {a : Act} {w : World} (h0 : J x0 a w) : (Code.loop c).wp P Q a w := by
  intro b k cs
  have key : ∀ n x a w, μ x = n → J x a w → ∃ e a' w', Q e a' w' ∧ Arrives P (lone (b.at a (.code c :: .inLoop c :: k)) cs w) b k cs e a' w' := by
    intro n
    induction n using Nat.strongRecOn with
    | _ n ih =>
      intro x a w hn hI
      obtain ⟨e, a₁, w₁, hq, harr⟩ := round x a w hI b (.inLoop c :: k) cs
      cases e with
      | normal =>
        obtain ⟨y, hI₁, hlt⟩ := hq
        obtain ⟨e₂, a₂, w₂, hq₂, harr₂⟩ := ih (μ y) (hn ▸ hlt) y a₁ w₁ rfl hI₁
        exact ⟨e₂, a₂, w₂, hq₂, .of_steps (Steps.trans harr (.one step_inLoop)) harr₂⟩
      | exit id => exact ⟨_, a₁, w₁, hq, .pass (x := .inLoop c) rfl (fun _ _ => .inl (by simp)) harr⟩
      | goto l => exact ⟨_, a₁, w₁, hq, .pass (x := .inLoop c) rfl (fun _ _ => .inl (by simp)) harr⟩
      | ret => exact ⟨_, a₁, w₁, hq, .pass (x := .inLoop c) rfl (fun _ _ => .inl (by simp)) harr⟩
      | panic ch => exact ⟨_, a₁, w₁, hq, .pass (x := .inLoop c) rfl (fun _ _ => .inl (by simp)) harr⟩
      | outgrown => exact ⟨_, a₁, w₁, hq, .pass (x := .inLoop c) rfl (fun _ _ => .inl (by simp)) harr⟩
  obtain ⟨e, a', w', hq, harr⟩ := key _ x0 a w rfl h0
  exact ⟨e, a', w', hq, .of_steps (.one step_loop) harr⟩
/-- A LOOP: what holds at each round's head, by what stands in F. -/
theorem Run.loop {c : Code} {α : Type} (F : α → St) (I : α → Prop) (μ : α → Nat) (x0 : α) (h0 : I x0) (hE : Le E (F x0))
    (hstep : ∀ x, I x → Run P c (F x) (Then (fun E' => ∃ y, I y ∧ μ y < μ x ∧ Le E' (F y)) Q)) : Run P (.loop c) E Q := fun w0 L0 X m a w hr => by
  refine wp_loop_by (fun x a w => I x ∧ ∃ m, Rel w0 L0 X m (F x).e (F x).s a w) μ (fun x a w hx => ?_) (x0 := x0) ⟨h0, m, hr.le hE⟩
  obtain ⟨hI, m, hr⟩ := hx
  refine wp_mono (hstep x hI w0 L0 X hr) fun ex a' w' hx => ?_
  obtain ⟨E', m', q, r⟩ := hx
  cases ex with
  | normal =>
    obtain ⟨y, hy, hlt, hle⟩ := q
    exact ⟨y, ⟨hy, m', r.le hle⟩, hlt⟩
  | exit i => exact ⟨E', m', q, r⟩
  | goto l => exact ⟨E', m', q, r⟩
  | ret => exact ⟨E', m', q, r⟩
  | panic ch => exact ⟨E', m', q, r⟩
  | outgrown => exact ⟨E', m', q, r⟩

/-! a region -/
def enterE (all : List Oper) (e : Env) : Env := if (ks all).isEmpty then e else V.fgtL (madeIn all) e
def enterS (all : List Oper) (s : Store) : Store := if (ks all).isEmpty then s else fgtS (madeIn all) s
def okReg (im : Op → Bool) (draw : Bool) (all : List Oper) : Bool := alone all && (!draw || indep im all)
theorem ks_nil {all : List Oper} (h : (ks all).isEmpty = true) : ∀ o ∈ all, makes o = false := by
  intro o ho
  cases hm : makes o with
  | false => rfl
  | true =>
    have : newId o.dst / 100 ∈ ks all := by simp only [ks, List.mem_filterMap]; exact ⟨o, ho, by simp [hm]⟩
    rw [List.isEmpty_iff.1 h] at this
    cases this
theorem Run.region {im : Op → Bool} {id : Nat} {ops : Array Oper} {draw : Bool} (hm : P.follows .mixedOrders = true) (hk : okReg im draw ops.toList = true) {e : Env} {s : Store} {E' : St}
    (hs : Steps P im ops.toList (List.range ops.toList.length) ⟨enterE ops.toList e, enterS ops.toList s⟩ E') (hq : Q .normal E') : Run P (.region id ops draw) ⟨e, s⟩ Q := fun w0 L0 X m a w hr => by
  simp only [okReg, Bool.and_eq_true, Bool.or_eq_true, Bool.not_eq_true'] at hk
  obtain ⟨ha, hd⟩ := hk
  have henter : Rel w0 L0 X m (enterE ops.toList e) (enterS ops.toList s) a w ∧ FreshAll ops.toList (List.range ops.toList.length) ⟨enterE ops.toList e, enterS ops.toList s⟩ := by
    unfold enterE enterS
    by_cases h : (ks ops.toList).isEmpty = true
    · simp only [h, if_true]
      refine ⟨hr, fun i _ o ho hm => ?_⟩
      have := ks_nil h o (List.mem_of_getElem? ho)
      rw [this] at hm; cases hm
    · simp only [h, if_false]
      exact ⟨hr.fgt _, fresh_enter⟩
  obtain ⟨h1, h2⟩ := henter
  have fin : ∀ m' a' w', Rel w0 L0 X m' E'.e E'.s a' w' → ∃ E'' m'', Q .normal E'' ∧ Rel w0 L0 X m'' E''.e E''.s a' w' := fun m' a' w' h => ⟨E', m', hq, h⟩
  cases draw with
  | false =>
    refine wp_region ?_
    have := seq_ops (P := P) (w0 := w0) (L0 := L0) (X := X) ha List.nodup_range h2 h1 hs (Q := fun x a' w' => ∃ E' m', Q x E' ∧ Rel w0 L0 X m' E'.e E'.s a' w') fin
    simpa using this
  | true =>
    have hi : indep im ops.toList = true := by rcases hd with h | h; exact absurd h (by simp); exact h
    refine wp_region_any hm ?_
    have hu : undone ops.toList.length (Array.replicate ops.size false) = List.range ops.toList.length := by
      unfold undone
      rw [List.filter_eq_self]
      intro k hk
      have := List.mem_range.1 hk
      simp at this
      simp [Array.getD, this]
    have h3 : Rel w0 L0 X m (enterE ops.toList e) (enterS ops.toList s) a { w with drawn := w.drawn + 1 } := by
      have hk : CellsKept (Live X m (enterS ops.toList s)) w { w with drawn := w.drawn + 1 } := fun _ _ _ q => q
      have hz : SizesKept w { w with drawn := w.drawn + 1 } := fun _ cs _ _ q => ⟨cs, q, rfl⟩
      refine ⟨⟨h1.env.len, fun j x v q1 q2 => VRel.mono' hk hz (fun b hb => .inl hb) (h1.env.at_ j x v q1 q2)⟩, ⟨fun i blk hi => ?_, h1.sto.inj⟩, h1.dfr, ⟨h1.ext.os, h1.ext.tape, h1.ext.output, h1.ext.size, h1.ext.block, h1.ext.sizes⟩, h1.liv, h1.old, h1.par⟩
      rcases h1.sto.blk i blk hi with ⟨b, r1, r2⟩ | r
      · exact .inl ⟨b, r1, BRel.mono (p := fun _ => false) hk hz (fun b hb => .inl hb) (fun _ _ => rfl) rfl (by cases blk <;> first | exact menL_false _ | trivial) r2⟩
      · exact .inr r
    have := any_ops (P := P) (w0 := w0) (L0 := L0) (X := X) ha hi ops.size (listed := Array.replicate ops.size false) (by simp) (by rw [hu]; simp) (fun i o ho hl hlt e he hb => by
      simp at hlt
      simp [Array.getD, hlt] at hl) (by rw [hu]; exact h2) h3 (by rw [hu]; exact hs) (Q := fun x a' w' => ∃ E' m', Q x E' ∧ Rel w0 L0 X m' E'.e E'.s a' w') fin
    simpa using this

/-! the operations one by one -/
/-- a call stands here -/
def ECall (P : Program) (g : FuncId) (args : List V) (dst : Option Nat) (k : Env → Store → Prop) (e : Env) (s : Store) : Prop := ∃ r τ, dst.isSome = true ∧ Snd P g args r τ ∧ okIds r τ = true ∧ k (put e dst (r.shift (newId dst))) (addS s (newId dst) τ)
/-- a call stands here that only reads what it is given, and answers a number, a bool, a string -/
def ECallF (P : Program) (g : FuncId) (args : List V) (dst : Option Nat) (k : Env → Store → Prop) (e : Env) (s : Store) : Prop := ∃ x, dst.isSome = true ∧ V.menL (fun _ => true) (V.finL [] s args) = false ∧ Snd P g (V.finL [] s args) (.d (.lit x)) [] ∧ k (put e dst (.d (.lit x))) s
/-- a call stands here that is given blocks -/
def ECallW (P : Program) (g : FuncId) (args : List V) (dst : Option Nat) (k : Env → Store → Prop) (e : Env) (s : Store) : Prop := ∃ ids args0 s0 r s1, dst.isSome = true ∧ args = V.renL (rho ids (newId dst)) args0 ∧ (∀ x ∈ s0, getB s (ids.getD x.1 0) = some (x.2.ren (rho ids (newId dst)))) ∧
  okW ids s0 args0 r s1 = true ∧ SndW P g args0 s0 r s1 ∧ k (put e dst (r.ren (rho ids (newId dst)))) (puts (dropS (lost ids s1) s) (renS (rho ids (newId dst)) s1))
def exec (P : Program) (im : Op → Bool) (o : Oper) (k : Env → Store → Prop) (e : Env) (s : Store) : Prop := match cls o.op with
  | .p => match opP P o.op (look e) with | some (c, v) => c ∧ (c → k (put e o.dst v) s) | none => False
  | .r => match opR P o.op (look e) s with | some (c, v) => c ∧ (c → k (put e o.dst v) s) | none => False
  | .a => match o.dst with
    | some d => match opA P o.op (look e) (100 * (d + 1)) with | some (c, v, blk) => c ∧ (c → k (put e (some d) v) (putB s (100 * (d + 1)) blk)) | none => False
    | none => False
  | .w => match opW P o.op (look e) s with | some (c, s') => c ∧ (c → k (put e o.dst vundef) s') | none => False
  | .x => match o.op with
    | .call cl => match cl.callee with
      | .builtin .append => match opAppend P cl (look e) s with
        | some (kk, c, sz, all) => c ∧ (c → k (put (V.fgtL (hitO kk (newId o.dst)) e) o.dst (.rs (newId o.dst) sz 0 all.length)) (putB (fgtS (hitO kk (newId o.dst)) s) (newId o.dst) (.data sz all)))
        | none => match opAppendV P cl (look e) s with
          | some (kk, c, sz, n, all) => c ∧ (c → k (put (V.fgtL (hitO kk (newId o.dst)) e) o.dst (.rs (newId o.dst) sz 0 n)) (putB (fgtS (hitO kk (newId o.dst)) s) (newId o.dst) (.vals (V.fgtL (hitO kk (newId o.dst)) all))))
          | none => False
      | _ => False
    | _ => False
  | .c => match callOf o.op (look e) with
    | some (g, args) => match im o.op with
      | true => ECallW P g args o.dst k e s
      | false => if V.menL (fun _ => true) args = false then ECall P g args o.dst k e s else ECallF P g args o.dst k e s
    | none => False
theorem exec_do {im : Op → Bool} {o : Oper} {k : Env → Store → Prop} {e : Env} {s : Store} (h : exec P im o k e s) : ∃ E', DoI P im o ⟨e, s⟩ E' ∧ k E'.e E'.s := by
  unfold exec at h
  unfold DoI Do Loc
  cases hc : cls o.op <;> rw [hc] at h <;> simp only at h ⊢
  · split at h
    · rename_i c v hv; exact ⟨_, ⟨v, s, ⟨c, hv, h.1, rfl⟩, rfl⟩, h.2 h.1⟩
    · exact h.elim
  · split at h
    · rename_i c v hv; exact ⟨_, ⟨v, s, ⟨c, hv, h.1, rfl⟩, rfl⟩, h.2 h.1⟩
    · exact h.elim
  · split at h
    · rename_i d hd
      split at h
      · rename_i c v blk hv
        refine ⟨⟨put e (some d) v, putB s (100 * (d + 1)) blk⟩, ⟨v, _, ⟨c, blk, by rw [hd]; rfl, by rw [hd]; exact hv, h.1, rfl⟩, ?_⟩, h.2 h.1⟩
        rw [hd]; rfl
      · exact h.elim
    · exact h.elim
  · split at h
    · rename_i c s' hv; exact ⟨_, ⟨c, s', hv, h.1, rfl⟩, h.2 h.1⟩
    · exact h.elim
  · split at h
    · rename_i cl ho
      split at h
      · rename_i hcal
        split at h
        · rename_i kk c sz all hv
          exact ⟨_, ⟨cl, ho, hcal, kk, c, sz, _, _, .inl ⟨all, hv, rfl, rfl⟩, h.1, rfl⟩, h.2 h.1⟩
        · split at h
          · rename_i kk c sz n all hv
            exact ⟨_, ⟨cl, ho, hcal, kk, c, sz, n, _, .inr ⟨all, hv, rfl⟩, h.1, rfl⟩, h.2 h.1⟩
          · exact h.elim
      · exact h.elim
    · exact h.elim
  · split at h
    · rename_i g args hv
      cases him : im o.op with
      | false =>
        rw [him] at h
        simp only at h ⊢
        split at h
        · rename_i hp
          obtain ⟨r, τ, h1, h2, h3, h4⟩ := h
          exact ⟨_, ⟨_, _, ⟨g, args, args, r, τ, h1, hv, .inl rfl, hp, h2, h3, rfl, rfl⟩, rfl⟩, h4⟩
        · obtain ⟨x, h1, hp, h2, h4⟩ := h
          exact ⟨_, ⟨_, _, ⟨g, args, _, _, [], h1, hv, .inr ⟨rfl, x, rfl, rfl⟩, hp, h2, rfl, rfl, rfl⟩, rfl⟩, h4⟩
      | true =>
        rw [him] at h
        simp only at h ⊢
        obtain ⟨ids, args0, s0, r, s1, h1, rfl, h3, h4, h5, h6⟩ := h
        exact ⟨_, ⟨g, args0, ids, s0, r, s1, h1, hv, h3, h4, h5, rfl⟩, h6⟩
    · exact h.elim
/-- two ways on, by what a guard holds -/
def GSplit (b want : Bool) (A B : Prop) : Prop := (b = want → A) ∧ (b = !want → B)
theorem gsplit {b want : Bool} {A B : Prop} (h1 : b = want → A) (h2 : b = !want → B) : GSplit b want A B := ⟨h1, h2⟩
theorem gs_tt {A B : Prop} : GSplit true true A B = A := by simp [GSplit]
theorem gs_ff {A B : Prop} : GSplit false false A B = A := by simp [GSplit]
theorem gs_tf {A B : Prop} : GSplit true false A B = B := by simp [GSplit]
theorem gs_ft {A B : Prop} : GSplit false true A B = B := by simp [GSplit]
@[congr] theorem gs_congr {b b' want : Bool} {A B : Prop} (h : b = b') : GSplit b want A B = GSplit b' want A B := by rw [h]
theorem set_same {e : Env} {k : Nat} {v : V} (h : e.getD k .top = v) : e.set k v = e := by
  apply List.ext_getElem?
  intro j
  rw [List.getElem?_set]
  split
  · rename_i e1; subst e1
    split
    · rename_i hlt; rw [← h]; simp [List.getD_eq_getElem?_getD, List.getElem?_eq_getElem hlt]
    · rename_i hlt; rw [List.getElem?_eq_none (by omega)]
  · rfl
/-- what the guard's slot holds where it is not as wanted -/
def setG (e : Env) (k : Nat) (want : Bool) : Env := match e.getD k .top with
  | .d (.lit (.bool _)) => e.set k (.d (.lit (.bool !want)))
  | _ => e
def EvO (P : Program) (im : Op → Bool) (all : List Oper) (K : Env → Store → Prop) : List Oper → Env → Store → Prop
  | [], e, s => K e s
  | o :: os, e, s => match guardOf all e o.guard with
    | none => False
    | some none => exec P im o (EvO P im all K os) e s
    | some (some (k, want, b)) => GSplit b want (exec P im o (EvO P im all K os) (e.set k (.d (.lit (.bool want)))) s) (EvO P im all K os (put (setG e k want) o.dst vundef) s)
theorem evO_steps {im : Op → Bool} {all : List Oper} {K : Env → Store → Prop} : ∀ {os : List Oper} {n : Nat} {e : Env} {s : Store}, all.drop n = os → EvO P im all K os e s → ∃ E', Steps P im all (List.range' n os.length) ⟨e, s⟩ E' ∧ K E'.e E'.s := by
  intro os
  induction os with
  | nil => intro n e s _ h; exact ⟨⟨e, s⟩, rfl, h⟩
  | cons o os ih =>
    intro n e s hd h
    have ho : all[n]? = some o := by
      have := congrArg List.head? hd
      simpa [List.head?_drop] using this
    have hd' : all.drop (n + 1) = os := by rw [← List.drop_drop, hd]; rfl
    have fin : ∀ {e' : Env} {s' : Store}, Stp P im all o ⟨e, s⟩ ⟨e', s'⟩ → EvO P im all K os e' s' → ∃ E', Steps P im all (List.range' n (o :: os).length) ⟨e, s⟩ E' ∧ K E'.e E'.s := by
      intro e' s' h1 h2
      obtain ⟨E', g1, g2⟩ := ih hd' h2
      exact ⟨E', ⟨o, ho, ⟨e', s'⟩, h1, g1⟩, g2⟩
    simp only [EvO] at h
    cases hg : guardOf all e o.guard with
    | none => rw [hg] at h; exact h.elim
    | some q =>
      rw [hg] at h
      cases q with
      | none =>
        obtain ⟨E1, h1, h2⟩ := exec_do h
        exact fin (by unfold Stp; rw [hg]; exact h1) h2
      | some q =>
        obtain ⟨k, want, b⟩ := q
        simp only [GSplit] at h
        rcases bool_or b want with hb | hb
        · have he : e.set k (.d (.lit (.bool want))) = e ∨ b = !want := by
            unfold guardOf at hg
            split at hg
            · cases hg
            · split at hg
              · split at hg
                · split at hg
                  · rename_i b' hk'
                    cases hg
                    left
                    rw [← hb, ← hk']
                    apply List.ext_getElem?
                    intro j
                    rw [List.getElem?_set]
                    split
                    · rename_i e1; subst e1
                      split
                      · rename_i hlt; simp [List.getD_eq_getElem?_getD, List.getElem?_eq_getElem hlt]
                      · rename_i hlt; rw [List.getElem?_eq_none (by omega)]
                    · rfl
                  · cases hg; right; rfl
                  · cases hg
                · cases hg
              · cases hg
          rcases he with he | he
          · have h1 := h.1 hb
            rw [he] at h1
            obtain ⟨E1, h1, h2⟩ := exec_do h1
            exact fin (by unfold Stp; rw [hg]; exact ⟨fun _ => h1, fun hn => by subst hb; cases b <;> simp at hn⟩) h2
          · exact absurd he (by rw [hb]; cases want <;> simp)
        · have he : setG e k want = e := by
            unfold guardOf at hg
            split at hg
            · cases hg
            · split at hg
              · split at hg
                · split at hg
                  · rename_i b' hk'
                    cases hg
                    unfold setG
                    rw [hk']
                    simp only
                    exact set_same (by rw [hk', hb])
                  · rename_i v hk'
                    cases hg
                    unfold setG
                    rw [hk']
                  · cases hg
                · cases hg
              · cases hg
          have h2 := h.2 hb
          rw [he] at h2
          exact fin (by unfold Stp; rw [hg]; exact ⟨fun hn => by subst hb; cases want <;> simp at hn, fun _ => rfl⟩) h2
/-- A REGION, what follows behind a variable. -/
theorem Run.opsI (im : Op → Bool) {id : Nat} {ops : Array Oper} {draw : Bool} (hm : P.follows .mixedOrders = true) (hk : okReg im draw ops.toList = true) {e : Env} {s : Store}
    (h : ∀ K : Env → Store → Prop, (∀ e s, Q .normal ⟨e, s⟩ → K e s) → EvO P im ops.toList K ops.toList (enterE ops.toList e) (enterS ops.toList s)) : Run P (.region id ops draw) ⟨e, s⟩ Q := by
  obtain ⟨E', h1, h2⟩ := evO_steps (P := P) (im := im) (n := 0) (List.drop_zero ..) (h (fun e s => Q .normal ⟨e, s⟩) fun _ _ h => h)
  rw [← List.range_eq_range'] at h1
  exact Run.region hm hk h1 h2
theorem Run.ops {id : Nat} {ops : Array Oper} {draw : Bool} (hm : P.follows .mixedOrders = true) (hk : okReg (fun _ => false) draw ops.toList = true) {e : Env} {s : Store}
    (h : ∀ K : Env → Store → Prop, (∀ e s, Q .normal ⟨e, s⟩ → K e s) → EvO P (fun _ => false) ops.toList K ops.toList (enterE ops.toList e) (enterS ops.toList s)) : Run P (.region id ops draw) ⟨e, s⟩ Q := Run.opsI (fun _ => false) hm hk h
/-- a call that is given blocks: ids are the caller's numbers of them -/
theorem ecallW (ids : List Nat) {g : FuncId} {args args0 : List V} {d : Nat} {k : Env → Store → Prop} {e : Env} {s s0 s1 : Store} {r : V} (h : SndW P g args0 s0 r s1) (ha : V.renL (rho ids (100 * (d + 1))) args0 = args) (hs : ∀ x ∈ s0, getB s (ids.getD x.1 0) = some (x.2.ren (rho ids (100 * (d + 1)))))
    (hok : okW ids s0 args0 r s1 = true) (hk : k (put e (some d) (r.ren (rho ids (100 * (d + 1))))) (puts (dropS (lost ids s1) s) (renS (rho ids (100 * (d + 1))) s1))) : ECallW P g args (some d) k e s := ⟨ids, args0, s0, r, s1, rfl, ha.symm, hs, hok, h, hk⟩
/-- a call that is given none, beside such as are -/
theorem ecallP {g : FuncId} {args : List V} {d : Nat} {k : Env → Store → Prop} {e : Env} {s : Store} {x : D} (hp : V.menL (fun _ => true) args = false) (h : Snd P g args (.d x) []) (hk : k (put e (some d) (.d x)) s) : ECallW P g args (some d) k e s := by
  refine ecallW [] (h.w hp) ?_ (fun x hx => (by cases hx)) ?_ ?_
  · have : ∀ (ρ : Nat → Nat) (x : V), x.men (fun _ => true) = false → x.ren ρ = x := fun ρ x => by
      induction x using V.rec (motive_2 := fun l => V.menL (fun _ => true) l = false → V.renL ρ l = l) <;> simp_all [V.men, V.menL, V.ren, V.renL]
    have l : ∀ (ρ : Nat → Nat) (l : List V), V.menL (fun _ => true) l = false → V.renL ρ l = l := fun ρ l => by
      induction l with
      | nil => intro _; rfl
      | cons v r ih => intro h; simp only [V.menL, Bool.or_eq_false_iff] at h; simp only [V.renL]; rw [this _ _ h.1, ih h.2]
    exact l _ _ hp
  · have : V.menL (fun j => decide (([] : List Nat).length ≤ j)) args = false := by
      have : (fun j => decide (([] : List Nat).length ≤ j)) = fun _ => true := by funext j; simp
      rw [this]; exact hp
    simp only [okW, this]
    rfl
  · have : dropS (lost [] []) s = s := by
      have nl : ∀ i, lost [] [] i = false := fun i => rfl
      clear hk
      induction s with
      | nil => rfl
      | cons x r ih => obtain ⟨i, b⟩ := x; simp [dropS, nl, ih]
    rw [this]
    exact hk
theorem ecall {g : FuncId} {args : List V} {d : Nat} {k : Env → Store → Prop} {e : Env} {s : Store} {r : V} {τ : Store} (h : Snd P g args r τ) (hok : okIds r τ = true) (hk : k (put e (some d) (r.shift (100 * (d + 1)))) (addS s (100 * (d + 1)) τ)) : ECall P g args (some d) k e s := ⟨r, τ, rfl, h, hok, hk⟩
theorem ecallD {g : FuncId} {args : List V} {d : Nat} {k : Env → Store → Prop} {e : Env} {s : Store} {x : D} (h : Snd P g args (.d x) []) (hk : k (put e (some d) (.d x)) s) : ECall P g args (some d) k e s := ⟨_, _, rfl, h, rfl, hk⟩
theorem ecallF {g : FuncId} {args args0 : List V} {d : Nat} {k : Env → Store → Prop} {e : Env} {s : Store} {x : Value} (ha : V.finL [] s args = args0) (hp : V.menL (fun _ => true) args0 = false) (h : Snd P g args0 (.d (.lit x)) []) (hk : k (put e (some d) (.d (.lit x))) s) : ECallF P g args (some d) k e s := by
  subst ha; exact ⟨x, rfl, hp, h, hk⟩
end Go.Fw
end
section
namespace Go.Fw
variable {P : Program}
section
variable {w0 : World} {L0 : Par} {X : Nat → Prop} {m : Nat → Option Nat} {e : Env} {s : Store} {a : Act} {w : World}
theorem fin_sto (h : Rel w0 L0 X m e s a w) {keep : List Nat} (hnd : keep.Nodup) : SRel w X (finM keep m) (finS keep s keep 0) := by
  refine ⟨fun j blk hj => ?_, fun i j b q1 q2 q3 q4 => ?_⟩
  · rw [getB_finS] at hj
    simp only [Nat.zero_le, if_true, Nat.sub_zero] at hj
    obtain ⟨id, g1, g2⟩ := Option.bind_eq_some_iff.1 hj
    obtain ⟨b0, g3, rfl⟩ := Option.map_eq_some_iff.1 g2
    have hm : finM keep m j = m id := by simp [finM, g1]
    rcases h.sto.blk id b0 g3 with ⟨b, r1, r2⟩ | ⟨r1, sz, rfl⟩
    · refine .inl ⟨b, hm.trans r1, ?_⟩
      cases b0 with
      | vals cells =>
        obtain ⟨vs, ex, ty, fr, t1, t2, t3, t4⟩ := r2
        refine ⟨vs, ex, ty, fr, t1, t2, t3, t4.len.trans (finL_len _ _ _).symm, fun j x v s1 s2 => ?_⟩
        rw [finL_at] at s1
        obtain ⟨y, hy, rfl⟩ := Option.map_eq_some_iff.1 s1
        exact fin_rel h (t4.at_ j y v hy s2)
      | mp ks vs =>
        obtain ⟨es, cl, t1, t2, t4⟩ := r2
        refine ⟨es, cl, t1, t2, t4.len.trans (finL_len _ _ _).symm, fun j x v s1 s2 => ?_⟩
        rw [finL_at] at s1
        obtain ⟨y, hy, rfl⟩ := Option.map_eq_some_iff.1 s1
        exact fin_rel h (t4.at_ j y v hy s2)
      | data sz rows =>
        obtain ⟨cs, ty, fr, t1, t2, t3, t4, t5⟩ := r2
        exact ⟨cs, ty, fr, t1, t2, t3, t4, fun i j r x s1 s2 => by
          obtain ⟨v, u1, u2, u3⟩ := t5 i j r x s1 s2
          exact ⟨v, u1, u2, u3.mono (fun _ _ _ q => q) (fun b hl => .inl (live_fin hl))⟩⟩
    · exact .inr ⟨hm.trans r1, sz, rfl⟩
  · have key : ∀ i, finM keep m i = some b → (getB (finS keep s keep 0) i).isSome = true → ∃ id, keep[i]? = some id ∧ m id = some b ∧ (getB s id).isSome = true := by
      intro i r1 r2
      obtain ⟨c, hc⟩ := Option.isSome_iff_exists.1 r2
      rw [getB_finS] at hc
      simp only [Nat.zero_le, if_true, Nat.sub_zero] at hc
      obtain ⟨id, g1, g2⟩ := Option.bind_eq_some_iff.1 hc
      obtain ⟨b0, g3, _⟩ := Option.map_eq_some_iff.1 g2
      exact ⟨id, g1, by simpa [finM, g1] using r1, by rw [g3]; rfl⟩
    obtain ⟨a1, a2, a3, a4⟩ := key i q1 q3
    obtain ⟨b1, b2, b3, b4⟩ := key j q2 q4
    have := h.sto.inj a1 b1 b a3 b3 a4 b4
    subst this
    have h1 := (List.getElem?_eq_some_iff.1 a2)
    have h2 := (List.getElem?_eq_some_iff.1 b2)
    exact (List.getElem_inj (h₀ := h1.1) (h₁ := h2.1) hnd).1 (h1.2.trans h2.2.symm)

/-! results -/
def resList (P : Program) (e : Env) (s : Store) : List ResultVar → Option (List V)
  | [] => some []
  | .tmp t :: r => match resList P e s r with | some l => some (e.getD t .top :: l) | none => none
  | .cell a t :: r => match e.getD a .top with
    | .pt id sz row col => match getB s id with
      | some (.vals cells) => if row = 0 then match loadV P t cells col, resList P e s r with | some v, some l => some (v :: l) | _, _ => none else none
      | _ => none
    | _ => none
def resV (P : Program) (rs : List ResultVar) (e : Env) (s : Store) : Option V := match resList P e s rs with
  | some [v] => some v
  | some l => some (.tup l)
  | none => none
def resSem (tmps : Array Value) : ResultVar → Sem Value
  | .tmp t => pure (tmps.getD t undef)
  | .cell b t => do loadVar t (← asAddr (tmps.getD b undef))
theorem results_eq (fn : Func) (tmps : Array Value) : results fn tmps = (do let vs ← fn.results.mapM (resSem tmps); pure (if h : vs.size = 1 then vs[0] else .tuple vs)) := rfl
theorem resList_run (h : Rel w0 L0 X m e s a w) : ∀ {rs : List ResultVar} {l : List V}, resList P e s rs = some l → ∃ vs : List Value, (rs.mapM (resSem a.tmps)).run P w = .ok vs w ∧ All2 (VRel w (Live X m s) m) l vs := by
  intro rs
  induction rs with
  | nil => intro l hl; cases hl; exact ⟨[], rfl, All2.nil⟩
  | cons r rs ih =>
    intro l hl
    cases r with
    | tmp t =>
      simp only [resList] at hl
      split at hl
      · rename_i l' hl'
        cases hl
        obtain ⟨vs, h1, h2⟩ := ih hl'
        refine ⟨a.tmps.getD t undef :: vs, ?_, All2.cons (h.look (.tmp t)) h2⟩
        simp [List.mapM_cons, resSem, h1]
      · cases hl
    | cell b t =>
      simp only [resList] at hl
      split at hl
      · rename_i id sz row col hv
        split at hl
        · rename_i cells hg
          split at hl
          · rename_i h0
            subst h0
            split at hl
            · rename_i v l' hv' hl'
              cases hl
              obtain ⟨vs, h1, h2⟩ := ih hl'
              have hb := h.look (.tmp b)
              simp only [look, hv, Act.eval] at hb
              obtain ⟨u, hu⟩ : ∃ u, a.tmps.getD b undef = u := ⟨_, rfl⟩
              rw [hu] at hb
              cases hb with
              | pt _ _ _ _ bb hm =>
                rcases h.sto.blk id _ hg with ⟨b', hm', arr, ex, ty, fr, hh, hfr, hone, hall⟩ | ⟨hn, _, hn'⟩
                · rw [hm] at hm'; cases hm'
                  obtain ⟨q, g1, g2⟩ := loadVar_run (P := P) (b := bb) (o := 0) hall hone (fun j v hj => by rw [cell_of hh, List.getElem?_toArray, Nat.zero_add, List.getElem?_append_left (List.getElem?_eq_some_iff.1 hj).1]; exact hj) hv'
                  refine ⟨q :: vs, ?_, All2.cons g2 h2⟩
                  simp only [Nat.zero_add] at g1
                  simp only [List.mapM_cons, resSem, Sem.run_bind, hu, asAddr, Sem.run_pure, Result.andThen_ok, Nat.zero_mul, Nat.zero_add, g1, h1]
                · cases hn'
            · cases hl
          · cases hl
        · cases hl
      · cases hl
theorem res_run (h : Rel w0 L0 X m e s a w) {fn : Func} {r : V} (hr : resV P fn.results.toList e s = some r) : ∃ v, (results fn a.tmps).run P w = .ok v w ∧ VRel w (Live X m s) m r v := by
  unfold resV at hr
  cases hl : resList P e s fn.results.toList with
  | none => rw [hl] at hr; cases hr
  | some l =>
    rw [hl] at hr
    obtain ⟨vs, h1, h2⟩ := resList_run h hl
    have run : (results fn a.tmps).run P w = .ok (if h : vs.toArray.size = 1 then vs.toArray[0] else .tuple vs.toArray) w := by
      rw [results_eq, Array.mapM_eq_mapM_toList]
      simp [h1]
    refine ⟨_, run, ?_⟩
    match l, hr, h2 with
    | [], hr, h2 =>
      cases hr
      have : vs = [] := by have := h2.len; simpa using this
      subst this
      exact .tup [] [] rfl (by simp)
    | [x], hr, h2 =>
      cases hr
      obtain ⟨y, t, rfl, h3, h4⟩ := h2.head
      have : t = [] := by have := h4.len; simpa using this
      subst this
      simpa using h3
    | x :: y :: r, hr, h2 =>
      cases hr
      have hlen := h2.len
      rw [dif_neg (by simp; simp at hlen; omega)]
      exact .tup _ vs h2.len h2.at_

/-- what a walk's end is to tell -/
def Told (P : Program) (rs : List ResultVar) (keep : List Nat) (r : V) (τ : Store) (x : Exit) (E : St) : Prop := (x = .normal ∨ x = .ret) ∧ ∃ r', resV P rs E.e E.s = some r' ∧ r'.fin keep E.s = r ∧ finS keep E.s keep 0 = τ
theorem sndW_of {f : FuncId} {fn : Func} {c : Code} {args : List V} {s0 : Store} {r : V} {s1 : Store} {n : Nat} (keep : List Nat) (hfn : P.funcs[f]? = some fn) (hb : fn.body = some c) (hg : goFn P f = true) (hn : fn.ntmps = n) (hnd : keep.Nodup) (hs0 : s0.all (fun x => decide (x.1 < 90) && (keep[x.1]? == some x.1)) = true)
    (h : Run P c ⟨args ++ List.replicate (n - args.length) vundef, s0⟩ (Told P fn.results.toList keep r s1)) : SndW P f args s0 r s1 := by
  refine ⟨hg, fun w X m0 vs hX hS hargs => ?_⟩
  subst hn
  refine calls_of_wp hfn hb ?_
  have hkey : ∀ {j : Nat}, (getB s0 j).isSome = true → j < 90 ∧ keep[j]? = some j := fun {j} hj => by
    obtain ⟨c, hc⟩ := Option.isSome_iff_exists.1 hj
    have := all_get hs0 hc
    simpa using this
  -- what the call is given, by numbers
  have hZ : ∀ b, Reach (fun j => if (getB s0 j).isSome then m0 j else none) b ↔ Own m0 s0 b := by
    intro b
    constructor
    · rintro ⟨j, hj⟩
      simp only at hj
      split at hj
      · rename_i h1
        obtain ⟨c, hc⟩ := Option.isSome_iff_exists.1 h1
        exact ⟨j, c, hc, hj⟩
      · cases hj
    · rintro ⟨j, c, h1, h2⟩
      exact ⟨j, by simp [h1, h2]⟩
  have hrel : Rel w (fun j => if (getB s0 j).isSome then m0 j else none) X m0 (args ++ List.replicate (fn.ntmps - args.length) vundef) s0 { tmps := vs.toArray ++ Array.replicate (fn.ntmps - vs.toArray.size) undef, defers := [] } w := by
    refine ⟨?_, hS, rfl, ⟨rfl, rfl, rfl, Nat.le_refl _, fun _ _ _ => rfl, fun _ cs _ _ q => ⟨cs, q, rfl⟩⟩, fun b hb => .inl ((hZ b).2 hb), fun b hb => ⟨(hX b hb).1, fun q => (hX b hb).2 ((hZ b).1 q)⟩, fun i hi hs => by simp [hs]⟩
    simp only [Array.toList_append, Array.toList_replicate, List.size_toArray]
    refine All2.append hargs ⟨by simp [hargs.len], fun j x v h1 h2 => ?_⟩
    rw [List.getElem?_replicate] at h1 h2
    split at h1
    · cases h1
      split at h2
      · cases h2; exact .d (.lit _ rfl)
      · cases h2
    · cases h1
  refine wp_mono (h w _ X hrel) fun x a' w' hx => ?_
  obtain ⟨E', m', ⟨hx, r', h1, h2, h3⟩, hr⟩ := hx
  obtain ⟨v, g1, g2⟩ := res_run (fn := fn) hr h1
  have fin : a'.defers = [] ∧ ∃ v, (results fn a'.tmps).run P w' = .ok v w' ∧ ∃ v_1 m', Ending.returned v = Ending.returned v_1 ∧ Ext (Own m0 s0) w w' ∧ VRel w' (Live X m' s1) m' r v_1 ∧ SRel w' X m' s1 ∧ (∀ b, Own m' s1 b → Own m0 s0 b ∨ w.heap.size ≤ b) ∧
      ∀ j, (getB s0 j).isSome = true → (getB s1 j).isSome = true → m' j = m0 j := by
    refine ⟨hr.dfr, v, g1, v, finM keep m', rfl, ⟨hr.ext.os, hr.ext.tape, hr.ext.output, hr.ext.size, fun b hb hl => hr.ext.block b hb fun q => hl ((hZ b).1 q), hr.ext.sizes⟩, ?_, ?_, ?_, fun j hj hj' => ?_⟩
    · rw [← h2, ← h3]; exact fin_rel hr g2
    · rw [← h3]; exact fin_sto hr hnd
    · rw [← h3]
      intro b hb
      obtain ⟨id, blk, _, q1, q2⟩ := own_fin hb
      exact (hr.liv b ⟨id, blk, q1, q2⟩).imp_left fun q => (hZ b).1 q
    · obtain ⟨k1, k2⟩ := hkey hj
      rw [← h3, getB_finS] at hj'
      simp only [Nat.zero_le, if_true, Nat.sub_zero, k2, Option.bind_some, Option.isSome_map] at hj'
      have := hr.par j k1 hj'
      simp only [hj, if_true] at this
      simp only [finM, k2, Option.bind_some, this]
  rcases hx with rfl | rfl
  · exact fin
  · exact fin
theorem snd_of {f : FuncId} {fn : Func} {c : Code} {args : List V} {r : V} {τ : Store} {n : Nat} (keep : List Nat) (hfn : P.funcs[f]? = some fn) (hb : fn.body = some c) (hg : goFn P f = true) (hn : fn.ntmps = n) (hnd : keep.Nodup)
    (h : Run P c ⟨args ++ List.replicate (n - args.length) vundef, []⟩ (Told P fn.results.toList keep r τ)) : Snd P f args r τ :=
  (sndW_of keep hfn hb hg hn hnd rfl h).pure
end
end Go.Fw
end
section
namespace Go.Fw
attribute [simp] buildA indexA EvO exec cls look litV put getB putB guardOf opP opR opA opW opAppend callOf loadV partV one mkAg toDs cellsOfV aggCells binV binI isNil nilLit vkind nilV eqNil unV idxV sliceV sliceS optInt cutSl cutRs cutStr convV minmax lenV fillV setAt lits litsD oneCells chop newId hitO srcRows baseRows srcV baseV opAppendV lookV updV findK lookR Instr.sameNow V.fgt V.fgtL Blk.fgt fgtS V.men V.menL setRow V.shift V.shiftL Blk.shift addS Value.oneCell
attribute [simp] V.ren V.renL Blk.ren rho renS dropS lost puts Blk.men badId okW give
attribute [simp] setG gs_tt gs_ff gs_tf gs_ft
attribute [simp] Then_normal Then_exit Then_goto Then_ret Blok_normal Blok_exit Blok_goto Blok_ret leE leS
attribute [simp] enterE enterS ks makes madeIn
attribute [simp] resV resList V.fin V.finL Blk.fin finS frz frzP
/-- an element, by an index that is in bounds -/
def rdI {α : Type} [Inhabited α] (l : List α) (i : Int) : α := l.getD i.toNat default
theorem rdI_mem {α : Type} [Inhabited α] {l : List α} {i : Int} (h0 : 0 ≤ i) (h1 : i < (l.length : Int)) : rdI l i ∈ l := by
  have : i.toNat < l.length := by omega
  simp [rdI, List.getD_eq_getElem?_getD, this]
@[simp] theorem rowAt_map {α : Type} [Inhabited α] {f : α → List D} {l : List α} {i : Int} (h0 : 0 ≤ i) (h1 : i < (l.length : Int)) : rowAt (l.map f) i = f (rdI l i) := by
  have : i.toNat < l.length := by omega
  simp [rowAt, rdI, List.getD_eq_getElem?_getD, this]
end Go.Fw
end
section
namespace Go.Fw
variable {P : Program}

/-! what is known of data that stands in a slot -/
mutual
def D.ok : D → Prop
  | .lit v => okLit v = true
  | .sl _ rows => rows.length ≤ 9223372036854775807 ∧ D.okR rows
  | .ip row _ => D.okL row
  | .ag cells => D.okL cells
def D.okL : List D → Prop
  | [] => True
  | x :: r => x.ok ∧ D.okL r
def D.okR : List (List D) → Prop
  | [] => True
  | x :: r => D.okL x ∧ D.okR r
end
theorem okL_iff (l : List D) : D.okL l ↔ ∀ x ∈ l, x.ok := by
  induction l with
  | nil => simp [D.okL]
  | cons x r ih => simp [D.okL, ih]
theorem okR_iff (l : List (List D)) : D.okR l ↔ ∀ x ∈ l, D.okL x := by
  induction l with
  | nil => simp [D.okR]
  | cons x r ih => simp [D.okR, ih]
theorem okR_map {α : Type} (f : α → List D) (l : List α) : D.okR (l.map f) ↔ ∀ x ∈ l, D.okL (f x) := by simp [okR_iff]
theorem okL_map {α : Type} (f : α → D) (l : List α) : D.okL (l.map f) ↔ ∀ x ∈ l, (f x).ok := by simp [okL_iff]
theorem DRel.ok {w : World} {L : Nat → Prop} {x : D} {v : Value} (h : DRel w L x v) : x.ok := by
  induction h with
  | lit v h => exact h
  | slE nn A cap h => simp [D.ok, D.okR]
  | sl nn rows b off cap sz vals hb hc hm hz hv ho hr ih =>
    refine ⟨hm, (okR_iff _).2 fun r hr => (okL_iff _).2 fun x hx => ?_⟩
    obtain ⟨i, hi⟩ := List.getElem?_of_mem hr
    obtain ⟨j, hj⟩ := List.getElem?_of_mem hx
    exact ih i j r x hi hj
  | ip row b off col vals hb hv ho hr ih =>
    refine (okL_iff _).2 fun x hx => ?_
    obtain ⟨j, hj⟩ := List.getElem?_of_mem hx
    exact ih j x hj
  | ag cells vs hl ho hr ih =>
    refine (okL_iff _).2 fun x hx => ?_
    obtain ⟨j, hj⟩ := List.getElem?_of_mem hx
    have hlt : j < vs.length := by rw [hl]; exact (List.getElem?_eq_some_iff.1 hj).1
    exact ih j x _ hj (List.getElem?_eq_getElem hlt)
theorem ok_int {k : IntKind} {n : Int} : (D.lit (.int k n)).ok ↔ k.min ≤ n ∧ n ≤ k.max := by simp [D.ok, int_lit]
theorem ok_i64 {n : Int} : (D.lit (.int .i64 n)).ok ↔ -9223372036854775808 ≤ n ∧ n ≤ 9223372036854775807 := by
  rw [ok_int]; simp [IntKind.min, IntKind.max, IntKind.signed, IntKind.bits]
theorem ok_str {s : ByteArray} : (D.lit (.string s)).ok ↔ s.size ≤ 9223372036854775807 := by simp [D.ok, okLit]
variable {Q : Exit → St → Prop} {E : St}
theorem Run.ok {c : Code} (i : Nat) {x : D} (hi : E.e.getD i .top = .d x) (h : x.ok → Run P c E Q) : Run P c E Q := fun w0 L0 X m a w hr => by
  have h1 := hr.look (.tmp i)
  simp only [look, hi] at h1
  cases h1 with
  | d hd => exact h hd.ok w0 L0 X hr
theorem Run.okB {c : Code} (id : Nat) {sz : Nat} {rows : List (List D)} (hi : getB E.s id = some (.data sz rows)) (h : D.okR rows → Run P c E Q) : Run P c E Q := fun w0 L0 X m a w hr => by
  refine h ?_ w0 L0 X hr
  rcases hr.sto.blk id _ hi with ⟨b, _, cs, ty, fr, _, _, _, _, h5⟩ | ⟨_, sz', h5⟩
  · refine (okR_iff _).2 fun r hr => (okL_iff _).2 fun x hx => ?_
    obtain ⟨i, hi⟩ := List.getElem?_of_mem hr
    obtain ⟨j, hj⟩ := List.getElem?_of_mem hx
    obtain ⟨v, _, _, h6⟩ := h5 i j r x hi hj
    exact h6.ok
  · cases h5; trivial
theorem Run.okV {c : Code} (i : Nat) {id sz off len : Nat} (hi : E.e.getD i .top = .rs id sz off len) (h : len ≤ 9223372036854775807 → Run P c E Q) : Run P c E Q := fun w0 L0 X m a w hr => by
  have h1 := hr.look (.tmp i)
  simp only [look, hi] at h1
  generalize a.eval (.tmp i) = u at h1
  cases h1 with
  | rsE => exact h (by omega) w0 L0 X hr
  | rs => exact h (by assumption) w0 L0 X hr
/-- a function's answer may be shown by what is known of its data -/
theorem SndW.ok {f : FuncId} {args : List V} {s0 s1 : Store} {r : V} (i : Nat) {x : D} (hi : args[i]? = some (.d x)) (hg : goFn P f = true) (h : x.ok → SndW P f args s0 r s1) : SndW P f args s0 r s1 := by
  refine ⟨hg, fun w X m0 vs hX hS hargs => ?_⟩
  obtain ⟨v, _, hv⟩ := hargs.get hi
  cases hv with
  | d hd => exact (h hd.ok).2 w X m0 vs hX hS hargs
theorem Snd.ok {f : FuncId} {args : List V} {τ : Store} {r : V} (i : Nat) {x : D} (hi : args[i]? = some (.d x)) (hg : goFn P f = true) (h : x.ok → Snd P f args r τ) : Snd P f args r τ := by
  refine ⟨hg, fun w X vs hX hargs => ?_⟩
  obtain ⟨v, _, hv⟩ := hargs.get hi
  cases hv with
  | d hd => exact (h hd.ok).2 w X vs hX hargs

/-! cuts -/
def over (e : Env) (tops : List Nat) (vals : List (Nat × V)) : Env := vals.foldl (fun e x => e.set x.1 x.2) (tops.foldl (fun e k => e.set k .top) e)
theorem Run.cut {x y : Code} {e : Env} {s : Store} (tops : List Nat) (vals : List (Nat × V)) (s' : Store) (hx : Run P x ⟨e, s⟩ (Then (fun E' => Le E' ⟨over e tops vals, s'⟩) Q)) (hy : Run P y ⟨over e tops vals, s'⟩ Q) : Run P (.seq x y) ⟨e, s⟩ Q :=
  Run.seq (hx.mono fun x E h => by cases x <;> first | exact hy.le h | exact h)
theorem Run.cut0 {x y : Code} {e : Env} {s : Store} (tops : List Nat) (vals : List (Nat × V)) (hx : Run P x ⟨e, s⟩ (Then (fun E' => Le E' ⟨over e tops vals, s⟩) Q)) (hy : Run P y ⟨over e tops vals, s⟩ Q) : Run P (.seq x y) ⟨e, s⟩ Q := Run.cut tops vals s hx hy
theorem Run.loopO {c : Code} {e : Env} {s : Store} (tops : List Nat) {α : Type} (vals : α → List (Nat × V)) (st : α → Store) (I : α → Prop) (μ : α → Nat) (x0 : α) (h0 : I x0) (hE : Le ⟨e, s⟩ ⟨over e tops (vals x0), st x0⟩)
    (hstep : ∀ x, I x → Run P c ⟨over e tops (vals x), st x⟩ (Then (fun E' => ∃ y, I y ∧ μ y < μ x ∧ Le E' ⟨over e tops (vals y), st y⟩) Q)) : Run P (.loop c) ⟨e, s⟩ Q :=
  Run.loop (fun x => ⟨over e tops (vals x), st x⟩) I μ x0 h0 hE hstep
attribute [simp] Told over Le okLit IntKind.min IntKind.max IntKind.signed IntKind.bits

/-! blocks numbered anew -/
def swp (x y j : Nat) : Nat := if j = x then y else j
def renM (m : Nat → Option Nat) (x y i : Nat) : Option Nat := if i = y then m x else m i
theorem Rel.ren {w0 : World} {L0 : Par} {X : Nat → Prop} {m : Nat → Option Nat} {e : Env} {s : Store} {a : Act} {w : World} (h : Rel w0 L0 X m e s a w) (x y : Nat) (hx : 90 ≤ x) (hy : 90 ≤ y) (he : V.menL (· == y) e = false) (hs : s.all (fun z => z.1 != y && !z.2.men (· == y)) = true) :
    Rel w0 L0 X (renM m x y) (V.renL (swp x y) e) (puts [] (renS (swp x y) s)) a w := by
  have hid : ∀ j, (j == y) = false → renM m x y (swp x y j) = m j := fun j hj => by
    have hj : j ≠ y := by simpa using hj
    unfold renM swp
    by_cases e1 : j = x
    · simp [e1]
    · simp [e1, hj]
  have hkey : ∀ {j b}, getB s j = some b → j ≠ y ∧ b.men (· == y) = false := fun {j b} hg => by
    have := all_get hs hg
    simpa using this
  have hget : ∀ i blk, getB (puts [] (renS (swp x y) s)) i = some blk → ∃ j b0, getB s j = some b0 ∧ swp x y j = i ∧ blk = b0.ren (swp x y) := by
    intro i blk hg
    rw [getB_puts'] at hg
    split at hg
    · rename_i b hb; cases hg; exact getB_renS hb
    · cases hg
  have hown : ∀ b, Own (renM m x y) (puts [] (renS (swp x y) s)) b → Own m s b := by
    rintro b ⟨i, blk, h1, h2⟩
    obtain ⟨j, b0, g1, rfl, _⟩ := hget i blk h1
    rw [hid j (by simpa using (hkey g1).1)] at h2
    exact ⟨j, b0, g1, h2⟩
  have hL : ∀ b, Live X (renM m x y) (puts [] (renS (swp x y) s)) b → Live X m s b := fun b hl => hl.imp_right (hown b)
  refine ⟨⟨h.env.len.trans (renL_len _ _).symm, fun j v u q1 q2 => ?_⟩, ⟨fun i blk hi => ?_, fun i j b q1 q2 q3 q4 => ?_⟩, h.dfr, h.ext, fun b hb => h.liv b (hown b hb), h.old, fun i hi hsm => ?_⟩
  · rw [renL_at] at q1
    obtain ⟨z, hz, rfl⟩ := Option.map_eq_some_iff.1 q1
    exact VRel.ren hL hid (menL_at he hz) (h.env.at_ j z u hz q2)
  · obtain ⟨j, b0, g1, rfl, rfl⟩ := hget i blk hi
    have ej := hid j (by simpa using (hkey g1).1)
    rcases h.sto.blk j b0 g1 with ⟨b, r1, r2⟩ | ⟨r1, sz, rfl⟩
    · exact .inl ⟨b, ej.trans r1, BRel.ren hL hid (hkey g1).2 r2⟩
    · exact .inr ⟨ej.trans r1, sz, rfl⟩
  · obtain ⟨c1, hc1⟩ := Option.isSome_iff_exists.1 q3
    obtain ⟨c2, hc2⟩ := Option.isSome_iff_exists.1 q4
    obtain ⟨j1, b1, g1, rfl, _⟩ := hget i c1 hc1
    obtain ⟨j2, b2, g2, rfl, _⟩ := hget j c2 hc2
    rw [hid j1 (by simpa using (hkey g1).1)] at q1
    rw [hid j2 (by simpa using (hkey g2).1)] at q2
    rw [h.sto.inj j1 j2 b q1 q2 (by rw [g1]; rfl) (by rw [g2]; rfl)]
  · obtain ⟨c1, hc1⟩ := Option.isSome_iff_exists.1 hsm
    obtain ⟨j1, b1, g1, e1, _⟩ := hget i c1 hc1
    have : j1 = i := by unfold swp at e1; split at e1 <;> omega
    subst this
    simp only [renM, if_neg (show j1 ≠ y by omega)]
    exact h.par j1 hi (by rw [g1]; rfl)
theorem Run.ren {c : Code} {e : Env} {s : Store} (x y : Nat) (hx : 90 ≤ x) (hy : 90 ≤ y) (he : V.menL (· == y) e = false) (hs : s.all (fun z => z.1 != y && !z.2.men (· == y)) = true) (h : Run P c ⟨V.renL (swp x y) e, puts [] (renS (swp x y) s)⟩ Q) : Run P c ⟨e, s⟩ Q :=
  fun w0 L0 X m a w hr => h w0 L0 X (hr.ren x y hx hy he hs)
attribute [simp] swp

/-! gotos that lead forward -/
def NoGoto (Q : Exit → St → Prop) : Exit → St → Prop
  | .goto _, _ => False
  | x, E => Q x E
def Fwd (P : Program) (l : Nat) (rest : Code) (Q : Exit → St → Prop) : Exit → St → Prop
  | .goto l', E => l' = l ∧ Run P rest E (NoGoto Q)
  | x, E => Q x E
theorem Fwd_normal {l : Nat} {rest : Code} {Q : Exit → St → Prop} {E : St} : Fwd P l rest Q .normal E = Q .normal E := rfl
theorem Fwd_exit {l i : Nat} {rest : Code} {Q : Exit → St → Prop} {E : St} : Fwd P l rest Q (.exit i) E = Q (.exit i) E := rfl
theorem Fwd_ret {l : Nat} {rest : Code} {Q : Exit → St → Prop} {E : St} : Fwd P l rest Q .ret E = Q .ret E := rfl
theorem Fwd_goto {l : Nat} {rest : Code} {Q : Exit → St → Prop} {E : St} : Fwd P l rest Q (.goto l) E = Run P rest E (NoGoto Q) := by simp [Fwd]
theorem NoGoto_normal {Q : Exit → St → Prop} {E : St} : NoGoto Q .normal E = Q .normal E := rfl
theorem NoGoto_exit {Q : Exit → St → Prop} {i : Nat} {E : St} : NoGoto Q (.exit i) E = Q (.exit i) E := rfl
theorem NoGoto_ret {Q : Exit → St → Prop} {E : St} : NoGoto Q .ret E = Q .ret E := rfl
theorem Run.scope (l : Nat) (rest : Code) {c : Code} (hf : findLabel c l = some rest) (h : Run P c E (Fwd P l rest Q)) : Run P (.scope c) E Q := fun w0 L0 X m a w hr => by
  refine wp_scope_jumps l (fun a w => rest.wp P (Exit.noGoto (fun x a' w' => ∃ E' m', Q x E' ∧ Rel w0 L0 X m' E'.e E'.s a' w')) a w) (fun _ _ => 0) hf ?_ ?_
  · refine wp_mono (h w0 L0 X hr) fun x a' w' hx => ?_
    obtain ⟨E', m', q, r⟩ := hx
    cases x with
    | goto l' =>
      obtain ⟨rfl, q⟩ := q
      refine ⟨rfl, wp_mono (q w0 L0 X r) fun x a' w' hx => ?_⟩
      obtain ⟨E', m', q, r⟩ := hx
      cases x <;> first | exact q.elim | exact ⟨E', m', q, r⟩
    | normal => exact ⟨E', m', q, r⟩
    | exit i => exact ⟨E', m', q, r⟩
    | ret => exact ⟨E', m', q, r⟩
    | panic ch => exact ⟨E', m', q, r⟩
    | outgrown => exact ⟨E', m', q, r⟩
  · intro a w hJ
    refine wp_mono hJ fun x a w q => ?_
    cases x <;> first | exact q | exact q.elim

@[congr] theorem ECall_congr {g : FuncId} {args args' : List V} {dst : Option Nat} {k : Env → Store → Prop} {e e' : Env} {s s' : Store} (ha : args = args') (he : e = e') (hs : s = s') : ECall P g args dst k e s = ECall P g args' dst k e' s' := by subst ha he hs; rfl
@[congr] theorem ECallF_congr {g : FuncId} {args args' : List V} {dst : Option Nat} {k : Env → Store → Prop} {e e' : Env} {s s' : Store} (ha : args = args') (he : e = e') (hs : s = s') : ECallF P g args dst k e s = ECallF P g args' dst k e' s' := by subst ha he hs; rfl
@[congr] theorem ECallW_congr {g : FuncId} {args args' : List V} {dst : Option Nat} {k : Env → Store → Prop} {e e' : Env} {s s' : Store} (ha : args = args') (he : e = e') (hs : s = s') : ECallW P g args dst k e s = ECallW P g args' dst k e' s' := by subst ha he hs; rfl
@[congr] theorem Run_congr {c : Code} {E E' : St} {Q : Exit → St → Prop} (he : E = E') : Run P c E Q = Run P c E' Q := by subst he; rfl

/-! a region's operations, without what the walk does not ask -/
structure LOp where
  op : Op
  dst : Option Nat
  guard : Option (Option Nat × Bool)
def lite (all : List Oper) (o : Oper) : LOp := ⟨o.op, o.dst, match o.guard with | none => none | some (j, want) => some ((all[j]?).bind (·.dst), want)⟩
def mkO (op : Op) (dst : Option Nat) : Oper := { op := op, dst := dst, type := 0, pos := "", after := #[], guard := none }
def EvL (P : Program) (im : Op → Bool) (K : Env → Store → Prop) : List LOp → Env → Store → Prop
  | [], e, s => K e s
  | o :: os, e, s => match o.guard with
    | none => exec P im (mkO o.op o.dst) (EvL P im K os) e s
    | some (none, _) => False
    | some (some k, want) => match e.getD k .top with
      | .d (.lit (.bool b)) => GSplit b want (exec P im (mkO o.op o.dst) (EvL P im K os) (e.set k (.d (.lit (.bool want)))) s) (EvL P im K os (put (e.set k (.d (.lit (.bool !want)))) o.dst vundef) s)
      | .d (.lit (.tuple _)) => EvL P im K os (put e o.dst vundef) s
      | _ => False
theorem exec_mono {im : Op → Bool} {o o' : Oper} {k k' : Env → Store → Prop} {e : Env} {s : Store} (h1 : o'.op = o.op) (h2 : o'.dst = o.dst) (hk : ∀ e s, k e s → k' e s) (h : exec P im o k e s) : exec P im o' k' e s := by
  unfold exec at h ⊢
  rw [h1, h2]
  cases hc : cls o.op <;> rw [hc] at h <;> simp only at h ⊢
  · split at h
    · exact ⟨h.1, fun c => hk _ _ (h.2 c)⟩
    · exact h
  · split at h
    · exact ⟨h.1, fun c => hk _ _ (h.2 c)⟩
    · exact h
  · split at h
    · split at h
      · exact ⟨h.1, fun c => hk _ _ (h.2 c)⟩
      · exact h
    · exact h
  · split at h
    · exact ⟨h.1, fun c => hk _ _ (h.2 c)⟩
    · exact h
  · split at h
    · split at h
      · split at h
        · exact ⟨h.1, fun c => hk _ _ (h.2 c)⟩
        · split at h
          · exact ⟨h.1, fun c => hk _ _ (h.2 c)⟩
          · exact h
      · exact h
    · exact h
  · split at h
    · cases him : im o.op with
      | true =>
        rw [him] at h
        simp only at h ⊢
        obtain ⟨ids, a0, s0, r, s1, q1, q2, q3, q4, q5, q6⟩ := h
        exact ⟨ids, a0, s0, r, s1, q1, q2, q3, q4, q5, hk _ _ q6⟩
      | false =>
        rw [him] at h
        simp only at h ⊢
        split at h
        · rename_i hp
          rw [if_pos hp]
          obtain ⟨r, t, q1, q2, q3, q4⟩ := h
          exact ⟨r, t, q1, q2, q3, hk _ _ q4⟩
        · rename_i hp
          rw [if_neg hp]
          obtain ⟨x, q1, q2, q3, q4⟩ := h
          exact ⟨x, q1, q2, q3, hk _ _ q4⟩
    · exact h
theorem evL_evO {im : Op → Bool} {all : List Oper} {K : Env → Store → Prop} : ∀ {os : List Oper} {e : Env} {s : Store}, EvL P im K (os.map (lite all)) e s → EvO P im all K os e s := by
  intro os
  induction os with
  | nil => intro e s h; exact h
  | cons o os ih =>
    intro e s h
    simp only [List.map_cons, EvL, lite] at h
    simp only [EvO, guardOf]
    cases hg : o.guard with
    | none =>
      rw [hg] at h
      exact exec_mono rfl rfl (fun e s h => ih h) h
    | some q =>
      obtain ⟨j, want⟩ := q
      rw [hg] at h
      simp only at h ⊢
      cases ha : all[j]? with
      | none => rw [ha] at h; exact h.elim
      | some g =>
        rw [ha] at h
        simp only [Option.bind_some] at h ⊢
        cases hd : g.dst with
        | none => rw [hd] at h; exact h.elim
        | some k =>
          rw [hd] at h
          simp only at h ⊢
          split at h
          · rename_i b hb
            rw [hb]
            refine ⟨fun q => exec_mono rfl rfl (fun e s h => ih h) (h.1 q), fun q => ?_⟩
            have e1 : setG e k want = e.set k (.d (.lit (.bool !want))) := by unfold setG; rw [hb]
            rw [e1]
            exact ih (h.2 q)
          · rename_i v hb
            rw [hb]
            refine ⟨fun q => by cases want <;> simp at q, fun q => ?_⟩
            have e1 : setG e k want = e := by unfold setG; rw [hb]
            rw [e1]
            exact ih h
          · exact h.elim
theorem evL_cons {im : Op → Bool} {K : Env → Store → Prop} {op : Op} {dst : Option Nat} {os : List LOp} {e : Env} {s : Store} : EvL P im K (⟨op, dst, none⟩ :: os) e s = exec P im (mkO op dst) (EvL P im K os) e s := rfl
theorem evL_guard {im : Op → Bool} {K : Env → Store → Prop} {op : Op} {dst : Option Nat} {k : Nat} {want : Bool} {os : List LOp} {e : Env} {s : Store} : EvL P im K (⟨op, dst, some (some k, want)⟩ :: os) e s = (match e.getD k .top with
      | .d (.lit (.bool b)) => GSplit b want (exec P im (mkO op dst) (EvL P im K os) (e.set k (.d (.lit (.bool want)))) s) (EvL P im K os (put (e.set k (.d (.lit (.bool !want)))) dst vundef) s)
      | .d (.lit (.tuple _)) => EvL P im K os (put e dst vundef) s
      | _ => False) := rfl
theorem evL_nil {im : Op → Bool} {K : Env → Store → Prop} {e : Env} {s : Store} : EvL P im K [] e s = K e s := rfl
/-- A REGION, operation by operation. -/
theorem Run.opsL (im : Bool) {id : Nat} {ops : Array Oper} {draw : Bool} (los : List LOp) (hm : P.follows .mixedOrders = true) (hk : okReg (fun _ => im) draw ops.toList = true) (hl : ops.toList.map (lite ops.toList) = los) {e : Env} {s : Store}
    (h : ∀ K : Env → Store → Prop, (∀ e s, Q .normal ⟨e, s⟩ → K e s) → EvL P (fun _ => im) K los (enterE ops.toList e) (enterS ops.toList s)) : Run P (.region id ops draw) ⟨e, s⟩ Q :=
  Run.opsI (fun _ => im) hm hk fun K hK => by subst hl; exact evL_evO (h K hK)
attribute [simp] mkO
/-- what is to be shown of the region's end -/
def Fin (Q : Exit → St → Prop) (K : Env → Store → Prop) : Prop := ∀ e s, Q .normal ⟨e, s⟩ → K e s
theorem Fin.go {im : Op → Bool} {K : Env → Store → Prop} {e : Env} {s : Store} (h : Fin Q K) (hq : Q .normal ⟨e, s⟩) : EvL P im K [] e s := h e s hq
theorem Run.opsM (im : Bool) {id : Nat} {ops : Array Oper} {draw : Bool} (los : List LOp) (hm : P.follows .mixedOrders = true) (hk : okReg (fun _ => im) draw ops.toList = true) (hl : ops.toList.map (lite ops.toList) = los) {e : Env} {s : Store}
    (h : ∀ K : Env → Store → Prop, Fin Q K → EvL P (fun _ => im) K los (enterE ops.toList e) (enterS ops.toList s)) : Run P (.region id ops draw) ⟨e, s⟩ Q := Run.opsL im los hm hk hl h
/-- all calls but such of these functions are given blocks -/
def imp (l : List FuncId) (op : Op) : Bool := match op with
  | .call c => match c.callee with
    | .value (.func f) => !l.contains f
    | _ => true
  | _ => true
theorem Run.opsP (l : List FuncId) {id : Nat} {ops : Array Oper} {draw : Bool} (los : List LOp) (hm : P.follows .mixedOrders = true) (hk : okReg (imp l) draw ops.toList = true) (hl : ops.toList.map (lite ops.toList) = los) {e : Env} {s : Store}
    (h : ∀ K : Env → Store → Prop, Fin Q K → EvL P (imp l) K los (enterE ops.toList e) (enterS ops.toList s)) : Run P (.region id ops draw) ⟨e, s⟩ Q :=
  Run.opsI (imp l) hm hk fun K hK => by subst hl; exact evL_evO (h K hK)
attribute [simp] imp
theorem evL_c {im : Op → Bool} {K : Env → Store → Prop} {op : Op} {dst : Option Nat} {os : List LOp} {e : Env} {s : Store} (h : exec P im (mkO op dst) (EvL P im K os) e s) : EvL P im K (⟨op, dst, none⟩ :: os) e s := h
theorem evL_g {im : Op → Bool} {K : Env → Store → Prop} {op : Op} {dst : Option Nat} {k : Nat} {want : Bool} {os : List LOp} {e : Env} {s : Store} {b : Bool} (hb : e.getD k .top = .d (.lit (.bool b)))
    (h : GSplit b want (exec P im (mkO op dst) (EvL P im K os) (e.set k (.d (.lit (.bool want)))) s) (EvL P im K os (put (e.set k (.d (.lit (.bool !want)))) dst vundef) s)) : EvL P im K (⟨op, dst, some (some k, want)⟩ :: os) e s := by
  rw [evL_guard, hb]; exact h
theorem evL_u {im : Op → Bool} {K : Env → Store → Prop} {op : Op} {dst : Option Nat} {k : Nat} {want : Bool} {os : List LOp} {e : Env} {s : Store} {a : Array Value} (hb : e.getD k .top = .d (.lit (.tuple a)))
    (h : EvL P im K os (put e dst vundef) s) : EvL P im K (⟨op, dst, some (some k, want)⟩ :: os) e s := by
  rw [evL_guard, hb]; exact h

/-- blocks may be forgotten -/
theorem leE_refl (e : Env) : leE e e := by
  induction e with
  | nil => trivial
  | cons v r ih => exact ⟨.inr rfl, ih⟩
theorem Run.drop {c : Code} {e : Env} {s : Store} (s' : Store) (hs : leS s s') (h : Run P c ⟨e, s'⟩ Q) : Run P c ⟨e, s⟩ Q := Run.le ⟨leE_refl e, hs⟩ h

/-! rows of blocks -/
@[simp] theorem rowN_map {α : Type} [Inhabited α] {f : α → List D} {l : List α} {i : Nat} (h : i < l.length) : rowN (l.map f) i = f (rdI l i) := by
  simp [rowN, rdI, List.getD_eq_getElem?_getD, h]
@[simp] theorem rowN_zero (x : List D) (l : List (List D)) : rowN (x :: l) 0 = x := rfl
@[simp] theorem rowN_succ (x : List D) (l : List (List D)) (n : Nat) : rowN (x :: l) (n + 1) = rowN l n := rfl

/-! numbers -/
@[simp] theorem beq_dec (a b : Int) : (a == b) = decide (a = b) := rfl
@[simp] theorem bne_dec (a b : Int) : (a != b) = !decide (a = b) := rfl
theorem wrap_id {n : Int} (h0 : -9223372036854775808 ≤ n) (h1 : n ≤ 9223372036854775807) : IntKind.i64.wrap n = n := by
  simp only [IntKind.wrap, IntKind.bits, IntKind.signed, Bool.true_and, decide_eq_true_eq, Nat.reduceSub, Int.reducePow, ge_iff_le]
  split <;> omega
end Go.Fw
end
section
namespace Go.Fw
variable {P : Program} {Q : Exit → St → Prop}
theorem getB_fgtS' {p : Nat → Bool} {s : Store} {i : Nat} {b : Blk} (h : getB (fgtS p s) i = some b) : p i = false ∧ ∃ c, getB s i = some c := by
  induction s with
  | nil => cases h
  | cons x r ih =>
    obtain ⟨j, d⟩ := x
    simp only [fgtS] at h
    split at h
    · rename_i hp
      obtain ⟨h1, c, h2⟩ := ih h
      refine ⟨h1, ?_⟩
      simp only [getB]
      split
      · exact ⟨d, rfl⟩
      · exact ⟨c, h2⟩
    · rename_i hp
      simp only [getB] at h ⊢
      split at h
      · rename_i e
        subst e
        rw [if_pos rfl]
        exact ⟨by simpa using hp, d, rfl⟩
      · rename_i e
        rw [if_neg e]
        exact ih h
theorem Rel.frz {w0 : World} {L0 : Par} {X : Nat → Prop} {m : Nat → Option Nat} {e : Env} {s : Store} {a : Act} {w : World} (h : Rel w0 L0 X m e s a w) {k id sz off len : Nat} {rows : List (List D)} (hid : getB s id = some (.data sz rows)) (hle : off + len ≤ rows.length) (hk : e.getD k .top = .rs id sz off len) :
    Rel w0 L0 X m ((V.fgtL (· == id) e).set k (.d (.sl false ((rows.drop off).take len)))) (fgtS (· == id) s) a w := by
  have hv := h.look (.tmp k)
  simp only [Fw.look, hk] at hv
  have hlt : k < e.length := by
    rcases Nat.lt_or_ge k e.length with h | h
    · exact h
    · rw [List.getD_eq_getElem?_getD, List.getElem?_eq_none h] at hk; cases hk
  have hlt' : k < a.tmps.size := by have := h.env.len; simp at this; omega
  have hkeep : id ∉ (s.map (·.1)).filter (fun i => !(i == id)) := by simp
  have h1 := fin_rel h (keep := (s.map (·.1)).filter (fun i => !(i == id))) hv
  have e0 : V.fin ((s.map (·.1)).filter (fun i => !(i == id))) s (.rs id sz off len) = .d (.sl false ((rows.drop off).take len)) := by
    simp only [V.fin]
    rw [show ((s.map (·.1)).filter (fun i => !(i == id))).idxOf? id = none from List.idxOf?_eq_none_iff.2 hkeep]
    simp only [Fw.frz, hid]
    simp [hle]
  rw [e0] at h1
  have hL : ∀ b, Live X m (fgtS (· == id) s) b → Live X (finM ((s.map (·.1)).filter (fun i => !(i == id))) m) (finS ((s.map (·.1)).filter (fun i => !(i == id))) s ((s.map (·.1)).filter (fun i => !(i == id))) 0) b := by
    intro b hb
    refine hb.imp_right ?_
    rintro ⟨i, blk, g1, g2⟩
    obtain ⟨g3, c, g4⟩ := getB_fgtS' g1
    have hi : i ∈ (s.map (·.1)).filter (fun i => !(i == id)) := by
      rw [List.mem_filter]
      exact ⟨List.mem_map.2 ⟨_, getB_mem g4, rfl⟩, by simpa using g3⟩
    obtain ⟨j, hj⟩ := List.getElem?_of_mem hi
    refine ⟨j, c.fin ((s.map (·.1)).filter (fun i => !(i == id))) s, ?_, by simp [finM, hj, g2]⟩
    rw [getB_finS]
    simp [hj, g4]
  have hd : VRel w (Live X m (fgtS (· == id) s)) m (.d (.sl false ((rows.drop off).take len))) (a.eval (.tmp k)) := by
    cases h1 with
    | d hd => exact .d (hd.mono (fun _ _ _ q => q) fun b hb => .inl (hL b hb))
  have h2 := (h.fgt (· == id)).put (some k) hd
  have e1 : a.put (some k) (a.eval (.tmp k)) = a := by
    cases a with
    | mk tmps defers =>
      simp only [Act.eval, Act.put]
      congr 1
      apply Array.ext
      · simp
      · intro j h1 h2
        by_cases e : k = j
        · subst e
          simp [Array.getD, h2]
        · rw [Array.getElem_setIfInBounds, if_neg e]
  rw [e1] at h2
  exact h2
/-- a slot's block is given up -/
theorem Run.frz {c : Code} {e : Env} {s : Store} (k id : Nat) {sz off len : Nat} {rows : List (List D)} (hid : getB s id = some (.data sz rows)) (hle : off + len ≤ rows.length) (hk : e.getD k .top = .rs id sz off len)
    (h : Run P c ⟨(V.fgtL (· == id) e).set k (.d (.sl false ((rows.drop off).take len))), fgtS (· == id) s⟩ Q) : Run P c ⟨e, s⟩ Q := fun w0 L0 X m a w hr => h w0 L0 X (hr.frz hid hle hk)
/-- data may be read as other data -/
theorem Run.sub {c : Code} {e : Env} {s : Store} (k : Nat) {x y : D} (hk : e.getD k .top = .d x) (hs : ∀ (w : World) (L : Nat → Prop) (v : Value), DRel w L x v → DRel w L y v) (h : Run P c ⟨e.set k (.d y), s⟩ Q) : Run P c ⟨e, s⟩ Q := fun w0 L0 X m a w hr => by
  have hv := hr.look (.tmp k)
  simp only [look, hk] at hv
  have hlt : k < e.length := by
    rcases Nat.lt_or_ge k e.length with h | h
    · exact h
    · rw [List.getD_eq_getElem?_getD, List.getElem?_eq_none h] at hk; cases hk
  have hlt' : k < a.tmps.size := by have := hr.env.len; simp at this; omega
  have hd : VRel w (Live X m s) m (.d y) (a.eval (.tmp k)) := by
    cases hv with
    | d hd => exact .d (hs _ _ _ hd)
  have h2 := hr.put (some k) hd
  have e1 : a.put (some k) (a.eval (.tmp k)) = a := by
    cases a with
    | mk tmps defers =>
      simp only [Act.eval, Act.put]
      congr 1
      apply Array.ext
      · simp
      · intro j h1 h2
        by_cases e : k = j
        · subst e
          simp [Array.getD, h2]
        · rw [Array.getElem_setIfInBounds, if_neg e]
  rw [e1] at h2
  exact h w0 L0 X h2
end Go.Fw
end
section
namespace Go.Fw
variable {P : Program} {Q : Exit → St → Prop}
mutual
/-- a block is given up: what names it is its data from now on -/
def V.fra (id : Nat) (s : Store) : V → V
  | .top => .top
  | .d x => .d x
  | .rs i sz off len => if i = id then frz s i sz off len else .rs i sz off len
  | .pt i sz row col => if i = id then frzP s i row col else .pt i sz row col
  | .mp i => if i = id then .top else .mp i
  | .fn f capt => .fn f (V.fraL id s capt)
  | .ag cells => mkAg (V.fraL id s cells)
  | .tup vs => .tup (V.fraL id s vs)
def V.fraL (id : Nat) (s : Store) : List V → List V
  | [] => []
  | v :: r => v.fra id s :: V.fraL id s r
end
def Blk.fra (id : Nat) (s : Store) : Blk → Blk
  | .vals cells => .vals (V.fraL id s cells)
  | .mp ks vs => .mp ks (V.fraL id s vs)
  | .data sz rows => .data sz rows
def fraS (id : Nat) (s0 : Store) : Store → Store
  | [] => []
  | (i, b) :: r => if i = id then fraS id s0 r else (i, b.fra id s0) :: fraS id s0 r
theorem fraL_len (id : Nat) (s : Store) : ∀ l : List V, (V.fraL id s l).length = l.length := by
  intro l
  induction l with
  | nil => rfl
  | cons v r ih => simp [V.fraL, ih]
theorem fraL_at (id : Nat) (s : Store) : ∀ (l : List V) (j : Nat), (V.fraL id s l)[j]? = (l[j]?).map (V.fra id s) := by
  intro l
  induction l with
  | nil => intro j; simp [V.fraL]
  | cons v r ih => intro j; cases j <;> simp [V.fraL, ih]
theorem getB_fraS (id : Nat) (s0 : Store) : ∀ (s : Store) (i : Nat), getB (fraS id s0 s) i = if i = id then none else (getB s i).map (Blk.fra id s0) := by
  intro s
  induction s with
  | nil => intro i; simp [fraS, getB]
  | cons x r ih =>
    intro i
    obtain ⟨j, c⟩ := x
    simp only [fraS]
    by_cases e : j = id
    · rw [if_pos e, ih]
      by_cases q : i = id
      · rw [if_pos q, if_pos q]
      · rw [if_neg q, if_neg q]
        simp only [getB]
        rw [if_neg (by omega)]
    · rw [if_neg e]
      simp only [getB]
      by_cases q : j = i
      · rw [if_pos q, if_pos q, if_neg (by omega)]; rfl
      · rw [if_neg q, if_neg q, ih]
section
variable {w0 : World} {L0 : Par} {X : Nat → Prop} {m : Nat → Option Nat} {e : Env} {s : Store} {a : Act} {w : World}
theorem own_fra {id b : Nat} (h : Own m (fraS id s s) b) : ∃ i blk, i ≠ id ∧ getB s i = some blk ∧ m i = some b := by
  obtain ⟨i, blk, h1, h2⟩ := h
  rw [getB_fraS] at h1
  split at h1
  · cases h1
  · rename_i e
    obtain ⟨b0, g3, g4⟩ := Option.map_eq_some_iff.1 h1
    exact ⟨i, b0, e, g3, h2⟩
theorem live_fra {id b : Nat} (h : Live X m (fraS id s s) b) : Live X m s b := h.imp_right fun h => by
  obtain ⟨i, blk, _, h2, h3⟩ := own_fra h
  exact ⟨i, blk, h2, h3⟩
theorem not_live_fra (h : Rel w0 L0 X m e s a w) {id b : Nat} {blk : Blk} (hid : getB s id = some blk) (hm : m id = some b) : ¬ Live X m (fraS id s s) b := by
  rintro (hl | hl)
  · exact (h.disj hl).2 ⟨id, blk, hid, hm⟩
  · obtain ⟨i, c, h1, h2, h3⟩ := own_fra hl
    exact h1 (h.sto.inj i id b h3 hm (by rw [h2]; rfl) (by rw [hid]; rfl))
theorem fra_rel (h : Rel w0 L0 X m e s a w) {k : Nat} {x : V} {v : Value} (hx : VRel w (Live X m s) m x v) : VRel w (Live X m (fraS k s s)) m (x.fra k s) v := by
  have hD : ∀ {x : D} {v : Value}, DRel w (Live X m s) x v → DRel w (Live X m (fraS k s s)) x v := fun hx => hx.mono (fun _ _ _ q => q) (fun b hl => .inl (live_fra hl))
  induction hx with
  | top v => exact .top v
  | d hx => exact .d (hD hx)
  | rsE id sz =>
    simp only [V.fra]
    split
    · unfold frz
      split
      · split
        · exact .d (by simpa using DRel.slE false none 0 (by simp))
        · exact .top _
      · exact .top _
    · exact .rsE _ sz
  | rs id sz off len cap b cs ty fr hm hc hxl hh hs =>
    simp only [V.fra]
    split
    · rename_i hj
      subst hj
      unfold frz
      split
      · rename_i n rows hg
        split
        · rename_i hcond
          obtain ⟨rfl, hle⟩ := hcond
          rcases h.sto.blk id _ hg with ⟨b', hm', cs', ty', fr', hh', hfr', hsz', hlen', hall⟩ | ⟨hn, _⟩
          · rw [hm] at hm'; cases hm'
            rw [hh] at hh'; cases hh'
            have hl : ((rows.drop off).take len).length = len := by simp; omega
            have hrow : ∀ (i : Nat) (r : List D), ((rows.drop off).take len)[i]? = some r → rows[off + i]? = some r := by
              intro i r h1
              rw [List.getElem?_take] at h1
              split at h1
              · rwa [List.getElem?_drop] at h1
              · cases h1
            have q := VRel.d (m := m) (DRel.sl (w := w) (L := Live X m (fraS id s s)) false ((rows.drop off).take len) b (off * n) cap n (fun i j => (cs[(off + i) * n + j]?).getD undef) (fun _ _ _ _ _ _ => not_live_fra h hg hm) (by rw [hl]; exact hc)
              (by rw [hl]; exact hxl) (fun r hr => hlen' r (List.mem_of_mem_drop (List.mem_of_mem_take hr)))
              (fun i j r x h1 h2 => by
                obtain ⟨v, b1, b2, b3⟩ := hall (off + i) j r x (hrow i r h1) h2
                rw [cell_of hh, show off * n + i * n + j = (off + i) * n + j by rw [Nat.add_mul], b1]; rfl)
              (fun i j r x h1 h2 => by obtain ⟨v, b1, b2, b3⟩ := hall (off + i) j r x (hrow i r h1) h2; rw [b1]; exact b2)
              (fun i j r x h1 h2 => by obtain ⟨v, b1, b2, b3⟩ := hall (off + i) j r x (hrow i r h1) h2; rw [b1]; exact hD b3))
            rw [hl] at q
            exact q
          · rw [hm] at hn; cases hn
        · exact .top _
      · exact .top _
    · exact .rs id sz off len cap b cs ty fr hm hc hxl hh hs
  | pt id sz row col b hm =>
    simp only [V.fra]
    split
    · rename_i hj
      subst hj
      unfold frzP
      split
      · rename_i cells hg
        split
        · rename_i ds hds
          split
          · rename_i h0
            subst h0
            rcases h.sto.blk id _ hg with ⟨b', hm', vs, ex, ty, fr, hh, hfr, hone, hall⟩ | ⟨hn, _, hn'⟩
            · rw [hm] at hm'; cases hm'
              have hd := toDs_rel hds hall
              have q := VRel.d (m := m) (DRel.ip (w := w) (L := Live X m (fraS id s s)) ds b 0 col (fun j => (vs[j]?).getD undef) (fun _ _ _ => not_live_fra h hg hm)
                (fun j x hj => by obtain ⟨v, b1, b2⟩ := hd.get hj; rw [cell_of hh, Nat.zero_add, List.getElem?_toArray, List.getElem?_append_left (List.getElem?_eq_some_iff.1 b1).1]; simp [b1])
                (fun j x hj => by obtain ⟨v, b1, b2⟩ := hd.get hj; rw [b1]; exact hone v (List.mem_of_getElem? b1))
                (fun j x hj => by obtain ⟨v, b1, b2⟩ := hd.get hj; rw [b1]; exact hD b2))
              simpa using q
            · cases hn'
          · exact .top _
        · exact .top _
      · exact .top _
    · exact .pt id sz row col b hm
  | mp id b hm =>
    simp only [V.fra]
    split
    · exact .top _
    · exact .mp id b hm
  | fn f capt vs hl hr ih =>
    refine .fn f _ vs (hl.trans (fraL_len _ _ _).symm) fun j x v h1 h2 => ?_
    rw [fraL_at] at h1
    obtain ⟨y, hy, rfl⟩ := Option.map_eq_some_iff.1 h1
    exact ih j y v hy h2
  | ag cells vs hl ho hr ih =>
    refine mkAg_rel ho ⟨hl.trans (fraL_len _ _ _).symm, fun j x v h1 h2 => ?_⟩
    rw [fraL_at] at h1
    obtain ⟨y, hy, rfl⟩ := Option.map_eq_some_iff.1 h1
    exact ih j y v hy h2
  | tup cells vs hl hr ih =>
    refine .tup _ vs (hl.trans (fraL_len _ _ _).symm) fun j x v h1 h2 => ?_
    rw [fraL_at] at h1
    obtain ⟨y, hy, rfl⟩ := Option.map_eq_some_iff.1 h1
    exact ih j y v hy h2
theorem fraA_rel (h : Rel w0 L0 X m e s a w) {k : Nat} {l : List V} {vs : List Value} (hx : All2 (VRel w (Live X m s) m) l vs) : All2 (VRel w (Live X m (fraS k s s)) m) (V.fraL k s l) vs :=
  ⟨hx.len.trans (fraL_len _ _ _).symm, fun j x v h1 h2 => by
    rw [fraL_at] at h1
    obtain ⟨y, hy, rfl⟩ := Option.map_eq_some_iff.1 h1
    exact fra_rel h (hx.at_ j y v hy h2)⟩
theorem Rel.fra (h : Rel w0 L0 X m e s a w) (k : Nat) : Rel w0 L0 X m (V.fraL k s e) (fraS k s s) a w := by
  have hown : ∀ b, Own m (fraS k s s) b → Own m s b := fun b hb => by
    obtain ⟨i, blk, _, h2, h3⟩ := own_fra hb
    exact ⟨i, blk, h2, h3⟩
  have hsome : ∀ i, (getB (fraS k s s) i).isSome = true → (getB s i).isSome = true := fun i hi => by
    rw [getB_fraS] at hi
    split at hi
    · cases hi
    · simpa using hi
  refine ⟨fraA_rel h h.env, ⟨fun i blk hi => ?_, fun i j b q1 q2 q3 q4 => h.sto.inj i j b q1 q2 (hsome i q3) (hsome j q4)⟩, h.dfr, h.ext, fun b hb => h.liv b (hown b hb), h.old, fun i hi hs => h.par i hi (hsome i hs)⟩
  rw [getB_fraS] at hi
  split at hi
  · cases hi
  · obtain ⟨c, g1, rfl⟩ := Option.map_eq_some_iff.1 hi
    rcases h.sto.blk i c g1 with ⟨b, r1, r2⟩ | ⟨r1, sz, rfl⟩
    · refine .inl ⟨b, r1, ?_⟩
      cases c with
      | vals cells =>
        obtain ⟨vs, ex, ty, fr, g2, g3, g4, g5⟩ := r2
        exact ⟨vs, ex, ty, fr, g2, g3, g4, fraA_rel h g5⟩
      | mp ks vs =>
        obtain ⟨es, clock, g2, g3, g4⟩ := r2
        exact ⟨es, clock, g2, g3, fraA_rel h g4⟩
      | data sz rows =>
        obtain ⟨cs, ty, fr, g2, g3, g4, g5, g6⟩ := r2
        exact ⟨cs, ty, fr, g2, g3, g4, g5, fun i j r x q1 q2 => by
          obtain ⟨v, b1, b2, b3⟩ := g6 i j r x q1 q2
          exact ⟨v, b1, b2, b3.mono (fun _ _ _ q => q) (fun b hl => .inl (live_fra hl))⟩⟩
    · exact .inr ⟨r1, sz, rfl⟩
theorem Rel.subB (h : Rel w0 L0 X m e s a w) {b j : Nat} {cells : List V} {x y : V} (hb : getB s b = some (.vals cells)) (hx : cells[j]? = some x) (hs : ∀ (w : World) (L : Nat → Prop) (m : Nat → Option Nat) (v : Value), VRel w L m x v → VRel w L m y v) :
    Rel w0 L0 X m e (putB s b (.vals (cells.set j y))) a w := by
  have hsome : ∀ i, (getB (putB s b (.vals (cells.set j y))) i).isSome = true → (getB s i).isSome = true := fun i hi => by
    rw [getB_putB] at hi
    split at hi
    · rename_i q; rw [q, hb]; rfl
    · exact hi
  have hown : ∀ c, Own m (putB s b (.vals (cells.set j y))) c → Own m s c := by
    rintro c ⟨i, blk, g1, g2⟩
    obtain ⟨d, hd⟩ := Option.isSome_iff_exists.1 (hsome i (by rw [g1]; rfl))
    exact ⟨i, d, hd, g2⟩
  have hL : ∀ c, Live X m (putB s b (.vals (cells.set j y))) c → Live X m s c ∨ w.heap.size ≤ c := fun c hc => .inl (hc.imp_right (hown c))
  have hk : CellsKept (Live X m s) w w := fun _ _ _ q => q
  have hz : SizesKept w w := fun _ cs _ _ q => ⟨cs, q, rfl⟩
  refine ⟨h.env.mono fun x v q => VRel.mono' hk hz hL q, ⟨fun i blk hi => ?_, fun i j b q1 q2 q3 q4 => h.sto.inj i j b q1 q2 (hsome i q3) (hsome j q4)⟩, h.dfr, h.ext, fun b hb => h.liv b (hown b hb), h.old, fun i hi hs => h.par i hi (hsome i hs)⟩
  rw [getB_putB] at hi
  split at hi
  · rename_i q
    subst q
    cases hi
    rcases h.sto.blk i _ hb with ⟨b', r1, vs, ex, ty, fr, g2, g3, g4, g5⟩ | ⟨_, _, r2⟩
    · refine .inl ⟨b', r1, vs, ex, ty, fr, g2, g3, g4, ?_⟩
      have g6 : All2 (VRel w (Live X m (putB s i (.vals (cells.set j y)))) m) cells vs := g5.mono fun x v q => VRel.mono' hk hz hL q
      refine ⟨by simpa using g6.len, fun k z v q1 q2 => ?_⟩
      rw [List.getElem?_set] at q1
      split at q1
      · rename_i e
        subst e
        split at q1
        · cases q1; exact hs _ _ _ _ (g6.at_ j x v hx q2)
        · cases q1
      · exact g6.at_ k z v q1 q2
    · cases r2
  · rcases h.sto.blk i blk hi with ⟨b', r1, r2⟩ | r
    · exact .inl ⟨b', r1, BRel.mono (p := fun _ => false) hk hz hL (fun _ _ => rfl) rfl (by cases blk <;> first | exact menL_false _ | trivial) r2⟩
    · exact .inr r
theorem Rel.mv (h : Rel w0 L0 X m e s a w) (x y : Nat) (hy : 90 ≤ y) (he : V.menL (· == y) e = false) (hs : s.all (fun z => z.1 != y && !z.2.men (· == y)) = true) :
    Rel w0 L0 X (renM m x y) (V.renL (swp x y) e) (puts [] (renS (swp x y) s)) a w := by
  have hid : ∀ j, (j == y) = false → renM m x y (swp x y j) = m j := fun j hj => by
    have hj : j ≠ y := by simpa using hj
    unfold renM swp
    by_cases e1 : j = x
    · simp [e1]
    · simp [e1, hj]
  have hkey : ∀ {j b}, getB s j = some b → j ≠ y ∧ b.men (· == y) = false := fun {j b} hg => by
    have := all_get hs hg
    simpa using this
  have hget : ∀ i blk, getB (puts [] (renS (swp x y) s)) i = some blk → ∃ j b0, getB s j = some b0 ∧ swp x y j = i ∧ blk = b0.ren (swp x y) := by
    intro i blk hg
    rw [getB_puts'] at hg
    split at hg
    · rename_i b hb; cases hg; exact getB_renS hb
    · cases hg
  have hown : ∀ b, Own (renM m x y) (puts [] (renS (swp x y) s)) b → Own m s b := by
    rintro b ⟨i, blk, h1, h2⟩
    obtain ⟨j, b0, g1, rfl, _⟩ := hget i blk h1
    rw [hid j (by simpa using (hkey g1).1)] at h2
    exact ⟨j, b0, g1, h2⟩
  have hL : ∀ b, Live X (renM m x y) (puts [] (renS (swp x y) s)) b → Live X m s b := fun b hl => hl.imp_right (hown b)
  refine ⟨⟨h.env.len.trans (renL_len _ _).symm, fun j v u q1 q2 => ?_⟩, ⟨fun i blk hi => ?_, fun i j b q1 q2 q3 q4 => ?_⟩, h.dfr, h.ext, fun b hb => h.liv b (hown b hb), h.old, fun i hi hsm => ?_⟩
  · rw [renL_at] at q1
    obtain ⟨z, hz, rfl⟩ := Option.map_eq_some_iff.1 q1
    exact VRel.ren hL hid (menL_at he hz) (h.env.at_ j z u hz q2)
  · obtain ⟨j, b0, g1, rfl, rfl⟩ := hget i blk hi
    have ej := hid j (by simpa using (hkey g1).1)
    rcases h.sto.blk j b0 g1 with ⟨b, r1, r2⟩ | ⟨r1, sz, rfl⟩
    · exact .inl ⟨b, ej.trans r1, BRel.ren hL hid (hkey g1).2 r2⟩
    · exact .inr ⟨ej.trans r1, sz, rfl⟩
  · obtain ⟨c1, hc1⟩ := Option.isSome_iff_exists.1 q3
    obtain ⟨c2, hc2⟩ := Option.isSome_iff_exists.1 q4
    obtain ⟨j1, b1, g1, rfl, _⟩ := hget i c1 hc1
    obtain ⟨j2, b2, g2, rfl, _⟩ := hget j c2 hc2
    rw [hid j1 (by simpa using (hkey g1).1)] at q1
    rw [hid j2 (by simpa using (hkey g2).1)] at q2
    rw [h.sto.inj j1 j2 b q1 q2 (by rw [g1]; rfl) (by rw [g2]; rfl)]
  · obtain ⟨c1, hc1⟩ := Option.isSome_iff_exists.1 hsm
    obtain ⟨j1, b1, g1, e1, _⟩ := hget i c1 hc1
    have : j1 = i := by unfold swp at e1; split at e1 <;> omega
    subst this
    simp only [renM, if_neg (show j1 ≠ y by omega)]
    exact h.par j1 hi (by rw [g1]; rfl)
theorem Rel.subV (h : Rel w0 L0 X m e s a w) {k : Nat} {x y : V} (hk : e.getD k .top = x) (hs : ∀ v, VRel w (Live X m s) m x v → v = a.eval (.tmp k) → VRel w (Live X m s) m y v) : Rel w0 L0 X m (e.set k y) s a w := by
  rcases Nat.lt_or_ge k e.length with hlt | hge
  · have hv := h.look (.tmp k)
    simp only [Fw.look, hk] at hv
    have hlt' : k < a.tmps.size := by have := h.env.len; simp at this; omega
    have h2 := h.put (some k) (hs _ hv rfl)
    have e1 : a.put (some k) (a.eval (.tmp k)) = a := by
      cases a with
      | mk tmps defers =>
        simp only [Act.eval, Act.put]
        congr 1
        apply Array.ext
        · simp
        · intro j h1 h2
          by_cases e : k = j
          · subst e
            simp [Array.getD, h2]
          · rw [Array.getElem_setIfInBounds, if_neg e]
    rw [e1] at h2
    exact h2
  · rw [List.set_eq_of_length_le hge]; exact h
end
/-- a block is given up: what names it is read as its data from now on -/
theorem Run.fra {c : Code} {e : Env} {s : Store} (id : Nat) (h : Run P c ⟨V.fraL id s e, fraS id s s⟩ Q) : Run P c ⟨e, s⟩ Q := fun w0 L0 X m a w hr => h w0 L0 X (hr.fra id)
/-- a cell of a block may be told otherwise -/
theorem Run.subB {c : Code} {e : Env} {s : Store} (b j : Nat) {cells : List V} {x : V} (y : V) (hb : getB s b = some (.vals cells)) (hx : cells[j]? = some x) (hs : ∀ (w : World) (L : Nat → Prop) (m : Nat → Option Nat) (v : Value), VRel w L m x v → VRel w L m y v)
    (h : Run P c ⟨e, putB s b (.vals (cells.set j y))⟩ Q) : Run P c ⟨e, s⟩ Q := fun w0 L0 X m a w hr => h w0 L0 X (hr.subB hb hx hs)
theorem Run.subV {c : Code} {e : Env} {s : Store} (k : Nat) {x : V} (y : V) (hk : e.getD k .top = x) (hs : ∀ (w : World) (L : Nat → Prop) (m : Nat → Option Nat) (v : Value), VRel w L m x v → VRel w L m y v) (h : Run P c ⟨e.set k y, s⟩ Q) : Run P c ⟨e, s⟩ Q :=
  fun w0 L0 X m a w hr => h w0 L0 X (hr.subV hk fun v hv _ => hs _ _ _ _ hv)
/-- a block gets another number -/
theorem Run.mv {c : Code} {e : Env} {s : Store} (x y : Nat) (hy : 90 ≤ y) (he : V.menL (· == y) e = false) (hs : s.all (fun z => z.1 != y && !z.2.men (· == y)) = true) (h : Run P c ⟨V.renL (swp x y) e, puts [] (renS (swp x y) s)⟩ Q) : Run P c ⟨e, s⟩ Q :=
  fun w0 L0 X m a w hr => h w0 L0 X (hr.mv x y hy he hs)
/-- an empty slice: nil, or not -/
theorem Run.spl {c : Code} {e : Env} {s : Store} (k : Nat) (hk : e.getD k .top = .d (.sl false [])) (h1 : ∀ cap, Run P c ⟨e.set k (.d (.lit (.slice none 0 cap))), s⟩ Q) (h2 : Run P c ⟨e.set k (.d (.sl true [])), s⟩ Q) : Run P c ⟨e, s⟩ Q := fun w0 L0 X m a w hr => by
  have hv := hr.look (.tmp k)
  simp only [Fw.look, hk] at hv
  cases hn : a.eval (.tmp k) with
  | slice A n cap =>
    rw [hn] at hv
    cases hv with
    | d hd =>
      cases hd with
      | slE _ _ _ _ =>
        cases A with
        | none => exact h1 cap w0 L0 X (hr.subV hk fun v _ hv => by rw [hv, hn]; exact .d (.lit _ rfl))
        | some A => exact h2 w0 L0 X (hr.subV hk fun v _ hv => by rw [hv, hn]; exact .d (.slE true _ _ (by simp)))
      | sl _ _ b off cap sz vals _ _ _ _ _ _ _ => exact h2 w0 L0 X (hr.subV hk fun v _ hv => by rw [hv, hn]; exact .d (.slE true _ _ (by simp)))
  | _ => rw [hn] at hv; cases hv with | d hd => cases hd
/-- a new number for what is nil -/
theorem Run.vir {c : Code} {e : Env} {s : Store} (id sz : Nat) (h90 : 90 ≤ id) (h : Run P c ⟨V.fgtL (· == id) e, putB (fgtS (· == id) s) id (.data sz [])⟩ Q) : Run P c ⟨e, s⟩ Q := fun w0 L0 X m a w hr => by
  have hp : hitO none id = (· == id) := by funext i; simp [hitO]
  have h1 := hr.swap h90 (k := none) (id := id) (ob := none) (blk := .data sz []) (w' := w) (by simp) (fun _ _ _ q => q) (fun _ cs _ _ q => ⟨cs, q, rfl⟩) (fun _ _ _ => rfl) rfl rfl rfl (Nat.le_refl _) (.inl ⟨rfl, sz, rfl⟩)
  rw [hp] at h1
  exact h w0 L0 X h1
theorem nil_rs (id sz : Nat) (w : World) (L : Nat → Prop) (m : Nat → Option Nat) (v : Value) (h : VRel w L m vnil v) : VRel w L m (.rs id sz 0 0) v := by
  have := h.lit_inv; subst this; exact .rsE id sz
theorem nil_sl (w : World) (L : Nat → Prop) (m : Nat → Option Nat) (v : Value) (h : VRel w L m vnil v) : VRel w L m (.d (.sl false [])) v := by
  have := h.lit_inv; subst this; exact .d (.slE false none 0 (by simp))
end Go.Fw
end
section
namespace Go.Proofs.Ytimgbdkgjfbhkaa.Z
open Go Go.Fw
noncomputable abbrev P := Try.prog
theorem mixed : P.follows .mixedOrders = true := by kernel_rfl
@[simp] theorem ty_ag100 : aggOf P 100 = some false := by kernel_rfl
@[simp] theorem ty_ag102 : aggOf P 102 = some true := by kernel_rfl
@[simp] theorem ty_ag112 : aggOf P 112 = some true := by kernel_rfl
@[simp] theorem ty_ag115 : aggOf P 115 = some true := by kernel_rfl
@[simp] theorem ty_ag117 : aggOf P 117 = some false := by kernel_rfl
@[simp] theorem ty_ag118 : aggOf P 118 = some false := by kernel_rfl
@[simp] theorem ty_ag128 : aggOf P 128 = some false := by kernel_rfl
@[simp] theorem ty_ag132 : aggOf P 132 = some false := by kernel_rfl
@[simp] theorem ty_ag180 : aggOf P 180 = some false := by kernel_rfl
@[simp] theorem ty_ag2 : aggOf P 2 = some false := by kernel_rfl
@[simp] theorem ty_ag22 : aggOf P 22 = some false := by kernel_rfl
@[simp] theorem ty_ag23 : aggOf P 23 = some false := by kernel_rfl
@[simp] theorem ty_ag25 : aggOf P 25 = some true := by kernel_rfl
@[simp] theorem ty_ag26 : aggOf P 26 = some false := by kernel_rfl
@[simp] theorem ty_ag27 : aggOf P 27 = some false := by kernel_rfl
@[simp] theorem ty_ag28 : aggOf P 28 = some false := by kernel_rfl
@[simp] theorem ty_ag3 : aggOf P 3 = some false := by kernel_rfl
@[simp] theorem ty_ag32 : aggOf P 32 = some true := by kernel_rfl
@[simp] theorem ty_ag34 : aggOf P 34 = some false := by kernel_rfl
@[simp] theorem ty_ag39 : aggOf P 39 = some false := by kernel_rfl
@[simp] theorem ty_ag4 : aggOf P 4 = some false := by kernel_rfl
@[simp] theorem ty_ag41 : aggOf P 41 = some true := by kernel_rfl
@[simp] theorem ty_ag44 : aggOf P 44 = some false := by kernel_rfl
@[simp] theorem ty_ag45 : aggOf P 45 = some false := by kernel_rfl
@[simp] theorem ty_ag46 : aggOf P 46 = some false := by kernel_rfl
@[simp] theorem ty_ag48 : aggOf P 48 = some true := by kernel_rfl
@[simp] theorem ty_ag59 : aggOf P 59 = some false := by kernel_rfl
@[simp] theorem ty_ag61 : aggOf P 61 = some true := by kernel_rfl
@[simp] theorem ty_ag73 : aggOf P 73 = some false := by kernel_rfl
@[simp] theorem ty_ag75 : aggOf P 75 = some true := by kernel_rfl
@[simp] theorem ty_ag77 : aggOf P 77 = some false := by kernel_rfl
@[simp] theorem ty_ag84 : aggOf P 84 = some false := by kernel_rfl
@[simp] theorem ty_ag85 : aggOf P 85 = some false := by kernel_rfl
@[simp] theorem ty_ag87 : aggOf P 87 = some true := by kernel_rfl
@[simp] theorem ty_ag89 : aggOf P 89 = some true := by kernel_rfl
@[simp] theorem ty_ag9 : aggOf P 9 = some false := by kernel_rfl
@[simp] theorem ty_ag96 : aggOf P 96 = some false := by kernel_rfl
@[simp] theorem ty_ag98 : aggOf P 98 = some true := by kernel_rfl
@[simp] theorem ty_bool4 : boolT P 4 = true := by kernel_rfl
@[simp] theorem ty_by2 : bytesOfT P 2 = 8 := by kernel_rfl
@[simp] theorem ty_by3 : bytesOfT P 3 = 8 := by kernel_rfl
@[simp] theorem ty_by34 : bytesOfT P 34 = 24 := by kernel_rfl
@[simp] theorem ty_by4 : bytesOfT P 4 = 1 := by kernel_rfl
@[simp] theorem ty_by41 : bytesOfT P 41 = 40 := by kernel_rfl
@[simp] theorem ty_by46 : bytesOfT P 46 = 24 := by kernel_rfl
@[simp] theorem ty_by48 : bytesOfT P 48 = 96 := by kernel_rfl
@[simp] theorem ty_by70 : bytesOfT P 70 = 24 := by kernel_rfl
@[simp] theorem ty_by75 : bytesOfT P 75 = 80 := by kernel_rfl
@[simp] theorem ty_by89 : bytesOfT P 89 = 120 := by kernel_rfl
@[simp] theorem ty_by98 : bytesOfT P 98 = 64 := by kernel_rfl
@[simp] theorem ty_el130 : elemOfT P 130 = none := by kernel_rfl
@[simp] theorem ty_el135 : elemOfT P 135 = none := by kernel_rfl
@[simp] theorem ty_el22 : elemOfT P 22 = some 46 := by kernel_rfl
@[simp] theorem ty_el23 : elemOfT P 23 = some 41 := by kernel_rfl
@[simp] theorem ty_el26 : elemOfT P 26 = some 70 := by kernel_rfl
@[simp] theorem ty_el27 : elemOfT P 27 = some 98 := by kernel_rfl
@[simp] theorem ty_el28 : elemOfT P 28 = some 89 := by kernel_rfl
@[simp] theorem ty_el34 : elemOfT P 34 = some 4 := by kernel_rfl
@[simp] theorem ty_el39 : elemOfT P 39 = some 75 := by kernel_rfl
@[simp] theorem ty_el45 : elemOfT P 45 = some 48 := by kernel_rfl
@[simp] theorem ty_el46 : elemOfT P 46 = some 3 := by kernel_rfl
@[simp] theorem ty_el59 : elemOfT P 59 = some 2 := by kernel_rfl
@[simp] theorem ty_el77 : elemOfT P 77 = some 34 := by kernel_rfl
@[simp] theorem ty_el9 : elemOfT P 9 = none := by kernel_rfl
@[simp] theorem ty_fl102_0 : fldOf P 102 0 = some (0, 48) := by kernel_rfl
@[simp] theorem ty_fl102_1 : fldOf P 102 1 = some (6, 28) := by kernel_rfl
@[simp] theorem ty_fl104_0 : fldOf P 104 0 = some (0, 32) := by kernel_rfl
@[simp] theorem ty_fl104_1 : fldOf P 104 1 = some (7, 61) := by kernel_rfl
@[simp] theorem ty_fl104_2 : fldOf P 104 2 = some (9, 102) := by kernel_rfl
@[simp] theorem ty_fl104_3 : fldOf P 104 3 = some (16, 34) := by kernel_rfl
@[simp] theorem ty_fl112_0 : fldOf P 112 0 = some (0, 32) := by kernel_rfl
@[simp] theorem ty_fl112_1 : fldOf P 112 1 = some (7, 3) := by kernel_rfl
@[simp] theorem ty_fl115_0 : fldOf P 115 0 = some (0, 32) := by kernel_rfl
@[simp] theorem ty_fl115_1 : fldOf P 115 1 = some (7, 61) := by kernel_rfl
@[simp] theorem ty_fl120_0 : fldOf P 120 0 = some (0, 32) := by kernel_rfl
@[simp] theorem ty_fl120_1 : fldOf P 120 1 = some (7, 25) := by kernel_rfl
@[simp] theorem ty_fl120_2 : fldOf P 120 2 = some (9, 45) := by kernel_rfl
@[simp] theorem ty_fl120_3 : fldOf P 120 3 = some (10, 118) := by kernel_rfl
@[simp] theorem ty_fl25_0 : fldOf P 25 0 = some (0, 22) := by kernel_rfl
@[simp] theorem ty_fl25_1 : fldOf P 25 1 = some (1, 23) := by kernel_rfl
@[simp] theorem ty_fl32_0 : fldOf P 32 0 = some (0, 26) := by kernel_rfl
@[simp] theorem ty_fl32_1 : fldOf P 32 1 = some (1, 27) := by kernel_rfl
@[simp] theorem ty_fl32_2 : fldOf P 32 2 = some (2, 28) := by kernel_rfl
@[simp] theorem ty_fl41_0 : fldOf P 41 0 = some (0, 3) := by kernel_rfl
@[simp] theorem ty_fl41_1 : fldOf P 41 1 = some (1, 39) := by kernel_rfl
@[simp] theorem ty_fl41_2 : fldOf P 41 2 = some (2, 3) := by kernel_rfl
@[simp] theorem ty_fl48_0 : fldOf P 48 0 = some (0, 44) := by kernel_rfl
@[simp] theorem ty_fl48_1 : fldOf P 48 1 = some (1, 45) := by kernel_rfl
@[simp] theorem ty_fl48_2 : fldOf P 48 2 = some (2, 3) := by kernel_rfl
@[simp] theorem ty_fl48_3 : fldOf P 48 3 = some (3, 46) := by kernel_rfl
@[simp] theorem ty_fl48_4 : fldOf P 48 4 = some (4, 4) := by kernel_rfl
@[simp] theorem ty_fl48_5 : fldOf P 48 5 = some (5, 28) := by kernel_rfl
@[simp] theorem ty_fl61_0 : fldOf P 61 0 = some (0, 59) := by kernel_rfl
@[simp] theorem ty_fl61_1 : fldOf P 61 1 = some (1, 59) := by kernel_rfl
@[simp] theorem ty_fl70_1 : fldOf P 70 1 = some (1, 3) := by kernel_rfl
@[simp] theorem ty_fl75_0 : fldOf P 75 0 = some (0, 73) := by kernel_rfl
@[simp] theorem ty_fl75_1 : fldOf P 75 1 = some (1, 3) := by kernel_rfl
@[simp] theorem ty_fl75_2 : fldOf P 75 2 = some (2, 46) := by kernel_rfl
@[simp] theorem ty_fl75_3 : fldOf P 75 3 = some (3, 4) := by kernel_rfl
@[simp] theorem ty_fl75_4 : fldOf P 75 4 = some (4, 28) := by kernel_rfl
@[simp] theorem ty_fl75_5 : fldOf P 75 5 = some (5, 3) := by kernel_rfl
@[simp] theorem ty_fl79_0 : fldOf P 79 0 = some (0, 25) := by kernel_rfl
@[simp] theorem ty_fl79_1 : fldOf P 79 1 = some (2, 32) := by kernel_rfl
@[simp] theorem ty_fl79_2 : fldOf P 79 2 = some (9, 77) := by kernel_rfl
@[simp] theorem ty_fl79_3 : fldOf P 79 3 = some (10, 34) := by kernel_rfl
@[simp] theorem ty_fl87_0 : fldOf P 87 0 = some (0, 85) := by kernel_rfl
@[simp] theorem ty_fl87_1 : fldOf P 87 1 = some (1, 4) := by kernel_rfl
@[simp] theorem ty_fl87_2 : fldOf P 87 2 = some (2, 2) := by kernel_rfl
@[simp] theorem ty_fl87_3 : fldOf P 87 3 = some (3, 9) := by kernel_rfl
@[simp] theorem ty_fl87_4 : fldOf P 87 4 = some (4, 59) := by kernel_rfl
@[simp] theorem ty_fl89_0 : fldOf P 89 0 = some (0, 84) := by kernel_rfl
@[simp] theorem ty_fl89_1 : fldOf P 89 1 = some (1, 28) := by kernel_rfl
@[simp] theorem ty_fl89_2 : fldOf P 89 2 = some (2, 3) := by kernel_rfl
@[simp] theorem ty_fl89_3 : fldOf P 89 3 = some (3, 9) := by kernel_rfl
@[simp] theorem ty_fl89_4 : fldOf P 89 4 = some (4, 87) := by kernel_rfl
@[simp] theorem ty_fl92_0 : fldOf P 92 0 = some (0, 32) := by kernel_rfl
@[simp] theorem ty_fl92_1 : fldOf P 92 1 = some (7, 25) := by kernel_rfl
@[simp] theorem ty_fl98_1 : fldOf P 98 1 = some (1, 3) := by kernel_rfl
@[simp] theorem ty_fl98_2 : fldOf P 98 2 = some (2, 3) := by kernel_rfl
@[simp] theorem ty_fl98_3 : fldOf P 98 3 = some (3, 3) := by kernel_rfl
@[simp] theorem ty_fl98_4 : fldOf P 98 4 = some (4, 96) := by kernel_rfl
@[simp] theorem ty_fl98_6 : fldOf P 98 6 = some (6, 3) := by kernel_rfl
@[simp] theorem ty_int167 : intOf? P 167 = some .u64 := by kernel_rfl
@[simp] theorem ty_int177 : intOf? P 177 = some .u32 := by kernel_rfl
@[simp] theorem ty_int179 : intOf? P 179 = some .u64 := by kernel_rfl
@[simp] theorem ty_int180 : intOf? P 180 = some .u64 := by kernel_rfl
@[simp] theorem ty_int3 : intOf? P 3 = some .i64 := by kernel_rfl
@[simp] theorem ty_int5 : intOf? P 5 = some .u8 := by kernel_rfl
@[simp] theorem ty_key3 : keyD P 3 = some (.int .i64) := by kernel_rfl
@[simp] theorem ty_key44 : keyD P 44 = some (.int .i64) := by kernel_rfl
@[simp] theorem ty_key73 : keyD P 73 = some (.int .i64) := by kernel_rfl
@[simp] theorem ty_map118 : mapT P 118 = some (3, 4) := by kernel_rfl
@[simp] theorem ty_map140 : mapT P 140 = some (44, 3) := by kernel_rfl
@[simp] theorem ty_map160 : mapT P 160 = some (73, 44) := by kernel_rfl
@[simp] theorem ty_pl102 : placesT P 102 = some [(0, 6), (6, 1)] := by kernel_rfl
@[simp] theorem ty_pl104 : placesT P 104 = some [(0, 7), (7, 2), (9, 7), (16, 1)] := by kernel_rfl
@[simp] theorem ty_pl112 : placesT P 112 = some [(0, 7), (7, 1)] := by kernel_rfl
@[simp] theorem ty_pl115 : placesT P 115 = some [(0, 7), (7, 2)] := by kernel_rfl
@[simp] theorem ty_pl120 : placesT P 120 = some [(0, 7), (7, 2), (9, 1), (10, 1)] := by kernel_rfl
@[simp] theorem ty_pl25 : placesT P 25 = some [(0, 1), (1, 1)] := by kernel_rfl
@[simp] theorem ty_pl32 : placesT P 32 = some [(0, 1), (1, 1), (2, 1), (3, 1), (4, 1), (5, 1), (6, 1)] := by kernel_rfl
@[simp] theorem ty_pl41 : placesT P 41 = some [(0, 1), (1, 1), (2, 1)] := by kernel_rfl
@[simp] theorem ty_pl48 : placesT P 48 = some [(0, 1), (1, 1), (2, 1), (3, 1), (4, 1), (5, 1)] := by kernel_rfl
@[simp] theorem ty_pl61 : placesT P 61 = some [(0, 1), (1, 1)] := by kernel_rfl
@[simp] theorem ty_pl70 : placesT P 70 = some [(0, 1), (1, 1)] := by kernel_rfl
@[simp] theorem ty_pl75 : placesT P 75 = some [(0, 1), (1, 1), (2, 1), (3, 1), (4, 1), (5, 1)] := by kernel_rfl
@[simp] theorem ty_pl79 : placesT P 79 = some [(0, 2), (2, 7), (9, 1), (10, 1)] := by kernel_rfl
@[simp] theorem ty_pl92 : placesT P 92 = some [(0, 7), (7, 2)] := by kernel_rfl
@[simp] theorem ty_pl98 : placesT P 98 = some [(0, 1), (1, 1), (2, 1), (3, 1), (4, 1), (5, 1), (6, 1)] := by kernel_rfl
@[simp] theorem ty_str9 : strT P 9 = true := by kernel_rfl
@[simp] theorem ty_sz100 : szOf P 100 = 1 := by kernel_rfl
@[simp] theorem ty_sz102 : szOf P 102 = 7 := by kernel_rfl
@[simp] theorem ty_sz112 : szOf P 112 = 8 := by kernel_rfl
@[simp] theorem ty_sz115 : szOf P 115 = 9 := by kernel_rfl
@[simp] theorem ty_sz117 : szOf P 117 = 1 := by kernel_rfl
@[simp] theorem ty_sz118 : szOf P 118 = 1 := by kernel_rfl
@[simp] theorem ty_sz128 : szOf P 128 = 1 := by kernel_rfl
@[simp] theorem ty_sz132 : szOf P 132 = 1 := by kernel_rfl
@[simp] theorem ty_sz180 : szOf P 180 = 1 := by kernel_rfl
@[simp] theorem ty_sz2 : szOf P 2 = 1 := by kernel_rfl
@[simp] theorem ty_sz22 : szOf P 22 = 1 := by kernel_rfl
@[simp] theorem ty_sz23 : szOf P 23 = 1 := by kernel_rfl
@[simp] theorem ty_sz25 : szOf P 25 = 2 := by kernel_rfl
@[simp] theorem ty_sz26 : szOf P 26 = 1 := by kernel_rfl
@[simp] theorem ty_sz27 : szOf P 27 = 1 := by kernel_rfl
@[simp] theorem ty_sz28 : szOf P 28 = 1 := by kernel_rfl
@[simp] theorem ty_sz3 : szOf P 3 = 1 := by kernel_rfl
@[simp] theorem ty_sz32 : szOf P 32 = 7 := by kernel_rfl
@[simp] theorem ty_sz34 : szOf P 34 = 1 := by kernel_rfl
@[simp] theorem ty_sz39 : szOf P 39 = 1 := by kernel_rfl
@[simp] theorem ty_sz4 : szOf P 4 = 1 := by kernel_rfl
@[simp] theorem ty_sz41 : szOf P 41 = 3 := by kernel_rfl
@[simp] theorem ty_sz44 : szOf P 44 = 1 := by kernel_rfl
@[simp] theorem ty_sz45 : szOf P 45 = 1 := by kernel_rfl
@[simp] theorem ty_sz46 : szOf P 46 = 1 := by kernel_rfl
@[simp] theorem ty_sz48 : szOf P 48 = 6 := by kernel_rfl
@[simp] theorem ty_sz59 : szOf P 59 = 1 := by kernel_rfl
@[simp] theorem ty_sz61 : szOf P 61 = 2 := by kernel_rfl
@[simp] theorem ty_sz70 : szOf P 70 = 2 := by kernel_rfl
@[simp] theorem ty_sz73 : szOf P 73 = 1 := by kernel_rfl
@[simp] theorem ty_sz75 : szOf P 75 = 6 := by kernel_rfl
@[simp] theorem ty_sz77 : szOf P 77 = 1 := by kernel_rfl
@[simp] theorem ty_sz84 : szOf P 84 = 1 := by kernel_rfl
@[simp] theorem ty_sz85 : szOf P 85 = 1 := by kernel_rfl
@[simp] theorem ty_sz87 : szOf P 87 = 5 := by kernel_rfl
@[simp] theorem ty_sz89 : szOf P 89 = 9 := by kernel_rfl
@[simp] theorem ty_sz9 : szOf P 9 = 1 := by kernel_rfl
@[simp] theorem ty_sz96 : szOf P 96 = 1 := by kernel_rfl
@[simp] theorem ty_sz98 : szOf P 98 = 7 := by kernel_rfl
@[simp] theorem ty_tk118 : tkind P 118 = 3 := by kernel_rfl
@[simp] theorem ty_tk22 : tkind P 22 = 1 := by kernel_rfl
@[simp] theorem ty_tk23 : tkind P 23 = 1 := by kernel_rfl
@[simp] theorem ty_tk26 : tkind P 26 = 1 := by kernel_rfl
@[simp] theorem ty_tk27 : tkind P 27 = 1 := by kernel_rfl
@[simp] theorem ty_tk28 : tkind P 28 = 1 := by kernel_rfl
@[simp] theorem ty_tk34 : tkind P 34 = 1 := by kernel_rfl
@[simp] theorem ty_tk39 : tkind P 39 = 1 := by kernel_rfl
@[simp] theorem ty_tk45 : tkind P 45 = 1 := by kernel_rfl
@[simp] theorem ty_tk46 : tkind P 46 = 1 := by kernel_rfl
@[simp] theorem ty_tk59 : tkind P 59 = 1 := by kernel_rfl
@[simp] theorem ty_tk77 : tkind P 77 = 1 := by kernel_rfl
@[simp] theorem ty_zero102 : zeroOf P 102 = some [.int .i64 0, .slice none 0 0, .int .i64 0, .slice none 0 0, .bool false, .slice none 0 0, .slice none 0 0] := by kernel_rfl
@[simp] theorem ty_zero104 : zeroOf P 104 = some [.slice none 0 0, .slice none 0 0, .slice none 0 0, .slice none 0 0, .bool false, .slice none 0 0, .int .i64 0, .slice none 0 0, .slice none 0 0, .int .i64 0, .slice none 0 0, .int .i64 0, .slice none 0 0, .bool false, .slice none 0 0, .slice none 0 0, .slice none 0 0] := by kernel_rfl
@[simp] theorem ty_zero112 : zeroOf P 112 = some [.slice none 0 0, .slice none 0 0, .slice none 0 0, .slice none 0 0, .bool false, .slice none 0 0, .int .i64 0, .int .i64 0] := by kernel_rfl
@[simp] theorem ty_zero115 : zeroOf P 115 = some [.slice none 0 0, .slice none 0 0, .slice none 0 0, .slice none 0 0, .bool false, .slice none 0 0, .int .i64 0, .slice none 0 0, .slice none 0 0] := by kernel_rfl
@[simp] theorem ty_zero118 : zeroOf P 118 = some [.map none] := by kernel_rfl
@[simp] theorem ty_zero120 : zeroOf P 120 = some [.slice none 0 0, .slice none 0 0, .slice none 0 0, .slice none 0 0, .bool false, .slice none 0 0, .int .i64 0, .slice none 0 0, .slice none 0 0, .slice none 0 0, .map none] := by kernel_rfl
@[simp] theorem ty_zero128 : zeroOf P 128 = some [.nilFunc] := by kernel_rfl
@[simp] theorem ty_zero130 : zeroOf P 130 = some [.bool false, .bool false] := by kernel_rfl
@[simp] theorem ty_zero132 : zeroOf P 132 = some [.nilFunc] := by kernel_rfl
@[simp] theorem ty_zero135 : zeroOf P 135 = some [.int .i64 0, .int .i64 0] := by kernel_rfl
@[simp] theorem ty_zero180 : zeroOf P 180 = some [.int .u64 0] := by kernel_rfl
@[simp] theorem ty_zero2 : zeroOf P 2 = some [.int .i64 0] := by kernel_rfl
@[simp] theorem ty_zero25 : zeroOf P 25 = some [.slice none 0 0, .slice none 0 0] := by kernel_rfl
@[simp] theorem ty_zero3 : zeroOf P 3 = some [.int .i64 0] := by kernel_rfl
@[simp] theorem ty_zero32 : zeroOf P 32 = some [.slice none 0 0, .slice none 0 0, .slice none 0 0, .slice none 0 0, .bool false, .slice none 0 0, .int .i64 0] := by kernel_rfl
@[simp] theorem ty_zero34 : zeroOf P 34 = some [.slice none 0 0] := by kernel_rfl
@[simp] theorem ty_zero4 : zeroOf P 4 = some [.bool false] := by kernel_rfl
@[simp] theorem ty_zero41 : zeroOf P 41 = some [.int .i64 0, .slice none 0 0, .int .i64 0] := by kernel_rfl
@[simp] theorem ty_zero46 : zeroOf P 46 = some [.slice none 0 0] := by kernel_rfl
@[simp] theorem ty_zero48 : zeroOf P 48 = some [.int .i64 0, .slice none 0 0, .int .i64 0, .slice none 0 0, .bool false, .slice none 0 0] := by kernel_rfl
@[simp] theorem ty_zero61 : zeroOf P 61 = some [.slice none 0 0, .slice none 0 0] := by kernel_rfl
@[simp] theorem ty_zero70 : zeroOf P 70 = some [.string ByteArray.empty, .int .i64 0] := by kernel_rfl
@[simp] theorem ty_zero75 : zeroOf P 75 = some [.int .i64 0, .int .i64 0, .slice none 0 0, .bool false, .slice none 0 0, .int .i64 0] := by kernel_rfl
@[simp] theorem ty_zero79 : zeroOf P 79 = some [.slice none 0 0, .slice none 0 0, .slice none 0 0, .slice none 0 0, .slice none 0 0, .slice none 0 0, .bool false, .slice none 0 0, .int .i64 0, .slice none 0 0, .slice none 0 0] := by kernel_rfl
@[simp] theorem ty_zero89 : zeroOf P 89 = some [.int .i64 0, .slice none 0 0, .int .i64 0, .string ByteArray.empty, .int .i64 0, .bool false, .int .i64 0, .string ByteArray.empty, .slice none 0 0] := by kernel_rfl
@[simp] theorem ty_zero92 : zeroOf P 92 = some [.slice none 0 0, .slice none 0 0, .slice none 0 0, .slice none 0 0, .bool false, .slice none 0 0, .int .i64 0, .slice none 0 0, .slice none 0 0] := by kernel_rfl
@[simp] theorem ty_zero98 : zeroOf P 98 = some [.string ByteArray.empty, .int .i64 0, .int .i64 0, .int .i64 0, .int .i64 0, .int .i64 0, .int .i64 0] := by kernel_rfl
@[simp] theorem ty_zv3 : zeroV P 3 = some (.d (.lit (.int .i64 0))) := by kernel_rfl
@[simp] theorem ty_zv4 : zeroV P 4 = some (.d (.lit (.bool false))) := by kernel_rfl
@[simp] theorem ty_zv44 : zeroV P 44 = some (.d (.lit (.int .i64 0))) := by kernel_rfl

/-! data -/
structure NodeT where
  name : ByteArray
  type : Int
structure EdgeT where
  name : ByteArray
  type : Int
  src : Int
  dst : Int
  mode : Int
  lo : Int
  hi : Int
structure ValT where
  kind : Int
  bool : Bool
  num : Int
  text : ByteArray
  path : List Int
inductive TermT where
  | mk (op : Int) (kids : List TermT) (slot : Int) (prop : ByteArray) (val : ValT)
inductive PlanT where
  | mk (op : Int) (kids : List PlanT) (slot : Int) (edges : List Int) (back : Bool) (terms : List TermT)
structure CoreT where
  nodes : List NodeT
  edges : List EdgeT
  wher : List TermT
  cols : D
  distinct : Bool
  order : D
  limit : Int
structure StatsT where
  nodes : List Int
  edges : List Int
instance : Inhabited NodeT := ⟨⟨ByteArray.empty, 0⟩⟩
instance : Inhabited EdgeT := ⟨⟨ByteArray.empty, 0, 0, 0, 0, 0, 0⟩⟩
instance : Inhabited TermT := ⟨⟨0, [], 0, ByteArray.empty, ⟨0, false, 0, ByteArray.empty, []⟩⟩⟩
instance : Inhabited PlanT := ⟨⟨0, [], 0, [], false, []⟩⟩
namespace TermT
def op : TermT → Int | mk o _ _ _ _ => o
def kids : TermT → List TermT | mk _ k _ _ _ => k
def slot : TermT → Int | mk _ _ s _ _ => s
def prop : TermT → ByteArray | mk _ _ _ p _ => p
def val : TermT → ValT | mk _ _ _ _ v => v
end TermT
namespace PlanT
def op : PlanT → Int | mk o _ _ _ _ _ => o
def kids : PlanT → List PlanT | mk _ k _ _ _ _ => k
def slot : PlanT → Int | mk _ _ s _ _ _ => s
def edges : PlanT → List Int | mk _ _ _ e _ _ => e
def back : PlanT → Bool | mk _ _ _ _ b _ => b
def terms : PlanT → List TermT | mk _ _ _ _ _ t => t
end PlanT
def encI (n : Int) : List D := [.int n]
def encB (b : Bool) : List D := [.bool b]
def encV (v : ValT) : List D := [.int v.kind, .bool v.bool, .int v.num, .str v.text, .sl false (v.path.map encI)]
mutual
def encT : TermT → List D
  | .mk o k s p v => .int o :: .sl false (encTs k) :: .int s :: .str p :: encV v
def encTs : List TermT → List (List D)
  | [] => []
  | t :: r => encT t :: encTs r
end
mutual
def encP : PlanT → List D
  | .mk o k s e b t => [.int o, .sl false (encPs k), .int s, .sl false (e.map encI), .bool b, .sl false (t.map encT)]
def encPs : List PlanT → List (List D)
  | [] => []
  | t :: r => encP t :: encPs r
end
theorem encTs_eq (l : List TermT) : encTs l = l.map encT := by
  induction l with
  | nil => rfl
  | cons t r ih => simp [encTs, ih]
theorem encPs_eq (l : List PlanT) : encPs l = l.map encP := by
  induction l with
  | nil => rfl
  | cons t r ih => simp [encPs, ih]
def encN (n : NodeT) : List D := [.str n.name, .int n.type]
def encE (e : EdgeT) : List D := [.str e.name, .int e.type, .int e.src, .int e.dst, .int e.mode, .int e.lo, .int e.hi]
def encC (c : CoreT) : List D := [.sl false (c.nodes.map encN), .sl false (c.edges.map encE), .sl false (c.wher.map encT), c.cols, .bool c.distinct, c.order, .int c.limit]
def encS (s : StatsT) : List D := [.sl false (s.nodes.map encI), .sl false (s.edges.map encI)]
@[simp] theorem encT_cells (t : TermT) : encT t = [.int t.op, .sl false (t.kids.map encT), .int t.slot, .str t.prop, .int t.val.kind, .bool t.val.bool, .int t.val.num, .str t.val.text, .sl false (t.val.path.map encI)] := by
  cases t; simp [encT, encV, encTs_eq, TermT.op, TermT.kids, TermT.slot, TermT.prop, TermT.val]
@[simp] theorem encP_cells (p : PlanT) : encP p = [.int p.op, .sl false (p.kids.map encP), .int p.slot, .sl false (p.edges.map encI), .bool p.back, .sl false (p.terms.map encT)] := by
  cases p; simp [encP, encPs_eq, PlanT.op, PlanT.kids, PlanT.slot, PlanT.edges, PlanT.back, PlanT.terms]
attribute [simp] encI encB encN encE encC encS
end Go.Proofs.Ytimgbdkgjfbhkaa.Z
end
section
/- Counts: the small functions, as the program and the document write them. -/
set_option maxRecDepth 100000
namespace Go.Proofs.Ytimgbdkgjfbhkaa.Z
open Go Go.Fw
def clipS (n : Int) : Int := if n < 0 then 0 else if 1099511627776 < n then 1099511627776 else n
/-- the first i -/
def cntF (t : Int) (n : Int) (x : Int × Nat) : Int := if (x.2 : Int) = t ∨ t = -1 then clipS (n + clipS x.1) else n
def cntS (l : List Int) (t : Int) : Int := l.zipIdx.foldl (cntF t) 0
def cntN (l : List Int) (t : Int) (i : Nat) : Int := (l.zipIdx.take i).foldl (cntF t) 0
theorem cntN_zero (l t) : cntN l t 0 = 0 := by simp [cntN]
theorem cntN_all (l t) : cntN l t l.length = cntS l t := by simp [cntN, cntS, List.take_of_length_le]
theorem cntN_succ (l : List Int) (t : Int) (i : Nat) (h : i < l.length) : cntN l t (i + 1) = if (i : Int) = t ∨ t = -1 then clipS (cntN l t i + clipS (rdI l i)) else cntN l t i := by
  unfold cntN
  rw [List.take_add_one]
  simp [List.getElem?_zipIdx, h, List.foldl_append, rdI, List.getD_eq_getElem?_getD, cntF]
theorem clip_rng (n : Int) : 0 ≤ clipS n ∧ clipS n ≤ 1099511627776 := by unfold clipS; grind
theorem cntN_rng (l : List Int) (t : Int) (i : Nat) : 0 ≤ cntN l t i ∧ cntN l t i ≤ 1099511627776 := by
  unfold cntN
  generalize l.zipIdx.take i = r
  have : ∀ a : Int, 0 ≤ a ∧ a ≤ 1099511627776 → 0 ≤ r.foldl (cntF t) a ∧ r.foldl (cntF t) a ≤ 1099511627776 := by
    induction r with
    | nil => intro a h; exact h
    | cons x r ih =>
      intro a h
      refine ih _ ?_
      unfold cntF
      split
      · exact clip_rng _
      · exact h
  exact this 0 (by omega)
/-- by a type's place -/
theorem cntS_all (l : List Int) (i : Nat) : cntN l (-1) i = (l.take i).foldl (fun n x => clipS (n + clipS x)) 0 := by
  unfold cntN
  have : ∀ (l : List (Int × Nat)) (a : Int), l.foldl (cntF (-1)) a = (l.map (·.1)).foldl (fun n x => clipS (n + clipS x)) a := by
    intro l
    induction l with
    | nil => intro a; rfl
    | cons x r ih => intro a; simp only [List.foldl_cons, List.map_cons, ih]; simp [cntF]
  rw [this]
  congr 1
  apply List.ext_getElem?
  intro j
  simp only [List.getElem?_map, List.getElem?_take, List.getElem?_zipIdx]
  split <;> simp
  cases l[j]? <;> rfl
theorem clip_clip (n : Int) : clipS (0 + clipS n) = clipS n := by
  have := clip_rng n
  unfold clipS at *; grind
theorem cntS_one (l : List Int) (t : Int) (ht : t ≠ -1) : cntS l t = if 0 ≤ t ∧ t < l.length then clipS (rdI l t) else 0 := by
  have key : ∀ i : Nat, i ≤ l.length → cntN l t i = if 0 ≤ t ∧ t < i then clipS (rdI l t) else 0 := by
    intro i
    induction i with
    | zero => intro _; rw [cntN_zero, if_neg (by omega)]
    | succ i ih =>
      intro hi
      rw [cntN_succ l t i (by omega), ih (by omega)]
      by_cases e : (i : Int) = t
      · subst e
        rw [if_pos (.inl rfl), if_neg (by omega), if_pos (by omega), clip_clip]
      · rw [if_neg (by simp [e, ht])]
        by_cases h : 0 ≤ t ∧ t < (i : Int)
        · rw [if_pos h, if_pos (by omega)]
        · rw [if_neg h, if_neg (by omega)]
  rw [← cntN_all, key _ (Nat.le_refl _)]
theorem cntS_rng (l : List Int) (t : Int) : 0 ≤ cntS l t ∧ cntS l t ≤ 1099511627776 := by rw [← cntN_all]; exact cntN_rng _ _ _
/-- a share, rounded up -/
def shareS (a b : Int) : Int := (a + max b 1 - 1) / max b 1
/-- a product, no more than there may be -/
def mulS (a b : Int) : Int := if 0 < a ∧ 1099511627776 / a < b then 1099511627776 else a * b
theorem share_rng {a b : Int} (h0 : 0 ≤ a) (h1 : a ≤ 1099511627776) (h2 : 0 ≤ b) : 0 ≤ shareS a b ∧ shareS a b ≤ a := by
  unfold shareS
  generalize hb : max b 1 = c
  have hc : 1 ≤ c := by omega
  refine ⟨Int.ediv_nonneg (by omega) (by omega), ?_⟩
  rcases Int.lt_or_le 0 a with h | h
  · have : a + c - 1 < (a + 1) * c := by
      have := Int.mul_le_mul_of_nonneg_left hc (show 0 ≤ a by omega)
      rw [Int.add_mul]; omega
    have := (Int.ediv_lt_iff_lt_mul (show 0 < c by omega)).2 this
    omega
  · have e : a = 0 := by omega
    subst e
    rw [Int.ediv_eq_zero_of_lt (by omega) (by omega)]
    omega
theorem mul_rng {a b : Int} (h0 : 0 ≤ a) (h1 : a ≤ 1099511627776) (h2 : 0 ≤ b) (h3 : b ≤ 1099511627776) : 0 ≤ mulS a b ∧ mulS a b ≤ 1099511627776 := by
  unfold mulS
  split
  · omega
  · rename_i h
    refine ⟨Int.mul_nonneg h0 h2, ?_⟩
    rcases Int.lt_or_le 0 a with h4 | h4
    · have h5 : b ≤ 1099511627776 / a := by
        rcases Int.lt_or_le (1099511627776 / a) b with h6 | h6
        · exact absurd ⟨h4, h6⟩ h
        · exact h6
      have := Int.mul_le_mul_of_nonneg_left h5 h0
      have := Int.mul_ediv_self_le (x := 1099511627776) (show a ≠ 0 by omega)
      omega
    · have e : a = 0 := by omega
      subst e; simp
theorem share_up {a c : Int} (hc : 1 ≤ c) (h : 0 < a % c) : a / c + 1 = (a + c - 1) / c := by
  have h1 := Int.mul_ediv_add_emod a c
  have h2 := Int.emod_lt_of_pos a (show 0 < c by omega)
  have e : a + c - 1 = (a % c - 1) + c * (a / c + 1) := by rw [Int.mul_add]; omega
  rw [e, Int.add_mul_ediv_left _ _ (by omega), Int.ediv_eq_zero_of_lt (a := a % c - 1) (by omega) (by omega)]
  omega
theorem share_ev {a c : Int} (hc : 1 ≤ c) (h : a % c ≤ 0) : a / c = (a + c - 1) / c := by
  have h1 := Int.mul_ediv_add_emod a c
  have h2 := Int.emod_nonneg a (show c ≠ 0 by omega)
  have e : a + c - 1 = (c - 1) + c * (a / c) := by omega
  rw [e, Int.add_mul_ediv_left _ _ (by omega), Int.ediv_eq_zero_of_lt (a := c - 1) (by omega) (by omega)]
  omega
theorem div_rng {a c : Int} (h0 : 0 ≤ a) (hc : 1 ≤ c) : 0 ≤ a / c ∧ a / c ≤ a := ⟨Int.ediv_nonneg h0 (by omega), Int.ediv_le_self _ h0⟩
theorem clip_ok (n : Int) : Snd P 79 [.int n] (.int (clipS n)) [] := by
  refine snd_of [] Try.func79 rfl (by kernel_rfl) Try.ntmps79 (by simp) ?_
  unfold Try.f79
  simp only [List.cons_append, List.nil_append, List.length_cons, List.length_nil, Nat.reduceAdd, Nat.reduceSub, List.replicate]
  refine Run.seq ?_
  refine Run.opsL false [⟨Op.assign (Operand.const (Value.int IntKind.i64 0)), some 2, none⟩] mixed (by decide) rfl fun K hK => ?_
  try simp
  repeat' first | (simp only [evL_cons, evL_guard]; simp) | (refine gsplit (fun hg => ?_) (fun hg => ?_) <;> (try simp at hg) <;> (try simp)) | (with_reducible assumption) | omega | refine And.intro ?_ ?_ | intro _
  all_goals (try simp only [evL_nil]; refine hK _ _ ?_; clear hK K)
  simp only [Then_normal]
  refine Run.seq ?_
  refine Run.opsL false [⟨Op.move (Operand.tmp 0), some 3, none⟩, ⟨Op.call { callee := Callee.builtin Builtin.max, args := #[Operand.tmp 3, Operand.const (Value.int IntKind.i64 0)], argTypes := #[2, 2] }, some 4, none⟩, ⟨Op.call { callee := Callee.builtin Builtin.min, args := #[Operand.tmp 4, Operand.const (Value.int IntKind.i64 1099511627776)], argTypes := #[2, 2] }, some 5, none⟩, ⟨Op.assign (Operand.tmp 5), some 2, none⟩] mixed (by decide) rfl fun K hK => ?_
  try simp
  repeat' first | (simp only [evL_cons, evL_guard]; simp) | (refine gsplit (fun hg => ?_) (fun hg => ?_) <;> (try simp at hg) <;> (try simp)) | (with_reducible assumption) | omega | refine And.intro ?_ ?_ | intro _
  all_goals (try simp only [evL_nil]; refine hK _ _ ?_; clear hK K)
  simp only [Then_normal]
  refine Run.ret ?_
  try simp only [Then_ret, Blok_ret]
  simp [clipS]
  grind

theorem of_ok (nn : Bool) (l : List Int) (t : Int) : Snd P 97 [.d (.sl nn (l.map encI)), .int t] (.int (cntS l t)) [] := by
  refine Snd.ok 0 rfl (by kernel_rfl) fun hl => Snd.ok 1 rfl (by kernel_rfl) fun ht => ?_
  simp only [D.ok, List.length_map] at hl
  rw [ok_i64] at ht
  obtain ⟨hl, -⟩ := hl
  refine snd_of [] Try.func97 rfl (by kernel_rfl) Try.ntmps97 (by simp) ?_
  unfold Try.f97
  simp only [List.cons_append, List.nil_append, List.length_cons, List.length_nil, Nat.reduceAdd, Nat.reduceSub, List.replicate]
  refine Run.seq ?_
  refine Run.opsL false [⟨Op.assign (Operand.const (Value.int IntKind.i64 0)), some 4, none⟩] mixed (by decide) rfl fun K hK => ?_
  try simp
  repeat' first | (simp only [evL_cons, evL_guard]; simp) | (refine gsplit (fun hg => ?_) (fun hg => ?_) <;> (try simp at hg) <;> (try simp)) | (with_reducible assumption) | omega | refine And.intro ?_ ?_ | intro _
  all_goals (try simp only [evL_nil]; refine hK _ _ ?_; clear hK K)
  simp only [Then_normal]
  refine Run.seq ?_
  refine Run.opsL false [⟨Op.assign (Operand.const (Value.int IntKind.i64 0)), some 5, none⟩] mixed (by decide) rfl fun K hK => ?_
  try simp
  repeat' first | (simp only [evL_cons, evL_guard]; simp) | (refine gsplit (fun hg => ?_) (fun hg => ?_) <;> (try simp at hg) <;> (try simp)) | (with_reducible assumption) | omega | refine And.intro ?_ ?_ | intro _
  all_goals (try simp only [evL_nil]; refine hK _ _ ?_; clear hK K)
  simp only [Then_normal]
  refine Run.seq ?_
  refine Run.seq ?_
  refine Run.opsL false [⟨Op.move (Operand.tmp 0), some 8, none⟩, ⟨Op.call { callee := Callee.builtin Builtin.len, args := #[Operand.tmp 8], argTypes := #[59] }, some 9, none⟩, ⟨Op.move (Operand.const (Value.int IntKind.i64 0)), some 10, none⟩] mixed (by decide) rfl fun K hK => ?_
  try simp
  repeat' first | (simp only [evL_cons, evL_guard]; simp) | (refine gsplit (fun hg => ?_) (fun hg => ?_) <;> (try simp at hg) <;> (try simp)) | (with_reducible assumption) | omega | refine And.intro ?_ ?_ | intro _
  all_goals (try simp only [evL_nil]; refine hK _ _ ?_; clear hK K)
  simp only [Then_normal]
  refine Run.block ?_
  refine Run.loopO [5, 6, 7, 10, 11, 12, 13, 14, 15, 16, 17, 18, 19, 20, 21, 22, 23, 24, 25, 26, 27] (fun (i : Nat) => [(5, .int (cntN l t i)), (10, .int i)]) (fun (i : Nat) => []) (fun (i : Nat) => i ≤ l.length) (fun (i : Nat) => l.length - i) 0 (by simp) (by simp [cntN_zero]) fun i hi => ?_
  simp only [over, List.foldl, List.set]
  refine Run.seq ?_
  refine Run.opsL false [⟨Op.binOp BinOp.lss 3 (Operand.tmp 10) (Operand.tmp 9) 3, some 11, none⟩] mixed (by decide) rfl fun K hK => ?_
  try simp
  repeat' first | (simp only [evL_cons, evL_guard]; simp) | (refine gsplit (fun hg => ?_) (fun hg => ?_) <;> (try simp at hg) <;> (try simp)) | (with_reducible assumption) | omega | refine And.intro ?_ ?_ | intro _
  all_goals (try simp only [evL_nil]; refine hK _ _ ?_; clear hK K)
  simp only [Then_normal]
  refine Run.seq ?_
  refine Run.cond rfl (fun h11 => ?_) (fun h11 => ?_)
  · try simp at h11
    refine Run.skip ?_
    simp only [Then_normal]
    refine Run.seq ?_
    refine Run.block ?_
    refine Run.seq ?_
    refine Run.opsL false [⟨Op.move (Operand.tmp 10), some 12, none⟩, ⟨Op.indexAddr 59 (Operand.tmp 8) (Operand.tmp 10), some 13, none⟩, ⟨Op.load 2 (Operand.tmp 13), some 14, none⟩, ⟨Op.assign (Operand.tmp 12), some 6, none⟩, ⟨Op.assign (Operand.tmp 14), some 7, none⟩] mixed (by decide) rfl fun K hK => ?_
    try simp
    repeat' first | (simp only [evL_cons, evL_guard]; simp [h11]) | (refine gsplit (fun hg => ?_) (fun hg => ?_) <;> (try simp at hg) <;> (try simp [h11])) | (with_reducible assumption) | omega | refine And.intro ?_ ?_ | intro _
    all_goals (try simp only [evL_nil]; refine hK _ _ ?_; clear hK K)
    simp only [Then_normal]
    refine Run.cut0 [15, 16, 17, 18, 19, 20, 21] [(21, .bool (decide ((i : Int) = t ∨ t = -1)))] ?_ ?_
    · refine Run.opsL false [⟨Op.move (Operand.tmp 6), some 15, none⟩, ⟨Op.move (Operand.tmp 1), some 16, none⟩, ⟨Op.binOp BinOp.eql 3 (Operand.tmp 15) (Operand.tmp 16) 3, some 17, none⟩, ⟨Op.move (Operand.tmp 17), some 18, none⟩, ⟨Op.move (Operand.tmp 1), some 19, some (some 18, false)⟩, ⟨Op.binOp BinOp.eql 3 (Operand.tmp 19) (Operand.const (Value.int IntKind.i64 (-1))) 3, some 20, some (some 18, false)⟩, ⟨Op.pick (Operand.tmp 18) (Operand.const (Value.bool true)) (Operand.tmp 20), some 21, none⟩] mixed (by decide) rfl fun K hK => ?_
      try simp
      repeat' first | (simp only [evL_cons, evL_guard]; simp [h11]) | (refine gsplit (fun hg => ?_) (fun hg => ?_) <;> (try simp at hg) <;> (try simp [h11])) | (with_reducible assumption) | omega | refine And.intro ?_ ?_ | intro _
      all_goals (try simp only [evL_nil]; refine hK _ _ ?_; clear hK K)
      all_goals (simp_all)
    · simp only [over, List.foldl, List.set]
      refine Run.cond rfl (fun h21 => ?_) (fun h21 => ?_)
      · try simp at h21
        refine Run.opsL false [⟨Op.move (Operand.tmp 5), some 22, none⟩, ⟨Op.move (Operand.tmp 7), some 23, none⟩, ⟨Op.call { callee := Callee.value (Operand.func 79), args := #[Operand.tmp 23], argTypes := #[2] }, some 24, none⟩, ⟨Op.binOp BinOp.add 2 (Operand.tmp 22) (Operand.tmp 24) 2, some 25, none⟩, ⟨Op.call { callee := Callee.value (Operand.func 79), args := #[Operand.tmp 25], argTypes := #[2] }, some 26, none⟩, ⟨Op.assign (Operand.tmp 26), some 5, none⟩] mixed (by decide) rfl fun K hK => ?_
        try simp
        repeat' first | (refine ecallD (clip_ok _) ?_) | (simp only [evL_cons, evL_guard]; simp [h11, h21]) | (refine gsplit (fun hg => ?_) (fun hg => ?_) <;> (try simp at hg) <;> (try simp [h11, h21])) | (with_reducible assumption) | omega | refine And.intro ?_ ?_ | intro _
        all_goals (try simp only [evL_nil]; refine hK _ _ ?_; clear hK K)
        simp only [Blok_normal]
        simp only [Then_normal]
        refine Run.opsL false [⟨Op.binOp BinOp.add 3 (Operand.tmp 10) (Operand.const (Value.int IntKind.i64 1)) 3, some 27, none⟩, ⟨Op.move (Operand.tmp 27), some 10, none⟩] mixed (by decide) rfl fun K hK => ?_
        try simp
        repeat' first | (simp only [evL_cons, evL_guard]; simp [h11, h21]) | (refine gsplit (fun hg => ?_) (fun hg => ?_) <;> (try simp at hg) <;> (try simp [h11, h21])) | (with_reducible assumption) | omega | refine And.intro ?_ ?_ | intro _
        all_goals (try simp only [evL_nil]; refine hK _ _ ?_; clear hK K)
        have hr := cntN_rng l t i
        have hc := clip_rng (rdI l i)
        refine ⟨i + 1, by omega, by omega, ?_⟩
        simp (disch := omega) [cntN_succ l t i h11, h21, wrap_id]
      · try simp at h21
        refine Run.skip ?_
        simp only [Blok_normal]
        simp only [Then_normal]
        refine Run.opsL false [⟨Op.binOp BinOp.add 3 (Operand.tmp 10) (Operand.const (Value.int IntKind.i64 1)) 3, some 27, none⟩, ⟨Op.move (Operand.tmp 27), some 10, none⟩] mixed (by decide) rfl fun K hK => ?_
        try simp
        repeat' first | (simp only [evL_cons, evL_guard]; simp [h11, h21]) | (refine gsplit (fun hg => ?_) (fun hg => ?_) <;> (try simp at hg) <;> (try simp [h11, h21])) | (with_reducible assumption) | omega | refine And.intro ?_ ?_ | intro _
        all_goals (try simp only [evL_nil]; refine hK _ _ ?_; clear hK K)
        have hr := cntN_rng l t i
        have hc := clip_rng (rdI l i)
        refine ⟨i + 1, by omega, by omega, ?_⟩
        simp (disch := omega) [cntN_succ l t i h11, h21, wrap_id]
  · try simp at h11
    refine Run.exit ?_
    simp (decide := true) only [Then_exit, Blok_exit, if_true, if_false]
    simp only [Then_normal]
    refine Run.seq ?_
    refine Run.opsL false [⟨Op.move (Operand.tmp 5), some 28, none⟩, ⟨Op.assign (Operand.tmp 28), some 4, none⟩] mixed (by decide) rfl fun K hK => ?_
    try simp
    repeat' first | (simp only [evL_cons, evL_guard]; simp [h11]) | (refine gsplit (fun hg => ?_) (fun hg => ?_) <;> (try simp at hg) <;> (try simp [h11])) | (with_reducible assumption) | omega | refine And.intro ?_ ?_ | intro _
    all_goals (try simp only [evL_nil]; refine hK _ _ ?_; clear hK K)
    simp only [Then_normal]
    refine Run.ret ?_
    try simp only [Then_ret, Blok_ret]
    have : i = l.length := by omega
    subst this
    simp [cntN_all]

theorem share_ok (a b : Int) (h0 : 0 ≤ a) (h1 : a ≤ 1099511627776) (h2 : 0 ≤ b) (h3 : b ≤ 1099511627776) : Snd P 76 [.int a, .int b] (.int (shareS a b)) [] := by
  refine snd_of [] Try.func76 rfl (by kernel_rfl) Try.ntmps76 (by simp) ?_
  unfold Try.f76
  simp only [List.cons_append, List.nil_append, List.length_cons, List.length_nil, Nat.reduceAdd, Nat.reduceSub, List.replicate]
  refine Run.seq ?_
  refine Run.opsL false [⟨Op.assign (Operand.const (Value.int IntKind.i64 0)), some 4, none⟩] mixed (by decide) rfl fun K hK => ?_
  try simp
  repeat' first | (simp only [evL_cons, evL_guard]; simp) | (refine gsplit (fun hg => ?_) (fun hg => ?_) <;> (try simp at hg) <;> (try simp)) | (with_reducible assumption) | omega | refine And.intro ?_ ?_ | intro _
  all_goals (try simp only [evL_nil]; refine hK _ _ ?_; clear hK K)
  simp only [Then_normal]
  refine Run.cut0 [1, 6, 7] [(1, .int (max b 1))] ?_ ?_
  · refine Run.opsL false [⟨Op.move (Operand.tmp 1), some 6, none⟩, ⟨Op.call { callee := Callee.builtin Builtin.max, args := #[Operand.tmp 6, Operand.const (Value.int IntKind.i64 1)], argTypes := #[2, 2] }, some 7, none⟩, ⟨Op.assign (Operand.tmp 7), some 1, none⟩] mixed (by decide) rfl fun K hK => ?_
    try simp
    repeat' first | (simp only [evL_cons, evL_guard]; simp) | (refine gsplit (fun hg => ?_) (fun hg => ?_) <;> (try simp at hg) <;> (try simp)) | (with_reducible assumption) | omega | refine And.intro ?_ ?_ | intro _
    all_goals (try simp only [evL_nil]; refine hK _ _ ?_; clear hK K)
    simp
    grind
  · simp only [over, List.foldl, List.set]
    obtain ⟨c, hc, hm⟩ : ∃ c, 1 ≤ c ∧ c = max b 1 := ⟨_, by omega, rfl⟩
    have hs : shareS a b = (a + c - 1) / c := by rw [hm]; rfl
    rw [hs, ← hm]
    have hc0 : ¬ c = 0 := by omega
    have e1 : a.tdiv c = a / c := Int.tdiv_eq_ediv_of_nonneg h0
    have e2 : a.tmod c = a % c := Int.tmod_eq_emod_of_nonneg h0
    have hd := div_rng h0 hc
    refine Run.seq ?_
    refine Run.opsL false [⟨Op.move (Operand.tmp 0), some 8, none⟩, ⟨Op.move (Operand.tmp 1), some 9, none⟩, ⟨Op.binOp BinOp.quo 2 (Operand.tmp 8) (Operand.tmp 9) 2, some 10, none⟩, ⟨Op.assign (Operand.tmp 10), some 5, none⟩] mixed (by decide) rfl fun K hK => ?_
    try simp
    repeat' first | (simp only [evL_cons, evL_guard]; simp [hc0]) | (refine gsplit (fun hg => ?_) (fun hg => ?_) <;> (try simp at hg) <;> (try simp [hc0])) | (with_reducible assumption) | omega | refine And.intro ?_ ?_ | intro _
    all_goals (try simp only [evL_nil]; refine hK _ _ ?_; clear hK K)
    simp only [Then_normal]
    refine Run.seq ?_
    refine Run.seq ?_
    refine Run.opsL false [⟨Op.move (Operand.tmp 0), some 11, none⟩, ⟨Op.move (Operand.tmp 1), some 12, none⟩, ⟨Op.binOp BinOp.rem 2 (Operand.tmp 11) (Operand.tmp 12) 2, some 13, none⟩, ⟨Op.binOp BinOp.gtr 2 (Operand.tmp 13) (Operand.const (Value.int IntKind.i64 0)) 2, some 14, none⟩] mixed (by decide) rfl fun K hK => ?_
    try simp
    repeat' first | (simp only [evL_cons, evL_guard]; simp [hc0]) | (refine gsplit (fun hg => ?_) (fun hg => ?_) <;> (try simp at hg) <;> (try simp [hc0])) | (with_reducible assumption) | omega | refine And.intro ?_ ?_ | intro _
    all_goals (try simp only [evL_nil]; refine hK _ _ ?_; clear hK K)
    simp only [Then_normal]
    refine Run.cond rfl (fun h14 => ?_) (fun h14 => ?_)
    · simp [e2] at h14
      refine Run.opsL false [⟨Op.move (Operand.tmp 5), some 15, none⟩, ⟨Op.binOp BinOp.add 2 (Operand.tmp 15) (Operand.const (Value.int IntKind.i64 1)) 2, some 16, none⟩, ⟨Op.assign (Operand.tmp 16), some 5, none⟩] mixed (by decide) rfl fun K hK => ?_
      try simp
      repeat' first | (simp only [evL_cons, evL_guard]; simp [hc0]) | (refine gsplit (fun hg => ?_) (fun hg => ?_) <;> (try simp at hg) <;> (try simp [hc0])) | (with_reducible assumption) | omega | refine And.intro ?_ ?_ | intro _
      all_goals (try simp only [evL_nil]; refine hK _ _ ?_; clear hK K)
      simp only [Then_normal]
      refine Run.seq ?_
      refine Run.opsL false [⟨Op.move (Operand.tmp 5), some 17, none⟩, ⟨Op.assign (Operand.tmp 17), some 4, none⟩] mixed (by decide) rfl fun K hK => ?_
      try simp
      repeat' first | (simp only [evL_cons, evL_guard]; simp [hc0]) | (refine gsplit (fun hg => ?_) (fun hg => ?_) <;> (try simp at hg) <;> (try simp [hc0])) | (with_reducible assumption) | omega | refine And.intro ?_ ?_ | intro _
      all_goals (try simp only [evL_nil]; refine hK _ _ ?_; clear hK K)
      simp only [Then_normal]
      refine Run.ret ?_
      try simp only [Then_ret, Blok_ret]
      first
        | (have := share_up hc h14; simp [e1]; simp (disch := omega) only [wrap_id, this])
        | (have := share_ev hc h14; simp [e1]; simp (disch := omega) only [wrap_id, this])
    · simp [e2] at h14
      refine Run.skip ?_
      simp only [Then_normal]
      refine Run.seq ?_
      refine Run.opsL false [⟨Op.move (Operand.tmp 5), some 17, none⟩, ⟨Op.assign (Operand.tmp 17), some 4, none⟩] mixed (by decide) rfl fun K hK => ?_
      try simp
      repeat' first | (simp only [evL_cons, evL_guard]; simp [hc0]) | (refine gsplit (fun hg => ?_) (fun hg => ?_) <;> (try simp at hg) <;> (try simp [hc0])) | (with_reducible assumption) | omega | refine And.intro ?_ ?_ | intro _
      all_goals (try simp only [evL_nil]; refine hK _ _ ?_; clear hK K)
      simp only [Then_normal]
      refine Run.ret ?_
      try simp only [Then_ret, Blok_ret]
      first
        | (have := share_up hc h14; simp [e1]; simp (disch := omega) only [wrap_id, this])
        | (have := share_ev hc h14; simp [e1]; simp (disch := omega) only [wrap_id, this])

theorem nodes_ok (c : CoreT) (s : StatsT) (slot : Int) (h0 : 0 ≤ slot) (h1 : slot < c.nodes.length) : Snd P 75 [.d (.ag (encC c ++ encS s)), .int slot] (.int (cntS s.nodes (rdI c.nodes slot).type)) [] := by
  refine snd_of [] Try.func75 rfl (by kernel_rfl) Try.ntmps75 (by simp) ?_
  unfold Try.f75
  simp only [List.cons_append, List.nil_append, List.length_cons, List.length_nil, Nat.reduceAdd, Nat.reduceSub, List.replicate]
  refine Run.seq ?_
  refine Run.opsL false [⟨Op.box 115 (Operand.tmp 0), some 2, none⟩, ⟨Op.assign (Operand.const (Value.int IntKind.i64 0)), some 4, none⟩] mixed (by decide) rfl fun K hK => ?_
  try simp
  repeat' first | (simp only [evL_cons, evL_guard]; simp [h0, h1]) | (refine gsplit (fun hg => ?_) (fun hg => ?_) <;> (try simp at hg) <;> (try simp [h0, h1])) | (with_reducible assumption) | omega | refine And.intro ?_ ?_ | intro _
  all_goals (try simp only [evL_nil]; refine hK _ _ ?_; clear hK K)
  simp only [Then_normal]
  refine Run.seq ?_
  refine Run.opsL false [⟨Op.fieldAddr 115 (Operand.tmp 2) 1, some 5, none⟩, ⟨Op.fieldAddr 61 (Operand.tmp 5) 0, some 6, none⟩, ⟨Op.load 59 (Operand.tmp 6), some 7, none⟩, ⟨Op.fieldAddr 115 (Operand.tmp 2) 0, some 8, none⟩, ⟨Op.fieldAddr 32 (Operand.tmp 8) 0, some 9, none⟩, ⟨Op.load 26 (Operand.tmp 9), some 10, none⟩, ⟨Op.move (Operand.tmp 1), some 11, none⟩, ⟨Op.indexAddr 26 (Operand.tmp 10) (Operand.tmp 11), some 12, none⟩, ⟨Op.fieldAddr 70 (Operand.tmp 12) 1, some 13, none⟩, ⟨Op.load 3 (Operand.tmp 13), some 14, none⟩, ⟨Op.call { callee := Callee.value (Operand.func 97), args := #[Operand.tmp 7, Operand.tmp 14], argTypes := #[59, 3] }, some 15, none⟩, ⟨Op.assign (Operand.tmp 15), some 4, none⟩] mixed (by decide) rfl fun K hK => ?_
  try simp
  repeat' first | (refine ecallD (of_ok _ _ _) ?_) | (simp only [evL_cons, evL_guard]; simp [h0, h1]) | (refine gsplit (fun hg => ?_) (fun hg => ?_) <;> (try simp at hg) <;> (try simp [h0, h1])) | (with_reducible assumption) | omega | refine And.intro ?_ ?_ | intro _
  all_goals (try simp only [evL_nil]; refine hK _ _ ?_; clear hK K)
  simp only [Then_normal]
  refine Run.ret ?_
  try simp only [Then_ret, Blok_ret]
  simp

theorem edges_ok (c : CoreT) (s : StatsT) (slot : Int) (h0 : 0 ≤ slot) (h1 : slot < c.edges.length) : Snd P 77 [.d (.ag (encC c ++ encS s)), .int slot] (.int (cntS s.edges (rdI c.edges slot).type)) [] := by
  refine snd_of [] Try.func77 rfl (by kernel_rfl) Try.ntmps77 (by simp) ?_
  unfold Try.f77
  simp only [List.cons_append, List.nil_append, List.length_cons, List.length_nil, Nat.reduceAdd, Nat.reduceSub, List.replicate]
  refine Run.seq ?_
  refine Run.opsL false [⟨Op.box 115 (Operand.tmp 0), some 2, none⟩, ⟨Op.assign (Operand.const (Value.int IntKind.i64 0)), some 4, none⟩] mixed (by decide) rfl fun K hK => ?_
  try simp
  repeat' first | (simp only [evL_cons, evL_guard]; simp [h0, h1]) | (refine gsplit (fun hg => ?_) (fun hg => ?_) <;> (try simp at hg) <;> (try simp [h0, h1])) | (with_reducible assumption) | omega | refine And.intro ?_ ?_ | intro _
  all_goals (try simp only [evL_nil]; refine hK _ _ ?_; clear hK K)
  simp only [Then_normal]
  refine Run.seq ?_
  refine Run.opsL false [⟨Op.fieldAddr 115 (Operand.tmp 2) 1, some 5, none⟩, ⟨Op.fieldAddr 61 (Operand.tmp 5) 1, some 6, none⟩, ⟨Op.load 59 (Operand.tmp 6), some 7, none⟩, ⟨Op.fieldAddr 115 (Operand.tmp 2) 0, some 8, none⟩, ⟨Op.fieldAddr 32 (Operand.tmp 8) 1, some 9, none⟩, ⟨Op.load 27 (Operand.tmp 9), some 10, none⟩, ⟨Op.move (Operand.tmp 1), some 11, none⟩, ⟨Op.indexAddr 27 (Operand.tmp 10) (Operand.tmp 11), some 12, none⟩, ⟨Op.fieldAddr 98 (Operand.tmp 12) 1, some 13, none⟩, ⟨Op.load 3 (Operand.tmp 13), some 14, none⟩, ⟨Op.call { callee := Callee.value (Operand.func 97), args := #[Operand.tmp 7, Operand.tmp 14], argTypes := #[59, 3] }, some 15, none⟩, ⟨Op.assign (Operand.tmp 15), some 4, none⟩] mixed (by decide) rfl fun K hK => ?_
  try simp
  repeat' first | (refine ecallD (of_ok _ _ _) ?_) | (simp only [evL_cons, evL_guard]; simp [h0, h1]) | (refine gsplit (fun hg => ?_) (fun hg => ?_) <;> (try simp at hg) <;> (try simp [h0, h1])) | (with_reducible assumption) | omega | refine And.intro ?_ ?_ | intro _
  all_goals (try simp only [evL_nil]; refine hK _ _ ?_; clear hK K)
  simp only [Then_normal]
  refine Run.ret ?_
  try simp only [Then_ret, Blok_ret]
  simp

theorem rends_ok (e : EdgeT) (back : Bool) : Snd P 100 [.d (.ag (encE e)), .bool back] (.tup [.int (if back then e.dst else e.src), .int (if back then e.src else e.dst)]) [] := by
  refine snd_of [] Try.func100 rfl (by kernel_rfl) Try.ntmps100 (by simp) ?_
  unfold Try.f100
  simp only [List.cons_append, List.nil_append, List.length_cons, List.length_nil, Nat.reduceAdd, Nat.reduceSub, List.replicate]
  refine Run.seq ?_
  refine Run.opsL false [⟨Op.box 98 (Operand.tmp 0), some 2, none⟩, ⟨Op.assign (Operand.const (Value.int IntKind.i64 0)), some 4, none⟩, ⟨Op.assign (Operand.const (Value.int IntKind.i64 0)), some 5, none⟩] mixed (by decide) rfl fun K hK => ?_
  try simp
  repeat' first | (simp only [evL_cons, evL_guard]; simp) | (refine gsplit (fun hg => ?_) (fun hg => ?_) <;> (try simp at hg) <;> (try simp)) | (with_reducible assumption) | omega | refine And.intro ?_ ?_ | intro _
  all_goals (try simp only [evL_nil]; refine hK _ _ ?_; clear hK K)
  simp only [Then_normal]
  refine Run.seq ?_
  refine Run.seq ?_
  refine Run.opsL false [⟨Op.move (Operand.tmp 1), some 6, none⟩] mixed (by decide) rfl fun K hK => ?_
  try simp
  repeat' first | (simp only [evL_cons, evL_guard]; simp) | (refine gsplit (fun hg => ?_) (fun hg => ?_) <;> (try simp at hg) <;> (try simp)) | (with_reducible assumption) | omega | refine And.intro ?_ ?_ | intro _
  all_goals (try simp only [evL_nil]; refine hK _ _ ?_; clear hK K)
  simp only [Then_normal]
  refine Run.cond rfl (fun h6 => ?_) (fun h6 => ?_)
  · try simp at h6
    refine Run.seq ?_
    refine Run.opsL false [⟨Op.fieldAddr 98 (Operand.tmp 2) 3, some 7, none⟩, ⟨Op.load 3 (Operand.tmp 7), some 8, none⟩, ⟨Op.fieldAddr 98 (Operand.tmp 2) 2, some 9, none⟩, ⟨Op.load 3 (Operand.tmp 9), some 10, none⟩, ⟨Op.assign (Operand.tmp 8), some 4, none⟩, ⟨Op.assign (Operand.tmp 10), some 5, none⟩] mixed (by decide) rfl fun K hK => ?_
    try simp
    repeat' first | (simp only [evL_cons, evL_guard]; simp [h6]) | (refine gsplit (fun hg => ?_) (fun hg => ?_) <;> (try simp at hg) <;> (try simp [h6])) | (with_reducible assumption) | omega | refine And.intro ?_ ?_ | intro _
    all_goals (try simp only [evL_nil]; refine hK _ _ ?_; clear hK K)
    simp only [Then_normal]
    refine Run.ret ?_
    try simp only [Then_ret, Blok_ret]
    simp [*]
  · try simp at h6
    refine Run.skip ?_
    simp only [Then_normal]
    refine Run.seq ?_
    refine Run.opsL false [⟨Op.fieldAddr 98 (Operand.tmp 2) 2, some 11, none⟩, ⟨Op.load 3 (Operand.tmp 11), some 12, none⟩, ⟨Op.fieldAddr 98 (Operand.tmp 2) 3, some 13, none⟩, ⟨Op.load 3 (Operand.tmp 13), some 14, none⟩, ⟨Op.assign (Operand.tmp 12), some 4, none⟩, ⟨Op.assign (Operand.tmp 14), some 5, none⟩] mixed (by decide) rfl fun K hK => ?_
    try simp
    repeat' first | (simp only [evL_cons, evL_guard]; simp [h6]) | (refine gsplit (fun hg => ?_) (fun hg => ?_) <;> (try simp at hg) <;> (try simp [h6])) | (with_reducible assumption) | omega | refine And.intro ?_ ?_ | intro _
    all_goals (try simp only [evL_nil]; refine hK _ _ ?_; clear hK K)
    simp only [Then_normal]
    refine Run.ret ?_
    try simp only [Then_ret, Blok_ret]
    simp [*]

theorem ends_ok (e : EdgeT) (back : Bool) : Snd P 94 [.d (.ag (encE e)), .bool back] (.tup [.int (if back then e.dst else e.src), .int (if back then e.src else e.dst)]) [] := by
  refine snd_of [] Try.func94 rfl (by kernel_rfl) Try.ntmps94 (by simp) ?_
  unfold Try.f94
  simp only [List.cons_append, List.nil_append, List.length_cons, List.length_nil, Nat.reduceAdd, Nat.reduceSub, List.replicate]
  refine Run.seq ?_
  refine Run.opsL false [⟨Op.box 98 (Operand.tmp 0), some 2, none⟩, ⟨Op.assign (Operand.const (Value.int IntKind.i64 0)), some 4, none⟩, ⟨Op.assign (Operand.const (Value.int IntKind.i64 0)), some 5, none⟩] mixed (by decide) rfl fun K hK => ?_
  try simp
  repeat' first | (simp only [evL_cons, evL_guard]; simp) | (refine gsplit (fun hg => ?_) (fun hg => ?_) <;> (try simp at hg) <;> (try simp)) | (with_reducible assumption) | omega | refine And.intro ?_ ?_ | intro _
  all_goals (try simp only [evL_nil]; refine hK _ _ ?_; clear hK K)
  simp only [Then_normal]
  refine Run.seq ?_
  refine Run.seq ?_
  refine Run.opsL false [⟨Op.move (Operand.tmp 1), some 6, none⟩] mixed (by decide) rfl fun K hK => ?_
  try simp
  repeat' first | (simp only [evL_cons, evL_guard]; simp) | (refine gsplit (fun hg => ?_) (fun hg => ?_) <;> (try simp at hg) <;> (try simp)) | (with_reducible assumption) | omega | refine And.intro ?_ ?_ | intro _
  all_goals (try simp only [evL_nil]; refine hK _ _ ?_; clear hK K)
  simp only [Then_normal]
  refine Run.cond rfl (fun h6 => ?_) (fun h6 => ?_)
  · try simp at h6
    refine Run.seq ?_
    refine Run.opsL false [⟨Op.fieldAddr 98 (Operand.tmp 2) 3, some 7, none⟩, ⟨Op.load 3 (Operand.tmp 7), some 8, none⟩, ⟨Op.fieldAddr 98 (Operand.tmp 2) 2, some 9, none⟩, ⟨Op.load 3 (Operand.tmp 9), some 10, none⟩, ⟨Op.assign (Operand.tmp 8), some 4, none⟩, ⟨Op.assign (Operand.tmp 10), some 5, none⟩] mixed (by decide) rfl fun K hK => ?_
    try simp
    repeat' first | (simp only [evL_cons, evL_guard]; simp [h6]) | (refine gsplit (fun hg => ?_) (fun hg => ?_) <;> (try simp at hg) <;> (try simp [h6])) | (with_reducible assumption) | omega | refine And.intro ?_ ?_ | intro _
    all_goals (try simp only [evL_nil]; refine hK _ _ ?_; clear hK K)
    simp only [Then_normal]
    refine Run.ret ?_
    try simp only [Then_ret, Blok_ret]
    simp [*]
  · try simp at h6
    refine Run.skip ?_
    simp only [Then_normal]
    refine Run.seq ?_
    refine Run.opsL false [⟨Op.fieldAddr 98 (Operand.tmp 2) 2, some 11, none⟩, ⟨Op.load 3 (Operand.tmp 11), some 12, none⟩, ⟨Op.fieldAddr 98 (Operand.tmp 2) 3, some 13, none⟩, ⟨Op.load 3 (Operand.tmp 13), some 14, none⟩, ⟨Op.assign (Operand.tmp 12), some 4, none⟩, ⟨Op.assign (Operand.tmp 14), some 5, none⟩] mixed (by decide) rfl fun K hK => ?_
    try simp
    repeat' first | (simp only [evL_cons, evL_guard]; simp [h6]) | (refine gsplit (fun hg => ?_) (fun hg => ?_) <;> (try simp at hg) <;> (try simp [h6])) | (with_reducible assumption) | omega | refine And.intro ?_ ?_ | intro _
    all_goals (try simp only [evL_nil]; refine hK _ _ ?_; clear hK K)
    simp only [Then_normal]
    refine Run.ret ?_
    try simp only [Then_ret, Blok_ret]
    simp [*]


end Go.Proofs.Ytimgbdkgjfbhkaa.Z
end
section
/- Counts: of a type; a product. -/
set_option maxRecDepth 100000
namespace Go.Proofs.Ytimgbdkgjfbhkaa.Z
open Go Go.Fw
theorem drop_rd {α : Type} [Inhabited α] {l : List α} {i : Nat} (h : i < l.length) : l.drop i = rdI l i :: l.drop (i + 1) := by
  rw [List.drop_eq_getElem_cons h]
  simp [rdI, List.getD_eq_getElem?_getD, h]
def prodS : Int → List Int → Int
  | n, [] => n
  | n, f :: r => if f = 0 then 0 else if 1099511627776 / f < n then (if 0 ∈ r then 0 else 1099511627776) else prodS (n * f) r
theorem prod_two {a b : Int} (h0 : 0 ≤ a) (h1 : a ≤ 1099511627776) (h2 : 0 ≤ b) (h3 : b ≤ 1099511627776) : prodS 1 [a, b] = mulS a b := by
  unfold mulS
  simp only [prodS, List.mem_singleton, List.not_mem_nil, if_false, Int.one_mul]
  by_cases ha : a = 0
  · subst ha; simp
  · have ha' : 1 ≤ 1099511627776 / a := by rw [Int.le_ediv_iff_mul_le (by omega)]; omega
    rw [if_neg ha, if_neg (by omega)]
    by_cases hb : b = 0
    · subst hb
      rw [if_pos rfl, if_neg (by omega)]; simp
    · rw [if_neg hb]
      have e : 1099511627776 / b < a ↔ 0 < a ∧ 1099511627776 / a < b := by
        rw [Int.ediv_lt_iff_lt_mul (by omega), Int.ediv_lt_iff_lt_mul (by omega), Int.mul_comm b a]
        constructor
        · intro h; exact ⟨by omega, h⟩
        · intro h; exact h.2
      by_cases hc : 1099511627776 / b < a
      · rw [if_pos hc, if_pos (e.1 hc)]
      · rw [if_neg hc, if_neg (fun h => hc (e.2 h))]
theorem prod_step {n f : Int} (h0 : 0 ≤ n) (hf : 0 < f) (h : n ≤ 1099511627776 / f) : 0 ≤ n * f ∧ n * f ≤ 1099511627776 := by
  refine ⟨Int.mul_nonneg h0 (by omega), ?_⟩
  rwa [Int.le_ediv_iff_mul_le hf] at h
theorem mem_drop_rd {l : List Int} {i k : Nat} (h : k < l.length) (hk : i ≤ k) : rdI l k ∈ l.drop i := by
  rw [List.mem_iff_getElem?]
  refine ⟨k - i, ?_⟩
  rw [List.getElem?_drop, show i + (k - i) = k by omega]
  simp [rdI, List.getD_eq_getElem?_getD, h]
theorem no_zero {l : List Int} (h : ∀ j, j < l.length → rdI l (j : Nat) ≠ 0) (i : Nat) : 0 ∉ l.drop i := by
  intro hm
  obtain ⟨j, hj⟩ := List.getElem?_of_mem hm
  rw [List.getElem?_drop] at hj
  have hlt := (List.getElem?_eq_some_iff.1 hj).1
  refine h (i + j) hlt ?_
  unfold rdI
  rw [Int.toNat_natCast, List.getD_eq_getElem?_getD, hj]; rfl
theorem product_ok (l : List Int) (hl : ∀ x ∈ l, 0 ≤ x ∧ x ≤ 1099511627776) (hn : l.length ≤ 1000) : SndW P 78 [.rs 0 1 0 l.length] [(0, .data 1 (l.map encI))] (.int (prodS 1 l)) [(0, .data 1 (l.map encI))] := by
  refine sndW_of [0] Try.func78 rfl (by kernel_rfl) Try.ntmps78 (by simp) (by simp) ?_
  unfold Try.f78
  simp only [List.cons_append, List.nil_append, List.length_cons, List.length_nil, Nat.reduceAdd, Nat.reduceSub, List.replicate]
  refine Run.seq ?_
  refine Run.opsL false [⟨Op.assign (Operand.const (Value.int IntKind.i64 0)), some 2, none⟩] mixed (by decide) rfl fun K hK => ?_
  try simp
  repeat' first | (simp only [evL_cons, evL_guard]; simp) | (refine gsplit (fun hg => ?_) (fun hg => ?_) <;> (try simp at hg) <;> (try simp)) | (with_reducible assumption) | omega | refine And.intro ?_ ?_ | intro _
  all_goals (try simp only [evL_nil]; refine hK _ _ ?_; clear hK K)
  simp only [Then_normal]
  refine Run.scope 0 _ rfl ?_
  refine Run.seq ?_
  refine Run.opsL false [⟨Op.assign (Operand.const (Value.int IntKind.i64 1)), some 3, none⟩] mixed (by decide) rfl fun K hK => ?_
  try simp
  repeat' first | (simp only [evL_cons, evL_guard]; simp) | (refine gsplit (fun hg => ?_) (fun hg => ?_) <;> (try simp at hg) <;> (try simp)) | (with_reducible assumption) | omega | refine And.intro ?_ ?_ | intro _
  all_goals (try simp only [evL_nil]; refine hK _ _ ?_; clear hK K)
  simp only [Then_normal]
  refine Run.seq ?_
  refine Run.seq ?_
  refine Run.opsL false [⟨Op.move (Operand.tmp 0), some 8, none⟩, ⟨Op.call { callee := Callee.builtin Builtin.len, args := #[Operand.tmp 8], argTypes := #[59] }, some 9, none⟩, ⟨Op.move (Operand.const (Value.int IntKind.i64 0)), some 10, none⟩] mixed (by decide) rfl fun K hK => ?_
  try simp
  repeat' first | (simp only [evL_cons, evL_guard]; simp) | (refine gsplit (fun hg => ?_) (fun hg => ?_) <;> (try simp at hg) <;> (try simp)) | (with_reducible assumption) | omega | refine And.intro ?_ ?_ | intro _
  all_goals (try simp only [evL_nil]; refine hK _ _ ?_; clear hK K)
  simp only [Then_normal]
  refine Run.block ?_
  refine Run.loopO [2, 3, 5, 10, 11, 12, 13, 14, 15, 16, 17, 18, 19, 20, 21, 22, 23] (fun (x : Nat × Int) => [(3, .int x.2), (10, .int x.1)]) (fun (x : Nat × Int) => [(0, .data 1 (l.map encI))]) (fun (x : Nat × Int) => x.1 ≤ l.length ∧ (0 ≤ x.2 ∧ x.2 ≤ 1099511627776) ∧ prodS x.2 (l.drop x.1) = prodS 1 l ∧ ∀ j, j < x.1 → rdI l (j : Nat) ≠ 0) (fun (x : Nat × Int) => l.length - x.1) (0, 1) (by simp) (by simp) fun ⟨i, n⟩ ⟨hi, hr, hp, hz⟩ => ?_
  simp only [over, List.foldl, List.set]
  refine Run.seq ?_
  refine Run.opsL false [⟨Op.binOp BinOp.lss 3 (Operand.tmp 10) (Operand.tmp 9) 3, some 11, none⟩] mixed (by decide) rfl fun K hK => ?_
  try simp
  repeat' first | (simp only [evL_cons, evL_guard]; simp) | (refine gsplit (fun hg => ?_) (fun hg => ?_) <;> (try simp at hg) <;> (try simp)) | (with_reducible assumption) | omega | refine And.intro ?_ ?_ | intro _
  all_goals (try simp only [evL_nil]; refine hK _ _ ?_; clear hK K)
  simp only [Then_normal]
  refine Run.seq ?_
  refine Run.cond rfl (fun h11 => ?_) (fun h11 => ?_)
  · try simp at h11
    have hx := hl _ (rdI_mem (l := l) (i := i) (by omega) (by omega))
    refine Run.skip ?_
    simp only [Then_normal]
    refine Run.seq ?_
    refine Run.block ?_
    refine Run.seq ?_
    refine Run.opsL false [⟨Op.indexAddr 59 (Operand.tmp 8) (Operand.tmp 10), some 12, none⟩, ⟨Op.load 2 (Operand.tmp 12), some 13, none⟩, ⟨Op.assign (Operand.tmp 13), some 5, none⟩] mixed (by decide) rfl fun K hK => ?_
    try simp
    repeat' first | (simp only [evL_cons, evL_guard]; simp [h11]) | (refine gsplit (fun hg => ?_) (fun hg => ?_) <;> (try simp at hg) <;> (try simp [h11])) | (with_reducible assumption) | omega | refine And.intro ?_ ?_ | intro _
    all_goals (try simp only [evL_nil]; refine hK _ _ ?_; clear hK K)
    simp only [Then_normal]
    refine Run.seq ?_
    refine Run.seq ?_
    refine Run.opsL false [⟨Op.move (Operand.tmp 5), some 14, none⟩, ⟨Op.binOp BinOp.eql 2 (Operand.tmp 14) (Operand.const (Value.int IntKind.i64 0)) 2, some 15, none⟩] mixed (by decide) rfl fun K hK => ?_
    try simp
    repeat' first | (simp only [evL_cons, evL_guard]; simp [h11]) | (refine gsplit (fun hg => ?_) (fun hg => ?_) <;> (try simp at hg) <;> (try simp [h11])) | (with_reducible assumption) | omega | refine And.intro ?_ ?_ | intro _
    all_goals (try simp only [evL_nil]; refine hK _ _ ?_; clear hK K)
    simp only [Then_normal]
    refine Run.cond rfl (fun h15 => ?_) (fun h15 => ?_)
    · try simp at h15
      refine Run.seq ?_
      refine Run.opsL false [⟨Op.assign (Operand.const (Value.int IntKind.i64 0)), some 2, none⟩] mixed (by decide) rfl fun K hK => ?_
      try simp
      repeat' first | (simp only [evL_cons, evL_guard]; simp [h11, h15]) | (refine gsplit (fun hg => ?_) (fun hg => ?_) <;> (try simp at hg) <;> (try simp [h11, h15])) | (with_reducible assumption) | omega | refine And.intro ?_ ?_ | intro _
      all_goals (try simp only [evL_nil]; refine hK _ _ ?_; clear hK K)
      simp only [Then_normal]
      refine Run.ret ?_
      try simp only [Then_ret, Blok_ret]
      try simp only [Fwd_ret]
      first
        | (have e : prodS 1 l = 0 := by rw [← hp, drop_rd h11]; simp [prodS, h15]
           simp [e]; done)
        | (have hk1 : i + 1 ≤ k := by
             rcases Nat.lt_or_ge k (i + 1) with q | q
             · by_cases e : k = i
               · subst e; exact absurd h32 h15
               · exact absurd h32 (hz k (by simp; omega))
             · exact q
           have hm := mem_drop_rd h28 hk1
           rw [h32] at hm
           have e : prodS 1 l = 0 := by rw [← hp, drop_rd h11]; simp only [prodS]; rw [if_neg h15, if_pos h19, if_pos hm]
           simp [e]; done)
        | (have e : prodS 1 l = 1099511627776 := by rw [← hp, drop_rd h11]; simp only [prodS]; rw [if_neg h15, if_pos h19, if_neg (no_zero (fun j hj => hkz j (by omega)) _)]
           simp [e]; done)
        | (have e : prodS 1 l = n := by rw [← hp, List.drop_of_length_le (by simp; omega)]; rfl
           simp [e])
    · try simp at h15
      have hf : 0 < rdI l i := by omega
      have hd : 0 ≤ 1099511627776 / rdI l i ∧ 1099511627776 / rdI l i ≤ 1099511627776 := div_rng (by omega) (by omega)
      have e1 : (1099511627776 : Int).tdiv (rdI l i) = 1099511627776 / rdI l i := Int.tdiv_eq_ediv_of_nonneg (by omega)
      refine Run.skip ?_
      simp only [Then_normal]
      refine Run.seq ?_
      refine Run.seq ?_
      refine Run.opsL false [⟨Op.move (Operand.tmp 3), some 16, none⟩, ⟨Op.move (Operand.tmp 5), some 17, none⟩, ⟨Op.binOp BinOp.quo 2 (Operand.const (Value.int IntKind.i64 1099511627776)) (Operand.tmp 17) 2, some 18, none⟩, ⟨Op.binOp BinOp.gtr 2 (Operand.tmp 16) (Operand.tmp 18) 2, some 19, none⟩] mixed (by decide) rfl fun K hK => ?_
      try simp
      repeat' first | (simp only [evL_cons, evL_guard]; simp [h11, h15]) | (refine gsplit (fun hg => ?_) (fun hg => ?_) <;> (try simp at hg) <;> (try simp [h11, h15])) | (with_reducible assumption) | omega | refine And.intro ?_ ?_ | intro _
      all_goals (try simp only [evL_nil]; refine hK _ _ ?_; clear hK K)
      simp only [Then_normal]
      refine Run.cond rfl (fun h19 => ?_) (fun h19 => ?_)
      · try simp [e1] at h19
        rw [wrap_id (by omega) (by omega)] at h19
        refine Run.goto ?_
        simp (decide := true) only [Then_goto, Blok_goto, Fwd_goto]
        refine Run.seq ?_
        refine Run.skip ?_
        simp only [Then_normal]
        refine Run.seq ?_
        refine Run.seq ?_
        refine Run.opsL false [⟨Op.move (Operand.tmp 0), some 25, none⟩, ⟨Op.call { callee := Callee.builtin Builtin.len, args := #[Operand.tmp 25], argTypes := #[59] }, some 26, none⟩, ⟨Op.move (Operand.const (Value.int IntKind.i64 0)), some 27, none⟩] mixed (by decide) rfl fun K hK => ?_
        try simp
        repeat' first | (simp only [evL_cons, evL_guard]; simp [h11, h15]) | (refine gsplit (fun hg => ?_) (fun hg => ?_) <;> (try simp at hg) <;> (try simp [h11, h15])) | (with_reducible assumption) | omega | refine And.intro ?_ ?_ | intro _
        all_goals (try simp only [evL_nil]; refine hK _ _ ?_; clear hK K)
        simp only [Then_normal]
        refine Run.block ?_
        refine Run.loopO [2, 7, 27, 28, 29, 30, 31, 32, 33] (fun (k : Nat) => [(27, .int k)]) (fun (k : Nat) => [(0, .data 1 (l.map encI))]) (fun (k : Nat) => k ≤ l.length ∧ ∀ j, j < k → rdI l (j : Nat) ≠ 0) (fun (k : Nat) => l.length - k) 0 (by simp) (by simp) fun k ⟨hk, hkz⟩ => ?_
        simp only [over, List.foldl, List.set]
        refine Run.seq ?_
        refine Run.opsL false [⟨Op.binOp BinOp.lss 3 (Operand.tmp 27) (Operand.tmp 26) 3, some 28, none⟩] mixed (by decide) rfl fun K hK => ?_
        try simp
        repeat' first | (simp only [evL_cons, evL_guard]; simp [h11, h15]) | (refine gsplit (fun hg => ?_) (fun hg => ?_) <;> (try simp at hg) <;> (try simp [h11, h15])) | (with_reducible assumption) | omega | refine And.intro ?_ ?_ | intro _
        all_goals (try simp only [evL_nil]; refine hK _ _ ?_; clear hK K)
        simp only [Then_normal]
        refine Run.seq ?_
        refine Run.cond rfl (fun h28 => ?_) (fun h28 => ?_)
        · try simp at h28
          refine Run.skip ?_
          simp only [Then_normal]
          refine Run.seq ?_
          refine Run.block ?_
          refine Run.seq ?_
          refine Run.opsL false [⟨Op.indexAddr 59 (Operand.tmp 25) (Operand.tmp 27), some 29, none⟩, ⟨Op.load 2 (Operand.tmp 29), some 30, none⟩, ⟨Op.assign (Operand.tmp 30), some 7, none⟩] mixed (by decide) rfl fun K hK => ?_
          try simp
          repeat' first | (simp only [evL_cons, evL_guard]; simp [h11, h15, h28]) | (refine gsplit (fun hg => ?_) (fun hg => ?_) <;> (try simp at hg) <;> (try simp [h11, h15, h28])) | (with_reducible assumption) | omega | refine And.intro ?_ ?_ | intro _
          all_goals (try simp only [evL_nil]; refine hK _ _ ?_; clear hK K)
          simp only [Then_normal]
          refine Run.seq ?_
          refine Run.opsL false [⟨Op.move (Operand.tmp 7), some 31, none⟩, ⟨Op.binOp BinOp.eql 2 (Operand.tmp 31) (Operand.const (Value.int IntKind.i64 0)) 2, some 32, none⟩] mixed (by decide) rfl fun K hK => ?_
          try simp
          repeat' first | (simp only [evL_cons, evL_guard]; simp [h11, h15, h28]) | (refine gsplit (fun hg => ?_) (fun hg => ?_) <;> (try simp at hg) <;> (try simp [h11, h15, h28])) | (with_reducible assumption) | omega | refine And.intro ?_ ?_ | intro _
          all_goals (try simp only [evL_nil]; refine hK _ _ ?_; clear hK K)
          simp only [Then_normal]
          refine Run.cond rfl (fun h32 => ?_) (fun h32 => ?_)
          · try simp at h32
            refine Run.seq ?_
            refine Run.opsL false [⟨Op.assign (Operand.const (Value.int IntKind.i64 0)), some 2, none⟩] mixed (by decide) rfl fun K hK => ?_
            try simp
            repeat' first | (simp only [evL_cons, evL_guard]; simp [h11, h15, h28, h32]) | (refine gsplit (fun hg => ?_) (fun hg => ?_) <;> (try simp at hg) <;> (try simp [h11, h15, h28, h32])) | (with_reducible assumption) | omega | refine And.intro ?_ ?_ | intro _
            all_goals (try simp only [evL_nil]; refine hK _ _ ?_; clear hK K)
            simp only [Then_normal]
            refine Run.ret ?_
            try simp only [Then_ret, Blok_ret]
            try simp only [NoGoto_ret]
            first
              | (have e : prodS 1 l = 0 := by rw [← hp, drop_rd h11]; simp [prodS, h15]
                 simp [e]; done)
              | (have hk1 : i + 1 ≤ k := by
                   rcases Nat.lt_or_ge k (i + 1) with q | q
                   · by_cases e : k = i
                     · subst e; exact absurd h32 h15
                     · exact absurd h32 (hz k (by simp; omega))
                   · exact q
                 have hm := mem_drop_rd h28 hk1
                 rw [h32] at hm
                 have e : prodS 1 l = 0 := by rw [← hp, drop_rd h11]; simp only [prodS]; rw [if_neg h15, if_pos h19, if_pos hm]
                 simp [e]; done)
              | (have e : prodS 1 l = 1099511627776 := by rw [← hp, drop_rd h11]; simp only [prodS]; rw [if_neg h15, if_pos h19, if_neg (no_zero (fun j hj => hkz j (by omega)) _)]
                 simp [e]; done)
              | (have e : prodS 1 l = n := by rw [← hp, List.drop_of_length_le (by simp; omega)]; rfl
                 simp [e])
          · try simp at h32
            refine Run.skip ?_
            simp only [Blok_normal]
            simp only [Then_normal]
            refine Run.opsL false [⟨Op.binOp BinOp.add 3 (Operand.tmp 27) (Operand.const (Value.int IntKind.i64 1)) 3, some 33, none⟩, ⟨Op.move (Operand.tmp 33), some 27, none⟩] mixed (by decide) rfl fun K hK => ?_
            try simp
            repeat' first | (simp only [evL_cons, evL_guard]; simp [h11, h15, h28, h32]) | (refine gsplit (fun hg => ?_) (fun hg => ?_) <;> (try simp at hg) <;> (try simp [h11, h15, h28, h32])) | (with_reducible assumption) | omega | refine And.intro ?_ ?_ | intro _
            all_goals (try simp only [evL_nil]; refine hK _ _ ?_; clear hK K)
            refine ⟨k + 1, ⟨by omega, fun j hj => ?_⟩, by omega, ?_⟩
            · by_cases e : j = k
              · subst e; exact h32
              · exact hkz j (by omega)
            · simp (disch := omega) [wrap_id]
        · try simp at h28
          refine Run.exit ?_
          simp (decide := true) only [Then_exit, Blok_exit, if_true, if_false]
          simp only [Then_normal]
          refine Run.seq ?_
          refine Run.opsL false [⟨Op.assign (Operand.const (Value.int IntKind.i64 1099511627776)), some 2, none⟩] mixed (by decide) rfl fun K hK => ?_
          try simp
          repeat' first | (simp only [evL_cons, evL_guard]; simp [h11, h15, h28]) | (refine gsplit (fun hg => ?_) (fun hg => ?_) <;> (try simp at hg) <;> (try simp [h11, h15, h28])) | (with_reducible assumption) | omega | refine And.intro ?_ ?_ | intro _
          all_goals (try simp only [evL_nil]; refine hK _ _ ?_; clear hK K)
          simp only [Then_normal]
          refine Run.ret ?_
          try simp only [Then_ret, Blok_ret]
          try simp only [NoGoto_ret]
          first
            | (have e : prodS 1 l = 0 := by rw [← hp, drop_rd h11]; simp [prodS, h15]
               simp [e]; done)
            | (have hk1 : i + 1 ≤ k := by
                 rcases Nat.lt_or_ge k (i + 1) with q | q
                 · by_cases e : k = i
                   · subst e; exact absurd h32 h15
                   · exact absurd h32 (hz k (by simp; omega))
                 · exact q
               have hm := mem_drop_rd h28 hk1
               rw [h32] at hm
               have e : prodS 1 l = 0 := by rw [← hp, drop_rd h11]; simp only [prodS]; rw [if_neg h15, if_pos h19, if_pos hm]
               simp [e]; done)
            | (have e : prodS 1 l = 1099511627776 := by rw [← hp, drop_rd h11]; simp only [prodS]; rw [if_neg h15, if_pos h19, if_neg (no_zero (fun j hj => hkz j (by omega)) _)]
               simp [e]; done)
            | (have e : prodS 1 l = n := by rw [← hp, List.drop_of_length_le (by simp; omega)]; rfl
               simp [e])
      · try simp [e1] at h19
        rw [wrap_id (by omega) (by omega)] at h19
        refine Run.skip ?_
        simp only [Then_normal]
        refine Run.opsL false [⟨Op.move (Operand.tmp 3), some 20, none⟩, ⟨Op.move (Operand.tmp 5), some 21, none⟩, ⟨Op.binOp BinOp.mul 2 (Operand.tmp 20) (Operand.tmp 21) 2, some 22, none⟩, ⟨Op.assign (Operand.tmp 22), some 3, none⟩] mixed (by decide) rfl fun K hK => ?_
        try simp
        repeat' first | (simp only [evL_cons, evL_guard]; simp [h11, h15]) | (refine gsplit (fun hg => ?_) (fun hg => ?_) <;> (try simp at hg) <;> (try simp [h11, h15])) | (with_reducible assumption) | omega | refine And.intro ?_ ?_ | intro _
        all_goals (try simp only [evL_nil]; refine hK _ _ ?_; clear hK K)
        simp only [Blok_normal]
        simp only [Then_normal]
        refine Run.opsL false [⟨Op.binOp BinOp.add 3 (Operand.tmp 10) (Operand.const (Value.int IntKind.i64 1)) 3, some 23, none⟩, ⟨Op.move (Operand.tmp 23), some 10, none⟩] mixed (by decide) rfl fun K hK => ?_
        try simp
        repeat' first | (simp only [evL_cons, evL_guard]; simp [h11, h15]) | (refine gsplit (fun hg => ?_) (fun hg => ?_) <;> (try simp at hg) <;> (try simp [h11, h15])) | (with_reducible assumption) | omega | refine And.intro ?_ ?_ | intro _
        all_goals (try simp only [evL_nil]; refine hK _ _ ?_; clear hK K)
        have hm := prod_step (n := n) hr.1 hf h19
        refine ⟨(i + 1, n * rdI l i), ⟨by simp; omega, hm, ?_, fun j hj => ?_⟩, by simp; omega, ?_⟩
        · rw [← hp, drop_rd h11]; simp only [prodS]; rw [if_neg h15, if_neg (by omega)]
        · by_cases e : j = i
          · subst e; exact h15
          · exact hz j (by simp at hj; omega)
        · simp (disch := omega) [wrap_id]
  · try simp at h11
    refine Run.exit ?_
    simp (decide := true) only [Then_exit, Blok_exit, if_true, if_false]
    simp only [Then_normal]
    refine Run.seq ?_
    refine Run.seq ?_
    refine Run.opsL false [⟨Op.move (Operand.tmp 3), some 24, none⟩, ⟨Op.assign (Operand.tmp 24), some 2, none⟩] mixed (by decide) rfl fun K hK => ?_
    try simp
    repeat' first | (simp only [evL_cons, evL_guard]; simp [h11]) | (refine gsplit (fun hg => ?_) (fun hg => ?_) <;> (try simp at hg) <;> (try simp [h11])) | (with_reducible assumption) | omega | refine And.intro ?_ ?_ | intro _
    all_goals (try simp only [evL_nil]; refine hK _ _ ?_; clear hK K)
    simp only [Then_normal]
    refine Run.ret ?_
    try simp only [Then_ret, Blok_ret]
    try simp only [Fwd_ret]
    first
      | (have e : prodS 1 l = 0 := by rw [← hp, drop_rd h11]; simp [prodS, h15]
         simp [e]; done)
      | (have hk1 : i + 1 ≤ k := by
           rcases Nat.lt_or_ge k (i + 1) with q | q
           · by_cases e : k = i
             · subst e; exact absurd h32 h15
             · exact absurd h32 (hz k (by simp; omega))
           · exact q
         have hm := mem_drop_rd h28 hk1
         rw [h32] at hm
         have e : prodS 1 l = 0 := by rw [← hp, drop_rd h11]; simp only [prodS]; rw [if_neg h15, if_pos h19, if_pos hm]
         simp [e]; done)
      | (have e : prodS 1 l = 1099511627776 := by rw [← hp, drop_rd h11]; simp only [prodS]; rw [if_neg h15, if_pos h19, if_neg (no_zero (fun j hj => hkz j (by omega)) _)]
         simp [e]; done)
      | (have e : prodS 1 l = n := by rw [← hp, List.drop_of_length_le (by simp; omega)]; rfl
         simp [e])


end Go.Proofs.Ytimgbdkgjfbhkaa.Z
end
section
set_option maxRecDepth 100000
namespace Go.Proofs.Ytimgbdkgjfbhkaa.Z
open Go Go.Fw
def badE (n : Int) (e : EdgeT) : Bool := decide ((if e.dst < e.src then e.dst else e.src) < 0) || decide (n ≤ if e.src < e.dst then e.dst else e.src)
def findS {α : Type} (p : α → Bool) (l : List α) : Int := match l.findIdx? p with | some i => i | none => -1
theorem findS_none {α : Type} [Inhabited α] {p : α → Bool} {l : List α} (h : ∀ j, j < l.length → p (rdI l (j : Nat)) = false) : findS p l = -1 := by
  have : l.findIdx? p = none := by
    rw [List.findIdx?_eq_none_iff]
    intro x hx
    obtain ⟨j, hj⟩ := List.getElem?_of_mem hx
    have hlt := (List.getElem?_eq_some_iff.1 hj).1
    have := h j hlt
    unfold rdI at this
    rw [Int.toNat_natCast, List.getD_eq_getElem?_getD, hj] at this
    exact this
  simp [findS, this]
theorem findS_some {α : Type} [Inhabited α] {p : α → Bool} {l : List α} {i : Nat} (hi : i < l.length) (h : ∀ j, j < i → p (rdI l (j : Nat)) = false) (hp : p (rdI l (i : Nat)) = true) : findS p l = i := by
  have key : ∀ j, j < l.length → ∃ h : j < l.length, rdI l (j : Nat) = l[j] := fun j hj => ⟨hj, by simp [rdI, List.getD_eq_getElem?_getD, hj]⟩
  have : l.findIdx? p = some i := by
    rw [List.findIdx?_eq_some_iff_getElem]
    refine ⟨hi, ?_, fun j hj => ?_⟩
    · obtain ⟨_, e⟩ := key i hi; rw [e] at hp; exact hp
    · obtain ⟨_, e⟩ := key j (by omega); have := h j hj; rw [e] at this; simpa using this
  simp [findS, this]
theorem findS_any {α : Type} (p : α → Bool) (l : List α) : decide (0 ≤ findS p l) = l.any p := by
  unfold findS
  cases h : l.findIdx? p with
  | none =>
    rw [List.findIdx?_eq_none_iff] at h
    have : l.any p = false := by rw [List.any_eq_false]; intro x hx; simp [h x hx]
    rw [this]; rfl
  | some i =>
    rw [List.findIdx?_eq_some_iff_getElem] at h
    obtain ⟨h1, h2, _⟩ := h
    have : l.any p = true := List.any_eq_true.2 ⟨_, List.getElem_mem h1, h2⟩
    rw [this]; simp
def patS (nodes : List NodeT) (edges : List EdgeT) : Bool := decide (1 ≤ nodes.length) && decide (nodes.length ≤ 8) && decide (edges.length ≤ 8) && !edges.any (badE nodes.length)
theorem badE_ok (e : EdgeT) (n : Int) : SndW P 69 [.d (.ag (encE e)), .pt 0 0 0 0] [(0, .vals [.int n])] (.bool (badE n e)) [(0, .vals [.int n])] := by
  refine sndW_of [0] Try.func69 rfl (by kernel_rfl) Try.ntmps69 (by simp) (by simp) ?_
  unfold Try.f69
  simp only [List.cons_append, List.nil_append, List.length_cons, List.length_nil, Nat.reduceAdd, Nat.reduceSub, List.replicate]
  refine Run.seq ?_
  refine Run.opsL false [⟨Op.box 98 (Operand.tmp 0), some 2, none⟩, ⟨Op.assign (Operand.const (Value.bool false)), some 3, none⟩] mixed (by decide) rfl fun K hK => ?_
  try simp
  repeat' first | (simp only [evL_cons, evL_guard]; simp) | (refine gsplit (fun hg => ?_) (fun hg => ?_) <;> (try simp at hg) <;> (try simp)) | (with_reducible assumption) | omega | refine And.intro ?_ ?_ | intro _
  all_goals (try simp only [evL_nil]; refine hK _ _ ?_; clear hK K)
  simp only [Then_normal]
  refine Run.seq ?_
  refine Run.opsL false [⟨Op.fieldAddr 98 (Operand.tmp 2) 2, some 4, none⟩, ⟨Op.load 3 (Operand.tmp 4), some 5, none⟩, ⟨Op.fieldAddr 98 (Operand.tmp 2) 3, some 6, none⟩, ⟨Op.load 3 (Operand.tmp 6), some 7, none⟩, ⟨Op.call { callee := Callee.builtin Builtin.min, args := #[Operand.tmp 5, Operand.tmp 7], argTypes := #[3, 3] }, some 8, none⟩, ⟨Op.binOp BinOp.lss 3 (Operand.tmp 8) (Operand.const (Value.int IntKind.i64 0)) 3, some 9, none⟩, ⟨Op.move (Operand.tmp 9), some 10, none⟩, ⟨Op.fieldAddr 98 (Operand.tmp 2) 2, some 11, some (some 10, false)⟩, ⟨Op.load 3 (Operand.tmp 11), some 12, some (some 10, false)⟩, ⟨Op.fieldAddr 98 (Operand.tmp 2) 3, some 13, some (some 10, false)⟩, ⟨Op.load 3 (Operand.tmp 13), some 14, some (some 10, false)⟩, ⟨Op.call { callee := Callee.builtin Builtin.max, args := #[Operand.tmp 12, Operand.tmp 14], argTypes := #[3, 3] }, some 15, some (some 10, false)⟩, ⟨Op.load 3 (Operand.tmp 1), some 16, some (some 10, false)⟩, ⟨Op.binOp BinOp.geq 3 (Operand.tmp 15) (Operand.tmp 16) 3, some 17, some (some 10, false)⟩, ⟨Op.pick (Operand.tmp 10) (Operand.const (Value.bool true)) (Operand.tmp 17), some 18, none⟩, ⟨Op.assign (Operand.tmp 18), some 3, none⟩] mixed (by decide) rfl fun K hK => ?_
  try simp
  repeat' first | (simp only [evL_cons, evL_guard]; simp) | (refine gsplit (fun hg => ?_) (fun hg => ?_) <;> (try simp at hg) <;> (try simp)) | (with_reducible assumption) | omega | refine And.intro ?_ ?_ | intro _
  all_goals (try simp only [evL_nil]; refine hK _ _ ?_; clear hK K)
  all_goals
    simp only [Then_normal]
    refine Run.ret ?_
    try simp only [Then_ret, Blok_ret]
    first | (simp_all [badE]; done) | (simp_all [badE]; intro h; omega)

theorem findE_ok (nn : Bool) (l : List EdgeT) (fn : FuncId) (x : D) (p : EdgeT → Bool) (hp : ∀ e ∈ l, SndW P fn [.d (.ag (encE e)), .pt 0 0 0 0] [(0, .vals [.d x])] (.bool (p e)) [(0, .vals [.d x])]) :
    SndW P 93 [.d (.sl nn (l.map encE)), .fn fn [.pt 0 0 0 0]] [(0, .vals [.d x])] (.int (findS p l)) [(0, .vals [.d x])] := by
  refine SndW.ok 0 rfl (by kernel_rfl) fun hl => ?_
  simp only [D.ok, List.length_map] at hl
  obtain ⟨hl, -⟩ := hl
  refine sndW_of [0] Try.func93 rfl (by kernel_rfl) Try.ntmps93 (by simp) (by simp) ?_
  unfold Try.f93
  simp only [List.cons_append, List.nil_append, List.length_cons, List.length_nil, Nat.reduceAdd, Nat.reduceSub, List.replicate]
  refine Run.seq ?_
  refine Run.opsL false [⟨Op.assign (Operand.const (Value.int IntKind.i64 0)), some 4, none⟩] mixed (by decide) rfl fun K hK => ?_
  try simp
  repeat' first | (simp only [evL_cons, evL_guard]; simp) | (refine gsplit (fun hg => ?_) (fun hg => ?_) <;> (try simp at hg) <;> (try simp)) | (with_reducible assumption) | omega | refine And.intro ?_ ?_ | intro _
  all_goals (try simp only [evL_nil]; refine hK _ _ ?_; clear hK K)
  simp only [Then_normal]
  refine Run.seq ?_
  refine Run.seq ?_
  refine Run.opsL false [⟨Op.move (Operand.tmp 0), some 6, none⟩, ⟨Op.call { callee := Callee.builtin Builtin.len, args := #[Operand.tmp 6], argTypes := #[27] }, some 7, none⟩, ⟨Op.move (Operand.const (Value.int IntKind.i64 0)), some 8, none⟩] mixed (by decide) rfl fun K hK => ?_
  try simp
  repeat' first | (simp only [evL_cons, evL_guard]; simp) | (refine gsplit (fun hg => ?_) (fun hg => ?_) <;> (try simp at hg) <;> (try simp)) | (with_reducible assumption) | omega | refine And.intro ?_ ?_ | intro _
  all_goals (try simp only [evL_nil]; refine hK _ _ ?_; clear hK K)
  simp only [Then_normal]
  refine Run.block ?_
  refine Run.loopO [4, 5, 8, 9, 10, 11, 12, 13, 14, 15, 16, 17, 18] (fun (i : Nat) => [(8, .int i)]) (fun (i : Nat) => [(0, .vals [.d x])]) (fun (i : Nat) => i ≤ l.length ∧ ∀ j, j < i → p (rdI l (j : Nat)) = false) (fun (i : Nat) => l.length - i) 0 (by simp) (by simp) fun i ⟨hi, hz⟩ => ?_
  simp only [over, List.foldl, List.set]
  refine Run.seq ?_
  refine Run.opsL false [⟨Op.binOp BinOp.lss 3 (Operand.tmp 8) (Operand.tmp 7) 3, some 9, none⟩] mixed (by decide) rfl fun K hK => ?_
  try simp
  repeat' first | (simp only [evL_cons, evL_guard]; simp) | (refine gsplit (fun hg => ?_) (fun hg => ?_) <;> (try simp at hg) <;> (try simp)) | (with_reducible assumption) | omega | refine And.intro ?_ ?_ | intro _
  all_goals (try simp only [evL_nil]; refine hK _ _ ?_; clear hK K)
  simp only [Then_normal]
  refine Run.seq ?_
  refine Run.cond rfl (fun h9 => ?_) (fun h9 => ?_)
  · try simp at h9
    refine Run.skip ?_
    simp only [Then_normal]
    refine Run.seq ?_
    refine Run.block ?_
    refine Run.seq ?_
    refine Run.opsL false [⟨Op.move (Operand.tmp 8), some 10, none⟩, ⟨Op.assign (Operand.tmp 10), some 5, none⟩] mixed (by decide) rfl fun K hK => ?_
    try simp
    repeat' first | (simp only [evL_cons, evL_guard]; simp [h9]) | (refine gsplit (fun hg => ?_) (fun hg => ?_) <;> (try simp at hg) <;> (try simp [h9])) | (with_reducible assumption) | omega | refine And.intro ?_ ?_ | intro _
    all_goals (try simp only [evL_nil]; refine hK _ _ ?_; clear hK K)
    simp only [Then_normal]
    refine Run.seq ?_
    refine Run.opsL true [⟨Op.move (Operand.tmp 1), some 11, none⟩, ⟨Op.move (Operand.tmp 0), some 12, none⟩, ⟨Op.move (Operand.tmp 5), some 13, none⟩, ⟨Op.indexAddr 27 (Operand.tmp 12) (Operand.tmp 13), some 14, none⟩, ⟨Op.load 98 (Operand.tmp 14), some 15, none⟩, ⟨Op.call { callee := Callee.value (Operand.tmp 11), args := #[Operand.tmp 15], argTypes := #[98] }, some 16, none⟩] mixed (by decide) rfl fun K hK => ?_
    try simp
    repeat' first | (refine ecallW [0] (hp _ (rdI_mem (l := l) (i := i) (by omega) (by omega))) (by simp) (by simp) (by simp) ?_) | (simp only [evL_cons, evL_guard]; simp [h9]) | (refine gsplit (fun hg => ?_) (fun hg => ?_) <;> (try simp at hg) <;> (try simp [h9])) | (with_reducible assumption) | omega | refine And.intro ?_ ?_ | intro _
    all_goals (try simp only [evL_nil]; refine hK _ _ ?_; clear hK K)
    simp only [Then_normal]
    refine Run.cond rfl (fun h16 => ?_) (fun h16 => ?_)
    · try simp at h16
      refine Run.seq ?_
      refine Run.opsL false [⟨Op.move (Operand.tmp 5), some 17, none⟩, ⟨Op.assign (Operand.tmp 17), some 4, none⟩] mixed (by decide) rfl fun K hK => ?_
      try simp
      repeat' first | (simp only [evL_cons, evL_guard]; simp [h9, h16]) | (refine gsplit (fun hg => ?_) (fun hg => ?_) <;> (try simp at hg) <;> (try simp [h9, h16])) | (with_reducible assumption) | omega | refine And.intro ?_ ?_ | intro _
      all_goals (try simp only [evL_nil]; refine hK _ _ ?_; clear hK K)
      simp only [Then_normal]
      refine Run.ret ?_
      try simp only [Then_ret, Blok_ret]
      first
        | (have e := findS_some h9 hz h16; simp [e]; done)
        | (have e := findS_none (p := p) (l := l) (fun j hj => hz j (by omega)); simp [e])
    · try simp at h16
      refine Run.skip ?_
      simp only [Blok_normal]
      simp only [Then_normal]
      refine Run.opsL false [⟨Op.binOp BinOp.add 3 (Operand.tmp 8) (Operand.const (Value.int IntKind.i64 1)) 3, some 18, none⟩, ⟨Op.move (Operand.tmp 18), some 8, none⟩] mixed (by decide) rfl fun K hK => ?_
      try simp
      repeat' first | (simp only [evL_cons, evL_guard]; simp [h9, h16]) | (refine gsplit (fun hg => ?_) (fun hg => ?_) <;> (try simp at hg) <;> (try simp [h9, h16])) | (with_reducible assumption) | omega | refine And.intro ?_ ?_ | intro _
      all_goals (try simp only [evL_nil]; refine hK _ _ ?_; clear hK K)
      refine ⟨i + 1, ⟨by omega, fun j hj => ?_⟩, by omega, ?_⟩
      · by_cases e : j = i
        · subst e; exact h16
        · exact hz j (by omega)
      · simp (disch := omega) [wrap_id]
  · try simp at h9
    refine Run.exit ?_
    simp (decide := true) only [Then_exit, Blok_exit, if_true, if_false]
    simp only [Then_normal]
    refine Run.seq ?_
    refine Run.opsL false [⟨Op.assign (Operand.const (Value.int IntKind.i64 (-1))), some 4, none⟩] mixed (by decide) rfl fun K hK => ?_
    try simp
    repeat' first | (simp only [evL_cons, evL_guard]; simp [h9]) | (refine gsplit (fun hg => ?_) (fun hg => ?_) <;> (try simp at hg) <;> (try simp [h9])) | (with_reducible assumption) | omega | refine And.intro ?_ ?_ | intro _
    all_goals (try simp only [evL_nil]; refine hK _ _ ?_; clear hK K)
    simp only [Then_normal]
    refine Run.ret ?_
    try simp only [Then_ret, Blok_ret]
    first
      | (have e := findS_some h9 hz h16; simp [e]; done)
      | (have e := findS_none (p := p) (l := l) (fun j hj => hz j (by omega)); simp [e])

theorem anyE_ok (nn : Bool) (l : List EdgeT) (fn : FuncId) (x : D) (p : EdgeT → Bool) (hp : ∀ e ∈ l, SndW P fn [.d (.ag (encE e)), .pt 0 0 0 0] [(0, .vals [.d x])] (.bool (p e)) [(0, .vals [.d x])]) :
    SndW P 68 [.d (.sl nn (l.map encE)), .fn fn [.pt 0 0 0 0]] [(0, .vals [.d x])] (.bool (l.any p)) [(0, .vals [.d x])] := by
  refine sndW_of [0] Try.func68 rfl (by kernel_rfl) Try.ntmps68 (by simp) (by simp) ?_
  unfold Try.f68
  simp only [List.cons_append, List.nil_append, List.length_cons, List.length_nil, Nat.reduceAdd, Nat.reduceSub, List.replicate]
  refine Run.seq ?_
  refine Run.opsL false [⟨Op.assign (Operand.const (Value.bool false)), some 4, none⟩] mixed (by decide) rfl fun K hK => ?_
  try simp
  repeat' first | (simp only [evL_cons, evL_guard]; simp) | (refine gsplit (fun hg => ?_) (fun hg => ?_) <;> (try simp at hg) <;> (try simp)) | (with_reducible assumption) | omega | refine And.intro ?_ ?_ | intro _
  all_goals (try simp only [evL_nil]; refine hK _ _ ?_; clear hK K)
  simp only [Then_normal]
  refine Run.seq ?_
  refine Run.opsL true [⟨Op.move (Operand.tmp 0), some 5, none⟩, ⟨Op.move (Operand.tmp 1), some 6, none⟩, ⟨Op.call { callee := Callee.value (Operand.func 93), args := #[Operand.tmp 5, Operand.tmp 6], argTypes := #[27, 139] }, some 7, none⟩, ⟨Op.binOp BinOp.geq 3 (Operand.tmp 7) (Operand.const (Value.int IntKind.i64 0)) 3, some 8, none⟩, ⟨Op.assign (Operand.tmp 8), some 4, none⟩] mixed (by decide) rfl fun K hK => ?_
  try simp
  repeat' first | (refine ecallW [0] (findE_ok nn l fn x p hp) (by simp) (by simp) (by simp) ?_) | (simp only [evL_cons, evL_guard]; simp) | (refine gsplit (fun hg => ?_) (fun hg => ?_) <;> (try simp at hg) <;> (try simp)) | (with_reducible assumption) | omega | refine And.intro ?_ ?_ | intro _
  all_goals (try simp only [evL_nil]; refine hK _ _ ?_; clear hK K)
  simp only [Then_normal]
  refine Run.ret ?_
  try simp only [Then_ret, Blok_ret]
  simp [findS_any]

theorem pattern_ok (c : CoreT) : Snd P 42 [.d (.ag (encC c))] (.bool (patS c.nodes c.edges)) [] := by
  refine snd_of [] Try.func42 rfl (by kernel_rfl) Try.ntmps42 (by simp) ?_
  unfold Try.f42
  simp only [List.cons_append, List.nil_append, List.length_cons, List.length_nil, Nat.reduceAdd, Nat.reduceSub, List.replicate]
  refine Run.seq ?_
  refine Run.opsL false [⟨Op.box 32 (Operand.tmp 0), some 1, none⟩, ⟨Op.assign (Operand.const (Value.bool false)), some 2, none⟩] mixed (by decide) rfl fun K hK => ?_
  try simp
  repeat' first | (simp only [evL_cons, evL_guard]; simp) | (refine gsplit (fun hg => ?_) (fun hg => ?_) <;> (try simp at hg) <;> (try simp)) | (with_reducible assumption) | omega | refine And.intro ?_ ?_ | intro _
  all_goals (try simp only [evL_nil]; refine hK _ _ ?_; clear hK K)
  simp only [Then_normal]
  refine Run.seq ?_
  refine Run.opsL false [⟨Op.fieldAddr 32 (Operand.tmp 1) 0, some 4, none⟩, ⟨Op.load 26 (Operand.tmp 4), some 5, none⟩, ⟨Op.call { callee := Callee.builtin Builtin.len, args := #[Operand.tmp 5], argTypes := #[26] }, some 6, none⟩, ⟨Op.alloc 3, some 3, none⟩, ⟨Op.store 3 (Operand.tmp 3) (Operand.tmp 6), none, none⟩] mixed (by decide) rfl fun K hK => ?_
  try simp
  repeat' first | (simp only [evL_cons, evL_guard]; simp) | (refine gsplit (fun hg => ?_) (fun hg => ?_) <;> (try simp at hg) <;> (try simp)) | (with_reducible assumption) | omega | refine And.intro ?_ ?_ | intro _
  all_goals (try simp only [evL_nil]; refine hK _ _ ?_; clear hK K)
  simp only [Then_normal]
  refine Run.seq ?_
  refine Run.opsL true [⟨Op.load 3 (Operand.tmp 3), some 7, none⟩, ⟨Op.binOp BinOp.geq 3 (Operand.tmp 7) (Operand.const (Value.int IntKind.i64 1)) 3, some 8, none⟩, ⟨Op.move (Operand.tmp 8), some 9, none⟩, ⟨Op.load 3 (Operand.tmp 3), some 10, some (some 9, true)⟩, ⟨Op.binOp BinOp.leq 3 (Operand.tmp 10) (Operand.const (Value.int IntKind.i64 8)) 3, some 11, some (some 9, true)⟩, ⟨Op.pick (Operand.tmp 9) (Operand.tmp 11) (Operand.const (Value.bool false)), some 12, none⟩, ⟨Op.move (Operand.tmp 12), some 13, none⟩, ⟨Op.fieldAddr 32 (Operand.tmp 1) 1, some 14, some (some 13, true)⟩, ⟨Op.load 27 (Operand.tmp 14), some 15, some (some 13, true)⟩, ⟨Op.call { callee := Callee.builtin Builtin.len, args := #[Operand.tmp 15], argTypes := #[27] }, some 16, some (some 13, true)⟩, ⟨Op.binOp BinOp.leq 3 (Operand.tmp 16) (Operand.const (Value.int IntKind.i64 8)) 3, some 17, some (some 13, true)⟩, ⟨Op.pick (Operand.tmp 13) (Operand.tmp 17) (Operand.const (Value.bool false)), some 18, none⟩, ⟨Op.move (Operand.tmp 18), some 19, none⟩, ⟨Op.fieldAddr 32 (Operand.tmp 1) 1, some 20, some (some 19, true)⟩, ⟨Op.load 27 (Operand.tmp 20), some 21, some (some 19, true)⟩, ⟨Op.makeFunc (Fn.func 69) #[] #[Operand.tmp 3], some 22, some (some 19, true)⟩, ⟨Op.call { callee := Callee.value (Operand.func 68), args := #[Operand.tmp 21, Operand.tmp 22], argTypes := #[27, 139] }, some 23, some (some 19, true)⟩, ⟨Op.unOp UnOp.not 4 (Operand.tmp 23), some 24, some (some 19, true)⟩, ⟨Op.pick (Operand.tmp 19) (Operand.tmp 24) (Operand.const (Value.bool false)), some 25, none⟩, ⟨Op.assign (Operand.tmp 25), some 2, none⟩] mixed (by decide) rfl fun K hK => ?_
  try simp
  repeat' first | (refine ecallW [400] (anyE_ok false c.edges 69 (.int c.nodes.length) (badE c.nodes.length) (fun e _ => badE_ok e _)) (by simp) (by simp) (by simp) ?_) | (simp only [evL_cons, evL_guard]; simp) | (refine gsplit (fun hg => ?_) (fun hg => ?_) <;> (try simp at hg) <;> (try simp)) | (with_reducible assumption) | omega | refine And.intro ?_ ?_ | intro _
  all_goals (try simp only [evL_nil]; refine hK _ _ ?_; clear hK K)
  all_goals
    simp only [Then_normal]
    refine Run.ret ?_
    try simp only [Then_ret, Blok_ret]
    first
      | (simp_all [patS]; done)
      | (simp_all [patS]; omega)
      | (simp_all [patS]; intros; omega)


end Go.Proofs.Ytimgbdkgjfbhkaa.Z
end
namespace Go.Proofs.Ytimgbdkgjfbhkaa.Z
open Go Go.Fw
theorem opsF {Q : Exit → St → Prop} {id : Nat} {ops : Array Oper} {draw : Bool} (los : List LOp) {e : Env} {s : Store} (h : ∀ K : Env → Store → Prop, Fin Q K → EvL P (fun _ => false) K los (enterE ops.toList e) (enterS ops.toList s)) (hk : okReg (fun _ => false) draw ops.toList = true := by decide) (hl : ops.toList.map (lite ops.toList) = los := by rfl) : Run P (.region id ops draw) ⟨e, s⟩ Q := Run.opsM false los mixed hk hl h
theorem opsT {Q : Exit → St → Prop} {id : Nat} {ops : Array Oper} {draw : Bool} (los : List LOp) {e : Env} {s : Store} (h : ∀ K : Env → Store → Prop, Fin Q K → EvL P (fun _ => true) K los (enterE ops.toList e) (enterS ops.toList s)) (hk : okReg (fun _ => true) draw ops.toList = true := by decide) (hl : ops.toList.map (lite ops.toList) = los := by rfl) : Run P (.region id ops draw) ⟨e, s⟩ Q := Run.opsM true los mixed hk hl h
abbrev oo0 : List LOp := [⟨Op.box 112 (Operand.tmp 0), some 3, none⟩, ⟨Op.box 48 (Operand.tmp 1), some 4, none⟩, ⟨Op.assign (Operand.const (Value.bool false)), some 6, none⟩]
abbrev oo1 : List LOp := [⟨Op.assign (Operand.const (Value.bool false)), some 6, none⟩]
abbrev oo2 : List LOp := [⟨Op.assign (Operand.const (Value.bool true)), some 6, none⟩]
end Go.Proofs.Ytimgbdkgjfbhkaa.Z
section
set_option maxRecDepth 100000
namespace Go.Proofs.Ytimgbdkgjfbhkaa.Z
open Go Go.Fw
/-- a pattern's edges lie between its nodes -/
def GoodE (c : CoreT) : Prop := ∀ e ∈ c.edges, 0 ≤ e.src ∧ 0 ≤ e.dst ∧ e.src < c.nodes.length ∧ e.dst < c.nodes.length
theorem goodE_of {c : CoreT} (h : patS c.nodes c.edges = true) : GoodE c := by
  intro e he
  simp only [patS, Bool.and_eq_true, Bool.not_eq_true', List.any_eq_false] at h
  have h1 := h.2 e he
  simp only [badE, Bool.or_eq_true, decide_eq_true_eq, not_or] at h1
  split at h1 <;> split at h1 <;> omega
def badEdge (c : CoreT) (p : PlanT) (b : List Bool) : Bool :=
  rdI b (c.nodes.length + rdI p.edges 0) || (!rdI b (if p.back then (rdI c.edges (rdI p.edges 0)).dst else (rdI c.edges (rdI p.edges 0)).src)) || (decide ((rdI c.edges (rdI p.edges 0)).mode = 0) != decide (p.op = 2))
def edgeB (c : CoreT) (p : PlanT) (b : List Bool) : Bool := !decide (p.edges.length ≠ 1 ∨ rdI p.edges 0 < 0 ∨ (c.edges.length : Int) ≤ rdI p.edges 0) && !badEdge c p b
def edgeL (c : CoreT) (p : PlanT) (b : List Bool) : List Bool :=
  if edgeB c p b then (b.set (c.nodes.length + rdI p.edges 0).toNat true).set (if p.back then (rdI c.edges (rdI p.edges 0)).src else (rdI c.edges (rdI p.edges 0)).dst).toNat true else b
@[simp] theorem rdI_toNat {α : Type} [Inhabited α] (l : List α) (i : Int) : rdI l ((i.toNat : Nat) : Int) = rdI l i := by unfold rdI; rw [Int.toNat_natCast]
@[simp] theorem rdI_max {α : Type} [Inhabited α] (l : List α) (i : Int) : rdI l (max i 0) = rdI l i := by unfold rdI; congr 1; omega
theorem encP_ok {p : PlanT} (h : (D.ag (encP p)).ok) : p.kids.length ≤ 9223372036854775807 ∧ p.edges.length ≤ 9223372036854775807 ∧ p.terms.length ≤ 9223372036854775807 := by
  rw [encP_cells] at h
  simp only [D.ok, D.okL, List.length_map] at h
  exact ⟨h.2.1.1, h.2.2.2.1.1, h.2.2.2.2.2.1.1⟩
@[simp] theorem set_encB (l : List Bool) (i : Nat) (v : Bool) : (l.map encB).set i [D.lit (.bool v)] = (l.set i v).map encB := by rw [List.map_set]; rfl
@[simp] theorem set_encI (l : List Int) (i : Nat) (v : Int) : (l.map encI).set i [D.lit (.int .i64 v)] = (l.set i v).map encI := by rw [List.map_set]; rfl
set_option maxHeartbeats 4000000 in
theorem edge_ok (c : CoreT) (p : PlanT) (b : List Bool) (hb : b.length = c.nodes.length + c.edges.length) (hE : GoodE c) : SndW P 70 [.d (.ag (encC c ++ [D.int c.nodes.length])), .d (.ag (encP p)), .rs 0 1 0 b.length] [(0, .data 1 (b.map encB))] (.bool (edgeB c p b)) [(0, .data 1 ((edgeL c p b).map encB))] := by
  obtain ⟨n, hn⟩ : ∃ k, c.nodes.length = k := ⟨_, rfl⟩
  obtain ⟨m, hm⟩ : ∃ m, p.edges.length = m := ⟨_, rfl⟩
  obtain ⟨k, hk⟩ : ∃ k, c.edges.length = k := ⟨_, rfl⟩
  obtain ⟨fr, hfr⟩ : ∃ x, (if p.back then (rdI c.edges (rdI p.edges 0)).dst else (rdI c.edges (rdI p.edges 0)).src) = x := ⟨_, rfl⟩
  obtain ⟨to, hto⟩ : ∃ x, (if p.back then (rdI c.edges (rdI p.edges 0)).src else (rdI c.edges (rdI p.edges 0)).dst) = x := ⟨_, rfl⟩
  rw [hn, hk] at hb
  refine sndW_of [0] Try.func70 rfl (by kernel_rfl) Try.ntmps70 (by simp) (by simp) ?_
  unfold Try.f70
  refine Run.okV 2 rfl fun hL => ?_
  simp only [List.cons_append, List.nil_append, List.length_cons, List.length_nil, Nat.reduceAdd, Nat.reduceSub, List.replicate]
  refine Run.seq ?_
  refine opsF oo0 fun K hK => ?_
  try simp
  repeat' first | ((refine evL_c ?_); simp [-List.map_set, hm, hk, hn, hb, hfr, hto]) | (with_reducible refine And.intro ?_ ?_) | intro _ | (with_reducible assumption) | omega
  all_goals (refine Fin.go hK ?_; clear hK K)
  simp only [Then_normal]
  refine Run.seq ?_
  refine Run.cut [10, 11, 12, 13, 14, 15, 16, 17, 18, 19, 20, 21, 22, 23, 24, 25, 26, 27, 28, 29, 30, 31] [(31, .bool (decide (m ≠ 1 ∨ rdI p.edges 0 < 0 ∨ (k : Int) ≤ rdI p.edges 0)))] [(0, .data 1 (b.map encB)), (400, .vals ((encC c ++ [D.int c.nodes.length]).map .d)), (500, .vals ((encP p).map .d))] ?_ ?_
  · refine opsF [⟨Op.fieldAddr 48 (Operand.tmp 4) 3, some 10, none⟩, ⟨Op.load 46 (Operand.tmp 10), some 11, none⟩, ⟨Op.call { callee := Callee.builtin Builtin.len, args := #[Operand.tmp 11], argTypes := #[46] }, some 12, none⟩, ⟨Op.binOp BinOp.neq 3 (Operand.tmp 12) (Operand.const (Value.int IntKind.i64 1)) 3, some 13, none⟩, ⟨Op.move (Operand.tmp 13), some 14, none⟩, ⟨Op.fieldAddr 48 (Operand.tmp 4) 3, some 15, some (some 14, false)⟩, ⟨Op.load 46 (Operand.tmp 15), some 16, some (some 14, false)⟩, ⟨Op.indexAddr 46 (Operand.tmp 16) (Operand.const (Value.int IntKind.i64 0)), some 17, some (some 14, false)⟩, ⟨Op.load 3 (Operand.tmp 17), some 18, some (some 14, false)⟩, ⟨Op.binOp BinOp.lss 3 (Operand.tmp 18) (Operand.const (Value.int IntKind.i64 0)) 3, some 19, some (some 14, false)⟩, ⟨Op.pick (Operand.tmp 14) (Operand.const (Value.bool true)) (Operand.tmp 19), some 20, none⟩, ⟨Op.move (Operand.tmp 20), some 21, none⟩, ⟨Op.fieldAddr 48 (Operand.tmp 4) 3, some 22, some (some 21, false)⟩, ⟨Op.load 46 (Operand.tmp 22), some 23, some (some 21, false)⟩, ⟨Op.indexAddr 46 (Operand.tmp 23) (Operand.const (Value.int IntKind.i64 0)), some 24, some (some 21, false)⟩, ⟨Op.load 3 (Operand.tmp 24), some 25, some (some 21, false)⟩, ⟨Op.fieldAddr 112 (Operand.tmp 3) 0, some 26, some (some 21, false)⟩, ⟨Op.fieldAddr 32 (Operand.tmp 26) 1, some 27, some (some 21, false)⟩, ⟨Op.load 27 (Operand.tmp 27), some 28, some (some 21, false)⟩, ⟨Op.call { callee := Callee.builtin Builtin.len, args := #[Operand.tmp 28], argTypes := #[27] }, some 29, some (some 21, false)⟩, ⟨Op.binOp BinOp.geq 3 (Operand.tmp 25) (Operand.tmp 29) 3, some 30, some (some 21, false)⟩, ⟨Op.pick (Operand.tmp 21) (Operand.const (Value.bool true)) (Operand.tmp 30), some 31, none⟩] fun K hK => ?_
    try simp
    repeat' first | ((first | refine evL_c ?_ | (refine evL_g rfl ?_; try simp only [gs_tt, gs_ff, gs_tf, gs_ft]) | refine evL_u rfl ?_ | (with_reducible refine gsplit (fun hg => ?_) (fun hg => ?_) <;> try simp at hg)) <;> try simp [-List.map_set, hm, hk, hn, hb, hfr, hto, *]) | (with_reducible refine And.intro ?_ ?_) | intro _ | (with_reducible assumption) | omega
    all_goals (refine Fin.go hK ?_; clear hK K)
    all_goals
      (try simp [hm, hk, hn, hb, hfr, hto]) <;> (first | omega | (simp; done) | (rw [Bool.eq_iff_iff]; simp only [Bool.or_eq_true, Bool.and_eq_true, Bool.not_eq_true', decide_eq_true_eq, decide_eq_false_iff_not]; omega) | (simp_all; done) | (simp_all; omega) | grind)
  · simp only [over, List.foldl, List.set]
    refine Run.cond rfl (fun h31 => ?_) (fun h31 => ?_)
    · replace h31 := of_decide_eq_true h31
      refine Run.seq ?_
      refine opsF oo1 fun K hK => ?_
      try simp
      repeat' first | ((refine evL_c ?_); simp [-List.map_set, hm, hk, hn, hb, hfr, hto]) | (with_reducible refine And.intro ?_ ?_) | intro _ | (with_reducible assumption) | omega
      all_goals (refine Fin.go hK ?_; clear hK K)
      simp only [Then_normal]
      refine Run.ret ?_
      try simp only [Then_ret, Blok_ret]
      first
        | (have e : edgeB c p b = false := by simp [edgeB, hm, hk, h31]
           simp [edgeL, e, hn]; done)
        | (have e : edgeB c p b = false := by simp [edgeB, h73]
           simp [edgeL, e, hn]; done)
        | (have e : edgeB c p b = true := by simp only [edgeB, h73, hm, hk, Bool.not_false, Bool.and_true, Bool.not_eq_true', decide_eq_false_iff_not]; omega
           simp [-List.map_set, edgeL, e, hn, hto]; done)
    · replace h31 := of_decide_eq_false h31
      have hm1 : m = 1 := by omega
      have h0 : 0 ≤ rdI p.edges 0 := by omega
      have h1 : rdI p.edges 0 < k := by omega
      have hG := hE (rdI c.edges (rdI p.edges 0)) (rdI_mem h0 (by omega))
      rw [hn] at hG
      have hf : 0 ≤ fr ∧ fr < n ∧ 0 ≤ to ∧ to < n := by subst hfr; subst hto; split <;> omega
      obtain ⟨hf1, hf2, hf3, hf4⟩ := hf
      have hf5 : fr < (n : Int) + k := by omega
      have hf6 : to < (n : Int) + k := by omega
      have hf7 : fr.toNat < n + k := by omega
      have hf8 : to.toNat < n + k := by omega
      have hf9 : ((n : Int) + rdI p.edges 0).toNat < n + k := by omega
      have hf0 : 0 ≤ (n : Int) + rdI p.edges 0 := by omega
      have hfa : (n : Int) + rdI p.edges 0 < n + k := by omega
      have hw := wrap_id (n := (n : Int) + rdI p.edges 0) (by omega) (by omega)
      refine Run.skip ?_
      simp only [Then_normal]
      refine Run.cut [7, 32, 33, 34, 35, 36, 37, 38, 39, 40] [(7, .pt 800 0 0 0)] [(0, .data 1 (b.map encB)), (400, .vals ((encC c ++ [D.int c.nodes.length]).map .d)), (500, .vals ((encP p).map .d)), (800, .vals ((encE (rdI c.edges (rdI p.edges 0))).map .d))] ?_ ?_
      · refine opsF [⟨Op.fieldAddr 112 (Operand.tmp 3) 0, some 32, none⟩, ⟨Op.fieldAddr 32 (Operand.tmp 32) 1, some 33, none⟩, ⟨Op.load 27 (Operand.tmp 33), some 34, none⟩, ⟨Op.fieldAddr 48 (Operand.tmp 4) 3, some 35, none⟩, ⟨Op.load 46 (Operand.tmp 35), some 36, none⟩, ⟨Op.indexAddr 46 (Operand.tmp 36) (Operand.const (Value.int IntKind.i64 0)), some 37, none⟩, ⟨Op.load 3 (Operand.tmp 37), some 38, none⟩, ⟨Op.indexAddr 27 (Operand.tmp 34) (Operand.tmp 38), some 39, none⟩, ⟨Op.load 98 (Operand.tmp 39), some 40, none⟩, ⟨Op.alloc 98, some 7, none⟩, ⟨Op.store 98 (Operand.tmp 7) (Operand.tmp 40), none, none⟩] fun K hK => ?_
        try simp
        repeat' first | ((refine evL_c ?_); simp [-List.map_set, hm, hk, hn, hb, hfr, hto, hm1, h0, h1, hf1, hf2, hf3, hf5, hf6, hf7, hf8, hf9, hf0, hfa, hw]) | (with_reducible refine And.intro ?_ ?_) | intro _ | (with_reducible assumption) | omega
        all_goals (refine Fin.go hK ?_; clear hK K)
        (try simp [hm, hk, hn, hb, hfr, hto]) <;> (first | omega | (simp; done) | (rw [Bool.eq_iff_iff]; simp only [Bool.or_eq_true, Bool.and_eq_true, Bool.not_eq_true', decide_eq_true_eq, decide_eq_false_iff_not]; omega) | (simp_all; done) | (simp_all; omega) | grind)
      · simp only [over, List.foldl, List.set]
        refine Run.seq ?_
        refine opsF [⟨Op.load 98 (Operand.tmp 7), some 42, none⟩, ⟨Op.fieldAddr 48 (Operand.tmp 4) 4, some 43, none⟩, ⟨Op.load 4 (Operand.tmp 43), some 44, none⟩, ⟨Op.call { callee := Callee.value (Operand.func 94), args := #[Operand.tmp 42, Operand.tmp 44], argTypes := #[98, 4] }, some 45, none⟩, ⟨Op.move (Operand.tmp 45), some 41, none⟩, ⟨Op.extract (Operand.tmp 41) 0, some 46, none⟩, ⟨Op.extract (Operand.tmp 41) 1, some 47, none⟩, ⟨Op.assign (Operand.tmp 46), some 8, none⟩, ⟨Op.assign (Operand.tmp 47), some 9, none⟩] fun K hK => ?_
        try simp
        repeat' first | (refine ecall (ends_ok (rdI c.edges (rdI p.edges 0)) p.back) rfl ?_) | ((refine evL_c ?_); simp [-List.map_set, hm, hk, hn, hb, hfr, hto, hm1, h0, h1, hf1, hf2, hf3, hf5, hf6, hf7, hf8, hf9, hf0, hfa, hw]) | (with_reducible refine And.intro ?_ ?_) | intro _ | (with_reducible assumption) | omega
        all_goals (refine Fin.go hK ?_; clear hK K)
        simp only [Then_normal]
        refine Run.seq ?_
        refine Run.cut [48, 49, 50, 51, 52, 53, 54, 55, 56, 57, 58, 59, 60, 61, 62, 63, 64, 65, 66, 67, 68, 69, 70, 71, 72, 73] [(73, .bool (badEdge c p b))] [(0, .data 1 (b.map encB)), (400, .vals ((encC c ++ [D.int c.nodes.length]).map .d)), (500, .vals ((encP p).map .d)), (800, .vals ((encE (rdI c.edges (rdI p.edges 0))).map .d))] ?_ ?_
        · refine opsF [⟨Op.move (Operand.tmp 2), some 48, none⟩, ⟨Op.fieldAddr 112 (Operand.tmp 3) 1, some 49, none⟩, ⟨Op.load 3 (Operand.tmp 49), some 50, none⟩, ⟨Op.fieldAddr 48 (Operand.tmp 4) 3, some 51, none⟩, ⟨Op.load 46 (Operand.tmp 51), some 52, none⟩, ⟨Op.indexAddr 46 (Operand.tmp 52) (Operand.const (Value.int IntKind.i64 0)), some 53, none⟩, ⟨Op.load 3 (Operand.tmp 53), some 54, none⟩, ⟨Op.binOp BinOp.add 3 (Operand.tmp 50) (Operand.tmp 54) 3, some 55, none⟩, ⟨Op.indexAddr 34 (Operand.tmp 48) (Operand.tmp 55), some 56, none⟩, ⟨Op.load 4 (Operand.tmp 56), some 57, none⟩, ⟨Op.move (Operand.tmp 57), some 58, none⟩, ⟨Op.move (Operand.tmp 2), some 59, some (some 58, false)⟩, ⟨Op.move (Operand.tmp 8), some 60, some (some 58, false)⟩, ⟨Op.indexAddr 34 (Operand.tmp 59) (Operand.tmp 60), some 61, some (some 58, false)⟩, ⟨Op.load 4 (Operand.tmp 61), some 62, some (some 58, false)⟩, ⟨Op.unOp UnOp.not 4 (Operand.tmp 62), some 63, some (some 58, false)⟩, ⟨Op.pick (Operand.tmp 58) (Operand.const (Value.bool true)) (Operand.tmp 63), some 64, none⟩, ⟨Op.move (Operand.tmp 64), some 65, none⟩, ⟨Op.fieldAddr 98 (Operand.tmp 7) 4, some 66, some (some 65, false)⟩, ⟨Op.load 96 (Operand.tmp 66), some 67, some (some 65, false)⟩, ⟨Op.binOp BinOp.eql 96 (Operand.tmp 67) (Operand.const (Value.int IntKind.i64 0)) 96, some 68, some (some 65, false)⟩, ⟨Op.fieldAddr 48 (Operand.tmp 4) 0, some 69, some (some 65, false)⟩, ⟨Op.load 44 (Operand.tmp 69), some 70, some (some 65, false)⟩, ⟨Op.binOp BinOp.eql 44 (Operand.tmp 70) (Operand.const (Value.int IntKind.i64 2)) 44, some 71, some (some 65, false)⟩, ⟨Op.binOp BinOp.neq 4 (Operand.tmp 68) (Operand.tmp 71) 4, some 72, some (some 65, false)⟩, ⟨Op.pick (Operand.tmp 65) (Operand.const (Value.bool true)) (Operand.tmp 72), some 73, none⟩] fun K hK => ?_
          try simp
          repeat' first | ((first | refine evL_c ?_ | (refine evL_g rfl ?_; try simp only [gs_tt, gs_ff, gs_tf, gs_ft]) | refine evL_u rfl ?_ | (with_reducible refine gsplit (fun hg => ?_) (fun hg => ?_) <;> try simp at hg)) <;> try simp [-List.map_set, hm, hk, hn, hb, hfr, hto, hm1, h0, h1, hf1, hf2, hf3, hf5, hf6, hf7, hf8, hf9, hf0, hfa, hw]) | (with_reducible refine And.intro ?_ ?_) | intro _ | (with_reducible assumption) | omega
          all_goals (refine Fin.go hK ?_; clear hK K)
          all_goals
            (try simp [hm, hk, hn, hb, hfr, hto, badEdge]) <;> (first | omega | (simp; done) | (rw [Bool.eq_iff_iff]; simp only [Bool.or_eq_true, Bool.and_eq_true, Bool.not_eq_true', decide_eq_true_eq, decide_eq_false_iff_not]; omega) | (simp_all; done) | (simp_all; omega) | grind)
        · simp only [over, List.foldl, List.set]
          refine Run.cond rfl (fun h73 => ?_) (fun h73 => ?_)
          · try simp at h73
            refine Run.seq ?_
            refine opsF oo1 fun K hK => ?_
            try simp
            repeat' first | ((refine evL_c ?_); simp [-List.map_set, hm, hk, hn, hb, hfr, hto, hm1, h0, h1, hf1, hf2, hf3, hf5, hf6, hf7, hf8, hf9, hf0, hfa, hw]) | (with_reducible refine And.intro ?_ ?_) | intro _ | (with_reducible assumption) | omega
            all_goals (refine Fin.go hK ?_; clear hK K)
            simp only [Then_normal]
            refine Run.ret ?_
            try simp only [Then_ret, Blok_ret]
            first
              | (have e : edgeB c p b = false := by simp [edgeB, hm, hk, h31]
                 simp [edgeL, e, hn]; done)
              | (have e : edgeB c p b = false := by simp [edgeB, h73]
                 simp [edgeL, e, hn]; done)
              | (have e : edgeB c p b = true := by simp only [edgeB, h73, hm, hk, Bool.not_false, Bool.and_true, Bool.not_eq_true', decide_eq_false_iff_not]; omega
                 simp [-List.map_set, edgeL, e, hn, hto]; done)
          · try simp at h73
            refine Run.skip ?_
            simp only [Then_normal]
            refine Run.seq ?_
            refine opsF [⟨Op.move (Operand.tmp 2), some 74, none⟩, ⟨Op.fieldAddr 112 (Operand.tmp 3) 1, some 75, none⟩, ⟨Op.load 3 (Operand.tmp 75), some 76, none⟩, ⟨Op.fieldAddr 48 (Operand.tmp 4) 3, some 77, none⟩, ⟨Op.load 46 (Operand.tmp 77), some 78, none⟩, ⟨Op.indexAddr 46 (Operand.tmp 78) (Operand.const (Value.int IntKind.i64 0)), some 79, none⟩, ⟨Op.load 3 (Operand.tmp 79), some 80, none⟩, ⟨Op.binOp BinOp.add 3 (Operand.tmp 76) (Operand.tmp 80) 3, some 81, none⟩, ⟨Op.move (Operand.tmp 2), some 82, none⟩, ⟨Op.move (Operand.tmp 9), some 83, none⟩, ⟨Op.indexAddr 34 (Operand.tmp 74) (Operand.tmp 81), some 84, none⟩, ⟨Op.store 4 (Operand.tmp 84) (Operand.const (Value.bool true)), none, none⟩, ⟨Op.indexAddr 34 (Operand.tmp 82) (Operand.tmp 83), some 85, none⟩, ⟨Op.store 4 (Operand.tmp 85) (Operand.const (Value.bool true)), none, none⟩] fun K hK => ?_
            try simp
            repeat' first | ((refine evL_c ?_); simp [-List.map_set, hm, hk, hn, hb, hfr, hto, hm1, h0, h1, hf1, hf2, hf3, hf5, hf6, hf7, hf8, hf9, hf0, hfa, hw]) | (with_reducible refine And.intro ?_ ?_) | intro _ | (with_reducible assumption) | omega
            all_goals (refine Fin.go hK ?_; clear hK K)
            simp only [Then_normal]
            refine Run.seq ?_
            refine opsF oo2 fun K hK => ?_
            try simp
            repeat' first | ((refine evL_c ?_); simp [-List.map_set, hm, hk, hn, hb, hfr, hto, hm1, h0, h1, hf1, hf2, hf3, hf5, hf6, hf7, hf8, hf9, hf0, hfa, hw]) | (with_reducible refine And.intro ?_ ?_) | intro _ | (with_reducible assumption) | omega
            all_goals (refine Fin.go hK ?_; clear hK K)
            simp only [Then_normal]
            refine Run.ret ?_
            try simp only [Then_ret, Blok_ret]
            first
              | (have e : edgeB c p b = false := by simp [edgeB, hm, hk, h31]
                 simp [edgeL, e, hn]; done)
              | (have e : edgeB c p b = false := by simp [edgeB, h73]
                 simp [edgeL, e, hn]; done)
              | (have e : edgeB c p b = true := by simp only [edgeB, h73, hm, hk, Bool.not_false, Bool.and_true, Bool.not_eq_true', decide_eq_false_iff_not]; omega
                 simp [-List.map_set, edgeL, e, hn, hto]; done)


end Go.Proofs.Ytimgbdkgjfbhkaa.Z
end
section
namespace Go.Proofs.Ytimgbdkgjfbhkaa.Z
open Go Go.Fw
theorem put_ints {w w' : World} {X : Nat → Prop} {m : Nat → Option Nat} {b : Nat} {cs : Array Value} {ty : TypeId} {fr : Nat × Nat} {l ts : List Int} (hm : m 0 = some b) (hcs : w.heap[b]? = some (.cells cs ty fr)) (hfree : Free fr cs.size) (hlen : l.length ≤ cs.size)
    (hX : ∀ x, X x → x < w.heap.size ∧ ¬ Own m [(0, .data 1 (l.map encI))] x) (hg : w.grownBy w' (some b)) (hw' : w'.heap[b]? = some (.cells (Go.Sort.putCells (Value.int .i64) 0 ts.toArray cs) ty fr)) (hts : ts.length = l.length) (hok : ∀ x ∈ ts, okLit (.int .i64 x) = true) :
    Ext (Own m [(0, .data 1 (l.map encI))]) w w' ∧ SRel w' X m [(0, .data 1 (ts.map encI))] ∧ ∀ r : Nat, r = b → Own m [(0, .data 1 (l.map encI))] r := by
  have hown : ∀ r : Nat, r = b → Own m [(0, .data 1 (l.map encI))] r := fun r e => ⟨0, _, rfl, by rw [e]; exact hm⟩
  have hsz : (Go.Sort.putCells (Value.int .i64) 0 ts.toArray cs).size = cs.size := by simp [Go.Sort.putCells]
  refine ⟨⟨hg.os, hg.tape, hg.output, hg.size, fun r hr hn => hg.block r hr (fun e => hn (hown r (Option.some.inj e))), fun r c t f hc => ?_⟩, ⟨fun id blk hi => ?_, fun i j r h1 h2 h3 h4 => ?_⟩, hown⟩
  · by_cases e : r = b
    · subst e
      rw [hcs] at hc
      obtain ⟨rfl, rfl, rfl⟩ := Obj.cells.inj (Option.some.inj hc)
      exact ⟨_, hw', hsz⟩
    · have hlt : r < w.heap.size := (Array.getElem?_eq_some_iff.1 hc).1
      exact ⟨c, by rw [hg.block r hlt (fun q => e (Option.some.inj q))]; exact hc, rfl⟩
  · have hi0 : id = 0 ∧ blk = .data 1 (ts.map encI) := by
      simp only [getB] at hi
      split at hi
      · rename_i e; exact ⟨e.symm, (Option.some.inj hi).symm⟩
      · cases hi
    obtain ⟨rfl, rfl⟩ := hi0
    refine .inl ⟨b, hm, _, ty, fr, hw', by rw [hsz]; exact hfree, by rw [hsz, List.length_map]; omega, fun r hr => ?_, fun i j r x hr hx => ?_⟩
    · obtain ⟨v, _, rfl⟩ := List.mem_map.1 hr; rfl
    · rw [List.getElem?_map] at hr
      obtain ⟨v, hv, rfl⟩ := Option.map_eq_some_iff.1 hr
      have hlt := (List.getElem?_eq_some_iff.1 hv).1
      have hj : j = 0 ∧ x = D.int v := by
        cases j with
        | zero => simp at hx; exact ⟨rfl, hx.symm⟩
        | succ j => simp at hx
      obtain ⟨rfl, rfl⟩ := hj
      refine ⟨.int .i64 v, ?_, rfl, .lit _ (hok v (List.mem_of_getElem? hv))⟩
      have hc : i < cs.size := by omega
      simp only [Nat.mul_one, Nat.add_zero, Go.Sort.putCells, Array.getElem?_mapIdx, Array.getElem?_eq_getElem hc, Option.map_some]
      rw [if_pos ⟨Nat.zero_le _, by simpa using hlt⟩]
      simp [hlt, (List.getElem?_eq_some_iff.1 hv).2]
  · have q : ∀ k, (getB [(0, Blk.data 1 (ts.map encI))] k).isSome = true → k = 0 := fun k hk => by
      simp only [getB] at hk
      split at hk
      · rename_i e; exact e.symm
      · cases hk
    rw [q i h3, q j h4]
/-- a row that a call is given, as the kit's contracts read it -/
theorem row_in {w : World} {X : Nat → Prop} {m : Nat → Option Nat} {l : List Int} {v : Value} (hS : SRel w X m [(0, .data 1 (l.map encI))]) (hv : VRel w (Live X m [(0, .data 1 (l.map encI))]) m (.rs 0 1 0 l.length) v) (hl : 0 < l.length) :
    ∃ b cap cs ty fr, v = .slice (some ⟨b, 0, none⟩) l.length cap ∧ m 0 = some b ∧ l.length ≤ cap ∧ cap ≤ cs.size ∧ w.heap[b]? = some (.cells cs ty fr) ∧ Free fr cs.size ∧ Go.Sort.Holds (Value.int .i64) w b 0 l.toArray ∧ ∀ x ∈ l, okLit (.int .i64 x) = true := by
  generalize hn : l.length = n at hv
  cases hv with
  | rsE => omega
  | rs id sz off len cap b cs ty fr hm hc hx hh hs =>
    rcases hS.blk 0 _ rfl with ⟨b', h1, cs', ty', fr', h2, h3, h4, h5, h6⟩ | ⟨h1, _⟩
    · rw [hm] at h1
      obtain rfl := Option.some.inj h1
      rw [hh] at h2
      obtain ⟨rfl, rfl, rfl⟩ := Obj.cells.inj (Option.some.inj h2)
      have hcell : ∀ j (hj : j < l.length), cs[j]? = some (.int .i64 l[j]) ∧ okLit (.int .i64 l[j]) = true := fun j hj => by
        obtain ⟨v, q1, q2, q3⟩ := h6 j 0 (encI l[j]) (D.int l[j]) (by simp [hj]) (by simp)
        cases q3 with
        | lit _ h => exact ⟨by simpa using q1, h⟩
      refine ⟨b, cap, cs, ty, fr, rfl, hm, by omega, by omega, hh, h3, fun j hj => ?_, fun x hx => ?_⟩
      · have hj' : j < l.length := by simpa using hj
        refine ⟨?_, ?_⟩
        · simp only [World.cell?, hh, Nat.zero_add]
          simp only [Option.isSome_none, Bool.false_eq_true, if_false]
          rw [(hcell j hj').1]
          simp [hj']
        · have hlt : j < cs.size := by
            have := (hcell j hj').1
            exact (Array.getElem?_eq_some_iff.1 this).1
          have := h3 j hlt
          simp only [World.frozen?, hh, Nat.zero_add]
          simpa using this
      · obtain ⟨j, hj⟩ := List.getElem?_of_mem hx
        have hlt := (List.getElem?_eq_some_iff.1 hj).1
        have := (hcell j hlt).2
        rw [(List.getElem?_eq_some_iff.1 hj).2] at this
        exact this
    · rw [hm] at h1; cases h1
theorem keep_nil {w : World} {X : Nat → Prop} {m : Nat → Option Nat} {s : Store} : Ext (Own m s) w w := ⟨rfl, rfl, rfl, Nat.le_refl _, fun _ _ _ => rfl, fun _ c _ _ h => ⟨c, h, rfl⟩⟩
theorem sort_ok (l : List Int) (hl : l.length < 4611686018427387904) : SndW P 103 [.rs 0 1 0 l.length] [(0, .data 1 (l.map encI))] (.tup []) [(0, .data 1 ((l.mergeSort fun x y => decide (x ≤ y)).map encI))] := by
  refine ⟨by kernel_rfl, fun w X m0 vs hX hS hargs => ?_⟩
  obtain ⟨v, tl, rfl, hv, ht⟩ := hargs.head
  have : tl = [] := by have := ht.len; simpa using this
  subst this
  by_cases hp : 0 < l.length
  · obtain ⟨b, cap, cs, ty, fr, rfl, hm, hc, hcs, hh, hf, hH, hk⟩ := row_in hS hv hp
    have hb : b < w.heap.size := (Array.getElem?_eq_some_iff.1 hh).1
    refine (Go.Proofs.Try.slices_Sort_int b 0 cap l w hH hb hl).mono ?_
    rintro e w' ⟨rfl, n, os, rfl⟩
    obtain ⟨h1, h2, h3⟩ := put_ints (ts := l.mergeSort fun x y => decide (x ≤ y)) hm hh hf (by omega) hX (grownBy_sortedI _) (heap_sortedI _ hh) (by simp) (fun x hx => hk x (by simpa using hx))
    refine ⟨_, m0, rfl, h1, .tup [] [] rfl (fun j x v h => by simp at h), h2, fun r hr => ?_, fun j _ _ => rfl⟩
    obtain ⟨i, blk, g1, g2⟩ := hr
    simp only [getB] at g1
    split at g1
    · rename_i e; subst e; rw [hm] at g2; exact .inl (h3 r (Option.some.inj g2).symm)
    · cases g1
  · obtain rfl : l = [] := by cases l with
      | nil => rfl
      | cons _ _ => simp at hp
    obtain ⟨A, cap, rfl⟩ : ∃ A cap, v = .slice A 0 cap := by
      generalize hn : ([] : List Int).length = n at hv
      cases hv with
      | rsE => exact ⟨_, _, rfl⟩
      | rs => simp at hn; subst hn; exact ⟨_, _, rfl⟩
    refine (Go.Proofs.Try.slices_Sort_int_none A cap w).mono ?_
    rintro e w' ⟨rfl, rfl⟩
    refine ⟨_, m0, rfl, keep_nil (X := X), .tup [] [] rfl (fun j x v h => by simp at h), by simpa using hS, fun r hr => .inl (by simpa using hr), fun j _ _ => rfl⟩
theorem compact_mem {l : List Int} {x : Int} (h : x ∈ Go.Lib.compact l) : x ∈ l := by
  unfold Go.Lib.compact Go.Lib.compactUpTo at h
  obtain ⟨j, hj, rfl⟩ := List.mem_map.1 h
  have hlt : j < l.length := by have := (List.mem_filter.1 hj).1; simpa using this
  simp [hlt]
theorem compact_ok (l : List Int) (hl : l.length ≤ 9223372036854775807) : SndW P 104 [.rs 0 1 0 l.length] [(0, .data 1 (l.map encI))] (.rs 0 1 0 (Go.Lib.compact l).length) [(0, .data 1 ((Go.Lib.compact l ++ List.replicate (l.length - (Go.Lib.compact l).length) 0).map encI))] := by
  refine ⟨by kernel_rfl, fun w X m0 vs hX hS hargs => ?_⟩
  obtain ⟨v, tl, rfl, hv, ht⟩ := hargs.head
  have : tl = [] := by have := ht.len; simpa using this
  subst this
  by_cases hp : 0 < l.length
  · obtain ⟨b, cap, cs, ty, fr, rfl, hm, hc, hcs, hh, hf, hH, hk⟩ := row_in hS hv hp
    have hb : b < w.heap.size := (Array.getElem?_eq_some_iff.1 hh).1
    have hcl := Go.Lib.compact_length_le l
    refine (Go.Proofs.Try.slices_Compact_int b 0 cap l w hH hl hc).mono ?_
    rintro e w' ⟨rfl, q, rfl⟩
    have g1 := grownBy_sortedI (w := w) (g := b) (n := q) (os := #[]) (Go.Lib.compact l ++ List.replicate (l.length - (Go.Lib.compact l).length) 0).toArray
    have g2 := heap_sortedI (n := q) (os := #[]) (Go.Lib.compact l ++ List.replicate (l.length - (Go.Lib.compact l).length) 0).toArray hh
    rw [Go.Sort.grow_empty] at g1 g2
    obtain ⟨h1, h2, h3⟩ := put_ints (ts := Go.Lib.compact l ++ List.replicate (l.length - (Go.Lib.compact l).length) 0) hm hh hf (by omega) hX g1 g2 (by simp; omega) (fun x hx => by
      rcases List.mem_append.1 hx with hx | hx
      · exact hk x (compact_mem hx)
      · rw [(List.mem_replicate.1 hx).2]; rfl)
    have hsz : (Go.Sort.putCells (Value.int .i64) 0 (Go.Lib.compact l ++ List.replicate (l.length - (Go.Lib.compact l).length) 0).toArray cs).size = cs.size := by simp [Go.Sort.putCells]
    refine ⟨_, m0, rfl, h1, VRel.rs 0 1 0 _ cap b _ ty fr hm (by omega) (by omega) g2 (by rw [hsz]; omega), h2, fun r hr => ?_, fun j _ _ => rfl⟩
    obtain ⟨i, blk, g1, g2⟩ := hr
    simp only [getB] at g1
    split at g1
    · rename_i e; subst e; rw [hm] at g2; exact .inl (h3 r (Option.some.inj g2).symm)
    · cases g1
  · obtain rfl : l = [] := by cases l with
      | nil => rfl
      | cons _ _ => simp at hp
    obtain ⟨A, cap, rfl⟩ : ∃ A cap, v = .slice A 0 cap := by
      generalize hn : ([] : List Int).length = n at hv
      cases hv with
      | rsE => exact ⟨_, _, rfl⟩
      | rs => simp at hn; subst hn; exact ⟨_, _, rfl⟩
    refine (Go.Proofs.Try.slices_Compact_int_empty A cap w).mono ?_
    rintro e w' ⟨rfl, rfl⟩
    exact ⟨_, m0, rfl, keep_nil (X := X), hv, hS, fun r hr => .inl hr, fun j _ _ => rfl⟩
end Go.Proofs.Ytimgbdkgjfbhkaa.Z
end
