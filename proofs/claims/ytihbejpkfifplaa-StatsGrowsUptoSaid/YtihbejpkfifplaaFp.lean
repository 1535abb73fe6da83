/- What a function answers; an operation's step, and that the model takes it. -/
import Derived.Test.YtihbejpkfifplaaFof
set_option linter.unusedVariables false
set_option linter.unusedSimpArgs false
namespace Go.Fw
variable {P : Program}

/-- a function with a Go body -/
def goFn (P : Program) (f : FuncId) : Bool := match P.funcs[f]? with
  | some fn => fn.name != "runtime.NumGoroutine" && fn.body.isSome
  | none => false
/-- A FUNCTION's ANSWER, of what names no block: the result, and the blocks that it leads to (numbered from 0); all that was stays as it was. -/
def Snd (P : Program) (f : FuncId) (args : List V) (r : V) (τ : Store) : Prop := goFn P f = true ∧
  ∀ (w : World) (X : Nat → Prop) (vs : List Value), (∀ b, X b → b < w.heap.size) → All2 (VRel w X (fun _ => none)) args vs →
    Calls P f vs.toArray w fun x w' => ∃ v m', x = .returned v ∧ Ext (fun _ => False) w w' ∧ VRel w' (Live X m' τ) m' r v ∧ SRel w' X m' τ ∧ ∀ b, Own m' τ b → w.heap.size ≤ b

/-! blocks of a call, numbered anew -/
mutual
def V.shift (k : Nat) : V → V
  | .top => .top
  | .d x => .d x
  | .rs id sz off len => .rs (k + id) sz off len
  | .pt id sz row col => .pt (k + id) sz row col
  | .mp id => .mp (k + id)
  | .fn f capt => .fn f (V.shiftL k capt)
  | .ag cells => .ag (V.shiftL k cells)
  | .tup vs => .tup (V.shiftL k vs)
def V.shiftL (k : Nat) : List V → List V
  | [] => []
  | v :: r => v.shift k :: V.shiftL k r
end
def Blk.shift (k : Nat) : Blk → Blk
  | .vals cells => .vals (V.shiftL k cells)
  | .mp ks vs => .mp ks (V.shiftL k vs)
  | .data sz rows => .data sz rows
def addS (s : Store) (k : Nat) : Store → Store
  | [] => s
  | (i, b) :: r => putB (addS s k r) (k + i) (b.shift k)
def big (i : Nat) : Bool := decide (100 ≤ i)
def okB : Blk → Bool
  | .vals cells => !V.menL big cells
  | .mp _ vs => !V.menL big vs
  | .data _ _ => true
def okT : Store → Bool
  | [] => true
  | (i, b) :: r => !big i && okB b && okT r
def okIds (r : V) (τ : Store) : Bool := !r.men big && okT τ

theorem shiftL_len (k : Nat) : ∀ l : List V, (V.shiftL k l).length = l.length := by
  intro l
  induction l with
  | nil => rfl
  | cons v r ih => simp [V.shiftL, ih]
theorem shiftL_at (k : Nat) : ∀ (l : List V) (j : Nat), (V.shiftL k l)[j]? = (l[j]?).map (V.shift k) := by
  intro l
  induction l with
  | nil => intro j; simp [V.shiftL]
  | cons v r ih => intro j; cases j <;> simp [V.shiftL, ih]
def joinM (m m' : Nat → Option Nat) (q : Nat) : Nat → Option Nat := fun i => if i / 100 = q then m' (i % 100) else m i
theorem sh_div {q j : Nat} (h : j < 100) : (100 * q + j) / 100 = q ∧ (100 * q + j) % 100 = j := by omega
theorem VRel.shift {w : World} {L L' : Nat → Prop} {m m' : Nat → Option Nat} (q : Nat) (hL : ∀ b, L' b → L b) {x : V} {v : Value} (hx : x.men big = false) (h : VRel w L m' x v) : VRel w L' (joinM m m' q) (x.shift (100 * q)) v := by
  have hid : ∀ id, big id = false → joinM m m' q (100 * q + id) = m' id := fun id hb => by
    have : id < 100 := by simpa [big] using hb
    obtain ⟨e1, e2⟩ := sh_div (q := q) this
    simp [joinM, e1, e2]
  have hD : ∀ {x : D} {v : Value}, DRel w L x v → DRel w L' x v := fun h => h.mono (fun _ _ _ q => q) (fun b hl => .inl (hL b hl))
  induction h with
  | top v => exact .top v
  | d h => exact .d (hD h)
  | rsE id sz => exact .rsE _ sz
  | rs id sz off len cap b cs ty fr hm hc hxl hh hs => exact .rs _ sz off len cap b cs ty fr ((hid id (by simpa [V.men] using hx)).trans hm) hc hxl hh hs
  | pt id sz row col b hm => exact .pt _ sz row col b ((hid id (by simpa [V.men] using hx)).trans hm)
  | mp id b hm => exact .mp _ b ((hid id (by simpa [V.men] using hx)).trans hm)
  | fn f capt vs hl hr ih =>
    refine .fn f _ vs (hl.trans (shiftL_len _ _).symm) fun j x v h1 h2 => ?_
    rw [shiftL_at] at h1
    obtain ⟨y, hy, rfl⟩ := Option.map_eq_some_iff.1 h1
    exact ih j y v hy h2 (menL_at (by simpa [V.men] using hx) hy)
  | ag cells vs hl ho hr ih =>
    refine .ag _ vs (hl.trans (shiftL_len _ _).symm) ho fun j x v h1 h2 => ?_
    rw [shiftL_at] at h1
    obtain ⟨y, hy, rfl⟩ := Option.map_eq_some_iff.1 h1
    exact ih j y v hy h2 (menL_at (by simpa [V.men] using hx) hy)
  | tup cells vs hl hr ih =>
    refine .tup _ vs (hl.trans (shiftL_len _ _).symm) fun j x v h1 h2 => ?_
    rw [shiftL_at] at h1
    obtain ⟨y, hy, rfl⟩ := Option.map_eq_some_iff.1 h1
    exact ih j y v hy h2 (menL_at (by simpa [V.men] using hx) hy)
theorem shift_men {p : Nat → Bool} {k : Nat} (hp : ∀ id, big id = false → p (k + id) = false) (x : V) (h : x.men big = false) : (x.shift k).men p = false := by
  induction x using V.rec (motive_2 := fun l => V.menL big l = false → V.menL p (V.shiftL k l) = false) <;> simp_all [V.shift, V.shiftL, V.men, V.menL]
theorem okT_at {τ : Store} (h : okT τ = true) {i : Nat} {b : Blk} (hi : getB τ i = some b) : i < 100 ∧ okB b = true := by
  induction τ with
  | nil => cases hi
  | cons x r ih =>
    obtain ⟨j, c⟩ := x
    simp only [okT, Bool.and_eq_true] at h
    simp only [getB] at hi
    split at hi
    · rename_i e; subst e; cases hi
      exact ⟨by have := h.1.1; simp [big] at this; omega, h.1.2⟩
    · exact ih h.2 hi
theorem getB_addS (s : Store) (q : Nat) {τ : Store} (h : okT τ = true) (i : Nat) : getB (addS s (100 * q) τ) i = if i / 100 = q ∧ (getB τ (i % 100)).isSome = true then (getB τ (i % 100)).map (Blk.shift (100 * q)) else getB s i := by
  induction τ with
  | nil => simp [addS, getB]
  | cons x r ih =>
    obtain ⟨j, c⟩ := x
    simp only [okT, Bool.and_eq_true] at h
    have hj : j < 100 := by have := h.1.1; simp [big] at this; omega
    simp only [addS, getB_putB, ih h.2, getB]
    by_cases e : i = 100 * q + j
    · subst e
      obtain ⟨e1, e2⟩ := sh_div (q := q) hj
      simp [e1, e2]
    · rw [if_neg e]
      by_cases e1 : i / 100 = q
      · have : j ≠ i % 100 := by omega
        simp [e1, this]
      · simp [e1]

def callOf (op : Op) (ρ : Operand → V) : Option (FuncId × List V) := match op with
  | .call c => match c.callee with
    | .value f => match ρ f with
      | .fn g capt => some (g, c.args.toList.map ρ ++ capt)
      | _ => none
    | _ => none
  | _ => none
theorem callOf_congr {op : Op} {ρ ρ' : Operand → V} (h : ∀ x ∈ op.operands, ρ x = ρ' x) : callOf op ρ = callOf op ρ' := by
  cases op <;> simp only [callOf] <;> simp only [Op.operands] at h
  case call c =>
    split
    · rename_i f hf
      rw [h f (by simp [Call.operands, hf]), map_congr_ops (l := c.args.toList) (f := ρ) (g := ρ') fun x hx => h x (by simp [Call.operands]; exact .inr (by simpa using hx))]
    · rfl

/-- A STEP OF AN OPERATION THAT MAKES OR READS: the value, and the blocks more. -/
def Loc (P : Program) (o : Oper) (ρ : Operand → V) (s : Store) (v : V) (s' : Store) : Prop := match cls o.op with
  | .p => ∃ c, opP P o.op ρ = some (c, v) ∧ c ∧ s' = s
  | .r => ∃ c, opR P o.op ρ s = some (c, v) ∧ c ∧ s' = s
  | .a => ∃ c blk, o.dst.isSome = true ∧ opA P o.op ρ (newId o.dst) = some (c, v, blk) ∧ c ∧ s' = putB s (newId o.dst) blk
  | .c => ∃ g args1 args r τ, o.dst.isSome = true ∧ callOf o.op ρ = some (g, args1) ∧ (args = args1 ∨ (args = V.finL [] s args1 ∧ ∃ x, r = .d (.lit x) ∧ τ = [])) ∧ V.menL (fun _ => true) args = false ∧ Snd P g args r τ ∧ okIds r τ = true ∧ v = r.shift (newId o.dst) ∧ s' = addS s (newId o.dst) τ
  | _ => False
def Do (P : Program) (o : Oper) (E E' : St) : Prop := match cls o.op with
  | .w => ∃ c s', opW P o.op (look E.e) E.s = some (c, s') ∧ c ∧ E' = ⟨put E.e o.dst vundef, s'⟩
  | .x => ∃ cl, o.op = .call cl ∧ cl.callee = .builtin .append ∧ ∃ k c sz n blk, ((∃ all, opAppend P cl (look E.e) E.s = some (k, c, sz, all) ∧ n = all.length ∧ blk = .data sz all) ∨ ∃ all, opAppendV P cl (look E.e) E.s = some (k, c, sz, n, all) ∧ blk = .vals (V.fgtL (hitO k (newId o.dst)) all)) ∧ c ∧
      E' = ⟨put (V.fgtL (hitO k (newId o.dst)) E.e) o.dst (.rs (newId o.dst) sz 0 n), putB (fgtS (hitO k (newId o.dst)) E.s) (newId o.dst) blk⟩
  | _ => ∃ v s', Loc P o (look E.e) E.s v s' ∧ E' = ⟨put E.e o.dst v, s'⟩
/-- does it make blocks? -/
def makes (o : Oper) : Bool := match cls o.op with | .a | .c => true | _ => false
def mine (o : Oper) (i : Nat) : Bool := decide (i / 100 = newId o.dst / 100)

section
variable {w0 : World} {L0 : Par} {X : Nat → Prop} {m : Nat → Option Nat} {e : Env} {s : Store} {a : Act} {w : World}
theorem newId_some {dst : Option Nat} (h : dst.isSome = true) : ∃ q, q ≠ 0 ∧ newId dst = 100 * q := by
  obtain ⟨k, rfl⟩ := Option.isSome_iff_exists.1 h
  exact ⟨k + 1, by omega, rfl⟩
theorem newId_ge (dst : Option Nat) : 90 ≤ newId dst := by
  cases dst <;> simp only [newId] <;> omega
theorem Fresh.sub {p p' : Nat → Bool} (h : Fresh p e s) (hp : ∀ i, p i = false → p' i = false) : Fresh p' e s := by
  have mm : ∀ x : V, x.men p = false → x.men p' = false := fun x => by
    induction x using V.rec (motive_2 := fun l => V.menL p l = false → V.menL p' l = false) <;> simp_all [V.men, V.menL]
  have ml : ∀ l : List V, V.menL p l = false → V.menL p' l = false := fun l h => menL_of fun j x hj => mm x (menL_at h hj)
  refine ⟨ml _ h.env, fun i blk hi => ⟨hp _ (h.sto i blk hi).1, ?_⟩⟩
  have := (h.sto i blk hi).2
  cases blk with
  | vals cells => exact ml _ this
  | mp ks vs => exact ml _ this
  | data sz rows => trivial

/-- WHAT A CALL HAS MADE IS THE CALLER's. -/
theorem Rel.called (h : Rel w0 L0 X m e s a w) {q : Nat} (hq0 : q ≠ 0) (hf : Fresh (fun i => decide (i / 100 = q)) e s) {w' : World} {m' : Nat → Option Nat} {r : V} {v : Value} {τ : Store} (hx : Ext (fun _ => False) w w') (hr : VRel w' (Live (Live X m s) m' τ) m' r v) (hs : SRel w' (Live X m s) m' τ)
    (hn : ∀ b, Own m' τ b → w.heap.size ≤ b) (hk : okIds r τ = true) (dst : Option Nat) : Rel w0 L0 X (joinM m m' q) (Fw.put e dst (r.shift (100 * q))) (addS s (100 * q) τ) (a.put dst v) w' := by
  simp only [okIds, Bool.and_eq_true, Bool.not_eq_true'] at hk
  obtain ⟨hk1, hk2⟩ := hk
  have hm : ∀ i, (fun i => decide (i / 100 = q)) i = false → joinM m m' q i = m i := fun i hi => by
    have : i / 100 ≠ q := by simpa using hi
    simp [joinM, this]
  have hnone : ∀ i, i / 100 = q → getB s i = none := fun i hi => by
    cases hg : getB s i with
    | none => rfl
    | some blk => have := (hf.sto i blk hg).1; simp [hi] at this
  have hget : ∀ i blk, getB (addS s (100 * q) τ) i = some blk → (i / 100 = q ∧ ∃ b0, getB τ (i % 100) = some b0 ∧ blk = b0.shift (100 * q)) ∨ (i / 100 ≠ q ∧ getB s i = some blk) := by
    intro i blk hg
    rw [getB_addS _ _ hk2] at hg
    split at hg
    · rename_i hc
      obtain ⟨b0, h1, h2⟩ := Option.map_eq_some_iff.1 hg
      exact .inl ⟨hc.1, b0, h1, h2.symm⟩
    · by_cases hi : i / 100 = q
      · rw [hnone i hi] at hg; cases hg
      · exact .inr ⟨hi, hg⟩
  have hown : ∀ b, Own (joinM m m' q) (addS s (100 * q) τ) b → Own m s b ∨ Own m' τ b := by
    rintro b ⟨i, blk, h1, h2⟩
    rcases hget i blk h1 with ⟨e1, b0, e2, _⟩ | ⟨e1, e2⟩
    · simp only [joinM, if_pos e1] at h2; exact .inr ⟨_, b0, e2, h2⟩
    · simp only [joinM, if_neg e1] at h2; exact .inl ⟨i, blk, e2, h2⟩
  have hL1 : ∀ b, Live X (joinM m m' q) (addS s (100 * q) τ) b → Live (Live X m s) m' τ b := by
    rintro b (hl | hl)
    · exact .inl (.inl hl)
    · exact (hown b hl).imp .inr id
  have hL2 : ∀ b, Live X (joinM m m' q) (addS s (100 * q) τ) b → Live X m s b ∨ w.heap.size ≤ b := by
    intro b hl
    rcases hL1 b hl with hl | hl
    · exact .inl hl
    · exact .inr (hn b hl)
  have hck : CellsKept (Live X m s) w w' := fun a v _ hc => by
    have hlt := World.block_lt_of_cell? w a hc
    have := hx.block a.block hlt (fun f => f)
    simpa [World.cell?, this] using hc
  have hsz : SizesKept w w' := hx.sizes
  have h1 : Rel w0 L0 X (joinM m m' q) e (addS s (100 * q) τ) a w' := by
    refine ⟨⟨h.env.len, fun j x v q1 q2 => VRel.mono hck hsz hL2 hm (menL_at hf.env q1) (h.env.at_ j x v q1 q2)⟩, ⟨fun i blk hi => ?_, fun i j b q1 q2 q3 q4 => ?_⟩, h.dfr, ?_, fun b hl => ?_, h.old, fun i hi hs => ?_⟩
    · rcases hget i blk hi with ⟨e1, b0, e2, rfl⟩ | ⟨e1, e2⟩
      · have hok := (okT_at hk2 e2).2
        have ej : joinM m m' q i = m' (i % 100) := by simp [joinM, e1]
        rcases hs.blk _ _ e2 with ⟨b, r1, r2⟩ | ⟨r1, sz, rfl⟩
        · refine .inl ⟨b, ej.trans r1, ?_⟩
          cases b0 with
          | vals cells =>
            obtain ⟨vs, ex, ty, fr, t1, t2, t3, t4⟩ := r2
            refine ⟨vs, ex, ty, fr, t1, t2, t3, t4.len.trans (shiftL_len _ _).symm, fun j x v s1 s2 => ?_⟩
            rw [shiftL_at] at s1
            obtain ⟨y, hy, rfl⟩ := Option.map_eq_some_iff.1 s1
            exact VRel.shift q hL1 (menL_at (by simpa [okB] using hok) hy) (t4.at_ j y v hy s2)
          | mp ks vs =>
            obtain ⟨es, cl, t1, t2, t4⟩ := r2
            refine ⟨es, cl, t1, t2, t4.len.trans (shiftL_len _ _).symm, fun j x v s1 s2 => ?_⟩
            rw [shiftL_at] at s1
            obtain ⟨y, hy, rfl⟩ := Option.map_eq_some_iff.1 s1
            exact VRel.shift q hL1 (menL_at (by simpa [okB] using hok) hy) (t4.at_ j y v hy s2)
          | data sz rows =>
            obtain ⟨cs, ty, fr, t1, t2, t3, t4, t5⟩ := r2
            exact ⟨cs, ty, fr, t1, t2, t3, t4, fun i j r x s1 s2 => by
              obtain ⟨v, u1, u2, u3⟩ := t5 i j r x s1 s2
              exact ⟨v, u1, u2, u3.mono (fun _ _ _ q => q) (fun b hl => .inl (hL1 b hl))⟩⟩
        · exact .inr ⟨ej.trans r1, sz, rfl⟩
      · have ej : joinM m m' q i = m i := by simp [joinM, e1]
        rcases h.sto.blk i blk e2 with ⟨b, r1, r2⟩ | ⟨r1, r2⟩
        · exact .inl ⟨b, ej.trans r1, BRel.mono hck hsz hL2 hm (hx.block b r2.lt (fun f => f)) (hf.sto i blk e2).2 r2⟩
        · exact .inr ⟨ej.trans r1, r2⟩
    · obtain ⟨c1, hc1⟩ := Option.isSome_iff_exists.1 q3
      obtain ⟨c2, hc2⟩ := Option.isSome_iff_exists.1 q4
      rcases hget i c1 hc1 with ⟨e1, b0, e2, _⟩ | ⟨e1, e2⟩ <;> rcases hget j c2 hc2 with ⟨f1, b1, f2, _⟩ | ⟨f1, f2⟩
      · simp only [joinM, if_pos e1] at q1
        simp only [joinM, if_pos f1] at q2
        have := hs.inj _ _ b q1 q2 (by rw [e2]; rfl) (by rw [f2]; rfl)
        omega
      · simp only [joinM, if_pos e1] at q1
        simp only [joinM, if_neg f1] at q2
        have := hn b ⟨_, b0, e2, q1⟩
        have := h.m_lt f2 q2
        omega
      · simp only [joinM, if_neg e1] at q1
        simp only [joinM, if_pos f1] at q2
        have := hn b ⟨_, b1, f2, q2⟩
        have := h.m_lt e2 q1
        omega
      · simp only [joinM, if_neg e1] at q1
        simp only [joinM, if_neg f1] at q2
        exact h.sto.inj i j b q1 q2 (by rw [e2]; rfl) (by rw [f2]; rfl)
    · exact ⟨hx.os.trans h.ext.os, hx.tape.trans h.ext.tape, hx.output.trans h.ext.output, Nat.le_trans h.ext.size hx.size, fun b hb hl => by
        rw [hx.block b (Nat.lt_of_lt_of_le hb h.ext.size) (fun f => f)]; exact h.ext.block b hb hl, fun b cs ty fr hb => by
        obtain ⟨c1, h1, h2⟩ := h.ext.sizes b cs ty fr hb
        obtain ⟨c2, h3, h4⟩ := hsz b c1 ty fr h1
        exact ⟨c2, h3, h4.trans h2⟩⟩
    · rcases hown b hl with hl | hl
      · exact h.liv b hl
      · exact .inr (Nat.le_trans h.ext.size (hn b hl))
    · have e1 : i / 100 ≠ q := by omega
      obtain ⟨c, hc⟩ := Option.isSome_iff_exists.1 hs
      rcases hget i c hc with ⟨e2, _⟩ | ⟨_, e2⟩
      · exact absurd e2 e1
      · simp only [joinM, if_neg e1]
        exact h.par i hi (by rw [e2]; rfl)
  exact h1.put dst (VRel.shift q hL1 hk1 hr)
theorem Rel.live_lt (h : Rel w0 L0 X m e s a w) {b : Nat} (hb : Live X m s b) : b < w.heap.size := by
  rcases hb with hb | ⟨i, blk, h1, h2⟩
  · exact Nat.lt_of_lt_of_le (h.old b hb).1 h.ext.size
  · exact h.m_lt h1 h2
theorem pure_rel {L : Nat → Prop} {args : List V} {vs : List Value} (hm : V.menL (fun _ => true) args = false) (h : All2 (VRel w L m) args vs) : All2 (VRel w L (fun _ => none)) args vs :=
  ⟨h.len, fun j x v h1 h2 => VRel.mono (p := fun _ => true) (fun _ _ _ q => q) (fun _ cs _ _ q => ⟨cs, q, rfl⟩) (fun b hl => .inl hl) (fun i hi => by cases hi) (menL_at hm h1) (h.at_ j x v h1 h2)⟩
end
end Go.Fw
