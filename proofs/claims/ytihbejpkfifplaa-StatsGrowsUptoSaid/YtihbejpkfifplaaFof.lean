/- References frozen: what they read is only read from then on. -/
import Derived.Test.YtihbejpkfifplaaFo
set_option linter.unusedVariables false
set_option linter.unusedSimpArgs false
namespace Go.Fw
variable {P : Program}

section
variable {w0 : World} {L0 : Par} {X : Nat → Prop} {m : Nat → Option Nat} {e : Env} {s : Store} {a : Act} {w : World}
theorem Rel.disj (h : Rel w0 L0 X m e s a w) {b : Nat} (hb : X b) : b < w.heap.size ∧ ¬ Own m s b := by
  refine ⟨Nat.lt_of_lt_of_le (h.old b hb).1 h.ext.size, fun ho => ?_⟩
  rcases h.liv b ho with q | q
  · exact (h.old b hb).2 q
  · have := (h.old b hb).1; omega
end

def frz (s : Store) (id sz off len : Nat) : V := match getB s id with
  | some (.data n rows) => if n = sz ∧ off + len ≤ rows.length then .d (.sl false ((rows.drop off).take len)) else .top
  | _ => .top
def frzP (s : Store) (id row col : Nat) : V := match getB s id with
  | some (.vals cells) => match toDs cells with
    | some ds => if row = 0 then .d (.ip ds col) else .top
    | none => .top
  | _ => .top
mutual
/-- a result: the blocks in 'keep' are numbered anew, others are only read from now on -/
def V.fin (keep : List Nat) (s : Store) : V → V
  | .top => .top
  | .d x => .d x
  | .rs id sz off len => match keep.idxOf? id with | some j => .rs j sz off len | none => frz s id sz off len
  | .pt id sz row col => match keep.idxOf? id with | some j => .pt j sz row col | none => frzP s id row col
  | .mp id => match keep.idxOf? id with | some j => .mp j | none => .top
  | .fn f capt => .fn f (V.finL keep s capt)
  | .ag cells => mkAg (V.finL keep s cells)
  | .tup vs => .tup (V.finL keep s vs)
def V.finL (keep : List Nat) (s : Store) : List V → List V
  | [] => []
  | v :: r => v.fin keep s :: V.finL keep s r
end
def Blk.fin (keep : List Nat) (s : Store) : Blk → Blk
  | .vals cells => .vals (V.finL keep s cells)
  | .mp ks vs => .mp ks (V.finL keep s vs)
  | .data sz rows => .data sz rows
def finS (keep : List Nat) (s : Store) : List Nat → Nat → Store
  | [], _ => []
  | id :: r, j => (match getB s id with | some b => [(j, b.fin keep s)] | none => []) ++ finS keep s r (j + 1)

theorem finL_len (keep : List Nat) (s : Store) : ∀ l : List V, (V.finL keep s l).length = l.length := by
  intro l
  induction l with
  | nil => rfl
  | cons v r ih => simp [V.finL, ih]
theorem finL_at (keep : List Nat) (s : Store) : ∀ (l : List V) (j : Nat), (V.finL keep s l)[j]? = (l[j]?).map (V.fin keep s) := by
  intro l
  induction l with
  | nil => intro j; simp [V.finL]
  | cons v r ih => intro j; cases j <;> simp [V.finL, ih]
theorem getB_finS (keep : List Nat) (s : Store) : ∀ (l : List Nat) (j i : Nat), getB (finS keep s l j) i = if j ≤ i then (l[i - j]?).bind fun id => (getB s id).map (Blk.fin keep s) else none := by
  intro l
  induction l with
  | nil => intro j i; simp [finS, getB]
  | cons id r ih =>
    intro j i
    simp only [finS]
    have ga : ∀ (a b : Store), getB (a ++ b) i = (getB a i).or (getB b i) := by
      intro a
      induction a with
      | nil => intro b; simp [getB]
      | cons x a ih =>
        intro b
        obtain ⟨k, c⟩ := x
        simp only [List.cons_append, getB]
        split
        · rfl
        · exact ih b
    rw [ga, ih]
    by_cases e : i = j
    · subst e
      rw [if_neg (show ¬ i + 1 ≤ i by omega), if_pos (Nat.le_refl _), Nat.sub_self]
      cases hg : getB s id with
      | none => simp [getB, hg]
      | some b => simp [getB, hg]
    · have e1 : getB (match getB s id with | some b => [(j, b.fin keep s)] | none => []) i = none := by
        cases getB s id <;> simp [getB, Ne.symm e]
      rw [e1]
      simp only [Option.none_or]
      by_cases h : j ≤ i
      · have h' : j + 1 ≤ i := by omega
        rw [if_pos h, if_pos h', show i - j = (i - (j + 1)) + 1 by omega]
        simp
      · rw [if_neg h, if_neg (by omega)]

def finM (keep : List Nat) (m : Nat → Option Nat) (j : Nat) : Option Nat := (keep[j]?).bind m
section
variable {w0 : World} {L0 : Par} {X : Nat → Prop} {m : Nat → Option Nat} {e : Env} {s : Store} {a : Act} {w : World}
theorem idx_get {keep : List Nat} {id j : Nat} (h : keep.idxOf? id = some j) : keep[j]? = some id := by
  have := List.findIdx?_eq_some_iff_getElem.1 h
  obtain ⟨h1, h2, _⟩ := this
  rw [List.getElem?_eq_getElem h1]
  simpa using h2
theorem own_fin {keep : List Nat} {b : Nat} (h : Own (finM keep m) (finS keep s keep 0) b) : ∃ id blk, id ∈ keep ∧ getB s id = some blk ∧ m id = some b := by
  obtain ⟨j, blk, h1, h2⟩ := h
  rw [getB_finS] at h1
  simp only [Nat.zero_le, if_true, Nat.sub_zero] at h1
  obtain ⟨id, g1, g2⟩ := Option.bind_eq_some_iff.1 h1
  obtain ⟨b0, g3, g4⟩ := Option.map_eq_some_iff.1 g2
  simp only [finM, g1, Option.bind_some] at h2
  exact ⟨id, b0, List.mem_of_getElem? g1, g3, h2⟩
theorem live_fin {keep : List Nat} {b : Nat} (h : Live X (finM keep m) (finS keep s keep 0) b) : Live X m s b := h.imp_right fun h => by
  obtain ⟨id, blk, _, h2, h3⟩ := own_fin h
  exact ⟨id, blk, h2, h3⟩
theorem not_live (h : Rel w0 L0 X m e s a w) {keep : List Nat} {id b : Nat} {blk : Blk} (hid : getB s id = some blk) (hm : m id = some b) (hk : id ∉ keep) : ¬ Live X (finM keep m) (finS keep s keep 0) b := by
  rintro (hl | hl)
  · exact (h.disj hl).2 ⟨id, blk, hid, hm⟩
  · obtain ⟨i, c, h1, h2, h3⟩ := own_fin hl
    have := h.sto.inj i id b h3 hm (by rw [h2]; rfl) (by rw [hid]; rfl)
    subst this
    exact hk h1
theorem fin_rel (h : Rel w0 L0 X m e s a w) {keep : List Nat} {x : V} {v : Value} (hx : VRel w (Live X m s) m x v) : VRel w (Live X (finM keep m) (finS keep s keep 0)) (finM keep m) (x.fin keep s) v := by
  have hD : ∀ {x : D} {v : Value}, DRel w (Live X m s) x v → DRel w (Live X (finM keep m) (finS keep s keep 0)) x v := fun hx => hx.mono (fun _ _ _ q => q) (fun b hl => .inl (live_fin hl))
  have hkeep : ∀ {id j b : Nat}, keep.idxOf? id = some j → m id = some b → finM keep m j = some b := fun h1 h2 => by simp [finM, idx_get h1, h2]
  induction hx with
  | top v => exact .top v
  | d hx => exact .d (hD hx)
  | rsE id sz =>
    simp only [V.fin]
    split
    · exact .rsE _ sz
    · unfold frz
      split
      · split
        · exact .d (by simpa using DRel.slE false none 0 (by simp))
        · exact .top _
      · exact .top _
  | rs id sz off len cap b cs ty fr hm hc hxl hh hs =>
    simp only [V.fin]
    split
    · rename_i j hj; exact .rs j sz off len cap b cs ty fr (hkeep hj hm) hc hxl hh hs
    · rename_i hj
      have hnk : id ∉ keep := by
        intro hmem
        have := List.idxOf?_eq_none_iff.1 hj
        exact this hmem
      unfold frz
      split
      · rename_i n rows hg
        split
        · rename_i hcond
          obtain ⟨rfl, hle⟩ := hcond
          rcases h.sto.blk id _ hg with ⟨b', hm', cs', ty', fr', hh', hfr', hsz', hlen', hall⟩ | ⟨hn, _⟩
          · rw [hm] at hm'; cases hm'
            rw [hh] at hh'; cases hh'
            have hl : ((rows.drop off).take len).length = len := by simp; omega
            have hrow : ∀ (i : Nat) (r : List D), ((rows.drop off).take len)[i]? = some r → rows[off + i]? = some r := by
              intro i r h1
              rw [List.getElem?_take] at h1
              split at h1
              · rwa [List.getElem?_drop] at h1
              · cases h1
            have q := VRel.d (m := finM keep m) (DRel.sl (w := w) (L := Live X (finM keep m) (finS keep s keep 0)) false ((rows.drop off).take len) b (off * n) cap n (fun i j => (cs[(off + i) * n + j]?).getD undef) (fun _ _ _ _ _ _ => not_live h hg hm hnk) (by rw [hl]; exact hc)
              (by rw [hl]; exact hxl) (fun r hr => hlen' r (List.mem_of_mem_drop (List.mem_of_mem_take hr)))
              (fun i j r x h1 h2 => by
                obtain ⟨v, b1, b2, b3⟩ := hall (off + i) j r x (hrow i r h1) h2
                rw [cell_of hh, show off * n + i * n + j = (off + i) * n + j by rw [Nat.add_mul], b1]; rfl)
              (fun i j r x h1 h2 => by obtain ⟨v, b1, b2, b3⟩ := hall (off + i) j r x (hrow i r h1) h2; rw [b1]; exact b2)
              (fun i j r x h1 h2 => by obtain ⟨v, b1, b2, b3⟩ := hall (off + i) j r x (hrow i r h1) h2; rw [b1]; exact hD b3))
            rw [hl] at q
            exact q
          · rw [hm] at hn; cases hn
        · exact .top _
      · exact .top _
  | pt id sz row col b hm =>
    simp only [V.fin]
    split
    · rename_i j hj; exact .pt j sz row col b (hkeep hj hm)
    · rename_i hj
      have hnk : id ∉ keep := fun hmem => List.idxOf?_eq_none_iff.1 hj hmem
      unfold frzP
      split
      · rename_i cells hg
        split
        · rename_i ds hds
          split
          · rename_i h0
            subst h0
            rcases h.sto.blk id _ hg with ⟨b', hm', vs, ex, ty, fr, hh, hfr, hone, hall⟩ | ⟨hn, _, hn'⟩
            · rw [hm] at hm'; cases hm'
              have hd := toDs_rel hds hall
              have q := VRel.d (m := finM keep m) (DRel.ip (w := w) (L := Live X (finM keep m) (finS keep s keep 0)) ds b 0 col (fun j => (vs[j]?).getD undef) (fun _ _ _ => not_live h hg hm hnk)
                (fun j x hj => by obtain ⟨v, b1, b2⟩ := hd.get hj; rw [cell_of hh, Nat.zero_add, List.getElem?_toArray, List.getElem?_append_left (List.getElem?_eq_some_iff.1 b1).1]; simp [b1])
                (fun j x hj => by obtain ⟨v, b1, b2⟩ := hd.get hj; rw [b1]; exact hone v (List.mem_of_getElem? b1))
                (fun j x hj => by obtain ⟨v, b1, b2⟩ := hd.get hj; rw [b1]; exact hD b2))
              simpa using q
            · cases hn'
          · exact .top _
        · exact .top _
      · exact .top _
  | mp id b hm =>
    simp only [V.fin]
    split
    · rename_i j hj; exact .mp j b (hkeep hj hm)
    · exact .top _
  | fn f capt vs hl hr ih =>
    refine .fn f _ vs (hl.trans (finL_len _ _ _).symm) fun j x v h1 h2 => ?_
    rw [finL_at] at h1
    obtain ⟨y, hy, rfl⟩ := Option.map_eq_some_iff.1 h1
    exact ih j y v hy h2
  | ag cells vs hl ho hr ih =>
    refine mkAg_rel ho ⟨hl.trans (finL_len _ _ _).symm, fun j x v h1 h2 => ?_⟩
    rw [finL_at] at h1
    obtain ⟨y, hy, rfl⟩ := Option.map_eq_some_iff.1 h1
    exact ih j y v hy h2
  | tup cells vs hl hr ih =>
    refine .tup _ vs (hl.trans (finL_len _ _ _).symm) fun j x v h1 h2 => ?_
    rw [finL_at] at h1
    obtain ⟨y, hy, rfl⟩ := Option.map_eq_some_iff.1 h1
    exact ih j y v hy h2
end

/-! blocks that come between -/
theorem frz_grow {p : Nat → Bool} {s s' : Store} (hs : ∀ i, p i = false → getB s' i = getB s i) (x : V) (h : x.men p = false) : x.fin [] s' = x.fin [] s := by
  induction x using V.rec (motive_2 := fun l => V.menL p l = false → V.finL [] s' l = V.finL [] s l) with
  | rs id sz off len => simp only [V.men] at h; simp only [V.fin, List.idxOf?_nil, frz, hs id h]
  | pt id sz row col => simp only [V.men] at h; simp only [V.fin, List.idxOf?_nil, frzP, hs id h]
  | fn f capt ih => simp only [V.men] at h; simp only [V.fin, ih h]
  | ag cells ih => simp only [V.men] at h; simp only [V.fin, ih h]
  | tup vs ih => simp only [V.men] at h; simp only [V.fin, ih h]
  | nil => rfl
  | cons v r ih1 ih2 =>
    rename_i h
    simp only [V.menL, Bool.or_eq_false_iff] at h
    simp only [V.finL, ih1 h.1, ih2 h.2]
  | _ => rfl
theorem frzL_grow {p : Nat → Bool} {s s' : Store} (hs : ∀ i, p i = false → getB s' i = getB s i) (l : List V) (h : V.menL p l = false) : V.finL [] s' l = V.finL [] s l := by
  induction l with
  | nil => rfl
  | cons v r ih =>
    simp only [V.menL, Bool.or_eq_false_iff] at h
    simp only [V.finL, frz_grow hs v h.1, ih h.2]
end Go.Fw
