/- Texts of this claim, put together: Fzc, Tf, Ue, Uf, Po, Pza. -/
import Derived.Test.YtimgbdkgjfbhkaaMf
set_option linter.unusedVariables false
set_option linter.unusedSimpArgs false
section
namespace Go.Fw
variable {P : Program}

theorem toDs_fgt (p : Nat → Bool) : ∀ l : List V, toDs (V.fgtL p l) = toDs l := by
  intro l
  induction l with
  | nil => rfl
  | cons v r ih =>
    cases v <;> simp only [V.fgtL, V.fgt, toDs, ih] <;> (try rfl) <;> (split <;> rfl)
theorem fgtL_take (p : Nat → Bool) (n : Nat) (l : List V) : (V.fgtL p l).take n = V.fgtL p (l.take n) := by
  induction l generalizing n with
  | nil => simp [V.fgtL]
  | cons v r ih => cases n <;> simp [V.fgtL, ih]
theorem fgtL_drop (p : Nat → Bool) (n : Nat) (l : List V) : (V.fgtL p l).drop n = V.fgtL p (l.drop n) := by
  induction l generalizing n with
  | nil => simp [V.fgtL]
  | cons v r ih => cases n <;> simp [V.fgtL, ih]
theorem mkAg_fgt (p : Nat → Bool) (l : List V) : mkAg (V.fgtL p l) = (mkAg l).fgt p := by
  unfold mkAg
  rw [toDs_fgt]
  cases toDs l <;> rfl
theorem fgtL_map_d (p : Nat → Bool) (l : List D) : V.fgtL p (l.map .d) = l.map .d := by
  induction l with
  | nil => rfl
  | cons x r ih => simp [V.fgtL, V.fgt, ih]
theorem loadV_fgt (P : Program) (t : TypeId) (cells : List V) (off : Nat) (p : Nat → Bool) : loadV P t (V.fgtL p cells) off = (loadV P t cells off).map (V.fgt p) := by
  unfold loadV
  split
  · unfold partV
    rw [fgtL_len, fgtL_drop, fgtL_take]
    split
    · unfold one
      rw [fgtL_len, mkAg_fgt]
      simp only [if_true]
      split <;> rfl
    · rfl
  · exact fgtL_at p cells off
  · rfl
def pairL (la : List Nat) (x y : Oper) : Option Nat := match loadAt x with
  | some a => if la.contains a && cls y.op == .x && y.guard.isNone then some a else none
  | none => none
def commL (im : Op → Bool) (la : List Nat) (all : List Oper) (j i : Nat) (x y : Oper) : Bool := comm im all x y || (apart all x y && match pairL la x y with
  | some a => x.dst != some a && y.dst != some a && (List.range all.length).all fun k => match all[k]? with
    | some z => (decide (k ≤ j) || k == i || z.dst != some a)
    | none => true
  | none => false)
def indepL (im : Op → Bool) (la : List Nat) (all : List Oper) : Bool := ahead all && (List.range all.length).all fun i => (List.range i).all fun j => dep all all.length j i || (match all[j]?, all[i]? with | some x, some y => commL im la all j i x y | _, _ => true)
def Vis (la : List Nat) (e : Env) : Prop := la.all (fun a => (e.getD a .top).at?.isSome) = true
theorem commL_apart {im : Op → Bool} {la : List Nat} {all : List Oper} {j i : Nat} {x y : Oper} (h : commL im la all j i x y = true) : apart all x y = true := by
  simp only [commL, Bool.or_eq_true, Bool.and_eq_true] at h
  rcases h with h | h
  · simp only [comm, Bool.and_eq_true] at h; exact h.1
  · exact h.1
theorem exchangeLA {im : Op → Bool} {all : List Oper} {x y : Oper} (ha : apart all x y = true) {a : Nat} (hla : loadAt x = some a) (hy : cls y.op = .x) (hyg : y.guard = none) (hxa : x.dst ≠ some a) (hya : y.dst ≠ some a) {E E1 E2 : St} {q : Option Nat} (hq : (E2.e.getD a .top).at? = some q) (h1 : Stp P im all x E E1) (h2 : Stp P im all y E1 E2) : ∃ E1', Stp P im all y E E1' ∧ Stp P im all x E1' E2 := by
  obtain ⟨⟨t, ex⟩, hxg⟩ : (∃ t, x.op = .load t (.tmp a)) ∧ x.guard = none := by
    unfold loadAt at hla
    split at hla
    · rename_i hg
      refine ⟨?_, by simpa using hg⟩
      split at hla
      · cases hla; exact ⟨_, by assumption⟩
      · cases hla
    · cases hla
  have hxr : cls x.op = .r := by rw [ex]; rfl
  have gx : ∀ e, guardOf all e x.guard = some none := fun e => by rw [hxg]; rfl
  have gy : ∀ e, guardOf all e y.guard = some none := fun e => by rw [hyg]; rfl
  have dx : ∀ {E E' : St}, Stp P im all x E E' ↔ ∃ c v, opR P x.op (look E.e) E.s = some (c, v) ∧ c ∧ E' = ⟨put E.e x.dst v, E.s⟩ := fun {E E'} => by
    unfold Stp; rw [gx]
    show DoI P im x E E' ↔ _
    rw [doI_do (fun _ => by rw [hxr]; simp)]
    unfold Do Loc
    rw [hxr]
    simp only
    constructor
    · rintro ⟨v, s', ⟨c, q1, q2, rfl⟩, rfl⟩; exact ⟨c, v, q1, q2, rfl⟩
    · rintro ⟨c, v, q1, q2, rfl⟩; exact ⟨v, _, ⟨c, q1, q2, rfl⟩, rfl⟩
  have dy : ∀ {E E' : St}, Stp P im all y E E' ↔ Do P y E E' := fun {E E'} => by
    unfold Stp; rw [gy]; exact doI_do (fun _ => by rw [hy]; simp)
  obtain ⟨c1, v, g1, gc1, rfl⟩ := dx.1 h1
  rw [dy] at h2
  unfold Do at h2
  rw [hy] at h2
  simp only at h2
  obtain ⟨cl, ho, hcal, k, c, sz, n, blk, g2, hc, rfl⟩ := h2
  simp only [apart, Bool.and_eq_true] at ha
  have hne : ∀ q, x.dst = some q → y.dst ≠ some q := fun q e => by
    have := ha.1; rw [e] at this; simp at this; exact this.2
  have hlx : ∀ q, looks all y q = true → x.dst ≠ some q := fun q hk e => by
    have := ha.1; rw [e] at this; simp [hk] at this
  have hargs : ∀ u ∈ cl.args, look (put E.e x.dst v) u = look E.e u := fun u hu => by
    cases u with
    | tmp t =>
      exact put_getD (hlx t (by
        unfold looks
        rw [Bool.or_eq_true, ho]
        exact .inl (List.any_eq_true.2 ⟨.tmp t, by simp only [Op.operands, Call.operands, Array.toList_append, List.mem_append]; exact .inr (by simpa using hu), by simp⟩)))
    | _ => rfl
  obtain ⟨q1, q2⟩ := append_congr (P := P) hargs E.s
  simp only at hq
  rw [put_getD hya] at hq
  have hq0 := at_fgtL hq
  rw [put_getD hxa] at hq0
  -- what it reads is not forgotten
  have hva : (E.e.getD a .top).fgt (hitO k (newId y.dst)) = E.e.getD a .top ∧ ∀ i sz r c, E.e.getD a .top = .pt i sz r c → hitO k (newId y.dst) i = false := by
    rw [fgtL_put, put_getD hxa, List.getD_eq_getElem?_getD, fgtL_at] at hq
    rw [List.getD_eq_getElem?_getD] at hq0 ⊢
    cases he : E.e[a]? with
    | none => rw [he] at hq0; cases hq0
    | some z =>
      rw [he] at hq hq0
      simp only [Option.map_some, Option.getD_some] at hq hq0 ⊢
      cases z with
      | pt i sz r c =>
        simp only [V.fgt] at hq ⊢
        cases hh : hitO k (newId y.dst) i with
        | true => rw [hh] at hq; cases hq
        | false => simp only [Bool.false_eq_true, if_false, true_and]; intro i' _ _ _ e; cases e; exact hh
      | d d => simp [V.fgt]
      | _ => cases hq0
  have hld : opR P x.op (look (put (V.fgtL (hitO k (newId y.dst)) E.e) y.dst (.rs (newId y.dst) sz 0 n))) (putB (fgtS (hitO k (newId y.dst)) E.s) (newId y.dst) blk) = some (c1, v.fgt (hitO k (newId y.dst))) := by
    have hlk : look (put (V.fgtL (hitO k (newId y.dst)) E.e) y.dst (.rs (newId y.dst) sz 0 n)) (.tmp a) = E.e.getD a .top := by
      rw [look_fgt (fun t ht => by cases ht; exact hya)]
      exact hva.1
    have hlk0 : look E.e (.tmp a) = E.e.getD a .top := rfl
    rw [ex] at g1 ⊢
    simp only [opR, hlk, hlk0] at g1 ⊢
    obtain ⟨_, hpt⟩ := hva
    generalize E.e.getD a .top = va at g1 hpt ⊢
    cases va with
    | pt i sz2 r c2 =>
      have hh := hpt i sz2 r c2 rfl
      have hni : i ≠ newId y.dst := fun e => by simp [hitO, e] at hh
      simp only [getB_putB, if_neg hni, getB_fgtS, hh, Bool.false_eq_true, if_false] at g1 ⊢
      cases hb : getB E.s i with
      | none => rw [hb] at g1; cases g1
      | some b =>
        rw [hb] at g1
        simp only [Option.map_some] at g1 ⊢
        cases b with
        | vals cells =>
          simp only [Blk.fgt] at g1 ⊢
          rw [loadV_fgt]
          cases hv : loadV P t cells (r * sz2 + c2) with
          | none => rw [hv] at g1; cases g1
          | some u =>
            rw [hv] at g1
            simp only [Option.some.injEq, Prod.mk.injEq, Option.map_some] at g1 ⊢
            exact ⟨g1.1, by rw [← g1.2]⟩
        | data n2 rows =>
          simp only [Blk.fgt] at g1 ⊢
          have hd := loadV_fgt P t ((rowN rows r).map .d) c2 (hitO k (newId y.dst))
          rw [fgtL_map_d] at hd
          cases hv : loadV P t ((rowN rows r).map .d) c2 with
          | none => rw [hv] at g1; cases g1
          | some u =>
            rw [hv] at g1 hd
            simp only [Option.map_some, Option.some.injEq] at hd
            simp only [Option.some.injEq, Prod.mk.injEq] at g1 ⊢
            exact ⟨g1.1, by rw [← g1.2]; exact hd⟩
        | mp ks vs => cases g1
    | d x =>
      cases x with
      | ip row c2 =>
        simp only at g1 ⊢
        have hd := loadV_fgt P t (row.map .d) c2 (hitO k (newId y.dst))
        rw [fgtL_map_d] at hd
        cases hv : loadV P t (row.map .d) c2 with
        | none => rw [hv] at g1; cases g1
        | some u =>
          rw [hv] at g1 hd
          simp only [Option.map_some, Option.some.injEq] at hd
          simp only [Option.some.injEq, Prod.mk.injEq] at g1 ⊢
          exact ⟨g1.1, by rw [← g1.2]; exact hd⟩
      | _ => cases g1
    | _ => cases g1
  refine ⟨⟨put (V.fgtL (hitO k (newId y.dst)) E.e) y.dst (.rs (newId y.dst) sz 0 n), putB (fgtS (hitO k (newId y.dst)) E.s) (newId y.dst) blk⟩, dy.2 ?_, dx.2 ⟨c1, _, hld, gc1, ?_⟩⟩
  · unfold Do; rw [hy]
    refine ⟨cl, ho, hcal, k, c, sz, n, blk, ?_, hc, rfl⟩
    rcases g2 with ⟨al, w1, w2, w3⟩ | ⟨al, w1, w2⟩
    · exact .inl ⟨al, q1.symm.trans w1, w2, w3⟩
    · exact .inr ⟨al, q2.symm.trans w1, w2⟩
  · simp only [fgtL_put]; rw [put_comm hne]
/-- one that may stand first is taken first -/
theorem to_frontL {im : Op → Bool} {la : List Nat} {all : List Oper} (ha : alone all = true) {i : Nat} {o : Oper} (hi : all[i]? = some o) : ∀ {R : List Nat} {E E' : St}, Vis la E'.e → R.Pairwise (· < ·) → i ∈ R → FreshAll all R E → (∀ j ∈ R.takeWhile (· != i), ∀ x, all[j]? = some x → commL im la all j i x o = true) → Steps P im all R E E' →
    ∃ E1, Stp P im all o E E1 ∧ Steps P im all (R.erase i) E1 E' := by
  intro R
  induction R with
  | nil => intro E E' _ _ h; cases h
  | cons j r ih =>
    intro E E' htwo hpw hm hf hc hs
    have hnd : (j :: r).Nodup := hpw.imp fun h => Nat.ne_of_lt h
    obtain ⟨x, hx, E1, h1, h2⟩ := hs
    by_cases e : j = i
    · subst e
      rw [hx] at hi; cases hi
      exact ⟨E1, h1, by simpa using h2⟩
    · have hmr : i ∈ r := (List.mem_cons.1 hm).resolve_left (Ne.symm e)
      have hnd' := List.nodup_cons.1 hnd
      have hpw' := List.pairwise_cons.1 hpw
      have hfr : FreshAll all r E1 := freshAll_step ha hx hnd'.1 (fun k hk => hf k (by simp [hk])) h1
      have htw : (j :: r).takeWhile (· != i) = j :: r.takeWhile (· != i) := by simp [e]
      rw [htw] at hc
      obtain ⟨E2, g1, g2⟩ := ih htwo hpw'.2 hmr hfr (fun k hk => hc k (by simp [hk])) h2
      have hcj := hc j (by simp) x hx
      have hex : ∃ E3, Stp P im all o E E3 ∧ Stp P im all x E3 E2 := by
        have hap := commL_apart hcj
        simp only [commL, Bool.or_eq_true, Bool.and_eq_true] at hcj
        rcases hcj with hcj | ⟨_, hcj⟩
        · exact exchange hcj (hf j (by simp) x hx) (hf i hm o hi) (fun m1 m2 k hk => alone_mine ha (Ne.symm e) hi hx m2 k hk) h1 g1
        · cases hp : pairL la x o with
          | none => rw [hp] at hcj; cases hcj
          | some a =>
            rw [hp] at hcj
            simp only [Bool.and_eq_true, bne_iff_ne, ne_eq, List.all_eq_true, List.mem_range] at hcj
            obtain ⟨⟨hxa, hoa⟩, hks⟩ := hcj
            have hlen : ∀ {k : Nat} {z : Oper}, all[k]? = some z → k < all.length := fun h => (List.getElem?_eq_some_iff.1 h).1
            have ln : ∀ k ∈ r.erase i, ∀ z, all[k]? = some z → z.dst ≠ some a := fun k hk z hz => by
              have hkr : k ∈ r := List.mem_of_mem_erase hk
              have hki : k ≠ i := fun e => List.Nodup.not_mem_erase hnd'.2 (e ▸ hk)
              have := hks k (hlen hz)
              rw [hz] at this
              simp only [Bool.or_eq_true, decide_eq_true_eq, beq_iff_eq, bne_iff_ne, ne_eq] at this
              rcases this with (h | h) | h
              · have := hpw'.1 k hkr; omega
              · exact absurd h hki
              · exact h
            unfold pairL at hp
            split at hp
            · rename_i a' hla
              split at hp
              · rename_i hcd
                cases hp
                simp only [Bool.and_eq_true, beq_iff_eq, Option.isNone_iff_eq_none] at hcd
                obtain ⟨⟨hin, hcx⟩, hog⟩ := hcd
                have hv := List.all_eq_true.1 htwo a (by simpa using hin)
                obtain ⟨q, hq⟩ := Option.isSome_iff_exists.1 hv
                exact exchangeLA hap hla hcx hog hxa hoa (steps_at g2 ln hq) h1 g1
              · cases hp
            · cases hp
      obtain ⟨E3, g3, g4⟩ := hex
      refine ⟨E3, g3, ?_⟩
      rw [List.erase_cons_tail (by simpa using e)]
      exact ⟨x, hx, E2, g4, g2⟩

section
variable {w0 : World} {L0 : Par} {X : Nat → Prop}
theorem any_opsL {im : Op → Bool} {la : List Nat} {all : List Oper} (ha : alone all = true) (hi : indepL im la all = true) : ∀ (fuel : Nat) {listed : Array Bool} {m : Nat → Option Nat} {a : Act} {w : World} {E E' : St}, Vis la E'.e → listed.size = all.length → (undone all.length listed).length ≤ fuel →
    (∀ i o, all[i]? = some o → listed.getD i true = true → i < all.length → ∀ e ∈ o.after.toList, Region.binds .any e = true → listed.getD e.on false = true) →
    FreshAll all (undone all.length listed) E → Rel w0 L0 X m E.e E.s a w → Steps P im all (undone all.length listed) E E' → ∀ {Q : Exit → Act → World → Prop}, (∀ m' a' w', Rel w0 L0 X m' E'.e E'.s a' w' → Q .normal a' w') → wpAny P .any all.toArray Q fuel listed a w := by
  simp only [indepL, Bool.and_eq_true] at hi
  obtain ⟨hah, hco⟩ := hi
  intro fuel
  have rdy : ∀ {listed : Array Bool}, listed.size = all.length → ∀ i, i ∈ Region.ready .any all.toArray listed ↔ i ∈ undone all.length listed ∧ ∃ o, all[i]? = some o ∧ ∀ e ∈ o.after.toList, Region.binds .any e = true → listed.getD e.on false = true := by
    intro listed hl i
    simp only [Region.ready, undone, List.mem_filter, List.size_toArray, List.getElem?_toArray, Bool.and_eq_true]
    constructor
    · rintro ⟨h1, h2, h3⟩
      refine ⟨⟨h1, h2⟩, ?_⟩
      cases ho : all[i]? with
      | none => rw [ho] at h3; cases h3
      | some o =>
        rw [ho] at h3
        refine ⟨o, rfl, fun e he hb => ?_⟩
        simp only [Option.map_some, Option.getD_some, Array.all_eq_true_iff_forall_mem] at h3
        have := h3 e (by simpa using he)
        simpa [hb] using this
    · rintro ⟨⟨h1, h2⟩, o, ho, h3⟩
      refine ⟨h1, h2, ?_⟩
      rw [ho]
      simp only [Option.map_some, Option.getD_some, Array.all_eq_true_iff_forall_mem]
      intro e he
      by_cases hb : Region.binds .any e = true
      · simp [h3 e (by simpa using he) hb]
      · simp [hb]
  -- as long as one is left, one may be taken
  have least : ∀ {listed : Array Bool}, listed.size = all.length → Region.ready .any all.toArray listed = [] → undone all.length listed = [] := by
    intro listed hl hr
    cases hu : undone all.length listed with
    | nil => rfl
    | cons i r =>
      exfalso
      have hmem : ∀ k, k ∈ undone all.length listed ↔ k < all.length ∧ listed.getD k true = false := fun k => by simp [undone]
      have hmin : ∀ k, k < i → listed.getD k false = true := by
        intro k hk
        have hii : i < all.length := ((hmem i).1 (by rw [hu]; simp)).1
        have hsort : (undone all.length listed).Pairwise (· < ·) := List.pairwise_lt_range.filter _
        rw [hu] at hsort
        have hks : k < listed.size := by omega
        cases hq : listed.getD k true with
        | true => simp [Array.getD, hks] at hq ⊢; exact hq
        | false =>
          have : k ∈ undone all.length listed := (hmem k).2 ⟨by omega, hq⟩
          rw [hu] at this
          rcases List.mem_cons.1 this with e | hm
          · omega
          · have := (List.pairwise_cons.1 hsort).1 k hm
            omega
      have hii : i < all.length := ((hmem i).1 (by rw [hu]; simp)).1
      have : i ∈ Region.ready .any all.toArray listed := (rdy hl i).2 ⟨by rw [hu]; simp, all[i], List.getElem?_eq_getElem hii, fun e he hb => by
        have h1 := List.all_eq_true.1 hah i (List.mem_range.2 hii)
        rw [List.getElem?_eq_getElem hii] at h1
        have h2 := List.all_eq_true.1 h1 e he
        simp only [hb, Bool.not_true, Bool.false_or, decide_eq_true_eq] at h2
        exact hmin _ h2⟩
      rw [hr] at this; cases this
  induction fuel with
  | zero =>
    intro listed m a w E E' htwo hl hn hcl hf h hs Q hQ
    have hu : undone all.length listed = [] := List.eq_nil_of_length_eq_zero (by omega)
    rw [hu] at hs
    cases hs
    refine ⟨?_, hQ m a w h⟩
    cases hr : Region.ready .any all.toArray listed with
    | nil => rfl
    | cons i r =>
      have := ((rdy hl i).1 (by rw [hr]; simp)).1
      rw [hu] at this; cases this
  | succ n ih =>
    intro listed m a w E E' htwo hl hn hcl hf h hs Q hQ
    refine ⟨fun hr => ?_, fun i hri => ?_⟩
    · have hu := least hl hr
      rw [hu] at hs
      cases hs
      exact hQ m a w h
    · obtain ⟨hu, o, ho, hd⟩ := (rdy hl i).1 hri
      have hii : i < all.length := (List.getElem?_eq_some_iff.1 ho).1
      have hnd : (undone all.length listed).Nodup := List.nodup_range.filter _
      have hsort : (undone all.length listed).Pairwise (· < ·) := List.pairwise_lt_range.filter _
      obtain ⟨E1, g1, g2⟩ := to_frontL ha ho htwo hsort hu hf (fun j hj x hx => by
        have hju : j ∈ undone all.length listed := (List.takeWhile_prefix _).subset hj
        have hne : j ≠ i := by have := List.all_eq_true.1 List.all_takeWhile j hj; simpa using this
        have hji : j < i := by
          have : ∀ (R : List Nat), R.Pairwise (· < ·) → i ∈ R → j ∈ R.takeWhile (· != i) → j < i := by
            intro R
            induction R with
            | nil => intro _ h; cases h
            | cons k r ih =>
              intro hp hm hj
              have hp' := List.pairwise_cons.1 hp
              by_cases e : k = i
              · simp [e] at hj
              · have hmr : i ∈ r := (List.mem_cons.1 hm).resolve_left (Ne.symm e)
                simp only [List.takeWhile_cons, bne_iff_ne, ne_eq, e, not_false_eq_true, if_true, List.mem_cons] at hj
                rcases hj with rfl | hj
                · exact hp'.1 i hmr
                · exact ih hp'.2 hmr hj
          exact this _ hsort hu hj
        have h1 := List.all_eq_true.1 (List.all_eq_true.1 hco i (List.mem_range.2 hii)) j (List.mem_range.2 hji)
        simp only [hx, ho, Bool.or_eq_true] at h1
        rcases h1 with h1 | h1
        · have := dep_listed hcl hl _ j i o ho hd h1
          have hjl : j < listed.size := by omega
          have h2 : listed.getD j true = false := by have := hju; simp only [undone, List.mem_filter, Bool.not_eq_true'] at this; exact this.2
          simp [Array.getD, hjl] at this h2
          rw [this] at h2; cases h2
        · exact h1) hs
      refine stp_op ho h (hf i hu o ho) g1 fun m' a' w' h' => ?_
      have hue := undone_set (listed := listed) hl hii
      refine ih htwo (by simpa using hl) ?_ ?_ ?_ h' (by rw [hue]; exact g2) hQ
      · rw [hue, List.length_erase_of_mem hu]; omega
      · intro k x hx hk hkl e he hb
        by_cases e1 : i = k
        · subst e1
          rw [ho] at hx; cases hx
          have := hd e he hb
          have hne : e.on < all.length := by
            have hlt : e.on < listed.size := by
              rcases Nat.lt_or_ge e.on listed.size with h | h
              · exact h
              · simp [Array.getD, Nat.not_lt.2 h] at this
            omega
          simp [Array.getD_eq_getD_getElem?, Array.getElem?_setIfInBounds] at this ⊢
          split
          · split <;> simp_all
          · exact this
        · have hk' : listed.getD k true = true := by
            simpa [Array.getD_eq_getD_getElem?, Array.getElem?_setIfInBounds, e1] using hk
          have := hcl k x hx hk' hkl e he hb
          simp [Array.getD_eq_getD_getElem?, Array.getElem?_setIfInBounds] at this ⊢
          split
          · split <;> simp_all
          · exact this
      · rw [hue]
        have hf' : FreshAll all ((undone all.length listed).erase i) E := fun k hk => hf k (List.mem_of_mem_erase hk)
        exact freshAll_step ha ho (List.Nodup.not_mem_erase hnd) hf' g1
end
variable {E : St} {Q : Exit → St → Prop}
def okRegL (im : Op → Bool) (la : List Nat) (draw : Bool) (all : List Oper) : Bool := alone all && (!draw || indepL im la all)
theorem Run.regionL {im : Op → Bool} (la : List Nat) {id : Nat} {ops : Array Oper} {draw : Bool} (hm : P.follows .mixedOrders = true) (hk : okRegL im la draw ops.toList = true) {e : Env} {s : Store} {E' : St}
    (hs : Steps P im ops.toList (List.range ops.toList.length) ⟨enterE ops.toList e, enterS ops.toList s⟩ E') (htwo : Vis la E'.e) (hq : Q .normal E') : Run P (.region id ops draw) ⟨e, s⟩ Q := fun w0 L0 X m a w hr => by
  simp only [okRegL, Bool.and_eq_true, Bool.or_eq_true, Bool.not_eq_true'] at hk
  obtain ⟨ha, hd⟩ := hk
  have henter : Rel w0 L0 X m (enterE ops.toList e) (enterS ops.toList s) a w ∧ FreshAll ops.toList (List.range ops.toList.length) ⟨enterE ops.toList e, enterS ops.toList s⟩ := by
    unfold enterE enterS
    by_cases h : (ks ops.toList).isEmpty = true
    · simp only [h, if_true]
      refine ⟨hr, fun i _ o ho hm => ?_⟩
      have := ks_nil h o (List.mem_of_getElem? ho)
      rw [this] at hm; cases hm
    · simp only [h, if_false]
      exact ⟨hr.fgt _, fresh_enter⟩
  obtain ⟨h1, h2⟩ := henter
  have fin : ∀ m' a' w', Rel w0 L0 X m' E'.e E'.s a' w' → ∃ E'' m'', Q .normal E'' ∧ Rel w0 L0 X m'' E''.e E''.s a' w' := fun m' a' w' h => ⟨E', m', hq, h⟩
  cases draw with
  | false =>
    refine wp_region ?_
    have := seq_ops (P := P) (w0 := w0) (L0 := L0) (X := X) ha List.nodup_range h2 h1 hs (Q := fun x a' w' => ∃ E' m', Q x E' ∧ Rel w0 L0 X m' E'.e E'.s a' w') fin
    simpa using this
  | true =>
    have hi : indepL im la ops.toList = true := by rcases hd with h | h; exact absurd h (by simp); exact h
    refine wp_region_any hm ?_
    have hu : undone ops.toList.length (Array.replicate ops.size false) = List.range ops.toList.length := by
      unfold undone
      rw [List.filter_eq_self]
      intro k hk
      have := List.mem_range.1 hk
      simp at this
      simp [Array.getD, this]
    have h3 : Rel w0 L0 X m (enterE ops.toList e) (enterS ops.toList s) a { w with drawn := w.drawn + 1 } := by
      have hk : CellsKept (Live X m (enterS ops.toList s)) w { w with drawn := w.drawn + 1 } := fun _ _ _ q => q
      have hz : SizesKept w { w with drawn := w.drawn + 1 } := fun _ cs _ _ q => ⟨cs, q, rfl⟩
      refine ⟨⟨h1.env.len, fun j x v q1 q2 => VRel.mono' hk hz (fun b hb => .inl hb) (h1.env.at_ j x v q1 q2)⟩, ⟨fun i blk hi => ?_, h1.sto.inj⟩, h1.dfr, ⟨h1.ext.os, h1.ext.tape, h1.ext.output, h1.ext.size, h1.ext.block, h1.ext.sizes⟩, h1.liv, h1.old, h1.par⟩
      rcases h1.sto.blk i blk hi with ⟨b, r1, r2⟩ | r
      · exact .inl ⟨b, r1, BRel.mono (p := fun _ => false) hk hz (fun b hb => .inl hb) (fun _ _ => rfl) rfl (by cases blk <;> first | exact menL_false _ | trivial) r2⟩
      · exact .inr r
    have := any_opsL (P := P) (la := la) (w0 := w0) (L0 := L0) (X := X) ha hi ops.size (listed := Array.replicate ops.size false) htwo (by simp) (by rw [hu]; simp) (fun i o ho hl hlt e he hb => by
      simp at hlt
      simp [Array.getD, hlt] at hl) (by rw [hu]; exact h2) h3 (by rw [hu]; exact hs) (Q := fun x a' w' => ∃ E' m', Q x E' ∧ Rel w0 L0 X m' E'.e E'.s a' w') fin
    simpa using this
/-- A REGION, operation by operation; la: the slots of loads beside an append. -/
theorem Run.opsA (l : List FuncId) (la : List Nat) {id : Nat} {ops : Array Oper} {draw : Bool} (los : List LOp) (hm : P.follows .mixedOrders = true) (hk : okRegL (imp l) la draw ops.toList = true) (hl : ops.toList.map (lite ops.toList) = los) {e : Env} {s : Store}
    (h : ∀ K : Env → Store → Prop, (∀ e s, Vis la e → Q .normal ⟨e, s⟩ → K e s) → EvL P (imp l) K los (enterE ops.toList e) (enterS ops.toList s)) : Run P (.region id ops draw) ⟨e, s⟩ Q := by
  have h0 : EvO P (imp l) ops.toList (fun e s => Vis la e ∧ Q .normal ⟨e, s⟩) ops.toList (enterE ops.toList e) (enterS ops.toList s) := by
    subst hl; exact evL_evO (h _ fun _ _ h1 h2 => ⟨h1, h2⟩)
  obtain ⟨E', h1, h2⟩ := evO_steps (P := P) (im := imp l) (n := 0) (List.drop_zero ..) h0
  rw [← List.range_eq_range'] at h1
  exact Run.regionL la hm hk h1 h2.1 h2.2
end Go.Fw
end
namespace Go.Proofs.Ytimgbdkgjfbhkaa.Z
open Go Go.Fw
abbrev oo54 : List LOp := [⟨Op.box 32 (Operand.tmp 0), some 1, none⟩, ⟨Op.alloc 48, some 2, none⟩]
abbrev oo55 : List LOp := [⟨Op.load 32 (Operand.tmp 1), some 17, none⟩, ⟨Op.call { callee := Callee.value (Operand.func 42), args := #[Operand.tmp 17], argTypes := #[32] }, some 18, none⟩, ⟨Op.unOp UnOp.not 4 (Operand.tmp 18), some 19, none⟩]
abbrev oo56 : List LOp := [⟨Op.binOp BinOp.lss 3 (Operand.tmp 79) (Operand.const (Value.int IntKind.i64 2)) 3, some 80, none⟩]
abbrev oo57 : List LOp := [⟨Op.index 130 (Operand.tmp 78) (Operand.tmp 79), some 81, none⟩, ⟨Op.assign (Operand.tmp 81), some 13, none⟩]
abbrev oo58 : List LOp := [⟨Op.assign (Operand.const (Value.slice none 0 0)), some 14, none⟩]
abbrev oo59 : List LOp := [⟨Op.fieldAddr 32 (Operand.tmp 1) 2, some 82, none⟩, ⟨Op.load 28 (Operand.tmp 82), some 83, none⟩, ⟨Op.call { callee := Callee.builtin Builtin.len, args := #[Operand.tmp 83], argTypes := #[28] }, some 84, none⟩, ⟨Op.move (Operand.const (Value.int IntKind.i64 0)), some 85, none⟩]
abbrev oo60 : List LOp := [⟨Op.binOp BinOp.lss 3 (Operand.tmp 85) (Operand.tmp 84) 3, some 86, none⟩]
abbrev oo61 : List LOp := [⟨Op.indexAddr 28 (Operand.tmp 83) (Operand.tmp 85), some 87, none⟩, ⟨Op.load 89 (Operand.tmp 87), some 88, none⟩, ⟨Op.alloc 89, some 16, none⟩, ⟨Op.store 89 (Operand.tmp 16) (Operand.tmp 88), none, none⟩]
abbrev oo62 : List LOp := [⟨Op.load 89 (Operand.tmp 16), some 89, none⟩, ⟨Op.call { callee := Callee.value (Operand.func 59), args := #[Operand.tmp 89], argTypes := #[89] }, some 90, none⟩, ⟨Op.move (Operand.tmp 13), some 91, none⟩, ⟨Op.binOp BinOp.eql 4 (Operand.tmp 90) (Operand.tmp 91) 4, some 92, none⟩]
abbrev oo63 : List LOp := [⟨Op.move (Operand.tmp 14), some 93, none⟩, ⟨Op.load 89 (Operand.tmp 16), some 94, none⟩, ⟨Op.buildSlice 28 1 #[(0, Operand.tmp 94)], some 95, none⟩, ⟨Op.call { callee := Callee.builtin Builtin.append, args := #[Operand.tmp 93, Operand.tmp 95], argTypes := #[28, 28] }, some 96, none⟩, ⟨Op.assign (Operand.tmp 96), some 14, none⟩]
abbrev oo64 : List LOp := [⟨Op.binOp BinOp.add 3 (Operand.tmp 85) (Operand.const (Value.int IntKind.i64 1)) 3, some 97, none⟩, ⟨Op.move (Operand.tmp 97), some 85, none⟩]
abbrev oo65 : List LOp := [⟨Op.move (Operand.tmp 14), some 98, none⟩, ⟨Op.call { callee := Callee.builtin Builtin.len, args := #[Operand.tmp 98], argTypes := #[28] }, some 99, none⟩, ⟨Op.binOp BinOp.gtr 3 (Operand.tmp 99) (Operand.const (Value.int IntKind.i64 0)) 3, some 100, none⟩]
abbrev oo66 : List LOp := [⟨Op.load 48 (Operand.tmp 4), some 101, none⟩, ⟨Op.buildSlice 45 1 #[(0, Operand.tmp 101)], some 102, none⟩, ⟨Op.move (Operand.tmp 14), some 103, none⟩, ⟨Op.build 48 #[(0, Operand.const (Value.int IntKind.i64 6)), (1, Operand.tmp 102), (5, Operand.tmp 103)], some 104, none⟩, ⟨Op.store 48 (Operand.tmp 4) (Operand.tmp 104), none, none⟩]
abbrev oo67 : List LOp := [⟨Op.binOp BinOp.add 3 (Operand.tmp 79) (Operand.const (Value.int IntKind.i64 1)) 3, some 105, none⟩, ⟨Op.move (Operand.tmp 105), some 79, none⟩]
abbrev oo68 : List LOp := [⟨Op.binOp BinOp.add 3 (Operand.tmp 21) (Operand.const (Value.int IntKind.i64 1)) 3, some 97, none⟩, ⟨Op.move (Operand.tmp 97), some 21, none⟩]
abbrev oo69 : List LOp := [⟨Op.box 25 (Operand.tmp 0), some 2, none⟩, ⟨Op.box 32 (Operand.tmp 1), some 3, none⟩, ⟨Op.alloc 48, some 4, none⟩, ⟨Op.assign (Operand.const (Value.int IntKind.i64 0)), some 5, none⟩, ⟨Op.assign (Operand.const (Value.int IntKind.i64 0)), some 6, none⟩]
abbrev oo70 : List LOp := [⟨Op.load 32 (Operand.tmp 3), some 10, none⟩, ⟨Op.call { callee := Callee.value (Operand.func 36), args := #[Operand.tmp 10], argTypes := #[32] }, some 11, none⟩, ⟨Op.field 48 (Operand.tmp 11) 0, some 12, none⟩, ⟨Op.binOp BinOp.eql 44 (Operand.tmp 12) (Operand.const (Value.int IntKind.i64 0)) 44, some 13, none⟩]
abbrev oo71 : List LOp := [⟨Op.fieldAddr 25 (Operand.tmp 2) 1, some 15, none⟩, ⟨Op.load 23 (Operand.tmp 15), some 16, none⟩, ⟨Op.call { callee := Callee.builtin Builtin.len, args := #[Operand.tmp 16], argTypes := #[23] }, some 17, none⟩, ⟨Op.fieldAddr 25 (Operand.tmp 2) 0, some 18, none⟩, ⟨Op.load 22 (Operand.tmp 18), some 19, none⟩, ⟨Op.call { callee := Callee.builtin Builtin.len, args := #[Operand.tmp 19], argTypes := #[22] }, some 20, none⟩, ⟨Op.binOp BinOp.add 3 (Operand.tmp 20) (Operand.const (Value.int IntKind.i64 1)) 3, some 21, none⟩, ⟨Op.binOp BinOp.neq 3 (Operand.tmp 17) (Operand.tmp 21) 3, some 22, none⟩]
abbrev oo72 : List LOp := [⟨Op.load 32 (Operand.tmp 3), some 24, none⟩, ⟨Op.load 25 (Operand.tmp 2), some 25, none⟩, ⟨Op.makeMap 118 none, some 26, none⟩, ⟨Op.build 120 #[(0, Operand.tmp 24), (1, Operand.tmp 25), (3, Operand.tmp 26)], some 27, none⟩, ⟨Op.box 120 (Operand.tmp 27), some 28, none⟩, ⟨Op.assign (Operand.tmp 28), some 7, none⟩]
abbrev oo73 : List LOp := [⟨Op.move (Operand.tmp 7), some 30, none⟩, ⟨Op.call { callee := Callee.value (Operand.func 45), args := #[Operand.tmp 30], argTypes := #[117] }, some 31, none⟩, ⟨Op.move (Operand.tmp 31), some 29, none⟩, ⟨Op.extract (Operand.tmp 29) 0, some 32, none⟩, ⟨Op.extract (Operand.tmp 29) 1, some 33, none⟩, ⟨Op.assign (Operand.tmp 32), some 8, none⟩, ⟨Op.assign (Operand.tmp 33), some 9, none⟩]
abbrev oo74 : List LOp := [⟨Op.move (Operand.tmp 9), some 34, none⟩, ⟨Op.unOp UnOp.not 4 (Operand.tmp 34), some 35, none⟩, ⟨Op.move (Operand.tmp 35), some 36, none⟩, ⟨Op.move (Operand.tmp 7), some 37, some (some 36, false)⟩, ⟨Op.nilCheck (Operand.tmp 37), some 38, some (some 36, false)⟩, ⟨Op.fieldAddr 120 (Operand.tmp 38) 3, some 39, some (some 36, false)⟩, ⟨Op.load 118 (Operand.tmp 39), some 40, some (some 36, false)⟩, ⟨Op.call { callee := Callee.builtin Builtin.len, args := #[Operand.tmp 40], argTypes := #[118] }, some 41, some (some 36, false)⟩, ⟨Op.fieldAddr 25 (Operand.tmp 2) 0, some 42, some (some 36, false)⟩, ⟨Op.load 22 (Operand.tmp 42), some 43, some (some 36, false)⟩, ⟨Op.call { callee := Callee.builtin Builtin.len, args := #[Operand.tmp 43], argTypes := #[22] }, some 44, some (some 36, false)⟩, ⟨Op.binOp BinOp.lss 3 (Operand.tmp 41) (Operand.tmp 44) 3, some 45, some (some 36, false)⟩, ⟨Op.pick (Operand.tmp 36) (Operand.const (Value.bool true)) (Operand.tmp 45), some 46, none⟩]
abbrev oo75 : List LOp := [⟨Op.assign (Operand.const (Value.int IntKind.i64 0)), some 6, none⟩]
abbrev oo76 : List LOp := [⟨Op.assign (Operand.const (Value.int IntKind.i64 0)), some 7, none⟩]
end Go.Proofs.Ytimgbdkgjfbhkaa.Z
section
set_option maxRecDepth 100000
namespace Go.Proofs.Ytimgbdkgjfbhkaa.Z
open Go Go.Fw
@[simp] theorem ty_arr130 : arrOfT P 130 = some (2, 4) := by kernel_rfl
@[simp] theorem ty_pl130 : placesT P 130 = none := by kernel_rfl
@[simp] theorem ty_str130 : strT P 130 = false := by kernel_rfl
@[simp] theorem ty_zero130' : zeroOf P 130 = some [.bool false, .bool false] := by kernel_rfl
@[simp] theorem lost4 (a b c d : Nat) (s1 : Store) (id : Nat) : lost [a, b, c, d] s1 id = ((a == id && (getB s1 0).isNone) || (b == id && (getB s1 1).isNone) || (c == id && (getB s1 2).isNone) || (d == id && (getB s1 3).isNone)) := by
  have : List.range 4 = [0, 1, 2, 3] := rfl
  simp only [lost, List.length_cons, List.length_nil, Nat.reduceAdd, this, List.any_cons, List.any_nil, Bool.or_false, Bool.or_assoc]
  rfl
attribute [-simp] lookV updV Blk.fgt Blk.ren Blk.men Blk.fin lost
attribute [local simp] look101 upd101
def RX (x : Nat) : Prop := x = 0 ∨ x = 1 ∨ x = 2
theorem okJ (n : Int) (q q' : PlanT) (l l' : List Int) : okW [600, 2400, 500, 400] [(0, .vals [.mp 1]), (1, mpK l), (2, .vals ((encP q).map .d)), (3, .vals [.fn 57 []])] [.int n, .pt 0 0 0 0, .pt 2 0 0 0, .pt 3 0 0 0] (.tup []) [(0, .vals [.mp 1]), (1, mpK l'), (2, .vals ((encP q').map .d)), (3, .vals [.fn 57 []])] = true := by
  rw [encP_cells, encP_cells]
  have e : List.range 4 = [0, 1, 2, 3] := rfl
  simp [okW, badId, e, V.menL, V.men, getB]
theorem transN_ok (c : CoreT) (hP : patS c.nodes c.edges = false) : Snd P 36 [.d (.ag (encC c))] (.d (.ag (encP zeroQ))) [] := by
  have hP1 : Snd P 42 [.d (.ag (encC c))] (.bool false) [] := by rw [← hP]; exact pattern_ok c
  refine snd_of [] Try.func36 rfl (by kernel_rfl) Try.ntmps36 (by simp) ?_
  unfold Try.f36
  simp only [List.cons_append, List.nil_append, List.length_cons, List.length_nil, Nat.reduceAdd, Nat.reduceSub, List.replicate]
  refine Run.seq ?_
  refine opsF oo54 fun K hK => ?_
  try simp
  repeat' first | ((refine evL_c ?_); simp) | (with_reducible refine And.intro ?_ ?_) | intro _ | (with_reducible assumption) | omega
  all_goals (refine Fin.go hK ?_; clear hK K)
  simp only [Then_normal]
  refine Run.seq ?_
  refine Run.seq ?_
  refine opsF oo55 fun K hK => ?_
  try simp
  repeat' first | (refine ecallD (by exact hP1) ?_) | ((refine evL_c ?_); simp) | (with_reducible refine And.intro ?_ ?_) | intro _ | (with_reducible assumption) | omega
  all_goals (refine Fin.go hK ?_; clear hK K)
  simp only [Then_normal]
  refine Run.cond rfl (fun h19 => ?_) (fun h19 => ?_)
  · skip
    refine Run.seq ?_
    refine opsF [⟨Op.build 48 #[], some 20, none⟩, ⟨Op.store 48 (Operand.tmp 2) (Operand.tmp 20), none, none⟩] fun K hK => ?_
    try simp
    repeat' first | ((refine evL_c ?_); simp) | (with_reducible refine And.intro ?_ ?_) | intro _ | (with_reducible assumption) | omega
    all_goals (refine Fin.go hK ?_; clear hK K)
    simp only [Then_normal]
    refine Run.subB 300 1 (.d (.sl false [])) rfl rfl nil_sl ?_
    simp
    refine Run.subB 300 3 (.d (.sl false [])) rfl rfl nil_sl ?_
    simp
    refine Run.subB 300 5 (.d (.sl false [])) rfl rfl nil_sl ?_
    simp
    refine Run.ret ?_
    try simp only [Then_ret, Blok_ret]
    simp
  · simp at h19

set_option maxHeartbeats 16000000 in
theorem transA_ok (c : CoreT) (hP : patS c.nodes c.edges = true) (hw : c.wher.length ≤ 1100000) : Snd P 36 [.d (.ag (encC c))] (.d (.ag (encP (filtB (nodesN c c.nodes.length).1 c.wher)))) [] := by
  have hP1 : Snd P 42 [.d (.ag (encC c))] (.bool true) [] := by rw [← hP]; exact pattern_ok c
  obtain ⟨hn1, hn8, hk8⟩ := pat_rng hP
  obtain ⟨n, hn⟩ : ∃ k, c.nodes.length = k := ⟨_, rfl⟩
  obtain ⟨k, hk⟩ : ∃ k, c.edges.length = k := ⟨_, rfl⟩
  obtain ⟨m, hm⟩ : ∃ k, c.wher.length = k := ⟨_, rfl⟩
  rw [hn] at hn1 hn8
  rw [hk] at hk8
  rw [hm] at hw
  have hsc := scanP_ok 0
  rw [encP_cells] at hsc
  obtain ⟨P0, hP0⟩ : ∃ x, (nodesN c n).1 = x := ⟨_, rfl⟩
  obtain ⟨P1, hP1x⟩ : ∃ x, filtO P0 (c.wher.filter safeT) = x := ⟨_, rfl⟩
  obtain ⟨P2, hP2x⟩ : ∃ x, filtO P1 (c.wher.filter fun t => !safeT t) = x := ⟨_, rfl⟩
  have hP1e : P1 = filtO P0 (c.wher.filter fun t => safeT t == true) := by rw [← hP1x]; congr 2; funext t; simp
  have hP2e : P2 = filtO P1 (c.wher.filter fun t => safeT t == false) := by rw [← hP2x]; congr 2; funext t; simp
  have hr : filtB (nodesN c c.nodes.length).1 c.wher = P2 := by rw [hn, hP0, filtB, hP1x, hP2x]
  rw [hr]
  refine snd_of [] Try.func36 rfl (by kernel_rfl) Try.ntmps36 (by simp) ?_
  unfold Try.f36
  simp only [List.cons_append, List.nil_append, List.length_cons, List.length_nil, Nat.reduceAdd, Nat.reduceSub, List.replicate]
  refine Run.seq ?_
  refine opsF oo54 fun K hK => ?_
  try simp
  repeat' first | ((refine evL_c ?_); simp [hn, hk]) | (with_reducible refine And.intro ?_ ?_) | intro _ | (with_reducible assumption) | omega
  all_goals (refine Fin.go hK ?_; clear hK K)
  simp only [Then_normal]
  refine Run.seq ?_
  refine Run.seq ?_
  refine opsF oo55 fun K hK => ?_
  try simp
  repeat' first | (refine ecallD (by exact hP1) ?_) | ((refine evL_c ?_); simp [hn, hk]) | (with_reducible refine And.intro ?_ ?_) | intro _ | (with_reducible assumption) | omega
  all_goals (refine Fin.go hK ?_; clear hK K)
  simp only [Then_normal]
  refine Run.cond rfl (fun h19 => ?_) (fun h19 => ?_)
  · simp at h19
  · skip
    refine Run.skip ?_
    simp only [Then_normal]
    refine Run.seq ?_
    refine opsF [⟨Op.alloc 128, some 3, none⟩, ⟨Op.store 128 (Operand.tmp 3) (Operand.func 57), none, none⟩] fun K hK => ?_
    try simp
    repeat' first | ((refine evL_c ?_); simp [hn, hk]) | (with_reducible refine And.intro ?_ ?_) | intro _ | (with_reducible assumption) | omega
    all_goals (refine Fin.go hK ?_; clear hK K)
    simp only [Then_normal]
    refine Run.seq ?_
    refine opsF [⟨Op.load 128 (Operand.tmp 3), some 21, none⟩, ⟨Op.call { callee := Callee.value (Operand.tmp 21), args := #[Operand.const (Value.int IntKind.i64 0)], argTypes := #[3] }, some 22, none⟩, ⟨Op.alloc 48, some 4, none⟩, ⟨Op.store 48 (Operand.tmp 4) (Operand.tmp 22), none, none⟩] fun K hK => ?_
    try simp
    repeat' first | (refine ecallD (by exact hsc) ?_) | ((refine evL_c ?_); simp [hn, hk]) | (with_reducible refine And.intro ?_ ?_) | intro _ | (with_reducible assumption) | omega
    all_goals (refine Fin.go hK ?_; clear hK K)
    simp only [Then_normal]
    refine Run.cut [5, 23, 24] [(5, .pt 600 0 0 0)] [(200, .vals ((encC c).map .d)), (300, .vals [.int 0, vnil, .int 0, vnil, .bool false, vnil]), (400, .vals [.fn 57 []]), (500, .vals ((encP (scanQ 0)).map .d)), (600, .vals [.mp 2400]), (2400, mpK [0])] ?_ ?_
    · refine opsF [⟨Op.makeMap 118 none, some 23, none⟩, ⟨Op.insert 118 (Operand.tmp 23) (Operand.const (Value.int IntKind.i64 0)) (Operand.const (Value.bool true)), none, none⟩, ⟨Op.move (Operand.tmp 23), some 24, none⟩, ⟨Op.alloc 118, some 5, none⟩, ⟨Op.store 118 (Operand.tmp 5) (Operand.tmp 24), none, none⟩] fun K hK => ?_
      try simp
      repeat' first | ((refine evL_c ?_); simp [hn, hk, updB, findK]) | (with_reducible refine And.intro ?_ ?_) | intro _ | (with_reducible assumption) | omega
      all_goals (refine Fin.go hK ?_; clear hK K)
      (try simp [hn, hk, mpK, updB, findK]) <;> (first | omega | (simp; done) | (rw [Bool.eq_iff_iff]; simp only [Bool.or_eq_true, Bool.and_eq_true, Bool.not_eq_true', decide_eq_true_eq, decide_eq_false_iff_not]; omega) | (simp_all; done) | grind)
    · simp only [over, List.foldl, List.set]
      refine Run.seq ?_
      refine opsF [⟨Op.makeFunc (Fn.func 58) #[] #[Operand.tmp 5, Operand.tmp 4, Operand.tmp 3], some 25, none⟩, ⟨Op.assign (Operand.tmp 25), some 6, none⟩] fun K hK => ?_
      try simp
      repeat' first | ((refine evL_c ?_); simp [hn, hk]) | (with_reducible refine And.intro ?_ ?_) | intro _ | (with_reducible assumption) | omega
      all_goals (refine Fin.go hK ?_; clear hK K)
      simp only [Then_normal]
      refine Run.seq ?_
      refine Run.seq ?_
      refine opsF [⟨Op.fieldAddr 32 (Operand.tmp 1) 1, some 26, none⟩, ⟨Op.load 27 (Operand.tmp 26), some 27, none⟩, ⟨Op.call { callee := Callee.builtin Builtin.len, args := #[Operand.tmp 27], argTypes := #[27] }, some 28, none⟩, ⟨Op.move (Operand.const (Value.int IntKind.i64 0)), some 29, none⟩] fun K hK => ?_
      try simp
      repeat' first | ((refine evL_c ?_); simp [hn, hk]) | (with_reducible refine And.intro ?_ ?_) | intro _ | (with_reducible assumption) | omega
      all_goals (refine Fin.go hK ?_; clear hK K)
      simp only [Then_normal]
      refine Run.block ?_
      refine Run.loopO [7, 8, 9, 10, 29, 30, 31, 32, 33, 34, 35, 36, 37, 38, 39, 40, 41, 42, 43, 44, 45, 46, 47, 48, 49, 50, 51, 52, 53, 54, 55, 56, 57, 58, 59, 60, 61, 62, 63, 64, 65, 66, 67] (fun (i : Nat) => [(29, .int i)]) (fun (i : Nat) => [(200, .vals ((encC c).map .d)), (300, .vals [.int 0, vnil, .int 0, vnil, .bool false, vnil]), (400, .vals [.fn 57 []]), (500, .vals ((encP (edgesN c i).1).map .d)), (600, .vals [.mp 2400]), (2400, mpK (edgesN c i).2)]) (fun (i : Nat) => i ≤ k) (fun (i : Nat) => k - i) 0 (by omega) (by simp [edgesN, hn, hk]) fun i hi => ?_
      simp only [over, List.foldl, List.set]
      have hu : edgesN c (i + 1) = trEdge c i (edgesN c i) := rfl
      obtain ⟨⟨q, l⟩, hq⟩ : ∃ x, edgesN c i = x := ⟨_, rfl⟩
      rw [hq] at hu ⊢
      refine Run.seq ?_
      refine opsF [⟨Op.binOp BinOp.lss 3 (Operand.tmp 29) (Operand.tmp 28) 3, some 30, none⟩] fun K hK => ?_
      try simp
      repeat' first | ((refine evL_c ?_); simp [hn, hk]) | (with_reducible refine And.intro ?_ ?_) | intro _ | (with_reducible assumption) | omega
      all_goals (refine Fin.go hK ?_; clear hK K)
      simp only [Then_normal]
      refine Run.seq ?_
      refine Run.cond rfl (fun h30 => ?_) (fun h30 => ?_)
      · try simp at h30
        have hi1 : i < k := by omega
        have hi2 : (i : Int) < k := by omega
        have hiN : (0 : Int) ≤ i := by omega
        obtain ⟨src, hsr⟩ : ∃ x, (rdI c.edges i).src = x := ⟨_, rfl⟩
        obtain ⟨dst, hdr⟩ : ∃ x, (rdI c.edges i).dst = x := ⟨_, rfl⟩
        obtain ⟨mo, hmd⟩ : ∃ x, (rdI c.edges i).mode = x := ⟨_, rfl⟩
        obtain ⟨bk, hbk⟩ : ∃ x, trBack c i l = x := ⟨_, rfl⟩
        have hbk2 : (!decide (src ∈ l) && decide (dst ∈ l)) = bk := by rw [← hbk, trBack, hsr, hdr]
        obtain ⟨⟨q1, l1⟩, hql⟩ : ∃ x, (if bk = true then (q, l) else trJoin (q, l) src) = x := ⟨_, rfl⟩
        have hJ := joinF_ok q l src
        refine Run.skip ?_
        simp only [Then_normal]
        refine Run.seq ?_
        refine Run.block ?_
        refine Run.cut [7, 8, 31, 32, 33] [(8, .pt 900 0 0 0), (7, .int i)] [(200, .vals ((encC c).map .d)), (300, .vals [.int 0, vnil, .int 0, vnil, .bool false, vnil]), (400, .vals [.fn 57 []]), (500, .vals ((encP q).map .d)), (600, .vals [.mp 2400]), (900, .vals ((encE (rdI c.edges i)).map .d)), (2400, mpK l)] ?_ ?_
        · refine opsF [⟨Op.move (Operand.tmp 29), some 31, none⟩, ⟨Op.indexAddr 27 (Operand.tmp 27) (Operand.tmp 29), some 32, none⟩, ⟨Op.load 98 (Operand.tmp 32), some 33, none⟩, ⟨Op.alloc 98, some 8, none⟩, ⟨Op.assign (Operand.tmp 31), some 7, none⟩, ⟨Op.store 98 (Operand.tmp 8) (Operand.tmp 33), none, none⟩] fun K hK => ?_
          try simp
          repeat' first | ((refine evL_c ?_); simp [hn, hk, hi1, hi2, hiN, hsr, hdr, hmd]) | (with_reducible refine And.intro ?_ ?_) | intro _ | (with_reducible assumption) | omega
          all_goals (refine Fin.go hK ?_; clear hK K)
          (try simp [hn, hk, hi1, hi2, hiN, hsr, hdr, hmd]) <;> (first | omega | (simp; done) | (rw [Bool.eq_iff_iff]; simp only [Bool.or_eq_true, Bool.and_eq_true, Bool.not_eq_true', decide_eq_true_eq, decide_eq_false_iff_not]; omega) | (simp_all; done) | grind)
        · simp only [over, List.foldl, List.set]
          refine Run.cut [9, 34, 35, 36, 37, 38, 39, 40, 41, 42, 43, 44] [(9, .bool bk)] [(200, .vals ((encC c).map .d)), (300, .vals [.int 0, vnil, .int 0, vnil, .bool false, vnil]), (400, .vals [.fn 57 []]), (500, .vals ((encP q).map .d)), (600, .vals [.mp 2400]), (900, .vals ((encE (rdI c.edges i)).map .d)), (2400, mpK l)] ?_ ?_
          · refine opsF [⟨Op.load 118 (Operand.tmp 5), some 34, none⟩, ⟨Op.fieldAddr 98 (Operand.tmp 8) 2, some 35, none⟩, ⟨Op.load 3 (Operand.tmp 35), some 36, none⟩, ⟨Op.lookup 118 (Operand.tmp 34) (Operand.tmp 36) false, some 37, none⟩, ⟨Op.unOp UnOp.not 4 (Operand.tmp 37), some 38, none⟩, ⟨Op.move (Operand.tmp 38), some 39, none⟩, ⟨Op.load 118 (Operand.tmp 5), some 40, some (some 39, true)⟩, ⟨Op.fieldAddr 98 (Operand.tmp 8) 3, some 41, some (some 39, true)⟩, ⟨Op.load 3 (Operand.tmp 41), some 42, some (some 39, true)⟩, ⟨Op.lookup 118 (Operand.tmp 40) (Operand.tmp 42) false, some 43, some (some 39, true)⟩, ⟨Op.pick (Operand.tmp 39) (Operand.tmp 43) (Operand.const (Value.bool false)), some 44, none⟩, ⟨Op.assign (Operand.tmp 44), some 9, none⟩] fun K hK => ?_
            try simp
            repeat' first | ((first | refine evL_c ?_ | (refine evL_g rfl ?_; try simp only [gs_tt, gs_ff, gs_tf, gs_ft]) | refine evL_u rfl ?_ | (with_reducible refine gsplit (fun hg => ?_) (fun hg => ?_) <;> try simp at hg)) <;> try simp [hn, hk, hi1, hi2, hiN, hsr, hdr, hmd, *]) | (with_reducible refine And.intro ?_ ?_) | intro _ | (with_reducible assumption) | omega
            all_goals (refine Fin.go hK ?_; clear hK K)
            all_goals
              rw [← hbk2]
              (try simp [hn, hk, hi1, hi2, hiN, hsr, hdr, hmd]) <;> (first | omega | (simp; done) | (rw [Bool.eq_iff_iff]; simp only [Bool.or_eq_true, Bool.and_eq_true, Bool.not_eq_true', decide_eq_true_eq, decide_eq_false_iff_not]; omega) | (simp_all; done) | grind)
          · simp only [over, List.foldl, List.set]
            refine Run.cut [45, 46, 47, 48, 49, 50] [] [(200, .vals ((encC c).map .d)), (300, .vals [.int 0, vnil, .int 0, vnil, .bool false, vnil]), (400, .vals [.fn 57 []]), (500, .vals ((encP q1).map .d)), (600, .vals [.mp 2400]), (900, .vals ((encE (rdI c.edges i)).map .d)), (2400, mpK l1)] ?_ ?_
            · refine Run.seq ?_
              refine opsF [⟨Op.move (Operand.tmp 9), some 45, none⟩, ⟨Op.unOp UnOp.not 4 (Operand.tmp 45), some 46, none⟩] fun K hK => ?_
              try simp
              repeat' first | ((refine evL_c ?_); simp [hn, hk, hi1, hi2, hiN, hsr, hdr, hmd]) | (with_reducible refine And.intro ?_ ?_) | intro _ | (with_reducible assumption) | omega
              all_goals (refine Fin.go hK ?_; clear hK K)
              simp only [Then_normal]
              refine Run.cond rfl (fun h46 => ?_) (fun h46 => ?_)
              · try simp at h46
                refine opsT [⟨Op.move (Operand.tmp 6), some 47, none⟩, ⟨Op.fieldAddr 98 (Operand.tmp 8) 2, some 48, none⟩, ⟨Op.load 3 (Operand.tmp 48), some 49, none⟩, ⟨Op.call { callee := Callee.value (Operand.tmp 47), args := #[Operand.tmp 49], argTypes := #[3] }, some 50, none⟩] fun K hK => ?_
                try simp
                repeat' first | (refine ecallW [600, 2400, 500, 400] (by exact hJ) (by simp) (by simp) (okJ _ _ _ _ _) ?_) | ((refine evL_c ?_); simp [hn, hk, hi1, hi2, hiN, hsr, hdr, hmd]) | (with_reducible refine And.intro ?_ ?_) | intro _ | (with_reducible assumption) | omega
                all_goals (refine Fin.go hK ?_; clear hK K)
                first
                  | (rw [h46] at hql; simp at hql; simp [hn, hk, hi1, hi2, hiN, hsr, hdr, hmd, hql]; done)
                  | (simp [h46] at hql; obtain ⟨rfl, rfl⟩ := hql; simp [hn, hk, hi1, hi2, hiN, hsr, hdr, hmd]; done)
              · try simp at h46
                refine Run.skip ?_
                first
                  | (rw [h46] at hql; simp at hql; simp [hn, hk, hi1, hi2, hiN, hsr, hdr, hmd, hql]; done)
                  | (simp [h46] at hql; obtain ⟨rfl, rfl⟩ := hql; simp [hn, hk, hi1, hi2, hiN, hsr, hdr, hmd]; done)
            · simp only [over, List.foldl, List.set]
              refine Run.seq ?_
              refine opsF [⟨Op.assign (Operand.const (Value.int IntKind.i64 2)), some 10, none⟩] fun K hK => ?_
              try simp
              repeat' first | ((refine evL_c ?_); simp [hn, hk, hi1, hi2, hiN, hsr, hdr, hmd]) | (with_reducible refine And.intro ?_ ?_) | intro _ | (with_reducible assumption) | omega
              all_goals (refine Fin.go hK ?_; clear hK K)
              simp only [Then_normal]
              refine Run.cut [10, 51, 52, 53] [(10, .int (if mo = 0 then 2 else 3))] [(200, .vals ((encC c).map .d)), (300, .vals [.int 0, vnil, .int 0, vnil, .bool false, vnil]), (400, .vals [.fn 57 []]), (500, .vals ((encP q1).map .d)), (600, .vals [.mp 2400]), (900, .vals ((encE (rdI c.edges i)).map .d)), (2400, mpK l1)] ?_ ?_
              · refine Run.seq ?_
                refine opsF [⟨Op.fieldAddr 98 (Operand.tmp 8) 4, some 51, none⟩, ⟨Op.load 96 (Operand.tmp 51), some 52, none⟩, ⟨Op.binOp BinOp.neq 96 (Operand.tmp 52) (Operand.const (Value.int IntKind.i64 0)) 96, some 53, none⟩] fun K hK => ?_
                try simp
                repeat' first | ((refine evL_c ?_); simp [hn, hk, hi1, hi2, hiN, hsr, hdr, hmd]) | (with_reducible refine And.intro ?_ ?_) | intro _ | (with_reducible assumption) | omega
                all_goals (refine Fin.go hK ?_; clear hK K)
                simp only [Then_normal]
                refine Run.cond rfl (fun h53 => ?_) (fun h53 => ?_)
                · try simp at h53
                  refine opsF [⟨Op.assign (Operand.const (Value.int IntKind.i64 3)), some 10, none⟩] fun K hK => ?_
                  try simp
                  repeat' first | ((refine evL_c ?_); simp [hn, hk, hi1, hi2, hiN, hsr, hdr, hmd]) | (with_reducible refine And.intro ?_ ?_) | intro _ | (with_reducible assumption) | omega
                  all_goals (refine Fin.go hK ?_; clear hK K)
                  simp [h53, hn, hk, hi1, hi2, hiN, hsr, hdr, hmd]
                · try simp at h53
                  refine Run.skip ?_
                  simp [h53, hn, hk, hi1, hi2, hiN, hsr, hdr, hmd]
              · simp only [over, List.foldl, List.set]
                refine Run.seq ?_
                refine opsF [⟨Op.move (Operand.tmp 10), some 54, none⟩, ⟨Op.load 48 (Operand.tmp 4), some 55, none⟩, ⟨Op.buildSlice 45 1 #[(0, Operand.tmp 55)], some 56, none⟩, ⟨Op.move (Operand.tmp 7), some 57, none⟩, ⟨Op.buildSlice 46 1 #[(0, Operand.tmp 57)], some 58, none⟩, ⟨Op.move (Operand.tmp 9), some 59, none⟩, ⟨Op.build 48 #[(0, Operand.tmp 54), (1, Operand.tmp 56), (3, Operand.tmp 58), (4, Operand.tmp 59)], some 60, none⟩, ⟨Op.store 48 (Operand.tmp 4) (Operand.tmp 60), none, none⟩] fun K hK => ?_
                try simp
                repeat' first | ((refine evL_c ?_); simp [hn, hk, hi1, hi2, hiN, hsr, hdr, hmd]) | (with_reducible refine And.intro ?_ ?_) | intro _ | (with_reducible assumption) | omega
                all_goals (refine Fin.go hK ?_; clear hK K)
                simp only [Then_normal]
                refine Run.fra 5700 ?_
                simp [V.fra, V.fraL, fraS, frz]
                refine Run.fra 5900 ?_
                simp [V.fra, V.fraL, fraS, frz]
                refine Run.subB 500 5 (.d (.sl false [])) rfl rfl nil_sl ?_
                simp
                refine opsF [⟨Op.load 118 (Operand.tmp 5), some 61, none⟩, ⟨Op.fieldAddr 98 (Operand.tmp 8) 2, some 62, none⟩, ⟨Op.load 3 (Operand.tmp 62), some 63, none⟩, ⟨Op.load 118 (Operand.tmp 5), some 64, none⟩, ⟨Op.fieldAddr 98 (Operand.tmp 8) 3, some 65, none⟩, ⟨Op.load 3 (Operand.tmp 65), some 66, none⟩, ⟨Op.mapUpdate 118 (Operand.tmp 61) (Operand.tmp 63) (Operand.const (Value.bool true)), none, none⟩, ⟨Op.mapUpdate 118 (Operand.tmp 64) (Operand.tmp 66) (Operand.const (Value.bool true)), none, none⟩] fun K hK => ?_
                try simp
                repeat' first | ((refine evL_c ?_); simp [hn, hk, hi1, hi2, hiN, hsr, hdr, hmd]) | (with_reducible refine And.intro ?_ ?_) | intro _ | (with_reducible assumption) | omega
                all_goals (refine Fin.go hK ?_; clear hK K)
                simp only [Blok_normal]
                simp only [Then_normal]
                refine opsF [⟨Op.binOp BinOp.add 3 (Operand.tmp 29) (Operand.const (Value.int IntKind.i64 1)) 3, some 67, none⟩, ⟨Op.move (Operand.tmp 67), some 29, none⟩] fun K hK => ?_
                try simp
                repeat' first | ((refine evL_c ?_); simp [hn, hk, hi1, hi2, hiN, hsr, hdr, hmd]) | (with_reducible refine And.intro ?_ ?_) | intro _ | (with_reducible assumption) | omega
                all_goals (refine Fin.go hK ?_; clear hK K)
                refine ⟨i + 1, by omega, by omega, ?_⟩
                first
                  | (have hu2 : edgesN c (i + 1) = (stepQ c q1 i bk, trAdd (trAdd l1 src) dst) := by rw [hu, trEdge, hbk, hsr, hdr, hql]
                     simp (disch := omega) [hn, hk, hu2, wrap_id, hmd]; done)
      · try simp at h30
        have hi3 : i = k := by omega
        subst hi3
        refine Run.exit ?_
        simp (decide := true) only [Then_exit, Blok_exit, if_true, if_false]
        simp only [Then_normal]
        refine Run.seq ?_
        refine Run.seq ?_
        refine opsF [⟨Op.fieldAddr 32 (Operand.tmp 1) 0, some 68, none⟩, ⟨Op.load 26 (Operand.tmp 68), some 69, none⟩, ⟨Op.call { callee := Callee.builtin Builtin.len, args := #[Operand.tmp 69], argTypes := #[26] }, some 70, none⟩, ⟨Op.move (Operand.const (Value.int IntKind.i64 0)), some 71, none⟩] fun K hK => ?_
        try simp
        repeat' first | ((refine evL_c ?_); simp [hn, hk]) | (with_reducible refine And.intro ?_ ?_) | intro _ | (with_reducible assumption) | omega
        all_goals (refine Fin.go hK ?_; clear hK K)
        simp only [Then_normal]
        refine Run.block ?_
        refine Run.loopO [11, 71, 72, 73, 74, 75, 76, 77] (fun (i2 : Nat) => [(71, .int i2)]) (fun (i2 : Nat) => [(200, .vals ((encC c).map .d)), (300, .vals [.int 0, vnil, .int 0, vnil, .bool false, vnil]), (400, .vals [.fn 57 []]), (500, .vals ((encP (nodesN c i2).1).map .d)), (600, .vals [.mp 2400]), (2400, mpK (nodesN c i2).2)]) (fun (i2 : Nat) => i2 ≤ n) (fun (i2 : Nat) => n - i2) 0 (by omega) (by simp [nodesN, hq, hn, hk]) fun i2 hi2 => ?_
        simp only [over, List.foldl, List.set]
        have hu : nodesN c (i2 + 1) = trJoin (nodesN c i2) i2 := rfl
        obtain ⟨⟨q2, l2⟩, hq2⟩ : ∃ x, nodesN c i2 = x := ⟨_, rfl⟩
        rw [hq2] at hu ⊢
        have hJ2 := joinF_ok q2 l2 i2
        refine Run.seq ?_
        refine opsF [⟨Op.binOp BinOp.lss 3 (Operand.tmp 71) (Operand.tmp 70) 3, some 72, none⟩] fun K hK => ?_
        try simp
        repeat' first | ((refine evL_c ?_); simp [hn, hk]) | (with_reducible refine And.intro ?_ ?_) | intro _ | (with_reducible assumption) | omega
        all_goals (refine Fin.go hK ?_; clear hK K)
        simp only [Then_normal]
        refine Run.seq ?_
        refine Run.cond rfl (fun h72 => ?_) (fun h72 => ?_)
        · try simp at h72
          have hj1 : i2 < n := by omega
          have hj2 : (i2 : Int) < n := by omega
          refine Run.skip ?_
          simp only [Then_normal]
          refine Run.seq ?_
          refine Run.block ?_
          refine Run.seq ?_
          refine opsF [⟨Op.move (Operand.tmp 71), some 73, none⟩, ⟨Op.assign (Operand.tmp 73), some 11, none⟩] fun K hK => ?_
          try simp
          repeat' first | ((refine evL_c ?_); simp [hn, hk, hj1, hj2]) | (with_reducible refine And.intro ?_ ?_) | intro _ | (with_reducible assumption) | omega
          all_goals (refine Fin.go hK ?_; clear hK K)
          simp only [Then_normal]
          refine opsT [⟨Op.move (Operand.tmp 6), some 74, none⟩, ⟨Op.move (Operand.tmp 11), some 75, none⟩, ⟨Op.call { callee := Callee.value (Operand.tmp 74), args := #[Operand.tmp 75], argTypes := #[3] }, some 76, none⟩] fun K hK => ?_
          try simp
          repeat' first | (refine ecallW [600, 2400, 500, 400] (by exact hJ2) (by simp) (by simp) (okJ _ _ _ _ _) ?_) | ((refine evL_c ?_); simp [hn, hk, hj1, hj2]) | (with_reducible refine And.intro ?_ ?_) | intro _ | (with_reducible assumption) | omega
          all_goals (refine Fin.go hK ?_; clear hK K)
          simp only [Blok_normal]
          simp only [Then_normal]
          refine opsF [⟨Op.binOp BinOp.add 3 (Operand.tmp 71) (Operand.const (Value.int IntKind.i64 1)) 3, some 77, none⟩, ⟨Op.move (Operand.tmp 77), some 71, none⟩] fun K hK => ?_
          try simp
          repeat' first | ((refine evL_c ?_); simp [hn, hk, hj1, hj2]) | (with_reducible refine And.intro ?_ ?_) | intro _ | (with_reducible assumption) | omega
          all_goals (refine Fin.go hK ?_; clear hK K)
          refine ⟨i2 + 1, by omega, by omega, ?_⟩
          first
            | (simp (disch := omega) [hn, hk, hu, wrap_id]; done)
        · try simp at h72
          have hj3 : i2 = n := by omega
          subst hj3
          rw [hq2] at hP0
          have hP0 : q2 = P0 := hP0
          refine Run.exit ?_
          simp (decide := true) only [Then_exit, Blok_exit, if_true, if_false]
          simp only [Then_normal]
          refine Run.seq ?_
          refine Run.seq ?_
          refine opsF [⟨Op.build 130 #[(0, Operand.const (Value.bool true)), (1, Operand.const (Value.bool false))], some 78, none⟩, ⟨Op.move (Operand.const (Value.int IntKind.i64 0)), some 79, none⟩] fun K hK => ?_
          try simp
          repeat' first | ((refine evL_c ?_); simp [hn, hk]) | (with_reducible refine And.intro ?_ ?_) | intro _ | (with_reducible assumption) | omega
          all_goals (refine Fin.go hK ?_; clear hK K)
          simp only [Then_normal]
          refine Run.block ?_
          refine Run.loopO [13, 14, 16, 79, 80, 81, 82, 83, 84, 85, 86, 87, 88, 89, 90, 91, 92, 93, 94, 95, 96, 97, 98, 99, 100, 101, 102, 103, 104, 105] (fun (x : Nat) => [(79, .int x)]) (fun (x : Nat) => [(200, .vals ((encC c).map .d)), (300, .vals [.int 0, vnil, .int 0, vnil, .bool false, vnil]), (500, .vals ((encP (match x with | 0 => P0 | 1 => P1 | _ => P2)).map .d))]) (fun (x : Nat) => RX x) (fun (x : Nat) => 2 - x) 0 (Or.inl rfl) (by simp [hP0, hn, hk]) fun x hx => ?_
          rcases hx with rfl | rfl | rfl
          · simp only [over, List.foldl, List.set]
            obtain ⟨bb, hbb⟩ : ∃ b, true = b := ⟨_, rfl⟩
            obtain ⟨pc, hpc⟩ : ∃ b, P0 = b := ⟨_, rfl⟩
            have hpn : P1 = filtO pc (c.wher.filter fun t => safeT t == bb) := by rw [← hpc, ← hbb]; exact hP1e
            rw [hpc]
            refine Run.seq ?_
            refine opsF oo56 fun K hK => ?_
            try simp
            repeat' first | ((refine evL_c ?_); simp [hn, hk]) | (with_reducible refine And.intro ?_ ?_) | intro _ | (with_reducible assumption) | omega
            all_goals (refine Fin.go hK ?_; clear hK K)
            simp only [Then_normal]
            refine Run.seq ?_
            refine Run.cond rfl (fun h80 => ?_) (fun h80 => ?_)
            · skip
              refine Run.skip ?_
              simp only [Then_normal]
              refine Run.seq ?_
              refine Run.block ?_
              refine Run.cut [13, 81] [(13, .bool bb)] [(200, .vals ((encC c).map .d)), (300, .vals [.int 0, vnil, .int 0, vnil, .bool false, vnil]), (500, .vals ((encP pc).map .d))] ?_ ?_
              · refine opsF oo57 fun K hK => ?_
                try simp
                repeat' first | ((refine evL_c ?_); simp [hn, hk]) | (with_reducible refine And.intro ?_ ?_) | intro _ | (with_reducible assumption) | omega
                all_goals (refine Fin.go hK ?_; clear hK K)
                (try simp [← hbb, hn, hk]) <;> (first | omega | (simp; done) | (rw [Bool.eq_iff_iff]; simp only [Bool.or_eq_true, Bool.and_eq_true, Bool.not_eq_true', decide_eq_true_eq, decide_eq_false_iff_not]; omega) | (simp_all; done) | grind)
              · simp only [over, List.foldl, List.set]
                refine Run.seq ?_
                refine opsF oo58 fun K hK => ?_
                try simp
                repeat' first | ((refine evL_c ?_); simp [hn, hk]) | (with_reducible refine And.intro ?_ ?_) | intro _ | (with_reducible assumption) | omega
                all_goals (refine Fin.go hK ?_; clear hK K)
                simp only [Then_normal]
                refine Run.vir 9700 9 (by omega) ?_
                simp
                refine Run.subV 14 (.rs 9700 9 0 0) rfl (nil_rs 9700 9) ?_
                simp
                refine Run.seq ?_
                refine Run.seq ?_
                refine opsF oo59 fun K hK => ?_
                try simp
                repeat' first | ((refine evL_c ?_); simp [hn, hk]) | (with_reducible refine And.intro ?_ ?_) | intro _ | (with_reducible assumption) | omega
                all_goals (refine Fin.go hK ?_; clear hK K)
                simp only [Then_normal]
                refine Run.block ?_
                refine Run.loopO [14, 16, 85, 86, 87, 88, 89, 90, 91, 92, 93, 94, 95, 96, 97] (fun (i3 : Nat) => [(85, .int i3), (14, .rs 9700 9 0 ((c.wher.take i3).filter fun t => safeT t == bb).length)]) (fun (i3 : Nat) => [(200, .vals ((encC c).map .d)), (300, .vals [.int 0, vnil, .int 0, vnil, .bool false, vnil]), (500, .vals ((encP pc).map .d)), (9700, .data 9 (((c.wher.take i3).filter fun t => safeT t == bb).map encT))]) (fun (i3 : Nat) => i3 ≤ m) (fun (i3 : Nat) => m - i3) 0 (by omega) (by simp [hn, hk]) fun i3 hi3 => ?_
                simp only [over, List.foldl, List.set]
                have hs1 : i3 < m → (c.wher.take (i3 + 1)).filter (fun t => safeT t == bb) = if (safeT (rdI c.wher i3) == bb) = true then (c.wher.take i3).filter (fun t => safeT t == bb) ++ [rdI c.wher i3] else (c.wher.take i3).filter (fun t => safeT t == bb) := fun h => by
                  rw [take_rd (by omega), List.filter_append]; cases q : (safeT (rdI c.wher i3) == bb) <;> simp [q]
                have hsl : ((c.wher.take i3).filter fun t => safeT t == bb).length ≤ i3 := Nat.le_trans (List.length_filter_le _ _) (by simp; omega)
                have hfin : i3 = m → c.wher.filter (fun t => safeT t == bb) = (c.wher.take i3).filter (fun t => safeT t == bb) := fun h => by
                  rw [show c.wher.take i3 = c.wher from List.take_of_length_le (by omega)]
                obtain ⟨fl, hfl⟩ : ∃ x, (c.wher.take i3).filter (fun t => safeT t == bb) = x := ⟨_, rfl⟩
                rw [hfl] at hs1 hsl hfin
                rw [hfl]
                obtain ⟨a, ha⟩ : ∃ x, fl.length = x := ⟨_, rfl⟩
                rw [ha] at hsl
                have hta : (fl.map encT).take a = fl.map encT := List.take_of_length_le (by simp [ha])
                refine Run.seq ?_
                refine opsF oo60 fun K hK => ?_
                try simp
                repeat' first | ((refine evL_c ?_); simp [hn, hk]) | (with_reducible refine And.intro ?_ ?_) | intro _ | (with_reducible assumption) | omega
                all_goals (refine Fin.go hK ?_; clear hK K)
                simp only [Then_normal]
                refine Run.seq ?_
                refine Run.cond rfl (fun h86 => ?_) (fun h86 => ?_)
                · try simp [hm] at h86
                  have ht1 : i3 < m := by omega
                  have ht2 : (i3 : Int) < m := by omega
                  have ht3 : (0 : Int) ≤ i3 := by omega
                  have hT := safe_ok (rdI c.wher i3)
                  rw [encT_cells] at hT
                  obtain ⟨st, hst⟩ : ∃ x, (safeT (rdI c.wher i3)) = x := ⟨_, rfl⟩
                  rw [hst] at hT
                  refine Run.skip ?_
                  simp only [Then_normal]
                  refine Run.seq ?_
                  refine Run.block ?_
                  refine Run.cut [16, 87, 88] [(16, .pt 1700 0 0 0)] [(200, .vals ((encC c).map .d)), (300, .vals [.int 0, vnil, .int 0, vnil, .bool false, vnil]), (500, .vals ((encP pc).map .d)), (1700, .vals ((encT (rdI c.wher i3)).map .d)), (9700, .data 9 (fl.map encT))] ?_ ?_
                  · refine opsF oo61 fun K hK => ?_
                    try simp
                    repeat' first | ((refine evL_c ?_); simp [hn, hk, hm, ht1, ht2, ht3, ha, hta]) | (with_reducible refine And.intro ?_ ?_) | intro _ | (with_reducible assumption) | omega
                    all_goals (refine Fin.go hK ?_; clear hK K)
                    (try simp [hm, hn, hk, ht1, ht2, ht3, ha, hta]) <;> (first | omega | (simp; done) | (rw [Bool.eq_iff_iff]; simp only [Bool.or_eq_true, Bool.and_eq_true, Bool.not_eq_true', decide_eq_true_eq, decide_eq_false_iff_not]; omega) | (simp_all; done) | grind)
                  · simp only [over, List.foldl, List.set]
                    refine Run.seq ?_
                    refine opsF oo62 fun K hK => ?_
                    try simp
                    repeat' first | (refine ecallD (by exact hT) ?_) | ((refine evL_c ?_); simp [hn, hk, hm, ht1, ht2, ht3, ha, hta]) | (with_reducible refine And.intro ?_ ?_) | intro _ | (with_reducible assumption) | omega
                    all_goals (refine Fin.go hK ?_; clear hK K)
                    simp only [Then_normal]
                    refine Run.cond rfl (fun h92 => ?_) (fun h92 => ?_)
                    · try simp at h92
                      refine opsF oo63 fun K hK => ?_
                      try simp
                      repeat' first | ((refine evL_c ?_); simp [hn, hk, hm, ht1, ht2, ht3, ha, hta]) | (with_reducible refine And.intro ?_ ?_) | intro _ | (with_reducible assumption) | omega
                      all_goals (refine Fin.go hK ?_; clear hK K)
                      simp only [Blok_normal]
                      simp only [Then_normal]
                      refine opsF oo64 fun K hK => ?_
                      try simp
                      repeat' first | ((refine evL_c ?_); simp [hn, hk, hm, ht1, ht2, ht3, ha, hta]) | (with_reducible refine And.intro ?_ ?_) | intro _ | (with_reducible assumption) | omega
                      all_goals (refine Fin.go hK ?_; clear hK K)
                      refine ⟨i3 + 1, by omega, by omega, ?_⟩
                      first
                        | (have hs1 := hs1 ht1; rw [if_pos (by rw [hst]; simpa using h92)] at hs1; simp (disch := omega) [hm, hn, hk, ha, hta, hs1, hfl, wrap_id]; done)
                        | (have hs1 := hs1 ht1; rw [if_neg (by rw [hst]; simpa using h92)] at hs1; simp (disch := omega) [hm, hn, hk, ha, hta, hs1, hfl, wrap_id]; done)
                    · try simp at h92
                      refine Run.skip ?_
                      simp only [Blok_normal]
                      simp only [Then_normal]
                      refine opsF oo64 fun K hK => ?_
                      try simp
                      repeat' first | ((refine evL_c ?_); simp [hn, hk, hm, ht1, ht2, ht3, ha, hta]) | (with_reducible refine And.intro ?_ ?_) | intro _ | (with_reducible assumption) | omega
                      all_goals (refine Fin.go hK ?_; clear hK K)
                      refine ⟨i3 + 1, by omega, by omega, ?_⟩
                      first
                        | (have hs1 := hs1 ht1; rw [if_pos (by rw [hst]; simpa using h92)] at hs1; simp (disch := omega) [hm, hn, hk, ha, hta, hs1, hfl, wrap_id]; done)
                        | (have hs1 := hs1 ht1; rw [if_neg (by rw [hst]; simpa using h92)] at hs1; simp (disch := omega) [hm, hn, hk, ha, hta, hs1, hfl, wrap_id]; done)
                · try simp [hm] at h86
                  have hfin := hfin (by omega)
                  refine Run.exit ?_
                  simp (decide := true) only [Then_exit, Blok_exit, if_true, if_false]
                  simp only [Then_normal]
                  refine Run.seq ?_
                  refine opsF oo65 fun K hK => ?_
                  try simp
                  repeat' first | ((refine evL_c ?_); simp [hn, hk, hm, ha]) | (with_reducible refine And.intro ?_ ?_) | intro _ | (with_reducible assumption) | omega
                  all_goals (refine Fin.go hK ?_; clear hK K)
                  simp only [Then_normal]
                  refine Run.cond rfl (fun h100 => ?_) (fun h100 => ?_)
                  · try simp at h100
                    refine opsF oo66 fun K hK => ?_
                    try simp
                    repeat' first | ((refine evL_c ?_); simp [hn, hk, hm, ha]) | (with_reducible refine And.intro ?_ ?_) | intro _ | (with_reducible assumption) | omega
                    all_goals (refine Fin.go hK ?_; clear hK K)
                    simp only [Blok_normal]
                    simp only [Then_normal]
                    refine Run.fra 10300 ?_
                    simp [V.fra, V.fraL, fraS, frz]
                    refine Run.fra 9700 ?_
                    simp [V.fra, V.fraL, fraS, frz, hta]
                    try (refine Run.subB 500 3 (.d (.sl false [])) rfl rfl nil_sl ?_; simp)
                    refine opsF oo67 fun K hK => ?_
                    try simp
                    repeat' first | ((refine evL_c ?_); simp [hn, hk, hm, ha]) | (with_reducible refine And.intro ?_ ?_) | intro _ | (with_reducible assumption) | omega
                    all_goals (refine Fin.go hK ?_; clear hK K)
                    refine ⟨1, Or.inr (Or.inl rfl), by omega, ?_⟩
                    first
                      | (have e : P1 = filtQ pc fl := by rw [hpn, hfin, filtO, if_neg (by omega)]
                         simp (disch := omega) [wrap_id, e, ha, hta]; done)
                      | (have e : P1 = pc := by rw [hpn, hfin, filtO, if_pos (by omega)]
                         simp (disch := omega) [wrap_id, e]; done)
                  · try simp at h100
                    refine Run.skip ?_
                    simp only [Blok_normal]
                    simp only [Then_normal]
                    refine Run.fra 10300 ?_
                    simp [V.fra, V.fraL, fraS, frz]
                    refine Run.fra 9700 ?_
                    simp [V.fra, V.fraL, fraS, frz, hta]
                    try (refine Run.subB 500 3 (.d (.sl false [])) rfl rfl nil_sl ?_; simp)
                    refine opsF oo67 fun K hK => ?_
                    try simp
                    repeat' first | ((refine evL_c ?_); simp [hn, hk, hm, ha]) | (with_reducible refine And.intro ?_ ?_) | intro _ | (with_reducible assumption) | omega
                    all_goals (refine Fin.go hK ?_; clear hK K)
                    refine ⟨1, Or.inr (Or.inl rfl), by omega, ?_⟩
                    first
                      | (have e : P1 = filtQ pc fl := by rw [hpn, hfin, filtO, if_neg (by omega)]
                         simp (disch := omega) [wrap_id, e, ha, hta]; done)
                      | (have e : P1 = pc := by rw [hpn, hfin, filtO, if_pos (by omega)]
                         simp (disch := omega) [wrap_id, e]; done)
            · simp at h80
          · simp only [over, List.foldl, List.set]
            obtain ⟨bb, hbb⟩ : ∃ b, false = b := ⟨_, rfl⟩
            obtain ⟨pc, hpc⟩ : ∃ b, P1 = b := ⟨_, rfl⟩
            have hpn : P2 = filtO pc (c.wher.filter fun t => safeT t == bb) := by rw [← hpc, ← hbb]; exact hP2e
            rw [hpc]
            refine Run.seq ?_
            refine opsF oo56 fun K hK => ?_
            try simp
            repeat' first | ((refine evL_c ?_); simp [hn, hk]) | (with_reducible refine And.intro ?_ ?_) | intro _ | (with_reducible assumption) | omega
            all_goals (refine Fin.go hK ?_; clear hK K)
            simp only [Then_normal]
            refine Run.seq ?_
            refine Run.cond rfl (fun h80 => ?_) (fun h80 => ?_)
            · skip
              refine Run.skip ?_
              simp only [Then_normal]
              refine Run.seq ?_
              refine Run.block ?_
              refine Run.cut [13, 81] [(13, .bool bb)] [(200, .vals ((encC c).map .d)), (300, .vals [.int 0, vnil, .int 0, vnil, .bool false, vnil]), (500, .vals ((encP pc).map .d))] ?_ ?_
              · refine opsF oo57 fun K hK => ?_
                try simp
                repeat' first | ((refine evL_c ?_); simp [hn, hk]) | (with_reducible refine And.intro ?_ ?_) | intro _ | (with_reducible assumption) | omega
                all_goals (refine Fin.go hK ?_; clear hK K)
                (try simp [← hbb, hn, hk]) <;> (first | omega | (simp; done) | (rw [Bool.eq_iff_iff]; simp only [Bool.or_eq_true, Bool.and_eq_true, Bool.not_eq_true', decide_eq_true_eq, decide_eq_false_iff_not]; omega) | (simp_all; done) | grind)
              · simp only [over, List.foldl, List.set]
                refine Run.seq ?_
                refine opsF oo58 fun K hK => ?_
                try simp
                repeat' first | ((refine evL_c ?_); simp [hn, hk]) | (with_reducible refine And.intro ?_ ?_) | intro _ | (with_reducible assumption) | omega
                all_goals (refine Fin.go hK ?_; clear hK K)
                simp only [Then_normal]
                refine Run.vir 9700 9 (by omega) ?_
                simp
                refine Run.subV 14 (.rs 9700 9 0 0) rfl (nil_rs 9700 9) ?_
                simp
                refine Run.seq ?_
                refine Run.seq ?_
                refine opsF oo59 fun K hK => ?_
                try simp
                repeat' first | ((refine evL_c ?_); simp [hn, hk]) | (with_reducible refine And.intro ?_ ?_) | intro _ | (with_reducible assumption) | omega
                all_goals (refine Fin.go hK ?_; clear hK K)
                simp only [Then_normal]
                refine Run.block ?_
                refine Run.loopO [14, 16, 85, 86, 87, 88, 89, 90, 91, 92, 93, 94, 95, 96, 97] (fun (i3 : Nat) => [(85, .int i3), (14, .rs 9700 9 0 ((c.wher.take i3).filter fun t => safeT t == bb).length)]) (fun (i3 : Nat) => [(200, .vals ((encC c).map .d)), (300, .vals [.int 0, vnil, .int 0, vnil, .bool false, vnil]), (500, .vals ((encP pc).map .d)), (9700, .data 9 (((c.wher.take i3).filter fun t => safeT t == bb).map encT))]) (fun (i3 : Nat) => i3 ≤ m) (fun (i3 : Nat) => m - i3) 0 (by omega) (by simp [hn, hk]) fun i3 hi3 => ?_
                simp only [over, List.foldl, List.set]
                have hs1 : i3 < m → (c.wher.take (i3 + 1)).filter (fun t => safeT t == bb) = if (safeT (rdI c.wher i3) == bb) = true then (c.wher.take i3).filter (fun t => safeT t == bb) ++ [rdI c.wher i3] else (c.wher.take i3).filter (fun t => safeT t == bb) := fun h => by
                  rw [take_rd (by omega), List.filter_append]; cases q : (safeT (rdI c.wher i3) == bb) <;> simp [q]
                have hsl : ((c.wher.take i3).filter fun t => safeT t == bb).length ≤ i3 := Nat.le_trans (List.length_filter_le _ _) (by simp; omega)
                have hfin : i3 = m → c.wher.filter (fun t => safeT t == bb) = (c.wher.take i3).filter (fun t => safeT t == bb) := fun h => by
                  rw [show c.wher.take i3 = c.wher from List.take_of_length_le (by omega)]
                obtain ⟨fl, hfl⟩ : ∃ x, (c.wher.take i3).filter (fun t => safeT t == bb) = x := ⟨_, rfl⟩
                rw [hfl] at hs1 hsl hfin
                rw [hfl]
                obtain ⟨a, ha⟩ : ∃ x, fl.length = x := ⟨_, rfl⟩
                rw [ha] at hsl
                have hta : (fl.map encT).take a = fl.map encT := List.take_of_length_le (by simp [ha])
                refine Run.seq ?_
                refine opsF oo60 fun K hK => ?_
                try simp
                repeat' first | ((refine evL_c ?_); simp [hn, hk]) | (with_reducible refine And.intro ?_ ?_) | intro _ | (with_reducible assumption) | omega
                all_goals (refine Fin.go hK ?_; clear hK K)
                simp only [Then_normal]
                refine Run.seq ?_
                refine Run.cond rfl (fun h86 => ?_) (fun h86 => ?_)
                · try simp [hm] at h86
                  have ht1 : i3 < m := by omega
                  have ht2 : (i3 : Int) < m := by omega
                  have ht3 : (0 : Int) ≤ i3 := by omega
                  have hT := safe_ok (rdI c.wher i3)
                  rw [encT_cells] at hT
                  obtain ⟨st, hst⟩ : ∃ x, (safeT (rdI c.wher i3)) = x := ⟨_, rfl⟩
                  rw [hst] at hT
                  refine Run.skip ?_
                  simp only [Then_normal]
                  refine Run.seq ?_
                  refine Run.block ?_
                  refine Run.cut [16, 87, 88] [(16, .pt 1700 0 0 0)] [(200, .vals ((encC c).map .d)), (300, .vals [.int 0, vnil, .int 0, vnil, .bool false, vnil]), (500, .vals ((encP pc).map .d)), (1700, .vals ((encT (rdI c.wher i3)).map .d)), (9700, .data 9 (fl.map encT))] ?_ ?_
                  · refine opsF oo61 fun K hK => ?_
                    try simp
                    repeat' first | ((refine evL_c ?_); simp [hn, hk, hm, ht1, ht2, ht3, ha, hta]) | (with_reducible refine And.intro ?_ ?_) | intro _ | (with_reducible assumption) | omega
                    all_goals (refine Fin.go hK ?_; clear hK K)
                    (try simp [hm, hn, hk, ht1, ht2, ht3, ha, hta]) <;> (first | omega | (simp; done) | (rw [Bool.eq_iff_iff]; simp only [Bool.or_eq_true, Bool.and_eq_true, Bool.not_eq_true', decide_eq_true_eq, decide_eq_false_iff_not]; omega) | (simp_all; done) | grind)
                  · simp only [over, List.foldl, List.set]
                    refine Run.seq ?_
                    refine opsF oo62 fun K hK => ?_
                    try simp
                    repeat' first | (refine ecallD (by exact hT) ?_) | ((refine evL_c ?_); simp [hn, hk, hm, ht1, ht2, ht3, ha, hta]) | (with_reducible refine And.intro ?_ ?_) | intro _ | (with_reducible assumption) | omega
                    all_goals (refine Fin.go hK ?_; clear hK K)
                    simp only [Then_normal]
                    refine Run.cond rfl (fun h92 => ?_) (fun h92 => ?_)
                    · try simp at h92
                      refine opsF oo63 fun K hK => ?_
                      try simp
                      repeat' first | ((refine evL_c ?_); simp [hn, hk, hm, ht1, ht2, ht3, ha, hta]) | (with_reducible refine And.intro ?_ ?_) | intro _ | (with_reducible assumption) | omega
                      all_goals (refine Fin.go hK ?_; clear hK K)
                      simp only [Blok_normal]
                      simp only [Then_normal]
                      refine opsF oo64 fun K hK => ?_
                      try simp
                      repeat' first | ((refine evL_c ?_); simp [hn, hk, hm, ht1, ht2, ht3, ha, hta]) | (with_reducible refine And.intro ?_ ?_) | intro _ | (with_reducible assumption) | omega
                      all_goals (refine Fin.go hK ?_; clear hK K)
                      refine ⟨i3 + 1, by omega, by omega, ?_⟩
                      first
                        | (have hs1 := hs1 ht1; rw [if_pos (by rw [hst]; simpa using h92)] at hs1; simp (disch := omega) [hm, hn, hk, ha, hta, hs1, hfl, wrap_id]; done)
                        | (have hs1 := hs1 ht1; rw [if_neg (by rw [hst]; simpa using h92)] at hs1; simp (disch := omega) [hm, hn, hk, ha, hta, hs1, hfl, wrap_id]; done)
                    · try simp at h92
                      refine Run.skip ?_
                      simp only [Blok_normal]
                      simp only [Then_normal]
                      refine opsF oo64 fun K hK => ?_
                      try simp
                      repeat' first | ((refine evL_c ?_); simp [hn, hk, hm, ht1, ht2, ht3, ha, hta]) | (with_reducible refine And.intro ?_ ?_) | intro _ | (with_reducible assumption) | omega
                      all_goals (refine Fin.go hK ?_; clear hK K)
                      refine ⟨i3 + 1, by omega, by omega, ?_⟩
                      first
                        | (have hs1 := hs1 ht1; rw [if_pos (by rw [hst]; simpa using h92)] at hs1; simp (disch := omega) [hm, hn, hk, ha, hta, hs1, hfl, wrap_id]; done)
                        | (have hs1 := hs1 ht1; rw [if_neg (by rw [hst]; simpa using h92)] at hs1; simp (disch := omega) [hm, hn, hk, ha, hta, hs1, hfl, wrap_id]; done)
                · try simp [hm] at h86
                  have hfin := hfin (by omega)
                  refine Run.exit ?_
                  simp (decide := true) only [Then_exit, Blok_exit, if_true, if_false]
                  simp only [Then_normal]
                  refine Run.seq ?_
                  refine opsF oo65 fun K hK => ?_
                  try simp
                  repeat' first | ((refine evL_c ?_); simp [hn, hk, hm, ha]) | (with_reducible refine And.intro ?_ ?_) | intro _ | (with_reducible assumption) | omega
                  all_goals (refine Fin.go hK ?_; clear hK K)
                  simp only [Then_normal]
                  refine Run.cond rfl (fun h100 => ?_) (fun h100 => ?_)
                  · try simp at h100
                    refine opsF oo66 fun K hK => ?_
                    try simp
                    repeat' first | ((refine evL_c ?_); simp [hn, hk, hm, ha]) | (with_reducible refine And.intro ?_ ?_) | intro _ | (with_reducible assumption) | omega
                    all_goals (refine Fin.go hK ?_; clear hK K)
                    simp only [Blok_normal]
                    simp only [Then_normal]
                    refine Run.fra 10300 ?_
                    simp [V.fra, V.fraL, fraS, frz]
                    refine Run.fra 9700 ?_
                    simp [V.fra, V.fraL, fraS, frz, hta]
                    try (refine Run.subB 500 3 (.d (.sl false [])) rfl rfl nil_sl ?_; simp)
                    refine opsF oo67 fun K hK => ?_
                    try simp
                    repeat' first | ((refine evL_c ?_); simp [hn, hk, hm, ha]) | (with_reducible refine And.intro ?_ ?_) | intro _ | (with_reducible assumption) | omega
                    all_goals (refine Fin.go hK ?_; clear hK K)
                    refine ⟨2, Or.inr (Or.inr rfl), by omega, ?_⟩
                    first
                      | (have e : P2 = filtQ pc fl := by rw [hpn, hfin, filtO, if_neg (by omega)]
                         simp (disch := omega) [wrap_id, e, ha, hta]; done)
                      | (have e : P2 = pc := by rw [hpn, hfin, filtO, if_pos (by omega)]
                         simp (disch := omega) [wrap_id, e]; done)
                  · try simp at h100
                    refine Run.skip ?_
                    simp only [Blok_normal]
                    simp only [Then_normal]
                    refine Run.fra 10300 ?_
                    simp [V.fra, V.fraL, fraS, frz]
                    refine Run.fra 9700 ?_
                    simp [V.fra, V.fraL, fraS, frz, hta]
                    try (refine Run.subB 500 3 (.d (.sl false [])) rfl rfl nil_sl ?_; simp)
                    refine opsF oo67 fun K hK => ?_
                    try simp
                    repeat' first | ((refine evL_c ?_); simp [hn, hk, hm, ha]) | (with_reducible refine And.intro ?_ ?_) | intro _ | (with_reducible assumption) | omega
                    all_goals (refine Fin.go hK ?_; clear hK K)
                    refine ⟨2, Or.inr (Or.inr rfl), by omega, ?_⟩
                    first
                      | (have e : P2 = filtQ pc fl := by rw [hpn, hfin, filtO, if_neg (by omega)]
                         simp (disch := omega) [wrap_id, e, ha, hta]; done)
                      | (have e : P2 = pc := by rw [hpn, hfin, filtO, if_pos (by omega)]
                         simp (disch := omega) [wrap_id, e]; done)
            · simp at h80
          · simp only [over, List.foldl, List.set]
            refine Run.seq ?_
            refine opsF oo56 fun K hK => ?_
            try simp
            repeat' first | ((refine evL_c ?_); simp [hn, hk]) | (with_reducible refine And.intro ?_ ?_) | intro _ | (with_reducible assumption) | omega
            all_goals (refine Fin.go hK ?_; clear hK K)
            simp only [Then_normal]
            refine Run.seq ?_
            refine Run.cond rfl (fun h80 => ?_) (fun h80 => ?_)
            · simp at h80
            · skip
              refine Run.exit ?_
              simp (decide := true) only [Then_exit, Blok_exit, if_true, if_false]
              simp only [Then_normal]
              refine Run.seq ?_
              refine opsF [⟨Op.load 48 (Operand.tmp 4), some 106, none⟩, ⟨Op.store 48 (Operand.tmp 2) (Operand.tmp 106), none, none⟩] fun K hK => ?_
              try simp
              repeat' first | ((refine evL_c ?_); simp [hn, hk]) | (with_reducible refine And.intro ?_ ?_) | intro _ | (with_reducible assumption) | omega
              all_goals (refine Fin.go hK ?_; clear hK K)
              simp only [Then_normal]
              refine Run.ret ?_
              try simp only [Then_ret, Blok_ret]
              simp


theorem trans_ok (c : CoreT) (hw : c.wher.length ≤ 1100000) : Snd P 36 [.d (.ag (encC c))] (.d (.ag (encP (transS c)))) [] := by
  unfold transS
  cases hP : patS c.nodes c.edges with
  | false => exact transN_ok c hP
  | true => exact transA_ok c hP hw
end Go.Proofs.Ytimgbdkgjfbhkaa.Z
end
section
set_option maxRecDepth 100000
namespace Go.Proofs.Ytimgbdkgjfbhkaa.Z
open Go Go.Fw
attribute [-simp] lookV updV Blk.fgt Blk.ren Blk.men Blk.fin lost
theorem litV_agg (l : List Value) : litV (.agg l.toArray) = if oneCells l then .d (.ag (litsD l)) else .d (.lit (.agg l.toArray)) := rfl
theorem litV_int (k : IntKind) (n : Int) : litV (.int k n) = if okLit (.int k n) then .d (.lit (.int k n)) else .top := rfl
theorem litV_str (s : ByteArray) : litV (.string s) = if okLit (.string s) then .d (.lit (.string s)) else .top := rfl
theorem litV_bool (b : Bool) : litV (.bool b) = .d (.lit (.bool b)) := rfl
theorem litV_slice (a : Option Addr) (n m : Nat) : litV (.slice a n m) = .d (.lit (.slice a n m)) := rfl
theorem litV_tup (l : Array Value) : litV (.tuple l) = .d (.lit (.tuple l)) := rfl
attribute [-simp] litV
attribute [local simp] litV_agg litV_int litV_str litV_bool litV_slice litV_tup
theorem wL_len : ∀ l : List StepR, l.length ≤ wL l
  | [] => Nat.le_refl _
  | s :: r => by have := wL_len r; simp only [wL, wS, List.length_cons]; omega
theorem wP_len : ∀ l : List PipeR, l.length ≤ wP l
  | [] => Nat.le_refl _
  | s :: r => by have := wP_len r; simp only [wP, List.length_cons]; omega
theorem good_iff {a : Prop} [Decidable a] {b : Bool} : (!decide a || !b) = true ↔ (¬ a ∨ ¬ b = true) := by cases b <;> simp
theorem stepsS_no {c : CoreT} {tabs : List (List Int)} {ps : List PlanT} {i : Int} {l l2 : List Int} {p : PlanT} {o : Option PlanT} {s : StepR} {r : List StepR} (h : stepS c tabs ps i l p s = (o, l2)) (hb : (o.isSome && (bndT c (overQ p (o, l2))).isSome) = false) : stepsS c tabs ps i l p (s :: r) = (none, l2) := by
  rw [stepsS, h]
  cases o with
  | none => rfl
  | some q =>
    have hb : (bndT c q).isSome = false := by simpa only [overQ, Option.isSome_some, Bool.true_and, Option.getD_some] using hb
    simp only [hb, Bool.false_eq_true, if_false]
theorem stepsS_yes {c : CoreT} {tabs : List (List Int)} {ps : List PlanT} {i : Int} {l l2 : List Int} {p : PlanT} {o : Option PlanT} {s : StepR} {r : List StepR} (h : stepS c tabs ps i l p s = (o, l2)) (hb : (o.isSome && (bndT c (overQ p (o, l2))).isSome) = true) : stepsS c tabs ps i l p (s :: r) = stepsS c tabs ps i l2 (overQ p (o, l2)) r := by
  rw [stepsS, h]
  cases o with
  | none => simp at hb
  | some q =>
    have hb : (bndT c q).isSome = true := by simpa only [overQ, Option.isSome_some, Bool.true_and, Option.getD_some] using hb
    simp only [hb, if_true, overQ, Option.getD_some]
theorem pipesS_bad {c : CoreT} {tabs : List (List Int)} {ps : List PlanT} {l : List Int} {x : PipeR} {r : List PipeR} {i : Nat} (hi : ps.length = i) (h : (!decide (x.sink = sinkS tabs i) || !(bndT c (scanT x.scan)).isSome) = true) : pipesS c tabs ps l (x :: r) = (ps, l, false) := by
  rw [pipesS, pipeS, hi, if_pos (good_iff.1 h)]
theorem pipesS_stop {c : CoreT} {tabs : List (List Int)} {ps : List PlanT} {l l2 : List Int} {x : PipeR} {r : List PipeR} {i : Nat} (hi : ps.length = i) (h : (!decide (x.sink = sinkS tabs i) || !(bndT c (scanT x.scan)).isSome) = false) (hs : stepsS c tabs ps i l (scanT x.scan) x.steps = (none, l2)) : pipesS c tabs ps l (x :: r) = (ps, l2, false) := by
  rw [pipesS, pipeS, hi, if_neg (fun e => by rw [good_iff.2 e] at h; cases h), hs]
theorem pipesS_go {c : CoreT} {tabs : List (List Int)} {ps : List PlanT} {l l2 : List Int} {x : PipeR} {r : List PipeR} {i : Nat} {q : PlanT} (hi : ps.length = i) (h : (!decide (x.sink = sinkS tabs i) || !(bndT c (scanT x.scan)).isSome) = false) (hs : stepsS c tabs ps i l (scanT x.scan) x.steps = (some q, l2)) : pipesS c tabs ps l (x :: r) = pipesS c tabs (ps ++ [q]) l2 r := by
  rw [pipesS, pipeS, hi, if_neg (fun e => by rw [good_iff.2 e] at h; cases h), hs]
theorem pipesS_len {c : CoreT} {tabs : List (List Int)} : ∀ (r : List PipeR) (ps : List PlanT) (l : List Int), (if (pipesS c tabs ps l r).2.2 then (pipesS c tabs ps l r).1.length = ps.length + r.length else (pipesS c tabs ps l r).1.length < ps.length + r.length)
  | [], ps, l => by simp [pipesS]
  | x :: r, ps, l => by
    rw [pipesS]
    rcases pipeS c tabs ps l x with ⟨o, l'⟩
    cases o with
    | none => simp
    | some q =>
      have := pipesS_len (c := c) (tabs := tabs) r (ps ++ [q]) l'
      simp only [List.length_append, List.length_cons, List.length_nil] at this ⊢
      split at this <;> rename_i e <;> simp only [e, if_true, if_false, Bool.false_eq_true] <;> omega
theorem pipesS_all {c : CoreT} {tabs : List (List Int)} {r : List PipeR} {R1 : List PlanT} {R2 : List Int} {R3 : Bool} (h : pipesS c tabs [] [] r = (R1, R2, R3)) : decide (R1.length = r.length) = R3 := by
  have := pipesS_len (c := c) (tabs := tabs) r [] []
  rw [h] at this
  cases R3 <;> simp at this ⊢ <;> omega
theorem overQ_parts {c : CoreT} {tabs : List (List Int)} {ps : List PlanT} {i : Int} {l l2 : List Int} {p : PlanT} {o : Option PlanT} {s : StepR} (hi : i ≤ ps.length) (h : stepS c tabs ps i l p s = (o, l2)) (w : Nat) (hw : partsP p + tot 0 ps l + wS s + w ≤ 1100000) : partsP (overQ p (o, l2)) ≤ 1100000 ∧ (o.isSome = true → partsP (overQ p (o, l2)) + tot 0 ps l2 + w ≤ 1100000) := by
  cases o with
  | none => exact ⟨by simp only [overQ, Option.getD_none]; omega, by simp⟩
  | some q => have := stepS_parts hi h; simp only [overQ, Option.getD_some]; exact ⟨by omega, fun _ => by omega⟩
theorem okO (c : CoreT) (tb pp : D) (np : Nat) (rows : List (List D)) (l l' : List Int) (a b : List D) (n : Int) (y : Bool) {x : D} : okW [0, 9500, 1] [(0, .vals ((encC c).map .d ++ [.d tb, .d pp, .rs 1 6 0 np, .mp 2])), (1, .data 6 rows), (2, mpK l)] [.pt 0 0 0 0, .d (.ag a), .d (.ag b), .int n] (.tup [.d x, .bool y]) [(0, .vals ((encC c).map .d ++ [.d tb, .d pp, .rs 1 6 0 np, .mp 2])), (1, .data 6 rows), (2, mpK l')] = true := by
  have e : List.range 3 = [0, 1, 2] := rfl
  simp [okW, badId, e, V.menL, V.men, getB]
theorem okL (c : CoreT) (tb pp : D) (np : Nat) (rows : List (List D)) (l : List Int) (a : List D) {x : D} : okW [0, 9500, 1, 200] [(0, .vals ((encC c).map .d ++ [.d tb, .d pp, .rs 1 6 0 np, .mp 2])), (1, .data 6 rows), (2, mpK l), (3, .vals [.pt 0 0 0 0])] [.d (.ag a), .pt 3 0 0 0] (.d x) [(0, .vals ((encC c).map .d ++ [.d tb, .d pp, .rs 1 6 0 np, .mp 2])), (1, .data 6 rows), (2, mpK l), (3, .vals [.pt 0 0 0 0])] = true := by
  have e : List.range 4 = [0, 1, 2, 3] := rfl
  simp [okW, badId, e, V.menL, V.men, getB]
set_option maxHeartbeats 16000000 in
theorem look_ok (c : CoreT) (hP : patS c.nodes c.edges = true) (tabs : List (List Int)) (pipes : List PipeR) (hlen : pipes.length = tabs.length + 1) (hw0 : wP pipes ≤ 1100000) (R1 : List PlanT) (R2 : List Int) (R3 : Bool) (hR : pipesS c tabs [] [] pipes = (R1, R2, R3)) : SndW P 45 [.pt 0 0 0 0] [(0, .vals ((encC c).map .d ++ [.d (encTa tabs), .d (.sl false (pipes.map encPi)), vnil, .mp 1])), (1, mpK [])] (.tup [.int (if R3 then (tabs.length : Int) else R1.length), .bool R3]) [(0, .vals ((encC c).map .d ++ [.d (encTa tabs), .d (.sl false (pipes.map encPi)), .rs 2 6 0 R1.length, .mp 1])), (1, mpK R2), (2, .data 6 (R1.map encP))] := by
  obtain ⟨n, hn⟩ : ∃ z, pipes.length = z := ⟨_, rfl⟩
  obtain ⟨nt, hnt⟩ : ∃ z, tabs.length = z := ⟨_, rfl⟩
  have hn1 := wP_len pipes
  rw [hn] at hn1 hlen
  rw [hnt] at hlen
  have hR3 := pipesS_all hR
  obtain ⟨r1, hr1⟩ : ∃ z, R1.length = z := ⟨_, rfl⟩
  rw [hr1, hn] at hR3
  have hR4 : decide ((r1 : Int) = (n : Int)) = R3 := by rw [← hR3]; exact decide_eq_decide.2 (by omega)
  rw [hr1, hnt]
  refine sndW_of [0, 1, 9500] Try.func45 rfl (by kernel_rfl) Try.ntmps45 (by simp) (by simp) ?_
  unfold Try.f45
  simp only [List.cons_append, List.nil_append, List.length_cons, List.length_nil, Nat.reduceAdd, Nat.reduceSub, List.replicate]
  refine Run.seq ?_
  refine opsF [⟨Op.box 117 (Operand.tmp 0), some 1, none⟩, ⟨Op.assign (Operand.const (Value.int IntKind.i64 0)), some 2, none⟩, ⟨Op.assign (Operand.const (Value.bool false)), some 3, none⟩] fun K hK => ?_
  try simp
  repeat' first | ((refine evL_c ?_); simp [hn, hnt]) | (with_reducible refine And.intro ?_ ?_) | intro _ | (with_reducible assumption) | omega
  all_goals (refine Fin.go hK ?_; clear hK K)
  simp only [Then_normal]
  refine Run.scope 0 _ rfl ?_
  refine Run.seq ?_
  refine opsF [⟨Op.makeFunc (Fn.func 80) #[] #[Operand.tmp 1], some 14, none⟩, ⟨Op.assign (Operand.tmp 14), some 4, none⟩] fun K hK => ?_
  try simp
  repeat' first | ((refine evL_c ?_); simp [hn, hnt]) | (with_reducible refine And.intro ?_ ?_) | intro _ | (with_reducible assumption) | omega
  all_goals (refine Fin.go hK ?_; clear hK K)
  simp only [Then_normal]
  refine Run.seq ?_
  refine opsF [⟨Op.assign (Operand.const (Value.int IntKind.i64 0)), some 5, none⟩] fun K hK => ?_
  try simp
  repeat' first | ((refine evL_c ?_); simp [hn, hnt]) | (with_reducible refine And.intro ?_ ?_) | intro _ | (with_reducible assumption) | omega
  all_goals (refine Fin.go hK ?_; clear hK K)
  simp only [Then_normal]
  refine Run.seq ?_
  refine Run.label ?_
  simp only [Then_normal]
  refine Run.cut [5, 6, 7, 8, 9, 11, 12, 13, 15, 16, 17, 18, 19, 20, 21, 22, 23, 24, 25, 26, 27, 28, 29, 30, 31, 32, 33, 34, 35, 36, 37, 38, 39, 40, 41, 42, 43, 44, 45, 46, 47, 48, 49, 50, 51, 52, 53, 54, 55, 56, 57, 58, 59, 60, 61, 62, 63, 64, 65, 66, 67, 68, 69, 70, 71, 72, 73, 74, 75, 76, 77, 78, 79, 80, 81, 82, 83, 84, 85, 86, 87, 88, 89, 90, 91, 92, 93, 94, 95, 96, 97] [(5, .int (if R3 then (nt : Int) else r1))] [(0, .vals ((encC c).map .d ++ [.d (encTa tabs), .d (.sl false (pipes.map encPi)), .rs 9500 6 0 r1, .mp 1])), (1, mpK R2), (200, .vals [.pt 0 0 0 0]), (9500, .data 6 (R1.map encP))] ?_ ?_
  · refine Run.seq ?_
    refine opsF [⟨Op.load 117 (Operand.tmp 1), some 15, none⟩, ⟨Op.nilCheck (Operand.tmp 15), some 16, none⟩, ⟨Op.fieldAddr 120 (Operand.tmp 16) 1, some 17, none⟩, ⟨Op.fieldAddr 25 (Operand.tmp 17) 1, some 18, none⟩, ⟨Op.load 23 (Operand.tmp 18), some 19, none⟩, ⟨Op.call { callee := Callee.builtin Builtin.len, args := #[Operand.tmp 19], argTypes := #[23] }, some 20, none⟩, ⟨Op.move (Operand.const (Value.int IntKind.i64 0)), some 21, none⟩] fun K hK => ?_
    try simp
    repeat' first | ((refine evL_c ?_); simp [hn, hnt]) | (with_reducible refine And.intro ?_ ?_) | intro _ | (with_reducible assumption) | omega
    all_goals (refine Fin.go hK ?_; clear hK K)
    simp only [Then_normal]
    refine Run.vir 9500 6 (by omega) ?_
    simp
    refine Run.subB 0 9 (.rs 9500 6 0 0) rfl rfl (nil_rs 9500 6) ?_
    simp
    refine Run.block ?_
    refine Run.loopO [5, 6, 7, 8, 9, 11, 12, 13, 21, 22, 23, 24, 25, 26, 27, 28, 29, 30, 31, 32, 33, 34, 35, 36, 37, 38, 39, 40, 41, 42, 43, 44, 45, 46, 47, 48, 49, 50, 51, 52, 53, 54, 55, 56, 57, 58, 59, 60, 61, 62, 63, 64, 65, 66, 67, 68, 69, 70, 71, 72, 73, 74, 75, 76, 77, 78, 79, 80, 81, 82, 83, 84, 85, 86, 87, 88, 89, 90, 91, 92, 93, 94, 95, 96, 97] (fun (x : Nat × List PlanT × List Int) => [(21, .int x.1), (5, .int (x.1 - 1 : Nat))]) (fun (x : Nat × List PlanT × List Int) => [(0, .vals ((encC c).map .d ++ [.d (encTa tabs), .d (.sl false (pipes.map encPi)), .rs 9500 6 0 x.1, .mp 1])), (1, mpK x.2.2), (200, .vals [.pt 0 0 0 0]), (9500, .data 6 (x.2.1.map encP))]) (fun (x : Nat × List PlanT × List Int) => x.1 ≤ n ∧ x.2.1.length = x.1 ∧ (∀ q ∈ x.2.1, (bndT c q).isSome = true) ∧ tot 0 x.2.1 x.2.2 + wP (pipes.drop x.1) ≤ 1100000 ∧ pipesS c tabs x.2.1 x.2.2 (pipes.drop x.1) = (R1, R2, R3)) (fun (x : Nat × List PlanT × List Int) => n - x.1) (0, [], []) ⟨by omega, rfl, by simp, by simpa [tot] using hw0, hR⟩ (by simp) fun ⟨i, ps, l⟩ ⟨hi, hps, hq, hw, hz⟩ => ?_
    simp only [over, List.foldl, List.set]
    simp only at hi hps hq hw hz
    have hta : (ps.map encP).take i = ps.map encP := List.take_of_length_le (by simp [hps])
    have hset : ∀ z y : List D, (ps.map encP ++ [z]).set i y = ps.map encP ++ [y] := fun z y => by simp [List.set_append, hps]
    have hrow : ∀ z : List D, rowN (ps.map encP ++ [z]) i = z := fun z => by simp [rowN, List.getD_eq_getElem?_getD, hps, List.getElem?_append]
    refine Run.seq ?_
    refine opsF [⟨Op.binOp BinOp.lss 3 (Operand.tmp 21) (Operand.tmp 20) 3, some 22, none⟩] fun K hK => ?_
    try simp
    repeat' first | ((refine evL_c ?_); simp [hn, hnt]) | (with_reducible refine And.intro ?_ ?_) | intro _ | (with_reducible assumption) | omega
    all_goals (refine Fin.go hK ?_; clear hK K)
    simp only [Then_normal]
    refine Run.seq ?_
    refine Run.cond rfl (fun h22 => ?_) (fun h22 => ?_)
    · try simp at h22
      have hi1 : i < n := by omega
      have hi2 : (i : Int) < n := by omega
      have hi0 : (0 : Int) ≤ i := by omega
      have hit : i ≤ nt := by omega
      rw [drop_rd (by omega : i < pipes.length)] at hw hz
      obtain ⟨x, hx⟩ : ∃ z, rdI pipes (i : Nat) = z := ⟨_, rfl⟩
      rw [hx] at hw hz
      rw [wP] at hw
      obtain ⟨m, hm⟩ : ∃ z, x.steps.length = z := ⟨_, rfl⟩
      have hlk := look1_ok c (scanT x.scan) (encTa tabs) (.sl false (pipes.map encPi)) i (ps.map encP) l hP (by simp [scanT, partsP, partsL, cntL])
      obtain ⟨b0, hb0⟩ : ∃ z, (bndT c (scanT x.scan)).isSome = z := ⟨_, rfl⟩
      rw [hb0, encP_cells] at hlk
      simp only [scanT_op, scanT_kids, scanT_slot, scanT_edges, scanT_back, scanT_terms, List.map_nil] at hlk
      obtain ⟨sk, hsk⟩ : ∃ z, sinkS tabs i = z := ⟨_, rfl⟩
      have hsk2 := hsk
      rw [sinkS, hnt] at hsk2
      refine Run.skip ?_
      simp only [Then_normal]
      refine Run.seq ?_
      refine Run.block ?_
      refine Run.seq ?_
      refine opsF [⟨Op.move (Operand.tmp 21), some 23, none⟩, ⟨Op.indexAddr 23 (Operand.tmp 19) (Operand.tmp 21), some 24, none⟩, ⟨Op.load 41 (Operand.tmp 24), some 25, none⟩, ⟨Op.alloc 41, some 7, none⟩, ⟨Op.assign (Operand.tmp 23), some 6, none⟩, ⟨Op.store 41 (Operand.tmp 7) (Operand.tmp 25), none, none⟩] fun K hK => ?_
      try simp
      repeat' first | ((refine evL_c ?_); simp [hn, hnt, hi1, hi2, hx, hta, hset, hrow, hm, hb0]) | (with_reducible refine And.intro ?_ ?_) | intro _ | (with_reducible assumption) | omega
      all_goals (refine Fin.go hK ?_; clear hK K)
      simp only [Then_normal]
      refine Run.seq ?_
      refine opsF [⟨Op.move (Operand.tmp 6), some 26, none⟩, ⟨Op.assign (Operand.tmp 26), some 5, none⟩] fun K hK => ?_
      try simp
      repeat' first | ((refine evL_c ?_); simp [hn, hnt, hi1, hi2, hx, hta, hset, hrow, hm, hb0]) | (with_reducible refine And.intro ?_ ?_) | intro _ | (with_reducible assumption) | omega
      all_goals (refine Fin.go hK ?_; clear hK K)
      simp only [Then_normal]
      refine Run.seq ?_
      refine opsF [⟨Op.move (Operand.tmp 6), some 27, none⟩, ⟨Op.assign (Operand.tmp 27), some 8, none⟩] fun K hK => ?_
      try simp
      repeat' first | ((refine evL_c ?_); simp [hn, hnt, hi1, hi2, hx, hta, hset, hrow, hm, hb0]) | (with_reducible refine And.intro ?_ ?_) | intro _ | (with_reducible assumption) | omega
      all_goals (refine Fin.go hK ?_; clear hK K)
      simp only [Then_normal]
      refine Run.cut [8, 28, 29, 30, 31, 32, 33, 34, 35] [(8, .int sk)] [(0, .vals ((encC c).map .d ++ [.d (encTa tabs), .d (.sl false (pipes.map encPi)), .rs 9500 6 0 i, .mp 1])), (1, mpK l), (200, .vals [.pt 0 0 0 0]), (800, .vals ((encPi x).map .d)), (9500, .data 6 (ps.map encP))] ?_ ?_
      · refine Run.seq ?_
        refine opsF [⟨Op.move (Operand.tmp 6), some 28, none⟩, ⟨Op.load 117 (Operand.tmp 1), some 29, none⟩, ⟨Op.nilCheck (Operand.tmp 29), some 30, none⟩, ⟨Op.fieldAddr 120 (Operand.tmp 30) 1, some 31, none⟩, ⟨Op.fieldAddr 25 (Operand.tmp 31) 0, some 32, none⟩, ⟨Op.load 22 (Operand.tmp 32), some 33, none⟩, ⟨Op.call { callee := Callee.builtin Builtin.len, args := #[Operand.tmp 33], argTypes := #[22] }, some 34, none⟩, ⟨Op.binOp BinOp.eql 3 (Operand.tmp 28) (Operand.tmp 34) 3, some 35, none⟩] fun K hK => ?_
        try simp
        repeat' first | ((refine evL_c ?_); simp [hn, hnt, hi1, hi2, hx, hta, hset, hrow, hm, hb0]) | (with_reducible refine And.intro ?_ ?_) | intro _ | (with_reducible assumption) | omega
        all_goals (refine Fin.go hK ?_; clear hK K)
        simp only [Then_normal]
        refine Run.cond rfl (fun h35 => ?_) (fun h35 => ?_)
        · try simp at h35
          refine opsF [⟨Op.assign (Operand.const (Value.int IntKind.i64 (-1))), some 8, none⟩] fun K hK => ?_
          try simp
          repeat' first | ((refine evL_c ?_); simp [hn, hnt, hi1, hi2, hx, hta, hset, hrow, hm, hb0]) | (with_reducible refine And.intro ?_ ?_) | intro _ | (with_reducible assumption) | omega
          all_goals (refine Fin.go hK ?_; clear hK K)
          rw [← hsk2]
          (try simp [h35]) <;> (first | omega | (simp; done) | (simp_all; done) | grind)
        · try simp at h35
          refine Run.skip ?_
          rw [← hsk2]
          (try simp [h35]) <;> (first | omega | (simp; done) | (simp_all; done) | grind)
      · simp only [over, List.foldl, List.set]
        refine Run.seq ?_
        refine opsF [⟨Op.fieldAddr 41 (Operand.tmp 7) 0, some 36, none⟩, ⟨Op.load 3 (Operand.tmp 36), some 37, none⟩, ⟨Op.build 48 #[(0, Operand.const (Value.int IntKind.i64 1)), (2, Operand.tmp 37)], some 38, none⟩, ⟨Op.alloc 48, some 9, none⟩, ⟨Op.store 48 (Operand.tmp 9) (Operand.tmp 38), none, none⟩] fun K hK => ?_
        try simp
        repeat' first | ((refine evL_c ?_); simp [hn, hnt, hi1, hi2, hx, hta, hset, hrow, hm, hb0]) | (with_reducible refine And.intro ?_ ?_) | intro _ | (with_reducible assumption) | omega
        all_goals (refine Fin.go hK ?_; clear hK K)
        simp only [Then_normal]
        refine Run.subB 1000 1 (.d (.sl false [])) rfl rfl nil_sl ?_
        simp
        refine Run.subB 1000 3 (.d (.sl false [])) rfl rfl nil_sl ?_
        simp
        refine Run.subB 1000 5 (.d (.sl false [])) rfl rfl nil_sl ?_
        simp
        refine Run.seq ?_
        refine Run.cut [39, 40, 41, 42, 43, 44, 45, 46, 47, 48] [(48, .bool (!decide (x.sink = sk) || !b0))] [(0, .vals ((encC c).map .d ++ [.d (encTa tabs), .d (.sl false (pipes.map encPi)), .rs 9500 6 0 i, .mp 1])), (1, mpK l), (200, .vals [.pt 0 0 0 0]), (800, .vals ((encPi x).map .d)), (1000, .vals ((encP (scanT x.scan)).map .d)), (9500, .data 6 (ps.map encP))] ?_ ?_
        · refine opsT [⟨Op.fieldAddr 41 (Operand.tmp 7) 2, some 39, none⟩, ⟨Op.load 3 (Operand.tmp 39), some 40, none⟩, ⟨Op.move (Operand.tmp 8), some 41, none⟩, ⟨Op.binOp BinOp.neq 3 (Operand.tmp 40) (Operand.tmp 41) 3, some 42, none⟩, ⟨Op.move (Operand.tmp 42), some 43, none⟩, ⟨Op.move (Operand.tmp 4), some 44, some (some 43, false)⟩, ⟨Op.load 48 (Operand.tmp 9), some 45, some (some 43, false)⟩, ⟨Op.call { callee := Callee.value (Operand.tmp 44), args := #[Operand.tmp 45], argTypes := #[48] }, some 46, some (some 43, false)⟩, ⟨Op.unOp UnOp.not 4 (Operand.tmp 46), some 47, some (some 43, false)⟩, ⟨Op.pick (Operand.tmp 43) (Operand.const (Value.bool true)) (Operand.tmp 47), some 48, none⟩] fun K hK => ?_
          try simp
          repeat' first | (refine ecallW [0, 9500, 1, 200] (by exact hlk) (by simp) (by simp) (okL _ _ _ _ _ _ _) ?_) | ((first | refine evL_c ?_ | (refine evL_g rfl ?_; try simp only [gs_tt, gs_ff, gs_tf, gs_ft]) | refine evL_u rfl ?_ | (with_reducible refine gsplit (fun hg => ?_) (fun hg => ?_) <;> try simp at hg)) <;> try simp [hn, hnt, hi1, hi2, hx, hta, hset, hrow, hm, hb0]) | (with_reducible refine And.intro ?_ ?_) | intro _ | (with_reducible assumption) | omega
          all_goals (refine Fin.go hK ?_; clear hK K)
          all_goals
            (try simp [hps]) <;> (first | omega | (simp; done) | (simp_all; done) | grind)
        · simp only [over, List.foldl, List.set]
          refine Run.cond rfl (fun h48 => ?_) (fun h48 => ?_)
          · have hbad := h48
            rw [← hsk, ← hb0] at hbad
            rw [pipesS_bad hps hbad] at hz
            obtain ⟨e1, e2⟩ := Prod.mk.inj hz
            obtain ⟨e2, e3⟩ := Prod.mk.inj e2
            subst e1 e2 e3
            refine Run.exit ?_
            simp (decide := true) only [Then_exit, Blok_exit, if_true, if_false]
            first
              | (have e : i - 1 = nt := by omega
                 have e2 : i = r1 := by omega
                 subst e2
                 simp [e, hps]; done)
              | (have e2 : i = r1 := by omega
                 subst e2
                 simp [hps]; done)
          · have hgood := h48
            rw [← hsk, ← hb0] at hgood
            have hb1 : b0 = true := by simp at h48; simpa using h48.2
            obtain ⟨⟨T1, T2⟩, hT⟩ : ∃ z, stepsS c tabs ps i l (scanT x.scan) x.steps = z := ⟨_, rfl⟩
            have h1w : partsP (scanT x.scan) + tot 0 ps l + wL (x.steps.drop 0) + wP (pipes.drop (i + 1)) ≤ 1100000 := by
              have h1 : partsP (scanT x.scan) = 1 := by simp [scanT, partsP, partsL, cntL]
              simp only [List.drop_zero, h1]; omega
            have hml := wL_len x.steps
            rw [hm] at hml
            refine Run.skip ?_
            simp only [Then_normal]
            refine Run.seq ?_
            refine Run.seq ?_
            refine opsF [⟨Op.fieldAddr 41 (Operand.tmp 7) 1, some 49, none⟩, ⟨Op.load 39 (Operand.tmp 49), some 50, none⟩, ⟨Op.call { callee := Callee.builtin Builtin.len, args := #[Operand.tmp 50], argTypes := #[39] }, some 51, none⟩, ⟨Op.move (Operand.const (Value.int IntKind.i64 0)), some 52, none⟩] fun K hK => ?_
            try simp
            repeat' first | ((refine evL_c ?_); simp [hn, hnt, hi1, hi2, hx, hta, hset, hrow, hm, hb0]) | (with_reducible refine And.intro ?_ ?_) | intro _ | (with_reducible assumption) | omega
            all_goals (refine Fin.go hK ?_; clear hK K)
            simp only [Then_normal]
            refine Run.block ?_
            refine Run.loopO [11, 12, 13, 52, 53, 54, 55, 56, 57, 58, 59, 60, 61, 62, 63, 64, 65, 66, 67, 68, 69, 70, 71, 72, 73] (fun (y : Nat × PlanT × List Int) => [(52, .int y.1)]) (fun (y : Nat × PlanT × List Int) => [(0, .vals ((encC c).map .d ++ [.d (encTa tabs), .d (.sl false (pipes.map encPi)), .rs 9500 6 0 i, .mp 1])), (1, mpK y.2.2), (200, .vals [.pt 0 0 0 0]), (800, .vals ((encPi x).map .d)), (1000, .vals ((encP y.2.1).map .d)), (9500, .data 6 (ps.map encP))]) (fun (y : Nat × PlanT × List Int) => y.1 ≤ m ∧ (bndT c y.2.1).isSome = true ∧ partsP y.2.1 + tot 0 ps y.2.2 + wL (x.steps.drop y.1) + wP (pipes.drop (i + 1)) ≤ 1100000 ∧ stepsS c tabs ps i y.2.2 y.2.1 (x.steps.drop y.1) = (T1, T2)) (fun (y : Nat × PlanT × List Int) => m - y.1) (0, scanT x.scan, l) ⟨by omega, hb0.trans hb1, h1w, hT⟩ (by simp) fun ⟨k, p, l1⟩ ⟨hk, hp, hwk, hzk⟩ => ?_
            simp only [over, List.foldl, List.set]
            simp only at hk hp hwk hzk
            refine Run.seq ?_
            refine opsF [⟨Op.binOp BinOp.lss 3 (Operand.tmp 52) (Operand.tmp 51) 3, some 53, none⟩] fun K hK => ?_
            try simp
            repeat' first | ((refine evL_c ?_); simp [hn, hnt, hi1, hi2, hx, hta, hset, hrow, hm, hb0]) | (with_reducible refine And.intro ?_ ?_) | intro _ | (with_reducible assumption) | omega
            all_goals (refine Fin.go hK ?_; clear hK K)
            simp only [Then_normal]
            refine Run.seq ?_
            refine Run.cond rfl (fun h53 => ?_) (fun h53 => ?_)
            · try simp at h53
              have hk1 : k < m := by omega
              have hk2 : (k : Int) < m := by omega
              rw [drop_rd (by omega : k < x.steps.length)] at hwk hzk
              obtain ⟨s, hs⟩ : ∃ z, rdI x.steps (k : Nat) = z := ⟨_, rfl⟩
              rw [hs] at hwk hzk
              rw [wL] at hwk
              have hov := over_ok c hP tabs (.sl false (pipes.map encPi)) ps l1 p s i (by omega) (by omega) (by omega) hp (by omega) hq
              obtain ⟨⟨o, l2⟩, ho⟩ : ∃ z, stepS c tabs ps i l1 p s = z := ⟨_, rfl⟩
              obtain ⟨hpa, hpa2⟩ := overQ_parts (by omega) ho (wL (x.steps.drop (k + 1)) + wP (pipes.drop (i + 1))) (by omega)
              obtain ⟨q2, hq2⟩ : ∃ z, overQ p (o, l2) = z := ⟨_, rfl⟩
              rw [hq2] at hpa hpa2
              rw [ho, hq2] at hov
              have hlk2 := look1_ok c q2 (encTa tabs) (.sl false (pipes.map encPi)) i (ps.map encP) l2 hP hpa
              obtain ⟨b1, hb1'⟩ : ∃ z, (bndT c q2).isSome = z := ⟨_, rfl⟩
              obtain ⟨b2, hb2'⟩ : ∃ z, o.isSome = z := ⟨_, rfl⟩
              simp only [sT, hps, hb2'] at hov
              rw [encP_cells p, encP_cells q2] at hov
              rw [hb1', encP_cells] at hlk2
              refine Run.skip ?_
              simp only [Then_normal]
              refine Run.seq ?_
              refine Run.block ?_
              refine Run.seq ?_
              refine opsF [⟨Op.indexAddr 39 (Operand.tmp 50) (Operand.tmp 52), some 54, none⟩, ⟨Op.load 75 (Operand.tmp 54), some 55, none⟩, ⟨Op.alloc 75, some 11, none⟩, ⟨Op.store 75 (Operand.tmp 11) (Operand.tmp 55), none, none⟩] fun K hK => ?_
              try simp
              repeat' first | ((refine evL_c ?_); simp [hn, hnt, hi1, hi2, hx, hta, hset, hrow, hm, hb0, hk1, hk2, hs]) | (with_reducible refine And.intro ?_ ?_) | intro _ | (with_reducible assumption) | omega
              all_goals (refine Fin.go hK ?_; clear hK K)
              simp only [Then_normal]
              refine Run.seq ?_
              refine opsT [⟨Op.load 117 (Operand.tmp 1), some 57, none⟩, ⟨Op.load 48 (Operand.tmp 9), some 58, none⟩, ⟨Op.load 75 (Operand.tmp 11), some 59, none⟩, ⟨Op.move (Operand.tmp 6), some 60, none⟩, ⟨Op.call { callee := Callee.value (Operand.func 81), args := #[Operand.tmp 57, Operand.tmp 58, Operand.tmp 59, Operand.tmp 60], argTypes := #[117, 48, 75, 3] }, some 61, none⟩, ⟨Op.move (Operand.tmp 61), some 56, none⟩, ⟨Op.extract (Operand.tmp 56) 0, some 62, none⟩, ⟨Op.extract (Operand.tmp 56) 1, some 63, none⟩, ⟨Op.alloc 48, some 12, none⟩, ⟨Op.store 48 (Operand.tmp 12) (Operand.tmp 62), none, none⟩, ⟨Op.assign (Operand.tmp 63), some 13, none⟩] fun K hK => ?_
              try simp
              repeat' first | (refine ecallW [0, 9500, 1] (by exact hov) (by simp) (by simp) (okO _ _ _ _ _ _ _ _ _ _ _) ?_) | ((refine evL_c ?_); simp [hn, hnt, hi1, hi2, hx, hta, hset, hrow, hm, hb0, hk1, hk2, hs]) | (with_reducible refine And.intro ?_ ?_) | intro _ | (with_reducible assumption) | omega
              all_goals (refine Fin.go hK ?_; clear hK K)
              simp only [Then_normal]
              refine Run.seq ?_
              refine Run.cut [64, 65, 66, 67, 68, 69, 70, 71] [(71, .bool (!(b2 && b1)))] [(0, .vals ((encC c).map .d ++ [.d (encTa tabs), .d (.sl false (pipes.map encPi)), .rs 9500 6 0 i, .mp 1])), (1, mpK l2), (200, .vals [.pt 0 0 0 0]), (800, .vals ((encPi x).map .d)), (1000, .vals ((encP p).map .d)), (1200, .vals ((encR s).map .d)), (1300, .vals ((encP q2).map .d)), (9500, .data 6 (ps.map encP))] ?_ ?_
              · refine opsT [⟨Op.move (Operand.tmp 13), some 64, none⟩, ⟨Op.unOp UnOp.not 4 (Operand.tmp 64), some 65, none⟩, ⟨Op.move (Operand.tmp 65), some 66, none⟩, ⟨Op.move (Operand.tmp 4), some 67, some (some 66, false)⟩, ⟨Op.load 48 (Operand.tmp 12), some 68, some (some 66, false)⟩, ⟨Op.call { callee := Callee.value (Operand.tmp 67), args := #[Operand.tmp 68], argTypes := #[48] }, some 69, some (some 66, false)⟩, ⟨Op.unOp UnOp.not 4 (Operand.tmp 69), some 70, some (some 66, false)⟩, ⟨Op.pick (Operand.tmp 66) (Operand.const (Value.bool true)) (Operand.tmp 70), some 71, none⟩] fun K hK => ?_
                try simp
                repeat' first | (refine ecallW [0, 9500, 1, 200] (by exact hlk2) (by simp) (by simp) (okL _ _ _ _ _ _ _) ?_) | ((first | refine evL_c ?_ | (refine evL_g rfl ?_; try simp only [gs_tt, gs_ff, gs_tf, gs_ft]) | refine evL_u rfl ?_ | (with_reducible refine gsplit (fun hg => ?_) (fun hg => ?_) <;> try simp at hg)) <;> try simp [hn, hnt, hi1, hi2, hx, hta, hset, hrow, hm, hb0, hk1, hk2, hs]) | (with_reducible refine And.intro ?_ ?_) | intro _ | (with_reducible assumption) | omega
                all_goals (refine Fin.go hK ?_; clear hK K)
                all_goals
                  (try simp [hps]) <;> (first | omega | (simp; done) | (simp_all; done) | grind)
              · simp only [over, List.foldl, List.set]
                refine Run.cond rfl (fun h71 => ?_) (fun h71 => ?_)
                · try simp at h71
                  have hnone := stepsS_no (r := x.steps.drop (k + 1)) ho (by rw [hq2, hb1', hb2']; grind)
                  rw [hnone] at hzk
                  obtain ⟨e1, e2⟩ := Prod.mk.inj hzk
                  subst e1 e2
                  rw [pipesS_stop hps hgood hT] at hz
                  obtain ⟨e1, e2⟩ := Prod.mk.inj hz
                  obtain ⟨e2, e3⟩ := Prod.mk.inj e2
                  subst e1 e2 e3
                  refine Run.exit ?_
                  simp (decide := true) only [Then_exit, Blok_exit, if_true, if_false]
                  first
                    | (have e : i - 1 = nt := by omega
                       have e2 : i = r1 := by omega
                       subst e2
                       simp [e, hps]; done)
                    | (have e2 : i = r1 := by omega
                       subst e2
                       simp [hps]; done)
                · try simp at h71
                  have hb2 : o.isSome = true ∧ (bndT c q2).isSome = true := by rw [hb1', hb2']; grind
                  refine Run.skip ?_
                  simp only [Then_normal]
                  refine opsF [⟨Op.load 48 (Operand.tmp 12), some 72, none⟩, ⟨Op.store 48 (Operand.tmp 9) (Operand.tmp 72), none, none⟩] fun K hK => ?_
                  try simp
                  repeat' first | ((refine evL_c ?_); simp [hn, hnt, hi1, hi2, hx, hta, hset, hrow, hm, hb0, hk1, hk2, hs]) | (with_reducible refine And.intro ?_ ?_) | intro _ | (with_reducible assumption) | omega
                  all_goals (refine Fin.go hK ?_; clear hK K)
                  simp only [Blok_normal]
                  simp only [Then_normal]
                  refine opsF [⟨Op.binOp BinOp.add 3 (Operand.tmp 52) (Operand.const (Value.int IntKind.i64 1)) 3, some 73, none⟩, ⟨Op.move (Operand.tmp 73), some 52, none⟩] fun K hK => ?_
                  try simp
                  repeat' first | ((refine evL_c ?_); simp [hn, hnt, hi1, hi2, hx, hta, hset, hrow, hm, hb0, hk1, hk2, hs]) | (with_reducible refine And.intro ?_ ?_) | intro _ | (with_reducible assumption) | omega
                  all_goals (refine Fin.go hK ?_; clear hK K)
                  refine ⟨(k + 1, q2, l2), ⟨by omega, hb2.2, ?_, ?_⟩, by simp only; omega, ?_⟩
                  · have := hpa2 hb2.1
                    simp only; omega
                  · simp only
                    rw [← hzk, ← hq2]
                    exact (stepsS_yes ho (by rw [hq2]; simp [hb2])).symm
                  · first
                      | (simp (disch := omega) [wrap_id]; done)
            · try simp at h53
              have hk3 : k = m := by omega
              rw [List.drop_of_length_le (by omega), stepsS] at hzk
              obtain ⟨e1, e2⟩ := Prod.mk.inj hzk
              subst e1 e2
              refine Run.exit ?_
              simp (decide := true) only [Then_exit, Blok_exit, if_true, if_false]
              simp only [Then_normal]
              refine Run.seq ?_
              refine Run.coin [⟨Op.alloc 4, some 74, none⟩] [⟨Op.store 4 (Operand.tmp 74) (Operand.const (Value.bool true)), none, none⟩, ⟨Op.store 4 (Operand.tmp 74) (Operand.const (Value.bool false)), none, none⟩, ⟨Op.load 4 (Operand.tmp 74), some 75, none⟩] [⟨Op.store 4 (Operand.tmp 74) (Operand.const (Value.bool false)), none, none⟩, ⟨Op.store 4 (Operand.tmp 74) (Operand.const (Value.bool true)), none, none⟩, ⟨Op.load 4 (Operand.tmp 74), some 75, none⟩] mixed (by decide) (by decide) rfl (by kernel_rfl) (by kernel_rfl) (by kernel_rfl) (by kernel_rfl) (by kernel_rfl) (by kernel_rfl) rfl rfl rfl fun K hK => ?_
              try simp
              repeat' first | ((refine evL_c ?_); simp [hn, hnt, hi1, hi2, hx, hta, hset, hrow, hm, hb0]) | (refine evL_two ?_ ?_) | (with_reducible refine And.intro ?_ ?_) | intro _ | (with_reducible assumption) | omega
              all_goals (refine Fin.go hK ?_; clear hK K)
              · simp only [Then_normal]
                refine Run.cond rfl (fun h75 => ?_) (fun h75 => ?_)
                · simp at h75
                · skip
                  refine Run.opsA [] [1] [⟨Op.load 117 (Operand.tmp 1), some 87, none⟩, ⟨Op.load 117 (Operand.tmp 1), some 88, none⟩, ⟨Op.nilCheck (Operand.tmp 88), some 89, none⟩, ⟨Op.fieldAddr 120 (Operand.tmp 89) 2, some 90, none⟩, ⟨Op.load 45 (Operand.tmp 90), some 91, none⟩, ⟨Op.load 48 (Operand.tmp 9), some 92, none⟩, ⟨Op.buildSlice 45 1 #[(0, Operand.tmp 92)], some 93, none⟩, ⟨Op.call { callee := Callee.builtin Builtin.append, args := #[Operand.tmp 91, Operand.tmp 93], argTypes := #[45, 45] }, some 94, none⟩, ⟨Op.nilCheck (Operand.tmp 87), some 95, none⟩, ⟨Op.fieldAddr 120 (Operand.tmp 95) 2, some 96, none⟩, ⟨Op.store 45 (Operand.tmp 96) (Operand.tmp 94), none, none⟩] mixed (by decide) rfl fun K hK => ?_
                  try simp
                  repeat' first | ((refine evL_c ?_); simp [hn, hnt, hi1, hi2, hx, hta, hset, hrow, hm, hb0]) | (with_reducible refine And.intro ?_ ?_) | intro _ | (with_reducible assumption) | omega
                  all_goals (refine hK _ _ (by rfl) ?_; clear hK K)
                  simp only [Blok_normal]
                  simp only [Then_normal]
                  refine opsF oo68 fun K hK => ?_
                  try simp
                  repeat' first | ((refine evL_c ?_); simp [hn, hnt, hi1, hi2, hx, hta, hset, hrow, hm, hb0]) | (with_reducible refine And.intro ?_ ?_) | intro _ | (with_reducible assumption) | omega
                  all_goals (refine Fin.go hK ?_; clear hK K)
                  first
                    | refine ⟨i + 1, ps ++ [p], l1, ⟨?_, ?_, ?_, ?_, ?_⟩, ?_, ?_⟩
                    | refine ⟨(i + 1, ps ++ [p], l1), ⟨?_, ?_, ?_, ?_, ?_⟩, ?_, ?_⟩
                  · show i + 1 ≤ n; omega
                  · simp [hps]
                  · intro q hq'
                    rcases List.mem_append.1 hq' with h | h
                    · exact hq q h
                    · rw [List.mem_singleton.1 h]; exact hp
                  · have := tot_app l1 p ps 0
                    show tot 0 (ps ++ [p]) l1 + wP (pipes.drop (i + 1)) ≤ 1100000; omega
                  · show pipesS c tabs (ps ++ [p]) l1 (pipes.drop (i + 1)) = (R1, R2, R3)
                    rw [← hz]
                    exact (pipesS_go hps hgood hT).symm
                  · show n - (i + 1) < n - i; omega
                  · first
                      | (simp (disch := omega) [hta, hset, hps, wrap_id]; done)
              · simp only [Then_normal]
                refine Run.cond rfl (fun h75 => ?_) (fun h75 => ?_)
                · skip
                  refine Run.seq ?_
                  refine opsF [⟨Op.load 117 (Operand.tmp 1), some 76, none⟩, ⟨Op.nilCheck (Operand.tmp 76), some 77, none⟩, ⟨Op.fieldAddr 120 (Operand.tmp 77) 2, some 78, none⟩, ⟨Op.load 45 (Operand.tmp 78), some 79, none⟩, ⟨Op.load 48 (Operand.tmp 9), some 80, none⟩, ⟨Op.call { callee := Callee.builtin Builtin.len, args := #[Operand.tmp 79], argTypes := #[45] }, some 81, none⟩, ⟨Op.buildSlice 45 1 #[(0, Operand.const (Value.agg #[Value.int IntKind.i64 0, Value.slice none 0 0, Value.int IntKind.i64 0, Value.slice none 0 0, Value.bool false, Value.slice none 0 0]))], some 82, none⟩, ⟨Op.call { callee := Callee.builtin Builtin.append, args := #[Operand.tmp 79, Operand.tmp 82], argTypes := #[45, 45] }, some 83, none⟩, ⟨Op.nilCheck (Operand.tmp 76), some 84, none⟩, ⟨Op.fieldAddr 120 (Operand.tmp 84) 2, some 85, none⟩, ⟨Op.store 45 (Operand.tmp 85) (Operand.tmp 83), none, none⟩] fun K hK => ?_
                  try simp
                  repeat' first | ((refine evL_c ?_); simp [hn, hnt, hi1, hi2, hx, hta, hset, hrow, hm, hb0]) | (with_reducible refine And.intro ?_ ?_) | intro _ | (with_reducible assumption) | omega
                  all_goals (refine Fin.go hK ?_; clear hK K)
                  simp only [Then_normal]
                  refine Run.ren 8400 9500 (by omega) (by omega) (by simp) (by simp) ?_
                  simp
                  refine opsF [⟨Op.indexAddr 45 (Operand.tmp 83) (Operand.tmp 81), some 86, none⟩, ⟨Op.store 48 (Operand.tmp 86) (Operand.tmp 80), none, none⟩] fun K hK => ?_
                  try simp
                  repeat' first | ((refine evL_c ?_); simp [hn, hnt, hi1, hi2, hx, hta, hset, hrow, hm, hb0]) | (with_reducible refine And.intro ?_ ?_) | intro _ | (with_reducible assumption) | omega
                  all_goals (refine Fin.go hK ?_; clear hK K)
                  simp only [Blok_normal]
                  simp only [Then_normal]
                  refine opsF oo68 fun K hK => ?_
                  try simp
                  repeat' first | ((refine evL_c ?_); simp [hn, hnt, hi1, hi2, hx, hta, hset, hrow, hm, hb0]) | (with_reducible refine And.intro ?_ ?_) | intro _ | (with_reducible assumption) | omega
                  all_goals (refine Fin.go hK ?_; clear hK K)
                  first
                    | refine ⟨i + 1, ps ++ [p], l1, ⟨?_, ?_, ?_, ?_, ?_⟩, ?_, ?_⟩
                    | refine ⟨(i + 1, ps ++ [p], l1), ⟨?_, ?_, ?_, ?_, ?_⟩, ?_, ?_⟩
                  · show i + 1 ≤ n; omega
                  · simp [hps]
                  · intro q hq'
                    rcases List.mem_append.1 hq' with h | h
                    · exact hq q h
                    · rw [List.mem_singleton.1 h]; exact hp
                  · have := tot_app l1 p ps 0
                    show tot 0 (ps ++ [p]) l1 + wP (pipes.drop (i + 1)) ≤ 1100000; omega
                  · show pipesS c tabs (ps ++ [p]) l1 (pipes.drop (i + 1)) = (R1, R2, R3)
                    rw [← hz]
                    exact (pipesS_go hps hgood hT).symm
                  · show n - (i + 1) < n - i; omega
                  · first
                      | (simp (disch := omega) [hta, hset, hps, wrap_id]; done)
                · simp at h75
    · try simp at h22
      have hi3 : i = n := by omega
      rw [List.drop_of_length_le (by omega), pipesS] at hz
      obtain ⟨e1, e2⟩ := Prod.mk.inj hz
      obtain ⟨e2, e3⟩ := Prod.mk.inj e2
      subst e1 e2 e3
      refine Run.exit ?_
      simp (decide := true) only [Then_exit, Blok_exit, if_true, if_false]
      first
        | (have e : i - 1 = nt := by omega
           have e2 : i = r1 := by omega
           subst e2
           simp [e, hps]; done)
        | (have e2 : i = r1 := by omega
           subst e2
           simp [hps]; done)
  · simp only [over, List.foldl, List.set]
    refine Run.seq ?_
    refine opsF [⟨Op.move (Operand.tmp 5), some 98, none⟩, ⟨Op.load 117 (Operand.tmp 1), some 99, none⟩, ⟨Op.nilCheck (Operand.tmp 99), some 100, none⟩, ⟨Op.fieldAddr 120 (Operand.tmp 100) 2, some 101, none⟩, ⟨Op.load 45 (Operand.tmp 101), some 102, none⟩, ⟨Op.call { callee := Callee.builtin Builtin.len, args := #[Operand.tmp 102], argTypes := #[45] }, some 103, none⟩, ⟨Op.load 117 (Operand.tmp 1), some 104, none⟩, ⟨Op.nilCheck (Operand.tmp 104), some 105, none⟩, ⟨Op.fieldAddr 120 (Operand.tmp 105) 1, some 106, none⟩, ⟨Op.fieldAddr 25 (Operand.tmp 106) 1, some 107, none⟩, ⟨Op.load 23 (Operand.tmp 107), some 108, none⟩, ⟨Op.call { callee := Callee.builtin Builtin.len, args := #[Operand.tmp 108], argTypes := #[23] }, some 109, none⟩, ⟨Op.binOp BinOp.eql 3 (Operand.tmp 103) (Operand.tmp 109) 3, some 110, none⟩, ⟨Op.assign (Operand.tmp 98), some 2, none⟩, ⟨Op.assign (Operand.tmp 110), some 3, none⟩] fun K hK => ?_
    try simp
    repeat' first | ((refine evL_c ?_); simp [hn, hnt, hr1, hR4]) | (with_reducible refine And.intro ?_ ?_) | intro _ | (with_reducible assumption) | omega
    all_goals (refine Fin.go hK ?_; clear hK K)
    simp only [Then_normal]
    refine Run.ret ?_
    try simp only [Then_ret, Blok_ret]
    try simp only [Fwd_ret]
    simp [hR4, hr1, hn, hnt]


end Go.Proofs.Ytimgbdkgjfbhkaa.Z
end
section
set_option maxRecDepth 100000
namespace Go.Proofs.Ytimgbdkgjfbhkaa.Z
open Go Go.Fw
attribute [-simp] lookV updV Blk.fgt Blk.ren Blk.men Blk.fin lost litV
attribute [local simp] litV_agg litV_int litV_str litV_bool litV_slice litV_tup
theorem stepS_asked (c : CoreT) (tabs : List (List Int)) (ps : List PlanT) (i : Int) (l : List Int) (p : PlanT) (s : StepR) : (stepS c tabs ps i l p s).2.length ≤ l.length + 1 := by
  unfold stepS
  split
  · split
    · simp
    · simp
  · simp
theorem stepsS_asked (c : CoreT) (tabs : List (List Int)) (ps : List PlanT) (i : Int) : ∀ (r : List StepR) (l : List Int) (p : PlanT), (stepsS c tabs ps i l p r).2.length ≤ l.length + r.length
  | [], l, p => by simp [stepsS]
  | s :: r, l, p => by
    have h := stepS_asked c tabs ps i l p s
    rw [stepsS]
    rcases he : stepS c tabs ps i l p s with ⟨o, l'⟩
    rw [he] at h
    simp only at h
    cases o with
    | none => simp only [List.length_cons]; omega
    | some q =>
      have h2 := stepsS_asked c tabs ps i r l' q
      simp only
      split
      · simp only [List.length_cons]; omega
      · simp only [List.length_cons]; omega
theorem pipeS_asked (c : CoreT) (tabs : List (List Int)) (ps : List PlanT) (l : List Int) (x : PipeR) : (pipeS c tabs ps l x).2.length ≤ l.length + x.steps.length := by
  unfold pipeS
  split
  · simp
  · exact stepsS_asked _ _ _ _ _ _ _
theorem pipesS_asked (c : CoreT) (tabs : List (List Int)) : ∀ (r : List PipeR) (ps : List PlanT) (l : List Int), (pipesS c tabs ps l r).2.1.length ≤ l.length + wP r
  | [], ps, l => by simp [pipesS]
  | x :: r, ps, l => by
    have h := pipeS_asked c tabs ps l x
    have hs := wL_len x.steps
    rw [pipesS, wP]
    rcases he : pipeS c tabs ps l x with ⟨o, l'⟩
    rw [he] at h
    simp only at h
    cases o with
    | none => simp only; omega
    | some q =>
      have h2 := pipesS_asked c tabs r (ps ++ [q]) l'
      simp only; omega
/-- a program's plan, the place of the pipe that is none, and the answer -/
def planS (c : CoreT) (r : ProgR) : PlanT × Int × Int :=
  if (transS c).op = 0 then (zeroQ, 0, 1)
  else if r.pipes.length ≠ r.tabs.length + 1 then (zeroQ, -1, 181)
  else match pipesS c r.tabs [] [] r.pipes with
    | (R1, R2, R3) => if (!R3 || decide (R2.length < r.tabs.length)) = true then (zeroQ, (if R3 then (r.tabs.length : Int) else R1.length), 181) else (rdI R1 r.tabs.length, 0, 0)
theorem trans_pat {c : CoreT} (h : (transS c).op ≠ 0) : patS c.nodes c.edges = true := by
  unfold transS at h
  split at h
  · assumption
  · exact absurd rfl h
@[simp] theorem zeroQ_op0 : zeroQ.op = 0 := rfl
@[simp] theorem zeroQ_kids0 : zeroQ.kids = [] := rfl
@[simp] theorem zeroQ_slot0 : zeroQ.slot = 0 := rfl
@[simp] theorem zeroQ_edges0 : zeroQ.edges = [] := rfl
@[simp] theorem zeroQ_back0 : zeroQ.back = false := rfl
@[simp] theorem zeroQ_terms0 : zeroQ.terms = [] := rfl
theorem lost2 (a b : Nat) (s1 : Store) (id : Nat) : lost [a, b] s1 id = ((a == id && (getB s1 0).isNone) || (b == id && (getB s1 1).isNone)) := by
  have : List.range 2 = [0, 1] := rfl
  simp only [lost, List.length_cons, List.length_nil, Nat.reduceAdd, this, List.any_cons, List.any_nil, Bool.or_false, Bool.or_assoc]
  rfl
attribute [local simp] lost2
theorem mpK_nil : Blk.mp [] [] = mpK [] := rfl
theorem okF (c : CoreT) (tb pp : D) (np : Nat) (rows : List (List D)) (l : List Int) (n : Int) (y : Bool) : okW [2900, 2700] [(0, .vals ((encC c).map .d ++ [.d tb, .d pp, vnil, .mp 1])), (1, mpK [])] [.pt 0 0 0 0] (.tup [.int n, .bool y]) [(0, .vals ((encC c).map .d ++ [.d tb, .d pp, .rs 2 6 0 np, .mp 1])), (1, mpK l), (2, .data 6 rows)] = true := by
  have e : List.range 2 = [0, 1] := rfl
  simp [okW, badId, e, V.menL, V.men, getB]
set_option maxHeartbeats 8000000 in
theorem planN_ok (c : CoreT) (r : ProgR) (hc : c.wher.length ≤ 1100000) (hop : (transS c).op = 0) : Snd P 27 [.d (.ag (encPr r)), .d (.ag (encC c))] (.tup [.d (.ag (encP zeroQ)), .int 0, .int 1]) [] := by
  have hT := trans_ok c hc
  obtain ⟨T, hTe⟩ : ∃ z, transS c = z := ⟨_, rfl⟩
  rw [hTe] at hT hop
  rw [encP_cells] at hT
  obtain ⟨n, hn⟩ : ∃ z, r.pipes.length = z := ⟨_, rfl⟩
  obtain ⟨nt, hnt⟩ : ∃ z, r.tabs.length = z := ⟨_, rfl⟩
  refine snd_of [] Try.func27 rfl (by kernel_rfl) Try.ntmps27 (by simp) ?_
  unfold Try.f27
  simp only [List.cons_append, List.nil_append, List.length_cons, List.length_nil, Nat.reduceAdd, Nat.reduceSub, List.replicate]
  refine Run.seq ?_
  refine opsF oo69 fun K hK => ?_
  try simp
  repeat' first | ((refine evL_c ?_); simp [hop, hn, hnt, encPr]) | (with_reducible refine And.intro ?_ ?_) | intro _ | (with_reducible assumption) | omega
  all_goals (refine Fin.go hK ?_; clear hK K)
  simp only [Then_normal]
  refine Run.seq ?_
  refine Run.seq ?_
  refine opsF oo70 fun K hK => ?_
  try simp
  repeat' first | (refine ecallD (by exact hT) ?_) | ((refine evL_c ?_); simp [hop, hn, hnt, encPr]) | (with_reducible refine And.intro ?_ ?_) | intro _ | (with_reducible assumption) | omega
  all_goals (refine Fin.go hK ?_; clear hK K)
  simp only [Then_normal]
  refine Run.cond rfl (fun h13 => ?_) (fun h13 => ?_)
  · skip
    refine Run.seq ?_
    refine opsF [⟨Op.build 48 #[], some 14, none⟩, ⟨Op.store 48 (Operand.tmp 4) (Operand.tmp 14), none, none⟩, ⟨Op.assign (Operand.const (Value.int IntKind.i64 0)), some 5, none⟩, ⟨Op.assign (Operand.const (Value.int IntKind.i64 1)), some 6, none⟩] fun K hK => ?_
    try simp
    repeat' first | ((refine evL_c ?_); simp [hop, hn, hnt, encPr]) | (with_reducible refine And.intro ?_ ?_) | intro _ | (with_reducible assumption) | omega
    all_goals (refine Fin.go hK ?_; clear hK K)
    simp only [Then_normal]
    refine Run.subB 500 1 (.d (.sl false [])) rfl rfl nil_sl ?_
    try simp
    refine Run.subB 500 3 (.d (.sl false [])) rfl rfl nil_sl ?_
    try simp
    refine Run.subB 500 5 (.d (.sl false [])) rfl rfl nil_sl ?_
    try simp
    refine Run.ret ?_
    try simp only [Then_ret, Blok_ret]
    simp
  · simp at h13

set_option maxHeartbeats 8000000 in
theorem planL_ok (c : CoreT) (r : ProgR) (hc : c.wher.length ≤ 1100000) (ht : r.tabs.length ≤ 1100000) (hop : ¬ (transS c).op = 0) (hl : r.pipes.length ≠ r.tabs.length + 1) : Snd P 27 [.d (.ag (encPr r)), .d (.ag (encC c))] (.tup [.d (.ag (encP zeroQ)), .int (-1), .int 181]) [] := by
  have hT := trans_ok c hc
  obtain ⟨T, hTe⟩ : ∃ z, transS c = z := ⟨_, rfl⟩
  rw [hTe] at hT hop
  rw [encP_cells] at hT
  obtain ⟨n, hn⟩ : ∃ z, r.pipes.length = z := ⟨_, rfl⟩
  obtain ⟨nt, hnt⟩ : ∃ z, r.tabs.length = z := ⟨_, rfl⟩
  rw [hnt] at ht
  rw [hn, hnt] at hl
  have hl2 : ¬ (n : Int) = nt + 1 := by omega
  have hwr : IntKind.i64.wrap ((nt : Int) + 1) = nt + 1 := wrap_id (by omega) (by omega)
  refine snd_of [] Try.func27 rfl (by kernel_rfl) Try.ntmps27 (by simp) ?_
  unfold Try.f27
  simp only [List.cons_append, List.nil_append, List.length_cons, List.length_nil, Nat.reduceAdd, Nat.reduceSub, List.replicate]
  refine Run.seq ?_
  refine opsF oo69 fun K hK => ?_
  try simp
  repeat' first | ((refine evL_c ?_); simp [hop, hn, hnt, encPr, hl2, hwr]) | (with_reducible refine And.intro ?_ ?_) | intro _ | (with_reducible assumption) | omega
  all_goals (refine Fin.go hK ?_; clear hK K)
  simp only [Then_normal]
  refine Run.seq ?_
  refine Run.seq ?_
  refine opsF oo70 fun K hK => ?_
  try simp
  repeat' first | (refine ecallD (by exact hT) ?_) | ((refine evL_c ?_); simp [hop, hn, hnt, encPr, hl2, hwr]) | (with_reducible refine And.intro ?_ ?_) | intro _ | (with_reducible assumption) | omega
  all_goals (refine Fin.go hK ?_; clear hK K)
  simp only [Then_normal]
  refine Run.cond rfl (fun h13 => ?_) (fun h13 => ?_)
  · simp at h13
  · skip
    refine Run.skip ?_
    simp only [Then_normal]
    refine Run.seq ?_
    refine Run.seq ?_
    refine opsF oo71 fun K hK => ?_
    try simp
    repeat' first | ((refine evL_c ?_); simp [hop, hn, hnt, encPr, hl2, hwr]) | (with_reducible refine And.intro ?_ ?_) | intro _ | (with_reducible assumption) | omega
    all_goals (refine Fin.go hK ?_; clear hK K)
    simp only [Then_normal]
    refine Run.cond rfl (fun h22 => ?_) (fun h22 => ?_)
    · skip
      refine Run.seq ?_
      refine opsF [⟨Op.build 48 #[], some 23, none⟩, ⟨Op.store 48 (Operand.tmp 4) (Operand.tmp 23), none, none⟩, ⟨Op.assign (Operand.const (Value.int IntKind.i64 (-1))), some 5, none⟩, ⟨Op.assign (Operand.const (Value.int IntKind.i64 181)), some 6, none⟩] fun K hK => ?_
      try simp
      repeat' first | ((refine evL_c ?_); simp [hop, hn, hnt, encPr, hl2, hwr]) | (with_reducible refine And.intro ?_ ?_) | intro _ | (with_reducible assumption) | omega
      all_goals (refine Fin.go hK ?_; clear hK K)
      simp only [Then_normal]
      refine Run.subB 500 1 (.d (.sl false [])) rfl rfl nil_sl ?_
      try simp
      refine Run.subB 500 3 (.d (.sl false [])) rfl rfl nil_sl ?_
      try simp
      refine Run.subB 500 5 (.d (.sl false [])) rfl rfl nil_sl ?_
      try simp
      refine Run.ret ?_
      try simp only [Then_ret, Blok_ret]
      simp
    · simp at h22

set_option maxHeartbeats 8000000 in
theorem planB_ok (c : CoreT) (r : ProgR) (hc : c.wher.length ≤ 1100000) (ht : r.tabs.length ≤ 1100000) (hop : ¬ (transS c).op = 0) (hl : r.pipes.length = r.tabs.length + 1) (R1 : List PlanT) (R2 : List Int) (R3 : Bool) (hk : R2.length ≤ 1100000) (hL : SndW P 45 [.pt 0 0 0 0] [(0, .vals ((encC c).map .d ++ [.d (encTa r.tabs), .d (.sl false (r.pipes.map encPi)), vnil, .mp 1])), (1, mpK [])] (.tup [.int (if R3 then (r.tabs.length : Int) else R1.length), .bool R3]) [(0, .vals ((encC c).map .d ++ [.d (encTa r.tabs), .d (.sl false (r.pipes.map encPi)), .rs 2 6 0 R1.length, .mp 1])), (1, mpK R2), (2, .data 6 (R1.map encP))]) (hbad : (!R3 || decide (R2.length < r.tabs.length)) = true) : Snd P 27 [.d (.ag (encPr r)), .d (.ag (encC c))] (.tup [.d (.ag (encP zeroQ)), .int (if R3 then (r.tabs.length : Int) else R1.length), .int 181]) [] := by
  have hT := trans_ok c hc
  obtain ⟨T, hTe⟩ : ∃ z, transS c = z := ⟨_, rfl⟩
  rw [hTe] at hT hop
  rw [encP_cells] at hT
  obtain ⟨n, hn⟩ : ∃ z, r.pipes.length = z := ⟨_, rfl⟩
  obtain ⟨nt, hnt⟩ : ∃ z, r.tabs.length = z := ⟨_, rfl⟩
  rw [hnt] at ht
  rw [hn, hnt] at hl
  have hl2 : (n : Int) = nt + 1 := by omega
  have hwr : IntKind.i64.wrap ((nt : Int) + 1) = nt + 1 := wrap_id (by omega) (by omega)
  obtain ⟨r1, hr1⟩ : ∃ z, R1.length = z := ⟨_, rfl⟩
  obtain ⟨k, hk2⟩ : ∃ z, R2.length = z := ⟨_, rfl⟩
  rw [hk2] at hk
  have hk3 : k ≤ 9223372036854775807 := by omega
  rw [hr1] at hL
  obtain ⟨at', hat⟩ : ∃ z : Int, (if R3 then (r.tabs.length : Int) else (r1 : Nat)) = z := ⟨_, rfl⟩
  rw [hat] at hL
  rw [hk2, hnt] at hbad
  rw [hr1, hat]
  refine snd_of [] Try.func27 rfl (by kernel_rfl) Try.ntmps27 (by simp) ?_
  unfold Try.f27
  simp only [List.cons_append, List.nil_append, List.length_cons, List.length_nil, Nat.reduceAdd, Nat.reduceSub, List.replicate]
  refine Run.seq ?_
  refine opsF oo69 fun K hK => ?_
  try simp
  repeat' first | ((refine evL_c ?_); simp [hop, hn, hnt, encPr, hr1, hk2, hl2, hwr]) | (with_reducible refine And.intro ?_ ?_) | intro _ | (with_reducible assumption) | omega
  all_goals (refine Fin.go hK ?_; clear hK K)
  simp only [Then_normal]
  refine Run.seq ?_
  refine Run.seq ?_
  refine opsF oo70 fun K hK => ?_
  try simp
  repeat' first | (refine ecallD (by exact hT) ?_) | ((refine evL_c ?_); simp [hop, hn, hnt, encPr, hr1, hk2, hl2, hwr]) | (with_reducible refine And.intro ?_ ?_) | intro _ | (with_reducible assumption) | omega
  all_goals (refine Fin.go hK ?_; clear hK K)
  simp only [Then_normal]
  refine Run.cond rfl (fun h13 => ?_) (fun h13 => ?_)
  · simp at h13
  · skip
    refine Run.skip ?_
    simp only [Then_normal]
    refine Run.seq ?_
    refine Run.seq ?_
    refine opsF oo71 fun K hK => ?_
    try simp
    repeat' first | ((refine evL_c ?_); simp [hop, hn, hnt, encPr, hr1, hk2, hl2, hwr]) | (with_reducible refine And.intro ?_ ?_) | intro _ | (with_reducible assumption) | omega
    all_goals (refine Fin.go hK ?_; clear hK K)
    simp only [Then_normal]
    refine Run.cond rfl (fun h22 => ?_) (fun h22 => ?_)
    · simp at h22
    · skip
      refine Run.skip ?_
      simp only [Then_normal]
      refine Run.seq ?_
      refine opsF oo72 fun K hK => ?_
      try simp
      repeat' first | ((refine evL_c ?_); simp [hop, hn, hnt, encPr, hr1, hk2, hl2, hwr, mpK_nil]) | (with_reducible refine And.intro ?_ ?_) | intro _ | (with_reducible assumption) | omega
      all_goals (refine Fin.go hK ?_; clear hK K)
      simp only [Then_normal]
      refine Run.seq ?_
      refine opsT oo73 fun K hK => ?_
      try simp
      repeat' first | (refine ecallW [2900, 2700] (by exact hL) (by simp) (by simp) (okF _ _ _ _ _ _ _ _) ?_) | ((refine evL_c ?_); simp [hop, hn, hnt, encPr, hr1, hk2, hl2, hwr]) | (with_reducible refine And.intro ?_ ?_) | intro _ | (with_reducible assumption) | omega
      all_goals (refine Fin.go hK ?_; clear hK K)
      simp only [Then_normal]
      refine Run.seq ?_
      refine Run.cut [34, 35, 36, 37, 38, 39, 40, 41, 42, 43, 44, 45, 46] [(46, .bool (!R3 || decide (k < nt)))] [(300, .vals ((encPr r).map .d)), (400, .vals ((encC c).map .d)), (500, .vals [.int 0, vnil, .int 0, vnil, .bool false, vnil]), (2900, .vals ((encC c).map .d ++ [.d (encTa r.tabs), .d (.sl false (r.pipes.map encPi)), .rs 3202 6 0 r1, .mp 2700])), (2700, mpK R2), (3202, .data 6 (R1.map encP))] ?_ ?_
      · refine opsF oo74 fun K hK => ?_
        try simp
        repeat' first | ((first | refine evL_c ?_ | (refine evL_g rfl ?_; try simp only [gs_tt, gs_ff, gs_tf, gs_ft]) | refine evL_u rfl ?_ | (with_reducible refine gsplit (fun hg => ?_) (fun hg => ?_) <;> try simp at hg)) <;> try simp [hop, hn, hnt, encPr, hr1, hk2, hl2, hwr, mpK, hk3]) | (with_reducible refine And.intro ?_ ?_) | intro _ | (with_reducible assumption) | omega
        all_goals (refine Fin.go hK ?_; clear hK K)
        all_goals
          (try simp [mpK, hr1]) <;> (first | omega | (simp; done) | (simp_all; done) | grind)
      · simp only [over, List.foldl, List.set]
        refine Run.cond rfl (fun h46 => ?_) (fun h46 => ?_)
        · skip
          refine Run.seq ?_
          refine opsF [⟨Op.build 48 #[], some 47, none⟩, ⟨Op.move (Operand.tmp 8), some 48, none⟩, ⟨Op.store 48 (Operand.tmp 4) (Operand.tmp 47), none, none⟩, ⟨Op.assign (Operand.tmp 48), some 5, none⟩, ⟨Op.assign (Operand.const (Value.int IntKind.i64 181)), some 6, none⟩] fun K hK => ?_
          try simp
          repeat' first | ((refine evL_c ?_); simp [hop, hn, hnt, encPr, hr1, hk2, hl2, hwr]) | (with_reducible refine And.intro ?_ ?_) | intro _ | (with_reducible assumption) | omega
          all_goals (refine Fin.go hK ?_; clear hK K)
          simp only [Then_normal]
          refine Run.subB 500 1 (.d (.sl false [])) rfl rfl nil_sl ?_
          try simp
          refine Run.subB 500 3 (.d (.sl false [])) rfl rfl nil_sl ?_
          try simp
          refine Run.subB 500 5 (.d (.sl false [])) rfl rfl nil_sl ?_
          try simp
          refine Run.ret ?_
          try simp only [Then_ret, Blok_ret]
          simp
        · rw [hbad] at h46
          cases h46

set_option maxHeartbeats 8000000 in
theorem planA_ok (c : CoreT) (r : ProgR) (hc : c.wher.length ≤ 1100000) (ht : r.tabs.length ≤ 1100000) (hop : ¬ (transS c).op = 0) (hl : r.pipes.length = r.tabs.length + 1) (R1 : List PlanT) (R2 : List Int) (R3 : Bool) (hk : R2.length ≤ 1100000) (hL : SndW P 45 [.pt 0 0 0 0] [(0, .vals ((encC c).map .d ++ [.d (encTa r.tabs), .d (.sl false (r.pipes.map encPi)), vnil, .mp 1])), (1, mpK [])] (.tup [.int (if R3 then (r.tabs.length : Int) else R1.length), .bool R3]) [(0, .vals ((encC c).map .d ++ [.d (encTa r.tabs), .d (.sl false (r.pipes.map encPi)), .rs 2 6 0 R1.length, .mp 1])), (1, mpK R2), (2, .data 6 (R1.map encP))]) (hgood : (!R3 || decide (R2.length < r.tabs.length)) = false) (hall : R1.length = r.pipes.length) : Snd P 27 [.d (.ag (encPr r)), .d (.ag (encC c))] (.tup [.d (.ag (encP (rdI R1 r.tabs.length))), .int 0, .int 0]) [] := by
  have hT := trans_ok c hc
  obtain ⟨T, hTe⟩ : ∃ z, transS c = z := ⟨_, rfl⟩
  rw [hTe] at hT hop
  rw [encP_cells] at hT
  obtain ⟨n, hn⟩ : ∃ z, r.pipes.length = z := ⟨_, rfl⟩
  obtain ⟨nt, hnt⟩ : ∃ z, r.tabs.length = z := ⟨_, rfl⟩
  rw [hnt] at ht
  rw [hn, hnt] at hl
  have hl2 : (n : Int) = nt + 1 := by omega
  have hwr : IntKind.i64.wrap ((nt : Int) + 1) = nt + 1 := wrap_id (by omega) (by omega)
  obtain ⟨r1, hr1⟩ : ∃ z, R1.length = z := ⟨_, rfl⟩
  obtain ⟨k, hk2⟩ : ∃ z, R2.length = z := ⟨_, rfl⟩
  rw [hk2] at hk
  have hk3 : k ≤ 9223372036854775807 := by omega
  rw [hr1] at hL
  obtain ⟨at', hat⟩ : ∃ z : Int, (if R3 then (r.tabs.length : Int) else (r1 : Nat)) = z := ⟨_, rfl⟩
  rw [hat] at hL
  rw [hk2, hnt] at hgood
  rw [hr1, hn] at hall
  have hrow : rowN (R1.map encP) nt = encP (rdI R1 r.tabs.length) := by rw [hnt]; exact rowN_map (by omega)
  have hlt : nt < r1 := by omega
  obtain ⟨q, hq⟩ : ∃ z, rdI R1 r.tabs.length = z := ⟨_, rfl⟩
  rw [hq] at hrow
  rw [hq]
  refine snd_of [] Try.func27 rfl (by kernel_rfl) Try.ntmps27 (by simp) ?_
  unfold Try.f27
  simp only [List.cons_append, List.nil_append, List.length_cons, List.length_nil, Nat.reduceAdd, Nat.reduceSub, List.replicate]
  refine Run.seq ?_
  refine opsF oo69 fun K hK => ?_
  try simp
  repeat' first | ((refine evL_c ?_); simp [hop, hn, hnt, encPr, hr1, hk2, hl2, hwr]) | (with_reducible refine And.intro ?_ ?_) | intro _ | (with_reducible assumption) | omega
  all_goals (refine Fin.go hK ?_; clear hK K)
  simp only [Then_normal]
  refine Run.seq ?_
  refine Run.seq ?_
  refine opsF oo70 fun K hK => ?_
  try simp
  repeat' first | (refine ecallD (by exact hT) ?_) | ((refine evL_c ?_); simp [hop, hn, hnt, encPr, hr1, hk2, hl2, hwr]) | (with_reducible refine And.intro ?_ ?_) | intro _ | (with_reducible assumption) | omega
  all_goals (refine Fin.go hK ?_; clear hK K)
  simp only [Then_normal]
  refine Run.cond rfl (fun h13 => ?_) (fun h13 => ?_)
  · simp at h13
  · skip
    refine Run.skip ?_
    simp only [Then_normal]
    refine Run.seq ?_
    refine Run.seq ?_
    refine opsF oo71 fun K hK => ?_
    try simp
    repeat' first | ((refine evL_c ?_); simp [hop, hn, hnt, encPr, hr1, hk2, hl2, hwr]) | (with_reducible refine And.intro ?_ ?_) | intro _ | (with_reducible assumption) | omega
    all_goals (refine Fin.go hK ?_; clear hK K)
    simp only [Then_normal]
    refine Run.cond rfl (fun h22 => ?_) (fun h22 => ?_)
    · simp at h22
    · skip
      refine Run.skip ?_
      simp only [Then_normal]
      refine Run.seq ?_
      refine opsF oo72 fun K hK => ?_
      try simp
      repeat' first | ((refine evL_c ?_); simp [hop, hn, hnt, encPr, hr1, hk2, hl2, hwr, mpK_nil]) | (with_reducible refine And.intro ?_ ?_) | intro _ | (with_reducible assumption) | omega
      all_goals (refine Fin.go hK ?_; clear hK K)
      simp only [Then_normal]
      refine Run.seq ?_
      refine opsT oo73 fun K hK => ?_
      try simp
      repeat' first | (refine ecallW [2900, 2700] (by exact hL) (by simp) (by simp) (okF _ _ _ _ _ _ _ _) ?_) | ((refine evL_c ?_); simp [hop, hn, hnt, encPr, hr1, hk2, hl2, hwr]) | (with_reducible refine And.intro ?_ ?_) | intro _ | (with_reducible assumption) | omega
      all_goals (refine Fin.go hK ?_; clear hK K)
      simp only [Then_normal]
      refine Run.seq ?_
      refine Run.cut [34, 35, 36, 37, 38, 39, 40, 41, 42, 43, 44, 45, 46] [(46, .bool (!R3 || decide (k < nt)))] [(300, .vals ((encPr r).map .d)), (400, .vals ((encC c).map .d)), (500, .vals [.int 0, vnil, .int 0, vnil, .bool false, vnil]), (2900, .vals ((encC c).map .d ++ [.d (encTa r.tabs), .d (.sl false (r.pipes.map encPi)), .rs 3202 6 0 r1, .mp 2700])), (2700, mpK R2), (3202, .data 6 (R1.map encP))] ?_ ?_
      · refine opsF oo74 fun K hK => ?_
        try simp
        repeat' first | ((first | refine evL_c ?_ | (refine evL_g rfl ?_; try simp only [gs_tt, gs_ff, gs_tf, gs_ft]) | refine evL_u rfl ?_ | (with_reducible refine gsplit (fun hg => ?_) (fun hg => ?_) <;> try simp at hg)) <;> try simp [hop, hn, hnt, encPr, hr1, hk2, hl2, hwr, mpK, hk3]) | (with_reducible refine And.intro ?_ ?_) | intro _ | (with_reducible assumption) | omega
        all_goals (refine Fin.go hK ?_; clear hK K)
        all_goals
          (try simp [mpK, hr1]) <;> (first | omega | (simp; done) | (simp_all; done) | grind)
      · simp only [over, List.foldl, List.set]
        refine Run.cond rfl (fun h46 => ?_) (fun h46 => ?_)
        · rw [hgood] at h46
          cases h46
        · skip
          refine Run.skip ?_
          simp only [Then_normal]
          refine Run.seq ?_
          refine opsF [⟨Op.move (Operand.tmp 7), some 49, none⟩, ⟨Op.nilCheck (Operand.tmp 49), some 50, none⟩, ⟨Op.fieldAddr 120 (Operand.tmp 50) 2, some 51, none⟩, ⟨Op.load 45 (Operand.tmp 51), some 52, none⟩, ⟨Op.fieldAddr 25 (Operand.tmp 2) 0, some 53, none⟩, ⟨Op.load 22 (Operand.tmp 53), some 54, none⟩, ⟨Op.call { callee := Callee.builtin Builtin.len, args := #[Operand.tmp 54], argTypes := #[22] }, some 55, none⟩, ⟨Op.indexAddr 45 (Operand.tmp 52) (Operand.tmp 55), some 56, none⟩, ⟨Op.load 48 (Operand.tmp 56), some 57, none⟩, ⟨Op.store 48 (Operand.tmp 4) (Operand.tmp 57), none, none⟩, ⟨Op.assign (Operand.const (Value.int IntKind.i64 0)), some 5, none⟩, ⟨Op.assign (Operand.const (Value.int IntKind.i64 0)), some 6, none⟩] fun K hK => ?_
          try simp
          repeat' first | ((refine evL_c ?_); simp [hop, hn, hnt, encPr, hr1, hk2, hl2, hwr, hrow, hlt]) | (with_reducible refine And.intro ?_ ?_) | intro _ | (with_reducible assumption) | omega
          all_goals (refine Fin.go hK ?_; clear hK K)
          simp only [Then_normal]
          refine Run.ret ?_
          try simp only [Then_ret, Blok_ret]
          simp


theorem plan_ok (c : CoreT) (r : ProgR) (hw : wP r.pipes ≤ 1100000) (ht : r.tabs.length ≤ 1100000) (hc : c.wher.length ≤ 1100000) : Snd P 27 [.d (.ag (encPr r)), .d (.ag (encC c))] (.tup [.d (.ag (encP (planS c r).1)), .int (planS c r).2.1, .int (planS c r).2.2]) [] := by
  unfold planS
  split
  · rename_i h; exact planN_ok c r hc h
  · rename_i h
    split
    · rename_i h2; exact planL_ok c r hc ht h h2
    · rename_i h2
      have hp := trans_pat h
      have hl : r.pipes.length = r.tabs.length + 1 := by omega
      have hk := pipesS_asked c r.tabs r.pipes [] []
      have ha := fun h => pipesS_all (c := c) (tabs := r.tabs) (r := r.pipes) (R1 := (pipesS c r.tabs [] [] r.pipes).1) (R2 := (pipesS c r.tabs [] [] r.pipes).2.1) (R3 := (pipesS c r.tabs [] [] r.pipes).2.2) h
      rcases hR : pipesS c r.tabs [] [] r.pipes with ⟨R1, R2, R3⟩
      rw [hR] at hk
      have hall := pipesS_all hR
      simp only [List.length_nil, Nat.zero_add] at hk ⊢
      have hL := look_ok c hp r.tabs r.pipes hl hw R1 R2 R3 hR
      split
      · rename_i h3; exact planB_ok c r hc ht h hl R1 R2 R3 (by omega) hL h3
      · rename_i h3; exact planA_ok c r hc ht h hl R1 R2 R3 (by omega) hL (by simpa using h3) (by rw [show R3 = true by simp at h3; exact h3.1] at hall; simpa using hall)
end Go.Proofs.Ytimgbdkgjfbhkaa.Z
end
section
set_option maxRecDepth 100000
namespace Go.Proofs.Ytimgbdkgjfbhkaa.Z
open Go Go.Fw
mutual
def termsR : TermT → Int → Int
  | .mk _ k _ _ _, most => goT k most 1
def goT : List TermT → Int → Int → Int
  | [], _, n => n
  | t :: r, most, n => if n ≤ most then goT r most (n + termsR t (most - n)) else n
end
theorem termsR_eq (t : TermT) (most : Int) : termsR t most = goT t.kids most 1 := by cases t; rw [termsR]; rfl
mutual
theorem termsR_rng : ∀ (t : TermT) (most : Int), 0 ≤ most → 1 ≤ termsR t most ∧ termsR t most ≤ most + 1
  | .mk o k s p v, most, h => by
    rw [termsR]
    have := goT_rng k most 1
    omega
theorem goT_rng : ∀ (l : List TermT) (most n : Int), n ≤ goT l most n ∧ (goT l most n ≤ most + 1 ∨ goT l most n = n)
  | [], most, n => by rw [goT]; omega
  | t :: r, most, n => by
    rw [goT]
    split
    · have h1 := termsR_rng t (most - n) (by omega)
      have h2 := goT_rng r most (n + termsR t (most - n))
      omega
    · omega
end
theorem goT_end {l : List TermT} {most n : Int} {i : Nat} (h : l.length ≤ i ∨ most < n) : goT (l.drop i) most n = n := by
  rcases h with h | h
  · rw [List.drop_of_length_le h, goT]
  · cases l.drop i with
    | nil => rw [goT]
    | cons t r => rw [goT, if_neg (by omega)]
theorem goT_step {l : List TermT} {most n : Int} {i : Nat} (hi : i < l.length) (h : n ≤ most) : goT (l.drop i) most n = goT (l.drop (i + 1)) most (n + termsR (rdI l i) (most - n)) := by
  rw [drop_rd hi, goT, if_pos h]
mutual
def partsR : PlanT → Int → Int
  | .mk _ k _ e _ t, most => goP k most (goT t most (1 + t.length + e.length))
def goP : List PlanT → Int → Int → Int
  | [], _, n => n
  | t :: r, most, n => if n ≤ most then goP r most (n + partsR t (most - n)) else n
end
theorem partsR_eq (p : PlanT) (most : Int) : partsR p most = goP p.kids most (goT p.terms most (1 + p.terms.length + p.edges.length)) := by cases p; rw [partsR]; rfl
mutual
theorem partsR_rng : ∀ (p : PlanT) (most : Int), 0 ≤ most → partsP p ≤ 2200000 → 1 ≤ partsR p most ∧ partsR p most ≤ most + 2200001
  | .mk o k s e b t, most, h, hf => by
    rw [partsR]
    rw [partsP] at hf
    have h1 := goT_rng t most (1 + t.length + e.length)
    have h2 := goP_rng k most (goT t most (1 + t.length + e.length)) (by omega)
    omega
theorem goP_rng : ∀ (l : List PlanT) (most n : Int), partsL l ≤ 2200000 → n ≤ goP l most n ∧ (goP l most n ≤ most + 2200001 ∨ goP l most n = n)
  | [], most, n, _ => by rw [goP]; omega
  | t :: r, most, n, hf => by
    rw [partsL] at hf
    rw [goP]
    split
    · have h1 := partsR_rng t (most - n) (by omega) (by omega)
      have h2 := goP_rng r most (n + partsR t (most - n)) (by omega)
      omega
    · omega
end
theorem goP_end {l : List PlanT} {most n : Int} {i : Nat} (h : l.length ≤ i ∨ most < n) : goP (l.drop i) most n = n := by
  rcases h with h | h
  · rw [List.drop_of_length_le h, goP]
  · cases l.drop i with
    | nil => rw [goP]
    | cons t r => rw [goP, if_neg (by omega)]
theorem goP_step {l : List PlanT} {most n : Int} {i : Nat} (hi : i < l.length) (h : n ≤ most) : goP (l.drop i) most n = goP (l.drop (i + 1)) most (n + partsR (rdI l i) (most - n)) := by
  rw [drop_rd hi, goP, if_pos h]
theorem goP_le {l : List PlanT} {most n : Int} : n ≤ goP l most n ∨ 2200000 < partsL l := by
  by_cases h : partsL l ≤ 2200000
  · exact .inl (goP_rng l most n h).1
  · exact .inr (by omega)
set_option maxHeartbeats 4000000 in
theorem terms1_ok (t : TermT) (most : Int) (h0 : 0 ≤ most) (h1 : most ≤ 1100000) (IH : ∀ i : Nat, i < t.kids.length → ∀ m : Int, 0 ≤ m → m ≤ 1100000 → Snd P 32 [.d (.ag (encT (rdI t.kids i))), .int m] (.int (termsR (rdI t.kids i) m)) []) : Snd P 32 [.d (.ag (encT t)), .int most] (.int (termsR t most)) [] := by
  refine Snd.ok 0 rfl (by kernel_rfl) fun hok => ?_
  have hkm := encT_ok hok
  clear hok
  obtain ⟨m, hm⟩ : ∃ m, t.kids.length = m := ⟨_, rfl⟩
  rw [hm] at hkm
  refine snd_of [] Try.func32 rfl (by kernel_rfl) Try.ntmps32 (by simp) ?_
  unfold Try.f32
  simp only [List.cons_append, List.nil_append, List.length_cons, List.length_nil, Nat.reduceAdd, Nat.reduceSub, List.replicate]
  refine Run.seq ?_
  refine opsF [⟨Op.box 89 (Operand.tmp 0), some 2, none⟩, ⟨Op.assign (Operand.const (Value.int IntKind.i64 0)), some 4, none⟩] fun K hK => ?_
  try simp
  repeat' first | ((refine evL_c ?_); simp [hm]) | (with_reducible refine And.intro ?_ ?_) | intro _ | (with_reducible assumption) | omega
  all_goals (refine Fin.go hK ?_; clear hK K)
  simp only [Then_normal]
  refine Run.seq ?_
  refine opsF [⟨Op.assign (Operand.const (Value.int IntKind.i64 1)), some 5, none⟩] fun K hK => ?_
  try simp
  repeat' first | ((refine evL_c ?_); simp [hm]) | (with_reducible refine And.intro ?_ ?_) | intro _ | (with_reducible assumption) | omega
  all_goals (refine Fin.go hK ?_; clear hK K)
  simp only [Then_normal]
  refine Run.seq ?_
  refine Run.seq ?_
  refine opsF oo75 fun K hK => ?_
  try simp
  repeat' first | ((refine evL_c ?_); simp [hm]) | (with_reducible refine And.intro ?_ ?_) | intro _ | (with_reducible assumption) | omega
  all_goals (refine Fin.go hK ?_; clear hK K)
  simp only [Then_normal]
  refine Run.block ?_
  refine Run.loopO [5, 6, 7, 8, 9, 10, 11, 12, 13, 14, 15, 16, 17, 18, 19, 20, 21, 22, 23, 24, 25, 26, 27, 28, 29] (fun (x : Nat × Int) => [(6, .int x.1), (5, .int x.2)]) (fun (x : Nat × Int) => [(300, .vals ((encT t).map .d))]) (fun (x : Nat × Int) => x.1 ≤ m ∧ 1 ≤ x.2 ∧ x.2 ≤ 4400000 ∧ goT (t.kids.drop x.1) most x.2 = termsR t most) (fun (x : Nat × Int) => m - x.1) (0, 1) ⟨by omega, by omega, by omega, by rw [termsR_eq]; rfl⟩ (by simp) fun ⟨i, n⟩ ⟨hi, hn1, hn2, hg⟩ => ?_
  simp only at hi hn1 hn2 hg
  simp only [over, List.foldl, List.set]
  refine Run.seq ?_
  refine Run.cut [7, 8, 9, 10, 11, 12, 13, 14, 15, 16] [(16, .bool (decide (i < m ∧ n ≤ most)))] [(300, .vals ((encT t).map .d))] ?_ ?_
  · refine opsF [⟨Op.move (Operand.tmp 6), some 7, none⟩, ⟨Op.fieldAddr 89 (Operand.tmp 2) 1, some 8, none⟩, ⟨Op.load 28 (Operand.tmp 8), some 9, none⟩, ⟨Op.call { callee := Callee.builtin Builtin.len, args := #[Operand.tmp 9], argTypes := #[28] }, some 10, none⟩, ⟨Op.binOp BinOp.lss 3 (Operand.tmp 7) (Operand.tmp 10) 3, some 11, none⟩, ⟨Op.move (Operand.tmp 11), some 12, none⟩, ⟨Op.move (Operand.tmp 5), some 13, some (some 12, true)⟩, ⟨Op.move (Operand.tmp 1), some 14, some (some 12, true)⟩, ⟨Op.binOp BinOp.leq 3 (Operand.tmp 13) (Operand.tmp 14) 3, some 15, some (some 12, true)⟩, ⟨Op.pick (Operand.tmp 12) (Operand.tmp 15) (Operand.const (Value.bool false)), some 16, none⟩] fun K hK => ?_
    try simp
    repeat' first | ((first | refine evL_c ?_ | (refine evL_g rfl ?_; try simp only [gs_tt, gs_ff, gs_tf, gs_ft]) | refine evL_u rfl ?_ | (with_reducible refine gsplit (fun hg => ?_) (fun hg => ?_) <;> try simp at hg)) <;> try simp [hm]) | (with_reducible refine And.intro ?_ ?_) | intro _ | (with_reducible assumption) | omega
    all_goals (refine Fin.go hK ?_; clear hK K)
    all_goals
      (try simp [*]) <;> (first | omega | (simp; done) | grind)
  · simp only [over, List.foldl, List.set]
    refine Run.cond rfl (fun h16 => ?_) (fun h16 => ?_)
    · replace h16 := of_decide_eq_true h16
      obtain ⟨hc1, hc2⟩ := h16
      obtain ⟨r, hr⟩ : ∃ r, termsR (rdI t.kids i) (most - n) = r := ⟨_, rfl⟩
      have hrr := termsR_rng (rdI t.kids i) (most - n) (by omega)
      rw [hr] at hrr
      have hw1 : IntKind.i64.wrap (most - n) = most - n := wrap_id (by omega) (by omega)
      have hw2 : IntKind.i64.wrap (n + r) = n + r := wrap_id (by omega) (by omega)
      refine Run.skip ?_
      simp only [Then_normal]
      refine Run.seq ?_
      refine Run.block ?_
      refine opsF [⟨Op.move (Operand.tmp 5), some 19, none⟩, ⟨Op.fieldAddr 89 (Operand.tmp 2) 1, some 20, none⟩, ⟨Op.load 28 (Operand.tmp 20), some 21, none⟩, ⟨Op.move (Operand.tmp 6), some 22, none⟩, ⟨Op.indexAddr 28 (Operand.tmp 21) (Operand.tmp 22), some 23, none⟩, ⟨Op.load 89 (Operand.tmp 23), some 24, none⟩, ⟨Op.move (Operand.tmp 1), some 25, none⟩, ⟨Op.move (Operand.tmp 5), some 26, none⟩, ⟨Op.binOp BinOp.sub 3 (Operand.tmp 25) (Operand.tmp 26) 3, some 27, none⟩, ⟨Op.call { callee := Callee.value (Operand.func 32), args := #[Operand.tmp 24, Operand.tmp 27], argTypes := #[89, 3] }, some 28, none⟩, ⟨Op.binOp BinOp.add 3 (Operand.tmp 19) (Operand.tmp 28) 3, some 29, none⟩, ⟨Op.assign (Operand.tmp 29), some 5, none⟩] fun K hK => ?_
      try simp
      repeat' first | (refine ecallD (by have h := IH i (by omega) (most - n) (by omega) (by omega); rw [encT_cells, hr] at h; exact h) ?_) | ((refine evL_c ?_); simp [hm, hc1, hr, hw1, hw2]) | (with_reducible refine And.intro ?_ ?_) | intro _ | (with_reducible assumption) | omega
      all_goals (refine Fin.go hK ?_; clear hK K)
      simp only [Blok_normal]
      simp only [Then_normal]
      refine opsF [⟨Op.move (Operand.tmp 6), some 17, none⟩, ⟨Op.binOp BinOp.add 3 (Operand.tmp 17) (Operand.const (Value.int IntKind.i64 1)) 3, some 18, none⟩, ⟨Op.assign (Operand.tmp 18), some 6, none⟩] fun K hK => ?_
      try simp
      repeat' first | ((refine evL_c ?_); simp [hm, hc1, hr, hw1, hw2]) | (with_reducible refine And.intro ?_ ?_) | intro _ | (with_reducible assumption) | omega
      all_goals (refine Fin.go hK ?_; clear hK K)
      refine ⟨(i + 1, n + r), ⟨by simp; omega, by simp; omega, by simp; omega, ?_⟩, by simp; omega, ?_⟩
      · rw [← hg, goT_step (by omega) hc2, hr]
      · simp (disch := omega) [hm, wrap_id]
    · replace h16 := of_decide_eq_false h16
      rw [goT_end (by omega)] at hg
      refine Run.exit ?_
      simp (decide := true) only [Then_exit, Blok_exit, if_true, if_false]
      simp only [Then_normal]
      refine Run.seq ?_
      refine opsF [⟨Op.move (Operand.tmp 5), some 30, none⟩, ⟨Op.assign (Operand.tmp 30), some 4, none⟩] fun K hK => ?_
      try simp
      repeat' first | ((refine evL_c ?_); simp [hm]) | (with_reducible refine And.intro ?_ ?_) | intro _ | (with_reducible assumption) | omega
      all_goals (refine Fin.go hK ?_; clear hK K)
      simp only [Then_normal]
      refine Run.ret ?_
      try simp only [Then_ret, Blok_ret]
      simp [hg]


theorem terms_ok (t : TermT) (most : Int) (h0 : 0 ≤ most) (h1 : most ≤ 1100000) : Snd P 32 [.d (.ag (encT t)), .int most] (.int (termsR t most)) [] :=
  terms1_ok t most h0 h1 fun i hi m hm0 hm1 =>
    have := kidT_lt (rdI_mem (l := t.kids) (i := i) (by omega) (by omega))
    terms_ok (rdI t.kids i) m hm0 hm1
termination_by SizeOf.sizeOf t

set_option maxHeartbeats 4000000 in
theorem parts1_ok (p : PlanT) (hf : partsP p ≤ 2200000) (most : Int) (h0 : 0 ≤ most) (h1 : most ≤ 1100000) (IH : ∀ i : Nat, i < p.kids.length → ∀ m : Int, 0 ≤ m → m ≤ 1100000 → Snd P 16 [.d (.ag (encP (rdI p.kids i))), .int m] (.int (partsR (rdI p.kids i) m)) []) : Snd P 16 [.d (.ag (encP p)), .int most] (.int (partsR p most)) [] := by
  refine Snd.ok 0 rfl (by kernel_rfl) fun hok => ?_
  obtain ⟨hkm, -, htm⟩ := encP_ok hok
  clear hok
  have hpr := partsR_rng p most h0 hf
  have hpe := partsR_eq p most
  have hfe := partsP_eq p
  obtain ⟨m, hm⟩ : ∃ m, p.kids.length = m := ⟨_, rfl⟩
  obtain ⟨tl, htl⟩ : ∃ m, p.terms.length = m := ⟨_, rfl⟩
  obtain ⟨el, hel⟩ : ∃ m, p.edges.length = m := ⟨_, rfl⟩
  rw [hm] at hkm
  rw [htl] at htm
  rw [htl, hel] at hpe hfe
  have hw0 : IntKind.i64.wrap (1 + (tl : Int)) = 1 + tl := wrap_id (by omega) (by omega)
  have hw9 : IntKind.i64.wrap (1 + (tl : Int) + el) = 1 + tl + el := wrap_id (by omega) (by omega)
  obtain ⟨g1, hg1⟩ : ∃ g, goT p.terms most (1 + (tl : Int) + el) = g := ⟨_, rfl⟩
  have hgr := goT_rng p.terms most (1 + (tl : Int) + el)
  rw [hg1] at hgr hpe
  refine snd_of [] Try.func16 rfl (by kernel_rfl) Try.ntmps16 (by simp) ?_
  unfold Try.f16
  simp only [List.cons_append, List.nil_append, List.length_cons, List.length_nil, Nat.reduceAdd, Nat.reduceSub, List.replicate]
  refine Run.seq ?_
  refine opsF [⟨Op.box 48 (Operand.tmp 0), some 2, none⟩, ⟨Op.assign (Operand.const (Value.int IntKind.i64 0)), some 4, none⟩] fun K hK => ?_
  try simp
  repeat' first | ((refine evL_c ?_); simp [hm, htl, hel, hw0, hw9]) | (with_reducible refine And.intro ?_ ?_) | intro _ | (with_reducible assumption) | omega
  all_goals (refine Fin.go hK ?_; clear hK K)
  simp only [Then_normal]
  refine Run.seq ?_
  refine opsF [⟨Op.fieldAddr 48 (Operand.tmp 2) 5, some 8, none⟩, ⟨Op.load 28 (Operand.tmp 8), some 9, none⟩, ⟨Op.call { callee := Callee.builtin Builtin.len, args := #[Operand.tmp 9], argTypes := #[28] }, some 10, none⟩, ⟨Op.binOp BinOp.add 3 (Operand.const (Value.int IntKind.i64 1)) (Operand.tmp 10) 3, some 11, none⟩, ⟨Op.fieldAddr 48 (Operand.tmp 2) 3, some 12, none⟩, ⟨Op.load 46 (Operand.tmp 12), some 13, none⟩, ⟨Op.call { callee := Callee.builtin Builtin.len, args := #[Operand.tmp 13], argTypes := #[46] }, some 14, none⟩, ⟨Op.binOp BinOp.add 3 (Operand.tmp 11) (Operand.tmp 14) 3, some 15, none⟩, ⟨Op.assign (Operand.tmp 15), some 5, none⟩] fun K hK => ?_
  try simp
  repeat' first | ((refine evL_c ?_); simp [hm, htl, hel, hw0, hw9]) | (with_reducible refine And.intro ?_ ?_) | intro _ | (with_reducible assumption) | omega
  all_goals (refine Fin.go hK ?_; clear hK K)
  simp only [Then_normal]
  refine Run.seq ?_
  refine Run.seq ?_
  refine opsF oo75 fun K hK => ?_
  try simp
  repeat' first | ((refine evL_c ?_); simp [hm, htl, hel, hw0, hw9]) | (with_reducible refine And.intro ?_ ?_) | intro _ | (with_reducible assumption) | omega
  all_goals (refine Fin.go hK ?_; clear hK K)
  simp only [Then_normal]
  refine Run.block ?_
  refine Run.loopO [5, 6, 16, 17, 18, 19, 20, 21, 22, 23, 24, 25, 26, 27, 28, 29, 30, 31, 32, 33, 34, 35, 36, 37, 38] (fun (x : Nat × Int) => [(6, .int x.1), (5, .int x.2)]) (fun (x : Nat × Int) => [(300, .vals ((encP p).map .d))]) (fun (x : Nat × Int) => x.1 ≤ tl ∧ 1 ≤ x.2 ∧ x.2 ≤ 4400000 ∧ goT (p.terms.drop x.1) most x.2 = g1) (fun (x : Nat × Int) => tl - x.1) (0, 1 + (tl : Int) + el) ⟨by omega, by simp; omega, by simp; omega, by simpa using hg1⟩ (by simp) fun ⟨i, n⟩ ⟨hi, hn1, hn2, hg⟩ => ?_
  simp only at hi hn1 hn2 hg
  simp only [over, List.foldl, List.set]
  refine Run.seq ?_
  refine Run.cut [16, 17, 18, 19, 20, 21, 22, 23, 24, 25] [(25, .bool (decide (i < tl ∧ n ≤ most)))] [(300, .vals ((encP p).map .d))] ?_ ?_
  · refine opsF [⟨Op.move (Operand.tmp 6), some 16, none⟩, ⟨Op.fieldAddr 48 (Operand.tmp 2) 5, some 17, none⟩, ⟨Op.load 28 (Operand.tmp 17), some 18, none⟩, ⟨Op.call { callee := Callee.builtin Builtin.len, args := #[Operand.tmp 18], argTypes := #[28] }, some 19, none⟩, ⟨Op.binOp BinOp.lss 3 (Operand.tmp 16) (Operand.tmp 19) 3, some 20, none⟩, ⟨Op.move (Operand.tmp 20), some 21, none⟩, ⟨Op.move (Operand.tmp 5), some 22, some (some 21, true)⟩, ⟨Op.move (Operand.tmp 1), some 23, some (some 21, true)⟩, ⟨Op.binOp BinOp.leq 3 (Operand.tmp 22) (Operand.tmp 23) 3, some 24, some (some 21, true)⟩, ⟨Op.pick (Operand.tmp 21) (Operand.tmp 24) (Operand.const (Value.bool false)), some 25, none⟩] fun K hK => ?_
    try simp
    repeat' first | ((first | refine evL_c ?_ | (refine evL_g rfl ?_; try simp only [gs_tt, gs_ff, gs_tf, gs_ft]) | refine evL_u rfl ?_ | (with_reducible refine gsplit (fun hg => ?_) (fun hg => ?_) <;> try simp at hg)) <;> try simp [hm, htl, hel, hw0, hw9]) | (with_reducible refine And.intro ?_ ?_) | intro _ | (with_reducible assumption) | omega
    all_goals (refine Fin.go hK ?_; clear hK K)
    all_goals
      (try simp [*]) <;> (first | omega | (simp; done) | grind)
  · simp only [over, List.foldl, List.set]
    refine Run.cond rfl (fun h25 => ?_) (fun h25 => ?_)
    · replace h25 := of_decide_eq_true h25
      obtain ⟨hc1, hc2⟩ := h25
      obtain ⟨r, hr⟩ : ∃ r, termsR (rdI p.terms i) (most - n) = r := ⟨_, rfl⟩
      have hrr := termsR_rng (rdI p.terms i) (most - n) (by omega)
      rw [hr] at hrr
      have hT := terms_ok (rdI p.terms i) (most - n) (by omega) (by omega)
      rw [encT_cells, hr] at hT
      have hw1 : IntKind.i64.wrap (most - n) = most - n := wrap_id (by omega) (by omega)
      have hw2 : IntKind.i64.wrap (n + r) = n + r := wrap_id (by omega) (by omega)
      refine Run.skip ?_
      simp only [Then_normal]
      refine Run.seq ?_
      refine Run.block ?_
      refine opsF [⟨Op.move (Operand.tmp 5), some 28, none⟩, ⟨Op.fieldAddr 48 (Operand.tmp 2) 5, some 29, none⟩, ⟨Op.load 28 (Operand.tmp 29), some 30, none⟩, ⟨Op.move (Operand.tmp 6), some 31, none⟩, ⟨Op.indexAddr 28 (Operand.tmp 30) (Operand.tmp 31), some 32, none⟩, ⟨Op.load 89 (Operand.tmp 32), some 33, none⟩, ⟨Op.move (Operand.tmp 1), some 34, none⟩, ⟨Op.move (Operand.tmp 5), some 35, none⟩, ⟨Op.binOp BinOp.sub 3 (Operand.tmp 34) (Operand.tmp 35) 3, some 36, none⟩, ⟨Op.call { callee := Callee.value (Operand.func 32), args := #[Operand.tmp 33, Operand.tmp 36], argTypes := #[89, 3] }, some 37, none⟩, ⟨Op.binOp BinOp.add 3 (Operand.tmp 28) (Operand.tmp 37) 3, some 38, none⟩, ⟨Op.assign (Operand.tmp 38), some 5, none⟩] fun K hK => ?_
      try simp
      repeat' first | (refine ecallD (by exact hT) ?_) | ((refine evL_c ?_); simp [hm, htl, hel, hw0, hw9, hc1, hr, hw1, hw2]) | (with_reducible refine And.intro ?_ ?_) | intro _ | (with_reducible assumption) | omega
      all_goals (refine Fin.go hK ?_; clear hK K)
      simp only [Blok_normal]
      simp only [Then_normal]
      refine opsF [⟨Op.move (Operand.tmp 6), some 26, none⟩, ⟨Op.binOp BinOp.add 3 (Operand.tmp 26) (Operand.const (Value.int IntKind.i64 1)) 3, some 27, none⟩, ⟨Op.assign (Operand.tmp 27), some 6, none⟩] fun K hK => ?_
      try simp
      repeat' first | ((refine evL_c ?_); simp [hm, htl, hel, hw0, hw9, hc1, hr, hw1, hw2]) | (with_reducible refine And.intro ?_ ?_) | intro _ | (with_reducible assumption) | omega
      all_goals (refine Fin.go hK ?_; clear hK K)
      refine ⟨(i + 1, n + r), ⟨by simp; omega, by simp; omega, by simp; omega, ?_⟩, by simp; omega, ?_⟩
      · rw [← hg, goT_step (by omega) hc2, hr]
      · simp (disch := omega) [hm, htl, hel, wrap_id]
    · replace h25 := of_decide_eq_false h25
      rw [goT_end (by omega)] at hg
      rw [← hg] at hpe hgr
      clear hg1 hg h25 hi
      refine Run.exit ?_
      simp (decide := true) only [Then_exit, Blok_exit, if_true, if_false]
      simp only [Then_normal]
      refine Run.seq ?_
      refine Run.seq ?_
      refine opsF oo76 fun K hK => ?_
      try simp
      repeat' first | ((refine evL_c ?_); simp [hm, htl, hel, hw0, hw9]) | (with_reducible refine And.intro ?_ ?_) | intro _ | (with_reducible assumption) | omega
      all_goals (refine Fin.go hK ?_; clear hK K)
      simp only [Then_normal]
      refine Run.block ?_
      refine Run.loopO [5, 7, 39, 40, 41, 42, 43, 44, 45, 46, 47, 48, 49, 50, 51, 52, 53, 54, 55, 56, 57, 58, 59, 60, 61] (fun (x : Nat × Int) => [(7, .int x.1), (5, .int x.2)]) (fun (x : Nat × Int) => [(300, .vals ((encP p).map .d))]) (fun (x : Nat × Int) => x.1 ≤ m ∧ 1 ≤ x.2 ∧ x.2 ≤ 4400000 ∧ goP (p.kids.drop x.1) most x.2 = partsR p most) (fun (x : Nat × Int) => m - x.1) (0, n) ⟨by omega, by simp; omega, by simp; omega, by simpa using hpe.symm⟩ (by simp) fun ⟨j, q⟩ ⟨hi, hn1, hn2, hg⟩ => ?_
      simp only at hi hn1 hn2 hg
      simp only [over, List.foldl, List.set]
      refine Run.seq ?_
      refine Run.cut [39, 40, 41, 42, 43, 44, 45, 46, 47, 48] [(48, .bool (decide (j < m ∧ q ≤ most)))] [(300, .vals ((encP p).map .d))] ?_ ?_
      · refine opsF [⟨Op.move (Operand.tmp 7), some 39, none⟩, ⟨Op.fieldAddr 48 (Operand.tmp 2) 1, some 40, none⟩, ⟨Op.load 45 (Operand.tmp 40), some 41, none⟩, ⟨Op.call { callee := Callee.builtin Builtin.len, args := #[Operand.tmp 41], argTypes := #[45] }, some 42, none⟩, ⟨Op.binOp BinOp.lss 3 (Operand.tmp 39) (Operand.tmp 42) 3, some 43, none⟩, ⟨Op.move (Operand.tmp 43), some 44, none⟩, ⟨Op.move (Operand.tmp 5), some 45, some (some 44, true)⟩, ⟨Op.move (Operand.tmp 1), some 46, some (some 44, true)⟩, ⟨Op.binOp BinOp.leq 3 (Operand.tmp 45) (Operand.tmp 46) 3, some 47, some (some 44, true)⟩, ⟨Op.pick (Operand.tmp 44) (Operand.tmp 47) (Operand.const (Value.bool false)), some 48, none⟩] fun K hK => ?_
        try simp
        repeat' first | ((first | refine evL_c ?_ | (refine evL_g rfl ?_; try simp only [gs_tt, gs_ff, gs_tf, gs_ft]) | refine evL_u rfl ?_ | (with_reducible refine gsplit (fun hg => ?_) (fun hg => ?_) <;> try simp at hg)) <;> try simp [hm, htl, hel, hw0, hw9]) | (with_reducible refine And.intro ?_ ?_) | intro _ | (with_reducible assumption) | omega
        all_goals (refine Fin.go hK ?_; clear hK K)
        all_goals
          (try simp [*]) <;> (first | omega | (simp; done) | grind)
      · simp only [over, List.foldl, List.set]
        refine Run.cond rfl (fun h48 => ?_) (fun h48 => ?_)
        · replace h48 := of_decide_eq_true h48
          obtain ⟨hc1, hc2⟩ := h48
          obtain ⟨r, hr⟩ : ∃ r, partsR (rdI p.kids j) (most - q) = r := ⟨_, rfl⟩
          have hrr := partsR_rng (rdI p.kids j) (most - q) (by omega) (kid_fine hf (by omega))
          rw [hr] at hrr
          have hT := IH j (by omega) (most - q) (by omega) (by omega)
          rw [encP_cells, hr] at hT
          have hw1 : IntKind.i64.wrap (most - q) = most - q := wrap_id (by omega) (by omega)
          have hw2 : IntKind.i64.wrap (q + r) = q + r := wrap_id (by omega) (by omega)
          refine Run.skip ?_
          simp only [Then_normal]
          refine Run.seq ?_
          refine Run.block ?_
          refine opsF [⟨Op.move (Operand.tmp 5), some 51, none⟩, ⟨Op.fieldAddr 48 (Operand.tmp 2) 1, some 52, none⟩, ⟨Op.load 45 (Operand.tmp 52), some 53, none⟩, ⟨Op.move (Operand.tmp 7), some 54, none⟩, ⟨Op.indexAddr 45 (Operand.tmp 53) (Operand.tmp 54), some 55, none⟩, ⟨Op.load 48 (Operand.tmp 55), some 56, none⟩, ⟨Op.move (Operand.tmp 1), some 57, none⟩, ⟨Op.move (Operand.tmp 5), some 58, none⟩, ⟨Op.binOp BinOp.sub 3 (Operand.tmp 57) (Operand.tmp 58) 3, some 59, none⟩, ⟨Op.call { callee := Callee.value (Operand.func 16), args := #[Operand.tmp 56, Operand.tmp 59], argTypes := #[48, 3] }, some 60, none⟩, ⟨Op.binOp BinOp.add 3 (Operand.tmp 51) (Operand.tmp 60) 3, some 61, none⟩, ⟨Op.assign (Operand.tmp 61), some 5, none⟩] fun K hK => ?_
          try simp
          repeat' first | (refine ecallD (by exact hT) ?_) | ((refine evL_c ?_); simp [hm, htl, hel, hw0, hw9, hc1, hr, hw1, hw2]) | (with_reducible refine And.intro ?_ ?_) | intro _ | (with_reducible assumption) | omega
          all_goals (refine Fin.go hK ?_; clear hK K)
          simp only [Blok_normal]
          simp only [Then_normal]
          refine opsF [⟨Op.move (Operand.tmp 7), some 49, none⟩, ⟨Op.binOp BinOp.add 3 (Operand.tmp 49) (Operand.const (Value.int IntKind.i64 1)) 3, some 50, none⟩, ⟨Op.assign (Operand.tmp 50), some 7, none⟩] fun K hK => ?_
          try simp
          repeat' first | ((refine evL_c ?_); simp [hm, htl, hel, hw0, hw9, hc1, hr, hw1, hw2]) | (with_reducible refine And.intro ?_ ?_) | intro _ | (with_reducible assumption) | omega
          all_goals (refine Fin.go hK ?_; clear hK K)
          refine ⟨(j + 1, q + r), ⟨by simp; omega, by simp; omega, by simp; omega, ?_⟩, by simp; omega, ?_⟩
          · rw [← hg, goP_step (by omega) hc2, hr]
          · simp (disch := omega) [hm, htl, hel, wrap_id]
        · replace h48 := of_decide_eq_false h48
          rw [goP_end (by omega)] at hg
          refine Run.exit ?_
          simp (decide := true) only [Then_exit, Blok_exit, if_true, if_false]
          simp only [Then_normal]
          refine Run.seq ?_
          refine opsF [⟨Op.move (Operand.tmp 5), some 62, none⟩, ⟨Op.assign (Operand.tmp 62), some 4, none⟩] fun K hK => ?_
          try simp
          repeat' first | ((refine evL_c ?_); simp [hm, htl, hel, hw0, hw9]) | (with_reducible refine And.intro ?_ ?_) | intro _ | (with_reducible assumption) | omega
          all_goals (refine Fin.go hK ?_; clear hK K)
          simp only [Then_normal]
          refine Run.ret ?_
          try simp only [Then_ret, Blok_ret]
          simp [hg]


theorem parts_ok (p : PlanT) (hf : partsP p ≤ 2200000) (most : Int) (h0 : 0 ≤ most) (h1 : most ≤ 1100000) : Snd P 16 [.d (.ag (encP p)), .int most] (.int (partsR p most)) [] :=
  parts1_ok p hf most h0 h1 fun i hi m hm0 hm1 =>
    have := kids_lt (kid_mem (p := p) hi)
    parts_ok (rdI p.kids i) (kid_fine hf hi) m hm0 hm1
termination_by SizeOf.sizeOf p
end Go.Proofs.Ytimgbdkgjfbhkaa.Z
end
section
set_option maxRecDepth 100000
namespace Go.Proofs.Ytimgbdkgjfbhkaa.Z
open Go Go.Fw
/-! data that is read as other data -/
def DSub (x y : D) : Prop := ∀ (w : World) (L : Nat → Prop) (v : Value), DRel w L x v → DRel w L y v
def SubL : List D → List D → Prop
  | [], [] => True
  | x :: l, y :: r => DSub x y ∧ SubL l r
  | _, _ => False
theorem DSub.refl (x : D) : DSub x x := fun _ _ _ h => h
theorem DSub.nil : DSub (.lit (.slice none 0 0)) (.sl false []) := fun w L v h => by
  cases h with
  | lit _ h => exact .slE false none 0 (by simp)
theorem SubL.len {l r : List D} (h : SubL l r) : l.length = r.length := by
  induction l generalizing r with
  | nil => cases r <;> simp_all [SubL]
  | cons x l ih => cases r <;> simp_all [SubL]
                   exact ih h.2
theorem SubL.at_ {l r : List D} (h : SubL l r) {j : Nat} {x y : D} (hx : l[j]? = some x) (hy : r[j]? = some y) : DSub x y := by
  induction l generalizing r j with
  | nil => cases hx
  | cons a l ih =>
    cases r with
    | nil => cases hy
    | cons b r =>
      cases j with
      | zero => simp at hx hy; subst hx hy; exact h.1
      | succ j => simp at hx hy; exact ih h.2 hx hy
theorem DSub.ag {l r : List D} (h : SubL l r) : DSub (.ag l) (.ag r) := fun w L v hv => by
  cases hv with
  | ag _ vs hl ho hr => 
    refine .ag r vs (hl.trans h.len) ho fun j x v hx hv => ?_
    have hj : j < l.length := by rw [h.len]; exact (List.getElem?_eq_some_iff.1 hx).1
    exact h.at_ (List.getElem?_eq_getElem hj) hx _ _ _ (hr j _ v (List.getElem?_eq_getElem hj) hv)
def SubV : List V → List V → Prop
  | [], [] => True
  | .d x :: l, .d y :: r => DSub x y ∧ SubV l r
  | _, _ => False
theorem SubV.rel {w : World} {L : Nat → Prop} {m : Nat → Option Nat} {l r : List V} {vs : List Value} (h : SubV l r) (hv : All2 (VRel w L m) l vs) : All2 (VRel w L m) r vs := by
  induction l generalizing r vs with
  | nil =>
    cases r with
    | nil => exact hv
    | cons _ _ => exact h.elim
  | cons x l ih =>
    cases r with
    | nil => cases x <;> exact h.elim
    | cons y r =>
      cases x <;> cases y <;> first | exact h.elim | skip
      obtain ⟨v, tl, rfl, h1, h2⟩ := hv.head
      cases h1 with
      | d hd => exact All2.cons (.d (h.1 _ _ _ hd)) (ih h.2 h2)
theorem snd_sub {f : FuncId} {args args0 : List V} {r : V} {τ : Store} (h : Snd P f args0 r τ) (hs : SubV args args0) : Snd P f args r τ :=
  ⟨h.1, fun w X vs hX hargs => h.2 w X vs hX (hs.rel hargs)⟩
/-! parts, within a bound -/
mutual
theorem termsR_all : ∀ (t : TermT) (most : Int), termsR t most ≤ most → (cntT t : Int) = termsR t most
  | .mk o k s p v, most, h => by
    rw [termsR] at h ⊢
    have := goT_all k most 1 h
    rw [cntT, this]; omega
theorem goT_all : ∀ (l : List TermT) (most n : Int), goT l most n ≤ most → goT l most n = n + cntL l
  | [], most, n, h => by rw [goT, cntL]; omega
  | t :: r, most, n, h => by
    rw [goT] at h ⊢
    split at h
    · rename_i hn
      rw [if_pos hn]
      have h1 := goT_all r most (n + termsR t (most - n)) h
      have h2 := termsR_all t (most - n) (by omega)
      rw [h1, cntL]; omega
    · omega
end
mutual
theorem partsR_all : ∀ (p : PlanT) (most : Int), partsP p ≤ 2200000 → partsR p most ≤ most → (partsP p : Int) = partsR p most
  | .mk o k s e b t, most, hf, h => by
    rw [partsP] at hf
    rw [partsR] at h ⊢
    have h1 := goP_all k most _ (by omega) h
    have h0 := (goP_rng k most (goT t most (1 + t.length + e.length)) (by omega)).1
    have h2 := goT_all t most (1 + t.length + e.length) (by omega)
    rw [h1, h2, partsP]; omega
theorem goP_all : ∀ (l : List PlanT) (most n : Int), partsL l ≤ 2200000 → goP l most n ≤ most → goP l most n = n + partsL l
  | [], most, n, hf, h => by rw [goP, partsL]; omega
  | t :: r, most, n, hf, h => by
    rw [partsL] at hf
    rw [goP] at h ⊢
    split at h
    · rename_i hn
      rw [if_pos hn]
      have h1 := goP_all r most (n + partsR t (most - n)) (by omega) h
      have h2 := partsR_all t (most - n) (by omega) (by omega)
      rw [h1, partsL]; omega
    · omega
end
end Go.Proofs.Ytimgbdkgjfbhkaa.Z
end
