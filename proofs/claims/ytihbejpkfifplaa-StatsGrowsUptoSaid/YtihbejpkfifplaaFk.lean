/- Writes. -/
import Derived.Test.YtihbejpkfifplaaFj
set_option linter.unusedVariables false
set_option linter.unusedSimpArgs false
namespace Go.Fw
variable {P : Program}

def setArr (cs : Array Value) (o : Nat) : List Value → Array Value
  | [] => cs
  | v :: r => setArr (cs.setIfInBounds o v) (o + 1) r
theorem setArr_size (vs : List Value) : ∀ (cs : Array Value) (o : Nat), (setArr cs o vs).size = cs.size := by
  induction vs with
  | nil => intro cs o; rfl
  | cons v r ih => intro cs o; simp [setArr, ih]
theorem setArr_at (vs : List Value) : ∀ (cs : Array Value) (o j : Nat), o + vs.length ≤ cs.size → (setArr cs o vs)[j]? = if o ≤ j ∧ j < o + vs.length then vs[j - o]? else cs[j]? := by
  induction vs with
  | nil => intro cs o j h; simp [setArr]; omega
  | cons v r ih =>
    intro cs o j h
    simp only [List.length_cons] at h
    rw [setArr, ih _ _ _ (by simp; omega)]
    by_cases h1 : o + 1 ≤ j ∧ j < o + 1 + r.length
    · rw [if_pos h1, if_pos (by simp; omega)]
      rw [show j - o = (j - (o + 1)) + 1 by omega]
      simp
    · rw [if_neg h1]
      by_cases h2 : j = o
      · subst h2
        rw [if_pos (by simp), Nat.sub_self]
        simp [show j < cs.size by omega]
      · rw [if_neg (by simp; omega)]
        simp [Array.getElem?_setIfInBounds, Ne.symm h2]
theorem setArr_append {arr : List Value} (ex : List Value) {o : Nat} {vs : List Value} (h : o + vs.length ≤ arr.length) : setArr (arr ++ ex).toArray o vs = ((setArr arr.toArray o vs).toList ++ ex).toArray := by
  apply Array.ext_getElem?
  intro j
  have e1 : (setArr arr.toArray o vs).toList.length = arr.length := by simp [setArr_size]
  have r1 : (setArr (arr ++ ex).toArray o vs)[j]? = if o ≤ j ∧ j < o + vs.length then vs[j - o]? else (arr ++ ex)[j]? := by
    rw [setArr_at _ _ _ _ (by simp; omega), List.getElem?_toArray]
  have r2 : (((setArr arr.toArray o vs).toList ++ ex).toArray)[j]? = if j < arr.length then (if o ≤ j ∧ j < o + vs.length then vs[j - o]? else arr[j]?) else ex[j - arr.length]? := by
    rw [List.getElem?_toArray, List.getElem?_append, e1]
    have e2 : (setArr arr.toArray o vs).toList[j]? = (setArr arr.toArray o vs)[j]? := by simp
    rw [e2, setArr_at _ _ _ _ (by simpa using h), List.getElem?_toArray]
  rw [r1, r2, List.getElem?_append]
  by_cases hj : o ≤ j ∧ j < o + vs.length
  · rw [if_pos hj, if_pos hj, if_pos (by omega)]
  · rw [if_neg hj, if_neg hj]
theorem setArr_rel {w : World} {L : Nat → Prop} {m : Nat → Option Nat} {cells : List V} {arr : List Value} (h : All2 (VRel w L m) cells arr) {cs : List V} {vs : List Value} (hc : All2 (VRel w L m) cs vs) : ∀ o, All2 (VRel w L m) (setAt cells o cs) (setArr arr.toArray o vs).toList := by
  induction cs generalizing cells arr vs with
  | nil =>
    intro o
    have : vs = [] := by have := hc.len; simpa using this
    subst this
    simpa [setAt, setArr] using h
  | cons c r ih =>
    intro o
    obtain ⟨y, s, rfl, h1, h2⟩ := hc.head
    have := ih (h.set o h1) h2 (o + 1)
    simpa [setAt, setArr] using this
theorem setArr_ones {vs : List Value} (hv : Ones vs) : ∀ (o : Nat) {arr : List Value}, Ones arr → Ones (setArr arr.toArray o vs).toList := by
  induction vs with
  | nil => intro o arr h; simpa [setArr] using h
  | cons v r ih =>
    intro o arr h
    have h3 : Ones (arr.set o v) := by
      intro x hx
      rcases List.mem_or_eq_of_mem_set hx with hx | rfl
      · exact h x hx
      · exact hv _ (by simp)
    have := ih (fun x hx => hv x (by simp [hx])) (o + 1) h3
    simpa [setArr] using this
theorem storeCells_run {b : Nat} {ty : TypeId} {fr : Nat × Nat} (o : Nat) : ∀ (vs : List Value) (i : Nat) (cs : Array Value) (w : World), w.heap[b]? = some (Obj.cells cs ty fr) → Free fr cs.size → o + i + vs.length ≤ cs.size → Ones vs →
    (storeCells ⟨b, o, none⟩ vs i).run P w = .ok () (w.setRow b (setArr cs (o + i) vs)) := by
  intro vs
  induction vs with
  | nil =>
    intro i cs w hb hf hl ho
    simp only [storeCells, setArr, Sem.run_pure]
    congr 1
    unfold World.setRow
    cases w with
    | mk heap tape drawn os output =>
      congr 1
      apply Array.ext
      · simp
      · intro k h1 h2
        simp only [Array.getElem_modify]
        split
        · rename_i hk; subst hk
          have hv := (Array.getElem?_eq_some_iff.1 hb).2
          simp at hv; simp [hv]
        · rfl
  | cons v r ih =>
    intro i cs w hb hf hl ho
    simp only [List.length_cons] at hl
    have hi : o + i < cs.size := by omega
    have hcell : w.cell? ⟨b, o + i, none⟩ = some cs[o + i] := by simp [World.cell?, hb, hi]
    have hfro : w.frozen? ⟨b, o + i, none⟩ = false := by
      have := hf _ hi
      simp [World.frozen?, hb]
      omega
    have hst : (store ((⟨b, o, none⟩ : Addr).add i) v).run P w = .ok () (w.setRow b (cs.setIfInBounds (o + i) v)) := by
      rw [add_none, run_store P w _ v _ (Ones.one' ho v (by simp)), hcell]
      simp [hfro, setCell_eq_setRow w b (o + i) cs ty fr v hb]
    have := ih (i + 1) (cs.setIfInBounds (o + i) v) (w.setRow b (cs.setIfInBounds (o + i) v)) (setRow_heap w b cs _ ty fr hb) (by simpa using hf) (by simp; omega) (fun x hx => ho x (by simp [hx]))
    simp only [storeCells, Sem.run_bind, hst, Result.andThen_ok, this, setRow_setRow, setArr, Nat.add_assoc]

section
variable {w0 : World} {L0 : Par} {X : Nat → Prop} {m : Nat → Option Nat} {e : Env} {s : Store} {a : Act} {w : World}
theorem men_false : ∀ x : V, x.men (fun _ => false) = false := fun x => by
  induction x using V.rec (motive_2 := fun l => V.menL (fun _ => false) l = false) <;> simp_all [V.men, V.menL]
theorem menL_false (l : List V) : V.menL (fun _ => false) l = false := menL_of fun _ x _ => men_false x
theorem row_kept {b : Nat} {cs cs' : Array Value} {ty : TypeId} {fr : Nat × Nat} (L : Nat → Prop) (hL : L b) : CellsKept L w (w.setRow b cs') := fun x v hx h => by
  rw [cell_setRow_other _ _ _ _ (fun e => hx (by rw [e]; exact hL))]; exact h
theorem row_sizes {b : Nat} {cs cs' : Array Value} {ty : TypeId} {fr : Nat × Nat} (hb : w.heap[b]? = some (Obj.cells cs ty fr)) (hs : cs'.size = cs.size) : SizesKept w (w.setRow b cs') := fun k ds ty' fr' h => by
  by_cases hk : k = b
  · subst hk
    rw [hb] at h; cases h
    exact ⟨cs', setRow_heap w k _ _ _ _ hb, hs⟩
  · exact ⟨ds, by rw [setRow_other _ _ _ _ hk]; exact h, rfl⟩
/-- A BLOCK IS CHANGED. -/
theorem Rel.wroteG (h : Rel w0 L0 X m e s a w) {w' : World} {id b : Nat} {old blk : Blk} (hid : getB s id = some old) (hm : m id = some b) (hk : CellsKept (Live X m s) w w') (hz : SizesKept w w') (hsame : ∀ k, k ≠ b → w'.heap[k]? = w.heap[k]?) (hsize : w.heap.size ≤ w'.heap.size)
    (hos : w'.os = w.os) (htape : w'.tape = w.tape) (hout : w'.output = w.output) (hr : BRel w' (Live X m s) m b blk) : Rel w0 L0 X m e (putB s id blk) a w' := by
  have hown : Own m s b := ⟨id, old, hid, hm⟩
  have hlive : Live X m s b := .inr hown
  have hOv : ∀ b, Own m (putB s id blk) b → Own m s b := by
    rintro b' ⟨i, c, h1, h2⟩
    rw [getB_putB] at h1
    by_cases hi : i = id
    · subst hi; exact ⟨i, old, hid, h2⟩
    · rw [if_neg hi] at h1; exact ⟨i, c, h1, h2⟩
  have hLv : ∀ b, Live X m (putB s id blk) b → Live X m s b := fun b hl => hl.imp_right (hOv b)
  have hL : ∀ b', Live X m (putB s id blk) b' → Live X m s b' ∨ w.heap.size ≤ b' := fun b' hl => .inl (hLv b' hl)
  refine ⟨⟨h.env.len, fun j x v q1 q2 => VRel.mono (p := fun _ => false) hk hz hL (fun _ _ => rfl) (men_false x) (h.env.at_ j x v q1 q2)⟩, ⟨fun i blk' hi => ?_, fun i j b' q1 q2 q3 q4 => ?_⟩, h.dfr, ?_, fun b' hl => h.liv b' (hOv b' hl), h.old, fun i hi hs => h.par i hi (by
    rw [getB_putB] at hs
    by_cases e1 : i = id
    · rw [e1, hid]; rfl
    · rw [if_neg e1] at hs; exact hs)⟩
  · rw [getB_putB] at hi
    by_cases e1 : i = id
    · rw [if_pos e1] at hi; cases hi
      subst e1
      refine .inl ⟨b, hm, ?_⟩
      exact BRel.mono (w := w') (w' := w') (L := Live X m s) (p := fun _ => false) (fun _ _ _ q => q) (fun _ _ _ _ q => ⟨_, q, rfl⟩) (fun b' hl => .inl (hLv b' hl)) (fun _ _ => rfl) rfl (by cases blk <;> first | exact menL_false _ | trivial) hr
    · rw [if_neg e1] at hi
      rcases h.sto.blk i blk' hi with ⟨b', r1, r2⟩ | ⟨r1, r2⟩
      · refine .inl ⟨b', r1, BRel.mono (p := fun _ => false) hk hz hL (fun _ _ => rfl) ?_ (by cases blk' <;> first | exact menL_false _ | trivial) r2⟩
        refine hsame _ fun e2 => e1 ?_
        subst e2
        exact h.sto.inj i id b' r1 hm (by rw [hi]; rfl) (by rw [hid]; rfl)
      · exact .inr ⟨r1, r2⟩
  · have key : ∀ i, (getB (putB s id blk) i).isSome = true → (getB s i).isSome = true := by
      intro i q
      rw [getB_putB] at q
      by_cases e1 : i = id
      · subst e1; rw [hid]; rfl
      · rw [if_neg e1] at q; exact q
    exact h.sto.inj i j b' q1 q2 (key i q3) (key j q4)
  · refine ⟨hos.trans h.ext.os, htape.trans h.ext.tape, hout.trans h.ext.output, Nat.le_trans h.ext.size hsize, fun k hk' hl => ?_, fun k cs1 ty1 fr1 hk' => ?_⟩
    · have hne : k ≠ b := by
        intro e1; subst e1
        rcases h.liv k hown with q | q
        · exact hl q
        · omega
      rw [hsame _ hne]
      exact h.ext.block k hk' hl
    · obtain ⟨c1, h1, h2⟩ := h.ext.sizes k cs1 ty1 fr1 hk'
      obtain ⟨c2, h3, h4⟩ := hz k c1 ty1 fr1 h1
      exact ⟨c2, h3, h4.trans h2⟩
/-- A BLOCK IS WRITTEN INTO. -/
theorem Rel.wrote (h : Rel w0 L0 X m e s a w) {id b : Nat} {old blk : Blk} (hid : getB s id = some old) (hm : m id = some b) {cs cs' : Array Value} {ty : TypeId} {fr : Nat × Nat} (hb : w.heap[b]? = some (Obj.cells cs ty fr)) (hs : cs'.size = cs.size)
    (hr : BRel (w.setRow b cs') (Live X m s) m b blk) : Rel w0 L0 X m e (putB s id blk) a (w.setRow b cs') := by
  exact h.wroteG hid hm (row_kept (w := w) (cs := cs) (cs' := cs') (ty := ty) (fr := fr) (Live X m s) (.inr ⟨id, old, hid, hm⟩)) (row_sizes hb hs) (fun k hk => setRow_other _ _ _ _ hk) (by simp) rfl rfl rfl hr
/-- A MAP IS CHANGED. -/
theorem Rel.wroteM (h : Rel w0 L0 X m e s a w) {id b : Nat} {ks ks' : List Value} {vs vs' : List V} (hid : getB s id = some (.mp ks vs)) (hm : m id = some b) {es es' : Array MapEntry} {cl cl' : Nat} (hb : w.heap[b]? = some (Obj.map es cl)) (hks : es'.toList.map (·.key) = ks') (hvs : All2 (VRel w (Live X m s) m) vs' (es'.toList.map (·.val))) :
    Rel w0 L0 X m e (putB s id (.mp ks' vs')) a { w with heap := w.heap.setIfInBounds b (.map es' cl') } := by
  have hlt : b < w.heap.size := (Array.getElem?_eq_some_iff.1 hb).1
  have hsame : ∀ k, k ≠ b → ({ w with heap := w.heap.setIfInBounds b (.map es' cl') } : World).heap[k]? = w.heap[k]? := fun k hk => by
    simp [Array.getElem?_setIfInBounds, Ne.symm hk]
  have hk : CellsKept (Live X m s) w { w with heap := w.heap.setIfInBounds b (.map es' cl') } := fun x v hx hc => by
    have hne : x.block ≠ b := fun e => hx (e ▸ .inr ⟨id, _, hid, hm⟩)
    have := hsame _ hne
    unfold World.cell? at hc ⊢
    rw [this]; exact hc
  have hz : SizesKept w { w with heap := w.heap.setIfInBounds b (.map es' cl') } := fun k cs ty fr hc => by
    have hne : k ≠ b := fun e => by subst e; rw [hb] at hc; cases hc
    exact ⟨cs, by rw [hsame _ hne]; exact hc, rfl⟩
  refine h.wroteG hid hm hk hz hsame (by simp) rfl rfl rfl ⟨es', cl', by simp [Array.getElem?_setIfInBounds, hlt], hks, hvs.mono fun x v hv => ?_⟩
  exact VRel.mono (p := fun _ => false) hk hz (fun b hl => .inl hl) (fun _ _ => rfl) (men_false x) hv

theorem toDs_len {cs : List V} {ds : List D} (h : toDs cs = some ds) : ds.length = cs.length := by rw [toDs_eq h]; simp
theorem setRow_list (cells : List D) (off : Nat) (vs : List D) (h : off + vs.length ≤ cells.length) (j : Nat) : (setRow cells off vs)[j]? = if off ≤ j ∧ j < off + vs.length then vs[j - off]? else cells[j]? := by
  unfold setRow
  rw [List.append_assoc, List.getElem?_append]
  have e1 : (cells.take off).length = off := by simp; omega
  rw [e1]
  split
  · rename_i h1
    rw [if_neg (by omega), List.getElem?_take, if_pos h1]
  · rename_i h1
    rw [List.getElem?_append]
    split
    · rw [if_pos (by omega)]
    · rename_i h2
      rw [if_neg (by omega), List.getElem?_drop]
      congr 1
      omega
theorem ba_eq {a b : ByteArray} (h : (a == b) = true) : a = b := by
  cases a with | mk a => cases b with | mk b =>
  have : (a == b) = true := h
  rw [eq_of_beq this]
theorem same_eq {d : TypeDesc} {a b : Value} (h : Instr.sameNow d a b = some true) : a = b := by
  unfold Instr.sameNow at h
  split at h
  · split at h
    · rename_i e; subst e; simp at h; rw [h]
    · cases h
  · simp only [Option.some.injEq] at h; rw [ba_eq h]
  · simp only [Option.some.injEq, beq_iff_eq] at h; rw [h]
  · cases h
theorem stays_run {d : TypeDesc} {a b : Value} (h : Instr.sameNow d a b = some true) {w : World} : (Instr.keyThatStays b a).run P w = .ok a w := by
  have e := same_eq h
  subst e
  have : Instr.sameBits 10000 a a = true := by
    rw [show (10000 : Nat) = 9999 + 1 from rfl]
    unfold Instr.sameNow at h
    split at h
    · simp [Instr.sameBits]
    · simpa [Instr.sameBits] using h
    · simp [Instr.sameBits]
    · cases h
  simp [Instr.keyThatStays, this]
theorem updV_run (h : Rel w0 L0 X m e s a w) {t : TypeId} {x k y : Operand} {c : Prop} {s' : Store} (hop : updV P t (look e x) (look e k) (look e y) s = some (c, s')) (dst : Option Nat) :
    ∃ w', ((do Instr.mapUpdate t (a.eval x) (a.eval k) (a.eval y); pure Next.skip : Sem Next)).run P w = .ok .skip w' ∧ Rel w0 L0 X m (put e dst vundef) s' (a.put dst undef) w' := by
  have hx := h.look x
  have hk := h.look k
  have hy := h.look y
  unfold updV at hop
  split at hop
  · rename_i kt et ht
    have hu := mapT_und ht
    split at hop
    · rename_i d kv id hd hkv hxv
      rw [hkv] at hk
      rw [hxv] at hx
      have hkl := hk.lit_inv
      rw [hkl]
      obtain ⟨hku, _⟩ := keyD_und hd
      generalize a.eval x = u at hx ⊢
      split at hop
      · rename_i ks vs hg
        cases hx with
        | mp _ b hm =>
          rcases h.sto.blk id _ hg with ⟨b', hm', es, cl, hh, rfl, hall⟩ | ⟨hn, _, hn'⟩
          · rw [hm] at hm'; cases hm'
            have hget : (getObj b).run P w = .ok (.map es cl) w := by simp [getObj, Sem.run, hh]
            have hset : ∀ o : Obj, (setObj b o).run P w = .ok () { w with heap := w.heap.setIfInBounds b o } := fun o => by simp [setObj, Sem.run, hh]
            split at hop
            · rename_i i hf
              cases hop
              rcases findNow_eq hf with ⟨h1, _⟩ | ⟨j, en, h1, h2, h3, h4⟩
              · cases h1
              · simp only [Option.some.injEq, Nat.zero_add] at h1 h4
                subst h1
                have hj : i < es.size := by have := (List.getElem?_eq_some_iff.1 h2).1; simpa using this
                have hei : es[i]? = some en := by simpa using h2
                refine ⟨_, ?_, (h.wroteM (cl' := cl) hg hm hh (es' := es.modify i fun en => { en with key := kv, val := a.eval y }) (ks' := (es.toList.map (·.key)).set i kv) (vs' := vs.set i (look e y)) ?_ ?_).put dst .int⟩
                · simp [Instr.mapUpdate, hu, und_run hu, hget, check_run hd, Instr.findKey, und_run hku, h4, hei, stays_run h3, hset]
                · apply List.ext_getElem?
                  intro q
                  simp [List.getElem?_set, Array.getElem?_modify]
                  by_cases e1 : i = q
                  · subst e1; simp [hj]
                  · simp [e1]
                · have := hall.set i hy
                  refine ⟨?_, fun q x v q1 q2 => this.at_ q x v q1 ?_⟩
                  · simpa using hall.len
                  · rw [← q2]
                    simp [List.getElem?_set, Array.getElem?_modify]
                    by_cases e1 : i = q
                    · subst e1; simp [hj]
                    · simp [e1]
            · rename_i hf
              cases hop
              rcases findNow_eq hf with ⟨_, h1⟩ | ⟨j, en, h1, _⟩
              · refine ⟨_, ?_, (h.wroteM (cl' := cl + 1) hg hm hh (es' := es.push { key := kv, val := a.eval y, born := cl }) (ks' := es.toList.map (·.key) ++ [kv]) (vs' := vs ++ [look e y]) (by simp) ?_).put dst .int⟩
                · simp [Instr.mapUpdate, und_run hu, hget, check_run hd, Instr.findKey, und_run hku, h1, hset]
                · have := hall.append (All2.cons hy All2.nil)
                  simpa using this
              · cases h1
            · cases hop
          · cases hn'
      · cases hop
    · cases hop
  · cases hop
/-- WHAT WRITES INTO A BLOCK. -/
theorem opW_run (h : Rel w0 L0 X m e s a w) {o : Oper} {c : Prop} {s' : Store} (hop : opW P o.op (look e) s = some (c, s')) (hc : c) :
    ∃ w', (execOp a.eval o).run P w = .ok .skip w' ∧ Rel w0 L0 X m (put e o.dst vundef) s' (a.put o.dst undef) w' := by
  unfold opW at hop
  unfold execOp
  split at hop <;> rename_i heq <;> simp only [heq] <;> try (cases hop; done)
  case h_2 => exact updV_run h hop o.dst
  case h_3 => exact updV_run h hop o.dst
  rename_i t x y
  have hx := h.look x
  have hy := h.look y
  generalize a.eval x = u at hx ⊢
  split at hop
  · rename_i id sz r cl vs ex ecs
    obtain ⟨vals, e1, e2, e3⟩ := cells_rel hy ecs
    split at hop
    · rename_i hlen
      obtain ⟨hlen, hpos⟩ := hlen
      rw [ex] at hx
      cases hx with
      | pt _ _ _ _ b hm =>
      have hrun : ∀ {w' : World}, (storeCells ⟨b, r * sz + cl, none⟩ vals).run P w = .ok () w' → (do Instr.storeAt t (.pointer (some ⟨b, r * sz + cl, none⟩)) (a.eval y); pure Next.skip : Sem Next).run P w = .ok .skip w' := by
        intro w' hst
        have hsz : (sizeOf t).run P w = .ok (szOf P t) w := sz_run (by omega)
        have hsize : (a.eval y).cells.size = szOf P t := by rw [e1]; simp [e3.len, hlen]
        rw [e1] at hsize
        simp only [Instr.storeAt, Instr.sureAddr, storeVar, Sem.run_bind, Sem.run_pure, Result.andThen_ok, e1, hsz]
        rw [if_neg (by simpa using hsize)]
        simp [hst]
      split at hop
      · rename_i cells hb
        split at hop
        · rename_i hle
          cases hop
          rcases h.sto.blk id _ hb with ⟨b', hm', arr, ex, ty, fr, hh, hfr, hone, hall⟩ | ⟨hn, _⟩
          · rw [hm] at hm'; cases hm'
            have hin : r * sz + cl + vals.length ≤ arr.length := by rw [hall.len, e3.len]; exact hle
            have hst := storeCells_run (P := P) (b := b) (r * sz + cl) vals 0 (arr ++ ex).toArray w hh (by simpa using hfr) (by simp; omega) e2
            simp only [Nat.add_zero, setArr_append ex hin] at hst
            refine ⟨_, hrun hst, Rel.put ?_ o.dst .int⟩
            have hs1 : (setArr arr.toArray (r * sz + cl) vals).toList.length = arr.length := by simp [setArr_size]
            have hs : ((setArr arr.toArray (r * sz + cl) vals).toList ++ ex).toArray.size = (arr ++ ex).toArray.size := by simp [setArr_size]
            refine h.wrote hb hm hh hs ⟨(setArr arr.toArray (r * sz + cl) vals).toList, ex, ty, fr, setRow_heap w b _ _ _ _ hh, ?_, setArr_ones e2 _ hone, ?_⟩
            · rw [List.length_append, hs1, ← List.length_append]; exact hfr
            · have q := setArr_rel hall e3 (r * sz + cl)
              exact q.mono fun x v hxv => VRel.mono (p := fun _ => false) (row_kept (cs := (arr ++ ex).toArray) (ty := ty) (fr := fr) _ (.inr ⟨id, _, hb, hm⟩)) (row_sizes hh hs) (fun b' hl => .inl hl) (fun _ _ => rfl) (men_false x) hxv
          · rw [hm] at hn; cases hn
        · cases hop
      · rename_i n rows hb
        split at hop
        · rename_i ds hds
          split at hop
          · rename_i hcn
            simp only [rowN] at hop
            cases hop
            obtain ⟨hr, rfl⟩ := hc
            rcases h.sto.blk id _ hb with ⟨b', hm', arr, ty, fr, hh, hfr, hsz, hlen', hall⟩ | ⟨hn, _⟩
            · rw [hm] at hm'; cases hm'
              have hdl : ds.length = vals.length := by rw [toDs_len hds, e3.len]
              have hin : r * n + cl + vals.length ≤ arr.size := by
                have : (r + 1) * n ≤ rows.length * n := Nat.mul_le_mul_right _ hr
                rw [Nat.add_mul, Nat.one_mul] at this
                omega
              have hst := storeCells_run (P := P) (b := b) (r * n + cl) vals 0 arr w hh hfr (by omega) e2
              simp only [Nat.add_zero] at hst
              refine ⟨_, hrun hst, Rel.put ?_ o.dst .int⟩
              have hs : (setArr arr (r * n + cl) vals).size = arr.size := setArr_size _ _ _
              have hrow : rows[r]? = some (rows.getD r []) := by simp [List.getD_eq_getElem?_getD, List.getElem?_eq_getElem hr]
              have hrl : (rows.getD r []).length = n := hlen' _ (List.mem_of_getElem? hrow)
              have hk := row_kept (w := w) (b := b) (cs := arr) (cs' := setArr arr (r * n + cl) vals) (ty := ty) (fr := fr) (Live X m s) (.inr ⟨id, _, hb, hm⟩)
              refine h.wrote hb hm hh hs ⟨setArr arr (r * n + cl) vals, ty, fr, setRow_heap w b _ _ _ _ hh, by rw [hs]; exact hfr, by rw [hs]; simpa using hsz, ?_, ?_⟩
              · intro x hx
                rcases List.mem_or_eq_of_mem_set hx with hx | rfl
                · exact hlen' x hx
                · unfold setRow
                  rw [List.length_append, List.length_append, List.length_take, List.length_drop, hrl]
                  omega
              · intro i j q x q1 q2
                rw [List.getElem?_set] at q1
                split at q1
                · rename_i hi
                  subst hi
                  try rw [if_pos hr] at q1
                  cases q1
                  rw [setRow_list _ _ _ (by omega)] at q2
                  split at q2
                  · rename_i hj
                    obtain ⟨v, b1, b2⟩ := (toDs_rel hds e3).get q2
                    refine ⟨v, ?_, e2 v (List.mem_of_getElem? b1), b2.mono hk (fun b' hl => .inl hl)⟩
                    rw [setArr_at _ _ _ _ hin, if_pos (by omega), ← b1]
                    congr 1; omega
                  · rename_i hj
                    obtain ⟨v, b1, b2, b3⟩ := hall r j _ x hrow q2
                    refine ⟨v, ?_, b2, b3.mono hk (fun b' hl => .inl hl)⟩
                    rw [setArr_at _ _ _ _ hin, if_neg (by omega)]; exact b1
                · rename_i hi
                  obtain ⟨v, b1, b2, b3⟩ := hall i j q x q1 q2
                  refine ⟨v, ?_, b2, b3.mono hk (fun b' hl => .inl hl)⟩
                  rw [setArr_at _ _ _ _ hin, if_neg ?_]
                  · exact b1
                  · have hj : j < n := by
                      have := (List.getElem?_eq_some_iff.1 q2).1
                      rw [hlen' q (List.mem_of_getElem? q1)] at this
                      exact this
                    rintro ⟨a1, a2⟩
                    rcases Nat.lt_or_gt_of_ne hi with hlt | hlt
                    · have : (r + 1) * n ≤ i * n := Nat.mul_le_mul_right _ hlt
                      rw [Nat.add_mul, Nat.one_mul] at this
                      omega
                    · have : (i + 1) * n ≤ r * n := Nat.mul_le_mul_right _ hlt
                      rw [Nat.add_mul, Nat.one_mul] at this
                      omega
            · rw [hm] at hn; cases hn
          · cases hop
        · cases hop
      · cases hop
    · cases hop
  · cases hop
end
end Go.Fw
