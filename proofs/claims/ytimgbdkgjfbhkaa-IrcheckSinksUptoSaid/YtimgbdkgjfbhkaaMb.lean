/- Texts of this claim, put together: Fn, Fnv, Fo, Fof, Fp, Fpw, Fq, Fr, Fs. -/
import Derived.Test.YtimgbdkgjfbhkaaMa
set_option linter.unusedVariables false
set_option linter.unusedSimpArgs false
section
namespace Go.Fw
variable {P : Program}

theorem not_int {u : TypeId} (h : tkind P u = 1) {w : World} : ((underlying u).run P w).andThen (fun d w' => (.ok (match d with | .int _ => true | _ => false) w' : Result Bool)) = .ok false w := by
  obtain ⟨e, he⟩ := tkind1 h
  rw [und_run he]; rfl
theorem app_room {t u el ty : TypeId} {sz : Nat} (ht : elemOfT P t = some el) (hu : tkind P u = 1) (hsz : (∀ w, (sizeOf el).run P w = .ok sz w)) {w : World} {base A : Option Addr} {sLen sCap n k : Nat} {vs : List Value} (hle : sLen + n ≤ sCap)
    (hnew : (Builtin.firstCells sz n (.slice A n k)).run P w = .ok vs.toArray w) :
    (Builtin.append_ #[t, u] ty #[.slice base sLen sCap, .slice A n k]).run P w = (match base with | some a => ((storeCells (a.add (sLen * sz)) vs).run P w).andThen (fun _ w' => .ok (.slice base (sLen + n) sCap) w') | none => .ok (.slice base (sLen + n) sCap) w) := by
  obtain ⟨eu, hue⟩ := tkind1 hu
  simp only [Builtin.append_, List.getElem?_toArray, List.getElem?_cons_zero, List.getElem?_cons_succ, Sem.run_bind, und_run (elem_und ht), Result.andThen_ok, hsz, und_run hue, Sem.run_pure, Builtin.lenOf, if_pos hle, Bool.not_false, if_true, hnew, Bool.false_eq_true, if_false, Sem.run_ite]
  cases base with
  | none => simp
  | some a => simp
theorem app_grow {t u el ty : TypeId} {z : List Value} (ht : elemOfT P t = some el) (hu : tkind P u = 1) (hz : zeroOf P el = some z) (hzl : 0 < z.length) (hby : 0 < bytesOfT P el) {w : World} {base A : Option Addr} {sLen sCap n k : Nat} {olds vs : List Value} (hgt : sCap < sLen + n)
    (hbd : (sLen + n) * bytesOfT P el ≤ 140737488355328)
    (hold : ∀ w', w'.heap = w.heap → (Builtin.firstCells z.length sLen (.slice base sLen sCap)).run P w' = .ok olds.toArray w')
    (hnew : ∀ w', w'.heap = w.heap → (Builtin.firstCells z.length n (.slice A n k)).run P w' = .ok vs.toArray w') :
    ∃ cap, sLen + n ≤ cap ∧ (Builtin.append_ #[t, u] ty #[.slice base sLen sCap, .slice A n k]).run P w = .ok (.slice (some ⟨w.heap.size, 0, none⟩) (sLen + n) cap) (wand { w with drawn := w.drawn + 1 } (.cells (olds ++ vs ++ (List.replicate (cap - (sLen + n)) z).flatten).toArray el)) := by
  obtain ⟨eu, hue⟩ := tkind1 hu
  obtain ⟨i, v, hi, hv, hcell, hl⟩ := zero_info hz
  have hsz : ∀ w, (sizeOf el).run P w = .ok z.length w := fun w => by simp [sizeOf, typeInfo, hi, hl]
  have hb : bytesOfT P el = i.bytes := by simp [bytesOfT, hi]
  rw [hb] at hby hbd
  have hneed : (sLen + n : Nat) ≤ 140737488355328 := Nat.le_trans (Nat.le_mul_of_pos_right _ hby) hbd
  have hn1 : ¬ (((sLen + n : Nat) : Int) > IntKind.i64.max ∧ i.bytes = 0) := by omega
  have hn2 : ¬ (Builtin.nextslicecap (sLen + n) sCap * i.bytes > 2 ^ 48) := by have := growslice_fits hgt hbd; omega
  have hgt' : ¬ (sLen + n ≤ sCap) := by omega
  let cap := (Question.appendCap (sLen + n) sCap el).cut (w.tape w.drawn (Question.appendCap (sLen + n) sCap el))
  have hcap : sLen + n ≤ cap := by show sLen + n ≤ (sLen + n) + _ % _; omega
  refine ⟨cap, hcap, ?_⟩
  have hz' : Builtin.zeroCells z.toArray (cap - (sLen + n)) = (List.replicate (cap - (sLen + n)) z).flatten.toArray := by
    unfold Builtin.zeroCells
    rw [← range_zero z hzl (cap - (sLen + n)), Array.toArray_toList]
    rfl
  simp only [Builtin.append_, List.getElem?_toArray, List.getElem?_cons_zero, List.getElem?_cons_succ, Sem.run_bind, und_run (elem_und ht), Result.andThen_ok, hsz, und_run hue, Sem.run_pure, Builtin.lenOf, if_neg hgt', info_run hi, Sem.run_ite, Bool.false_eq_true, false_or, if_neg hn1, if_neg hn2, if_false, Bool.not_false, if_true, run_choose, Question.forced, run_askRoom]
  rw [hold { w with drawn := w.drawn + 1 } rfl]
  simp only [Result.andThen_ok]
  rw [hnew { w with drawn := w.drawn + 1 } rfl]
  simp only [Result.andThen_ok, zeroValue, Sem.run_bind, info_run hi, hv, Sem.run_pure, hcell, newRow, run_newObj]
  show Result.ok (Value.slice _ _ cap) (World.mk (w.heap.push (Obj.cells (olds.toArray ++ vs.toArray ++ Builtin.zeroCells z.toArray (cap - (sLen + n))) el)) _ _ _ _) = _
  rw [hz']
  simp
  rfl

section
variable {w0 : World} {L0 : Par} {X : Nat → Prop} {m : Nat → Option Nat} {e : Env} {s : Store} {a : Act} {w : World}
/-- rows of two parts -/
theorem two_rows {R : D → Value → Prop} {sz : Nat} {olds news : List (List D)} {us vs : List Value} (hlu : us.length = olds.length * sz) (hu : ∀ (i j : Nat) (r : List D) (x : D), olds[i]? = some r → r[j]? = some x → ∃ v, us[i * sz + j]? = some v ∧ v.oneCell = true ∧ R x v)
    (hv : ∀ (i j : Nat) (r : List D) (x : D), news[i]? = some r → r[j]? = some x → ∃ v, vs[i * sz + j]? = some v ∧ v.oneCell = true ∧ R x v) (ws : List Value) (ho : ∀ r ∈ olds, r.length = sz) :
    ∀ (i j : Nat) (r : List D) (x : D), (olds ++ news)[i]? = some r → r[j]? = some x → ∃ v, (us ++ vs ++ ws)[i * sz + j]? = some v ∧ v.oneCell = true ∧ R x v := by
  intro i j r x h1 h2
  rw [List.getElem?_append] at h1
  split at h1
  · rename_i hi
    obtain ⟨v, b1, b2⟩ := hu i j r x h1 h2
    refine ⟨v, ?_, b2⟩
    rw [List.append_assoc, List.getElem?_append, if_pos (List.getElem?_eq_some_iff.1 b1).1]
    exact b1
  · rename_i hi
    obtain ⟨v, b1, b2⟩ := hv _ j r x h1 h2
    refine ⟨v, ?_, b2⟩
    have e1 : i * sz + j = olds.length * sz + ((i - olds.length) * sz + j) := by
      have : i = olds.length + (i - olds.length) := by omega
      rw [← Nat.add_assoc, ← Nat.add_mul, ← this]
    rw [List.append_assoc, List.getElem?_append, if_neg (by omega), e1, hlu, Nat.add_sub_cancel_left, List.getElem?_append, if_pos (List.getElem?_eq_some_iff.1 b1).1]
    exact b1

/-- APPEND. -/
theorem append_run (h : Rel w0 L0 X m e s a w) {o : Oper} {cl : Call} (ho : o.op = .call cl) (hcal : cl.callee = .builtin .append) {k : Option Nat} {c : Prop} {sz : Nat} {all : List (List D)} (hop : opAppend P cl (look e) s = some (k, c, sz, all)) (hc : c) (id : Nat) (h90 : 90 ≤ id) :
    ∃ q w' m', (execOp a.eval o).run P w = .ok (.value q) w' ∧ Rel w0 L0 X m' (put (V.fgtL (hitO k id) e) o.dst (.rs id sz 0 all.length)) (putB (fgtS (hitO k id) s) id (.data sz all)) (a.put o.dst q) w' := by
  unfold opAppend at hop
  split at hop
  · rename_i x y t u hargs htys
    have ha : cl.args = #[x, y] := by rw [← Array.toArray_toList (xs := cl.args), hargs]
    have htt : cl.argTypes = #[t, u] := by rw [← Array.toArray_toList (xs := cl.argTypes), htys]
    split at hop
    · rename_i el hel
      split at hop
      · rename_i z hz
        split at hop
        · rename_i hcond
          obtain ⟨h1, h2, h3, h4⟩ := hcond
          split at hop
          · rename_i k' c1 olds c2 news hb hsr
            cases hop
            obtain ⟨hc1, hc2, hbd⟩ := hc
            obtain ⟨⟨A, kk, hyv⟩, hnl, vs, hvl, hvr, hvd⟩ := src_run (P := P) h.sto h2 (h.look y) hsr hc2
            rw [hyv] at hvr
            have hbase := base_run h.sto (h.look x) hb hc1
            have lift : ∀ {q : Value} {w' : World}, (Builtin.append_ #[t, u] o.type #[a.eval x, a.eval y]).run P w = .ok q w' → (execOp a.eval o).run P w = .ok (.value q) w' := by
              intro q w' hq
              simp only [execOp, ho, resolve, hcal, ha, htt, invoke, builtin, pure_bind, List.map_toArray, List.map_cons, List.map_nil, Sem.run_bind, hq, Result.andThen_ok, Sem.run_pure]
            have hones : Ones z := oneCells_ones h1
            have hmx : olds.length + news.length ≤ 9223372036854775807 := Nat.le_trans (Nat.le_mul_of_pos_right _ h3) (Nat.le_trans hbd (by omega))
            obtain ⟨i, zv, hi, hzv, hcell, hl⟩ := zero_info hz
            have hsz : ∀ w, (sizeOf el).run P w = .ok z.length w := fun w => by simp [sizeOf, typeInfo, hi, hl]
            -- a new row
            have grow : ∀ {base : Option Addr} {sLen sCap : Nat} {us : List Value}, a.eval x = .slice base sLen sCap → sCap < sLen + news.length → sLen = olds.length → us.length = olds.length * z.length →
                (∀ w', w'.heap = w.heap → (Builtin.firstCells z.length sLen (.slice base sLen sCap)).run P w' = .ok us.toArray w') →
                (∀ (i j : Nat) (r : List D) (x : D), olds[i]? = some r → r[j]? = some x → ∃ v, us[i * z.length + j]? = some v ∧ v.oneCell = true ∧ DRel w (Live X m s) x v) → (∀ r ∈ olds, r.length = z.length) → (∀ k0, k = some k0 → (getB s k0).isSome = true) →
                ∃ q w' m', (execOp a.eval o).run P w = .ok (.value q) w' ∧ Rel w0 L0 X m' (put (V.fgtL (hitO k id) e) o.dst (.rs id z.length 0 (olds ++ news).length)) (putB (fgtS (hitO k id) s) id (.data z.length (olds ++ news))) (a.put o.dst q) w' := by
              intro base sLen sCap us hxv hgt hlo hul hur hud hol hk
              subst hlo
              obtain ⟨cap, hcap, hrun⟩ := app_grow (P := P) (ty := o.type) hel h4 hz h2 h3 hgt hbd hur hvr
              rw [← hxv, ← hyv] at hrun
              let w1 : World := { w with drawn := w.drawn + 1 }
              let cells := (us ++ vs ++ (List.replicate (cap - (olds.length + news.length)) z).flatten)
              have hclen : cells.length = cap * z.length := by
                simp only [cells, List.length_append, hul, hvl, List.length_flatten, List.map_replicate, List.sum_replicate_nat]
                rw [← Nat.add_mul, ← Nat.add_mul]
                congr 1; omega
              have hck : CellsKept (Live X m s) w (wand w1 (.cells cells.toArray el)) := fun b v hn hb => and_kept w (.cells cells.toArray el) (Live X m s) b v hn hb
              refine ⟨_, _, setM m id (some w.heap.size), lift hrun, Rel.put (h.swap h90 (k := k) (w' := wand w1 (.cells cells.toArray el)) hk hck (and_sizes w _) (fun b hb _ => and_heap w _ hb) rfl rfl rfl (by have e9 : w1.heap.size = w.heap.size := rfl; simp [wand]; omega) (.inr ⟨w.heap.size, rfl, .inl (Nat.le_refl _), ?_⟩)) o.dst ?_⟩
              · refine ⟨cells.toArray, el, (0, 0), heap_new w _, free00 _, ?_, fun r hr => ?_, fun i j r x q1 q2 => ?_⟩
                · simp only [List.size_toArray, hclen, List.length_append]
                  exact Nat.mul_le_mul_right _ hcap
                · rcases List.mem_append.1 hr with hr | hr
                  · exact hol r hr
                  · exact hnl r hr
                · obtain ⟨v, b1, b2, b3⟩ := two_rows hul hud hvd ((List.replicate (cap - (olds.length + news.length)) z).flatten) hol i j r x q1 q2
                  refine ⟨v, by simpa [cells] using b1, b2, b3.mono hck fun b hl => ?_⟩
                  rcases hl with hl | ⟨i', c', t1, t2⟩
                  · exact .inl (.inl hl)
                  rw [getB_putB] at t1
                  by_cases e1 : i' = id
                  · subst e1; simp [setM] at t2; exact .inr (by omega)
                  · rw [if_neg e1, getB_fgtS] at t1
                    split at t1
                    · cases t1
                    · obtain ⟨c0, t3, _⟩ := Option.map_eq_some_iff.1 t1
                      simp only [setM, if_neg e1] at t2
                      exact .inl (.inr ⟨i', c0, t3, t2⟩)
              · have q := VRel.rs (w := wand w1 (.cells cells.toArray el)) (L := Live X (setM m id (some w.heap.size)) (putB (fgtS (hitO k id) s) id (.data z.length (olds ++ news)))) (m := setM m id (some w.heap.size)) id z.length 0 (olds.length + news.length) cap w.heap.size cells.toArray el (0, 0) (by simp [setM]) hcap hmx (heap_new w _) (by simp [hclen])
                simpa using q
            rcases hbase with ⟨hxv, rfl, hk⟩ | ⟨k0, b, len, cap, cs, ty, fr, rfl, hk0, hmk, hxv, hlc, hh, hfr, hcs, hol, holl, hod⟩
            · by_cases hn : news = []
              · subst hn
                have hrun := app_room (P := P) (ty := o.type) (base := none) (sLen := 0) (sCap := 0) (n := 0) (A := A) (k := kk) (vs := vs) hel h4 hsz (Nat.le_refl _) (hvr w rfl)
                rw [← hxv] at hrun
                simp only [List.length_nil] at hyv
                rw [← hyv] at hrun
                refine ⟨_, w, setM m id none, lift hrun, Rel.put (h.swap h90 (k := k) (ob := none) hk (fun _ _ _ q => q) (fun _ cs _ _ q => ⟨cs, q, rfl⟩) (fun _ _ _ => rfl) rfl rfl rfl (Nat.le_refl _) (.inl ⟨rfl, _, rfl⟩)) o.dst ?_⟩
                rw [hxv]
                exact .rsE id _
              · exact grow hxv (by have := List.length_pos_iff.2 hn; omega) rfl (us := []) (by simp) (fun w' _ => rfl) (by simp) (by simp) hk
            · by_cases hroom : len + news.length ≤ cap
              · have hrun := app_room (P := P) (ty := o.type) (base := some ⟨b, 0, none⟩) (A := A) (k := kk) (vs := vs) hel h4 hsz hroom (hvr w rfl)
                have hin : len * z.length + vs.length ≤ cs.size := by
                  rw [hvl, ← Nat.add_mul]
                  exact Nat.le_trans (Nat.mul_le_mul_right _ hroom) hcs
                have hones' : Ones vs := by
                  intro v hv
                  obtain ⟨q, hq, rfl⟩ := List.getElem_of_mem hv
                  have hi' : q / z.length < news.length := Nat.div_lt_of_lt_mul (by rw [Nat.mul_comm, ← hvl]; exact hq)
                  have hr := List.getElem?_eq_getElem hi'
                  have hj : q % z.length < (news[q / z.length]).length := by rw [hnl _ (List.getElem_mem hi')]; exact Nat.mod_lt _ h2
                  obtain ⟨v, b1, b2, _⟩ := hvd _ _ _ _ hr (List.getElem?_eq_getElem hj)
                  have e1 : q / z.length * z.length + q % z.length = q := by rw [Nat.mul_comm]; exact Nat.div_add_mod q z.length
                  rw [e1, List.getElem?_eq_getElem hq] at b1
                  cases b1; exact b2
                have hst := storeCells_run (P := P) (b := b) (len * z.length) vs 0 cs w hh hfr (by omega) hones'
                simp only [Nat.add_zero] at hst
                simp only [add_none, Nat.zero_add, hst, Result.andThen_ok] at hrun
                rw [← hxv, ← hyv] at hrun
                have hs : (setArr cs (len * z.length) vs).size = cs.size := setArr_size _ _ _
                obtain ⟨c0, hc0⟩ := Option.isSome_iff_exists.1 hk0
                have hlive : Live X m s b := .inr ⟨k0, c0, hc0, hmk⟩
                have hkept := row_kept (w := w) (b := b) (cs := cs) (cs' := setArr cs (len * z.length) vs) (ty := ty) (fr := fr) (Live X m s) hlive
                refine ⟨_, _, setM m id (some b), lift hrun, Rel.put (h.swap h90 (k := some k0) (by rintro k1 ⟨⟩; exact hk0) hkept (row_sizes hh hs) (fun b' hb' hne => setRow_other _ _ _ _ fun e1 => hne k0 rfl (by rw [e1]; exact hmk)) rfl rfl rfl (by simp) (.inr ⟨b, rfl, .inr ⟨k0, rfl, hmk⟩, ?_⟩)) o.dst ?_⟩
                · refine ⟨setArr cs (len * z.length) vs, ty, fr, setRow_heap w b _ _ _ _ hh, by rw [hs]; exact hfr, ?_, fun r hr => ?_, fun i j r x q1 q2 => ?_⟩
                  · rw [hs, List.length_append, hol]
                    exact Nat.le_trans (Nat.mul_le_mul_right _ hroom) hcs
                  · rcases List.mem_append.1 hr with hr | hr
                    · exact holl r hr
                    · exact hnl r hr
                  · have hL' : ∀ b', Live X (setM m id (some b)) (putB (fgtS (hitO (some k0) id) s) id (.data z.length (olds ++ news))) b' → Live X m s b' ∨ w.heap.size ≤ b' := by
                      rintro b' (hl | ⟨i', c', t1, t2⟩)
                      · exact .inl (.inl hl)
                      rw [getB_putB] at t1
                      by_cases e1 : i' = id
                      · subst e1; simp [setM] at t2; rw [← t2]; exact .inl hlive
                      · rw [if_neg e1, getB_fgtS] at t1
                        split at t1
                        · cases t1
                        · obtain ⟨c0, t3, _⟩ := Option.map_eq_some_iff.1 t1
                          simp only [setM, if_neg e1] at t2
                          exact .inl (.inr ⟨i', c0, t3, t2⟩)
                    rw [List.getElem?_append] at q1
                    split at q1
                    · rename_i hi'
                      obtain ⟨v, b1, b2, b3⟩ := hod i j r x q1 q2
                      refine ⟨v, ?_, b2, b3.mono hkept hL'⟩
                      rw [setArr_at _ _ _ _ hin, if_neg ?_]
                      · exact b1
                      · have hj : j < z.length := by
                          rw [← holl r (List.mem_of_getElem? q1)]; exact (List.getElem?_eq_some_iff.1 q2).1
                        have : (i + 1) * z.length ≤ len * z.length := Nat.mul_le_mul_right _ (by omega)
                        rw [Nat.add_mul, Nat.one_mul] at this
                        omega
                    · rename_i hi'
                      obtain ⟨v, b1, b2, b3⟩ := hvd _ j r x q1 q2
                      refine ⟨v, ?_, b2, b3.mono hkept hL'⟩
                      have hlt := (List.getElem?_eq_some_iff.1 b1).1
                      have e1 : i * z.length + j = len * z.length + ((i - olds.length) * z.length + j) := by
                        have : i = len + (i - olds.length) := by omega
                        rw [← Nat.add_assoc, ← Nat.add_mul, ← this]
                      rw [setArr_at _ _ _ _ hin, e1, if_pos (by omega), Nat.add_sub_cancel_left]
                      exact b1
                · have q := VRel.rs (w := w.setRow b (setArr cs (len * z.length) vs)) (L := Live X (setM m id (some b)) (putB (fgtS (hitO (some k0) id) s) id (.data z.length (olds ++ news)))) (m := setM m id (some b)) id z.length 0 (len + news.length) cap b (setArr cs (len * z.length) vs) ty fr (by simp [setM]) hroom (by omega) (setRow_heap w b _ _ _ _ hh) (by rw [hs]; simpa using hcs)
                  simpa [hol] using q
              · refine grow hxv (by omega) hol.symm (us := (cs.toList.take (len * z.length))) ?_ ?_ ?_ holl (by rintro k1 ⟨⟩; exact hk0)
                · have : len * z.length ≤ cap * z.length := Nat.mul_le_mul_right _ hlc
                  simp [hol]; omega
                · intro w' hw
                  have hle : len * z.length ≤ cs.size := Nat.le_trans (Nat.mul_le_mul_right _ hlc) hcs
                  have q := run_loadCells_list (P := P) w' ⟨b, 0, none⟩ (cs.toList.take (len * z.length)) fun j v hj => by
                    rw [add_none, Nat.zero_add]
                    rw [List.getElem?_take] at hj
                    split at hj
                    · rw [cell_of (by rw [hw]; exact hh)]; simpa using hj
                    · cases hj
                  have e1 : (cs.toList.take (len * z.length)).length = len * z.length := by simp; omega
                  rw [e1] at q
                  exact q
                · intro i j r x q1 q2
                  obtain ⟨v, b1, b2, b3⟩ := hod i j r x q1 q2
                  refine ⟨v, ?_, b2, b3⟩
                  have hj : j < z.length := by
                    rw [← holl r (List.mem_of_getElem? q1)]; exact (List.getElem?_eq_some_iff.1 q2).1
                  have hi' := (List.getElem?_eq_some_iff.1 q1).1
                  have : (i + 1) * z.length ≤ len * z.length := Nat.mul_le_mul_right _ (by omega)
                  rw [Nat.add_mul, Nat.one_mul] at this
                  rw [List.getElem?_take, if_pos (by omega)]
                  simpa using b1
          · cases hop
        · cases hop
      · cases hop
    · cases hop
  · cases hop
end
end Go.Fw
end
section
namespace Go.Fw
variable {P : Program}

theorem srcV_run {w : World} {X : Nat → Prop} {m : Nat → Option Nat} {s : Store} (hs : SRel w X m s) {sz n : Nat} {x : V} {v : Value} {c : Prop} {nv : List V} (hx : VRel w (Live X m s) m x v) (h : srcV sz x s = some (c, n, nv)) (hc : c) :
    (∃ A k, v = .slice A n k) ∧ 0 < n ∧ ∃ vs : List Value, vs.length = n * sz ∧ Ones vs ∧ All2 (VRel w (Live X m s) m) nv vs ∧ ∀ w', w'.heap = w.heap → (Builtin.firstCells sz n v).run P w' = .ok vs.toArray w' := by
  unfold srcV at h
  split at h <;> try (cases h; done)
  rename_i id n' off len
  split at h
  · rename_i hn
    subst hn
    split at h
    · rename_i cells hg
      cases h
      obtain ⟨hc0, hc⟩ := hc
      cases hx with
      | rsE => omega
      | rs _ _ _ _ cap b cs ty fr hm hc' hxl hh hs' =>
        rcases hs.blk id _ hg with ⟨b', hm', arr, ex, ty', fr', hh', hfr', hone, hall⟩ | ⟨_, _, hn⟩
        · rw [hm] at hm'; cases hm'
          rw [hh] at hh'; cases hh'
          have hle : off * n' + n * n' ≤ arr.length := by rw [hall.len]; exact hc
          have hvl : ((arr.drop (off * n')).take (n * n')).length = n * n' := by simp; omega
          refine ⟨⟨_, _, rfl⟩, hc0, (arr.drop (off * n')).take (n * n'), hvl, fun v hv => hone v (List.mem_of_mem_drop (List.mem_of_mem_take hv)), (hall.drop _).take _, fun w' hw => ?_⟩
          have q := run_loadCells_list (P := P) w' ⟨b, off * n', none⟩ ((arr.drop (off * n')).take (n * n')) fun j v hj => by
            rw [List.getElem?_take] at hj
            split at hj
            · rw [List.getElem?_drop] at hj
              rw [add_none, cell_of (by rw [hw]; exact hh), List.getElem?_toArray, List.getElem?_append_left (List.getElem?_eq_some_iff.1 hj).1]
              exact hj
            · cases hj
          rw [hvl] at q
          exact q
        · cases hn
    · cases h
  · cases h
theorem baseV_run {w : World} {X : Nat → Prop} {m : Nat → Option Nat} {s : Store} (hs : SRel w X m s) {sz n : Nat} {x : V} {v : Value} {c : Prop} {k : Option Nat} {cells : List V} (hx : VRel w (Live X m s) m x v) (hb : baseV sz x s = some (k, c, n, cells)) (hc : c) :
    (v = .slice none 0 0 ∧ n = 0 ∧ cells = [] ∧ ∀ k0, k = some k0 → (getB s k0).isSome = true) ∨ ∃ k0 b cap arr ex ty fr, k = some k0 ∧ (getB s k0).isSome = true ∧ m k0 = some b ∧ v = .slice (some ⟨b, 0, none⟩) n cap ∧ n ≤ cap ∧ w.heap[b]? = some (Obj.cells (arr ++ ex).toArray ty fr) ∧ Free fr (arr ++ ex).length ∧ cap * sz ≤ (arr ++ ex).length ∧
      cells.length = n * sz ∧ Ones arr ∧ All2 (VRel w (Live X m s) m) cells arr := by
  unfold baseV at hb
  split at hb <;> try (cases hb; done)
  · cases hb
    have := hx.lit_inv; subst this
    exact .inl ⟨rfl, rfl, rfl, by simp⟩
  · rename_i id n' len
    split at hb
    · rename_i hn
      subst hn
      split at hb
      · rename_i cells' hg
        cases hb
        cases hx with
        | rsE => exact .inl ⟨rfl, rfl, by simpa using hc, by rintro k0 ⟨⟩; rw [hg]; rfl⟩
        | rs _ _ _ _ cap b cs ty fr hm hc' hxl hh hs' =>
          rcases hs.blk id _ hg with ⟨b', hm', arr, ex, ty', fr', hh', hfr', hone, hall⟩ | ⟨_, _, hn⟩
          · rw [hm] at hm'; cases hm'
            rw [hh] at hh'; cases hh'
            exact .inr ⟨id, b, cap, arr, ex, ty, fr, rfl, by rw [hg]; rfl, hm, by simp, hc', hh, hfr', by simpa using hs', hc, hone, hall⟩
          · cases hn
      · cases hb
    · cases hb

section
variable {w0 : World} {L0 : Par} {X : Nat → Prop} {m : Nat → Option Nat} {e : Env} {s : Store} {a : Act} {w : World}
theorem setArr_end {arr ex : List Value} {vs : List Value} (h : vs.length ≤ ex.length) : setArr (arr ++ ex).toArray arr.length vs = (arr ++ vs ++ ex.drop vs.length).toArray := by
  apply Array.ext_getElem?
  intro j
  rw [setArr_at _ _ _ _ (by simp; omega), List.getElem?_toArray, List.getElem?_toArray, List.append_assoc, List.getElem?_append, List.getElem?_append]
  by_cases hj : j < arr.length
  · rw [if_neg (by omega), if_pos hj, if_pos hj]
  · rw [if_neg hj, if_neg hj, List.getElem?_append]
    by_cases h2 : j - arr.length < vs.length
    · rw [if_pos (by omega), if_pos h2]
    · rw [if_neg (by omega), if_neg h2, List.getElem?_drop]
      congr 1; omega
/-- APPEND, where cells name blocks. -/
theorem append_runV (h : Rel w0 L0 X m e s a w) {o : Oper} {cl : Call} (ho : o.op = .call cl) (hcal : cl.callee = .builtin .append) {k : Option Nat} {c : Prop} {sz n : Nat} {all : List V} (hop : opAppendV P cl (look e) s = some (k, c, sz, n, all)) (hc : c) (id : Nat) (h90 : 90 ≤ id) :
    ∃ q w' m', (execOp a.eval o).run P w = .ok (.value q) w' ∧ Rel w0 L0 X m' (put (V.fgtL (hitO k id) e) o.dst (.rs id sz 0 n)) (putB (fgtS (hitO k id) s) id (.vals (V.fgtL (hitO k id) all))) (a.put o.dst q) w' := by
  unfold opAppendV at hop
  split at hop
  · rename_i x y t u hargs htys
    have ha : cl.args = #[x, y] := by rw [← Array.toArray_toList (xs := cl.args), hargs]
    have htt : cl.argTypes = #[t, u] := by rw [← Array.toArray_toList (xs := cl.argTypes), htys]
    split at hop
    · rename_i el hel
      split at hop
      · rename_i z hz
        split at hop
        · rename_i hcond
          obtain ⟨h1, h2, h3, h4⟩ := hcond
          split at hop
          · rename_i k' c1 n1 olds c2 n2 news hb hsr
            cases hop
            obtain ⟨hc1, hc2, hbd⟩ := hc
            obtain ⟨⟨A, kk, hyv⟩, hn2, vs, hvl, hvo, hva, hvr⟩ := srcV_run (P := P) h.sto (h.look y) hsr hc2
            rw [hyv] at hvr
            have hbase := baseV_run h.sto (h.look x) hb hc1
            have lift : ∀ {q : Value} {w' : World}, (Builtin.append_ #[t, u] o.type #[a.eval x, a.eval y]).run P w = .ok q w' → (execOp a.eval o).run P w = .ok (.value q) w' := by
              intro q w' hq
              simp only [execOp, ho, resolve, hcal, ha, htt, invoke, builtin, pure_bind, List.map_toArray, List.map_cons, List.map_nil, Sem.run_bind, hq, Result.andThen_ok, Sem.run_pure]
            have hones : Ones z := oneCells_ones h1
            have hmx : n1 + n2 ≤ 9223372036854775807 := Nat.le_trans (Nat.le_mul_of_pos_right _ h3) (Nat.le_trans hbd (by omega))
            obtain ⟨i, zv, hi, hzv, hcell, hl⟩ := zero_info hz
            have hsz : ∀ w, (sizeOf el).run P w = .ok z.length w := fun w => by simp [sizeOf, typeInfo, hi, hl]
            -- cells, told less
            have less : ∀ {w' : World} {ob : Option Nat} {xs : List V} {us : List Value} {blk : Blk}, CellsKept (Live X m s) w w' → SizesKept w w' → (∀ b, ob = some b → Live X m s b ∨ w.heap.size ≤ b) → All2 (VRel w (Live X m s) m) xs us →
                All2 (VRel w' (Live X (setM m id ob) (putB (fgtS (hitO k id) s) id blk)) (setM m id ob)) (V.fgtL (hitO k id) xs) us := by
              intro w' ob xs us blk hck hszk hob hxs
              refine ⟨hxs.len.trans (fgtL_len _ _).symm, fun j x v q1 q2 => ?_⟩
              rw [fgtL_at] at q1
              obtain ⟨y, hy, rfl⟩ := Option.map_eq_some_iff.1 q1
              refine VRel.mono (p := hitO k id) hck hszk ?_ (fun i hi => ?_) (fgt_men _ y) ((hxs.at_ j y v hy q2).fgt _)
              · rintro b (hl | ⟨i', c', t1, t2⟩)
                · exact .inl (.inl hl)
                · rw [getB_putB] at t1
                  by_cases e1 : i' = id
                  · subst e1; simp only [setM, if_true] at t2; exact hob b t2
                  · rw [if_neg e1, getB_fgtS] at t1
                    split at t1
                    · cases t1
                    · obtain ⟨c0, t3, _⟩ := Option.map_eq_some_iff.1 t1
                      simp only [setM, if_neg e1] at t2
                      exact .inl (.inr ⟨i', c0, t3, t2⟩)
              · simp only [hitO, Bool.or_eq_false_iff, beq_eq_false_iff_ne] at hi
                simp only [setM, if_neg hi.1]
            -- a new row
            have grow : ∀ {base : Option Addr} {sCap : Nat} {us : List Value}, a.eval x = .slice base n1 sCap → sCap < n1 + n2 → us.length = n1 * z.length → Ones us → All2 (VRel w (Live X m s) m) olds us →
                (∀ w', w'.heap = w.heap → (Builtin.firstCells z.length n1 (.slice base n1 sCap)).run P w' = .ok us.toArray w') → (∀ k0, k = some k0 → (getB s k0).isSome = true) →
                ∃ q w' m', (execOp a.eval o).run P w = .ok (.value q) w' ∧ Rel w0 L0 X m' (put (V.fgtL (hitO k id) e) o.dst (.rs id z.length 0 (n1 + n2))) (putB (fgtS (hitO k id) s) id (.vals (V.fgtL (hitO k id) (olds ++ news)))) (a.put o.dst q) w' := by
              intro base sCap us hxv hgt hul huo hua hur hk
              obtain ⟨cap, hcap, hrun⟩ := app_grow (P := P) (ty := o.type) hel h4 hz h2 h3 hgt hbd hur hvr
              rw [← hxv, ← hyv] at hrun
              let w1 : World := { w with drawn := w.drawn + 1 }
              let ex := (List.replicate (cap - (n1 + n2)) z).flatten
              have hclen : (us ++ vs ++ ex).length = cap * z.length := by
                simp only [ex, List.length_append, hul, hvl, List.length_flatten, List.map_replicate, List.sum_replicate_nat]
                rw [← Nat.add_mul, ← Nat.add_mul]
                congr 1; omega
              have hck : CellsKept (Live X m s) w (wand w1 (.cells (us ++ vs ++ ex).toArray el)) := fun b v hn hb => and_kept w (.cells (us ++ vs ++ ex).toArray el) (Live X m s) b v hn hb
              refine ⟨_, _, setM m id (some w.heap.size), lift hrun, Rel.put (h.swap h90 (k := k) (w' := wand w1 (.cells (us ++ vs ++ ex).toArray el)) hk hck (and_sizes w _) (fun b hb _ => and_heap w _ hb) rfl rfl rfl (by have e9 : w1.heap.size = w.heap.size := rfl; simp [wand]; omega) (.inr ⟨w.heap.size, rfl, .inl (Nat.le_refl _), ?_⟩)) o.dst ?_⟩
              · refine ⟨us ++ vs, ex, el, (0, 0), heap_new w _, free00 _, ?_, less hck (and_sizes w _) (fun b hb => by cases hb; exact .inr (Nat.le_refl _)) (hua.append hva)⟩
                intro v hv
                rcases List.mem_append.1 hv with hv | hv
                · exact huo v hv
                · exact hvo v hv
              · have q := VRel.rs (w := wand w1 (.cells (us ++ vs ++ ex).toArray el)) (L := Live X (setM m id (some w.heap.size)) (putB (fgtS (hitO k id) s) id (.vals (V.fgtL (hitO k id) (olds ++ news))))) (m := setM m id (some w.heap.size)) id z.length 0 (n1 + n2) cap w.heap.size (us ++ vs ++ ex).toArray el (0, 0) (by simp [setM]) hcap hmx (heap_new w _) (by simp only [List.size_toArray, hclen, Nat.zero_add, Nat.le_refl])
                simpa using q
            rcases hbase with ⟨hxv, rfl, rfl, hk⟩ | ⟨k0, b, cap, arr, ex, ty, fr, rfl, hk0, hmk, hxv, hlc, hh, hfr, hcs, hol, hone, hall⟩
            · exact grow hxv (by omega) (us := []) (by simp) (by intro v hv; cases hv) All2.nil (fun w' _ => rfl) hk
            · have harr : arr.length = n1 * z.length := by rw [hall.len, hol]
              by_cases hroom : n1 + n2 ≤ cap
              · have hrun := app_room (P := P) (ty := o.type) (base := some ⟨b, 0, none⟩) (A := A) (k := kk) (vs := vs) hel h4 hsz hroom (hvr w rfl)
                have hin : n1 * z.length + vs.length ≤ (arr ++ ex).length := by
                  rw [hvl, ← Nat.add_mul]
                  exact Nat.le_trans (Nat.mul_le_mul_right _ hroom) hcs
                have hst := storeCells_run (P := P) (b := b) (n1 * z.length) vs 0 (arr ++ ex).toArray w hh (by simpa using hfr) (by simpa using hin) hvo
                have hend : setArr (arr ++ ex).toArray (n1 * z.length) vs = (arr ++ vs ++ ex.drop vs.length).toArray := by
                  rw [← harr]
                  exact setArr_end (by simp only [List.length_append] at hin; omega)
                simp only [Nat.add_zero] at hst
                simp only [add_none, Nat.zero_add, hst, Result.andThen_ok] at hrun
                rw [← hxv, ← hyv] at hrun
                have hs : (setArr (arr ++ ex).toArray (n1 * z.length) vs).size = (arr ++ ex).toArray.size := setArr_size _ _ _
                obtain ⟨c0, hc0⟩ := Option.isSome_iff_exists.1 hk0
                have hlive : Live X m s b := .inr ⟨k0, c0, hc0, hmk⟩
                have hkept := row_kept (w := w) (b := b) (cs := (arr ++ ex).toArray) (cs' := setArr (arr ++ ex).toArray (n1 * z.length) vs) (ty := ty) (fr := fr) (Live X m s) hlive
                refine ⟨_, _, setM m id (some b), lift hrun, Rel.put (h.swap h90 (k := some k0) (by rintro k1 ⟨⟩; exact hk0) hkept (row_sizes hh hs) (fun b' hb' hne => setRow_other _ _ _ _ fun e1 => hne k0 rfl (by rw [e1]; exact hmk)) rfl rfl rfl (by simp) (.inr ⟨b, rfl, .inr ⟨k0, rfl, hmk⟩, ?_⟩)) o.dst ?_⟩
                · refine ⟨arr ++ vs, ex.drop vs.length, ty, fr, ?_, ?_, ?_, less hkept (row_sizes hh hs) (fun b' hb' => by cases hb'; exact .inl hlive) (hall.append hva)⟩
                  · rw [← hend]; exact setRow_heap w b _ _ _ _ hh
                  · have : (arr ++ vs ++ ex.drop vs.length).length = (arr ++ ex).length := by
                      simp only [List.length_append, List.length_drop] at hin ⊢; omega
                    rw [this]; exact hfr
                  · intro v hv
                    rcases List.mem_append.1 hv with hv | hv
                    · exact hone v hv
                    · exact hvo v hv
                · have q := VRel.rs (w := w.setRow b (setArr (arr ++ ex).toArray (n1 * z.length) vs)) (L := Live X (setM m id (some b)) (putB (fgtS (hitO (some k0) id) s) id (.vals (V.fgtL (hitO (some k0) id) (olds ++ news))))) (m := setM m id (some b)) id z.length 0 (n1 + n2) cap b (setArr (arr ++ ex).toArray (n1 * z.length) vs) ty fr (by simp [setM]) hroom hmx (setRow_heap w b _ _ _ _ hh) (by rw [hs]; simpa using hcs)
                  simpa using q
              · refine grow hxv (by omega) harr hone hall ?_ (by rintro k1 ⟨⟩; exact hk0)
                intro w' hw
                have q := run_loadCells_list (P := P) w' ⟨b, 0, none⟩ arr fun j v hj => by
                  rw [add_none, Nat.zero_add, cell_of (by rw [hw]; exact hh), List.getElem?_toArray, List.getElem?_append_left (List.getElem?_eq_some_iff.1 hj).1]
                  exact hj
                rw [harr] at q
                exact q
          · cases hop
        · cases hop
      · cases hop
    · cases hop
  · cases hop
end
end Go.Fw
end
section
namespace Go.Fw
variable {P : Program}

theorem map_congr_ops {α β : Type} {f g : α → β} {l : List α} (h : ∀ x ∈ l, f x = g x) : l.map f = l.map g := List.map_congr_left h
theorem optmap_congr {x : Option Operand} {ρ ρ' : Operand → V} (h : ∀ y ∈ x.toArray, ρ y = ρ' y) : x.map ρ = x.map ρ' := by
  cases x with
  | none => rfl
  | some y => simp [h y (by simp)]
theorem opP_congr {op : Op} {ρ ρ' : Operand → V} (h : ∀ x ∈ op.operands, ρ x = ρ' x) : opP P op ρ = opP P op ρ' := by
  cases op <;> simp only [opP] <;> simp only [Op.operands] at h
  case move x => rw [h x (by simp)]
  case assign x => rw [h x (by simp)]
  case pick c a b => rw [h c (by simp), h a (by simp), h b (by simp)]
  case build t ps =>
    have e : (ps.toList.map fun (i, x) => (i, ρ x)) = ps.toList.map fun (i, x) => (i, ρ' x) := map_congr_ops fun x hx => by
      obtain ⟨i, x⟩ := x
      simp only
      rw [h x (by simp; exact ⟨i, by simpa using hx⟩)]
    rw [e]
  case nilCheck x => rw [h x (by simp)]
  case binOp op t x y t' => rw [h x (by simp), h y (by simp)]
  case unOp op t x => rw [h x (by simp)]
  case convert s d x => rw [h x (by simp)]
  case makeFunc f first capt =>
    cases f <;> simp only
    rw [map_congr_ops (l := capt.toList) (f := ρ) (g := ρ') fun x hx => h x (by simp; exact .inr (by simpa using hx))]
  case slice t x lo hi mx =>
    rw [h x (by simp), optmap_congr (x := lo) fun y hy => h y (by simp [hy]), optmap_congr (x := hi) fun y hy => h y (by simp [hy]), optmap_congr (x := mx) fun y hy => h y (by simp [hy])]
  case fieldAddr t x f => rw [h x (by simp)]
  case field t x f => rw [h x (by simp)]
  case indexAddr t x i => rw [h x (by simp), h i (by simp)]
  case index t x i => rw [h x (by simp), h i (by simp)]
  case extract t i => rw [h t (by simp)]
  case call c =>
    rw [map_congr_ops (l := c.args.toList) (f := ρ) (g := ρ') fun x hx => h x (by simp [Call.operands]; exact .inr (by simpa using hx))]
theorem opR_congr {op : Op} {ρ ρ' : Operand → V} {s : Store} (h : ∀ x ∈ op.operands, ρ x = ρ' x) : opR P op ρ s = opR P op ρ' s := by
  cases op <;> simp only [opR] <;> simp only [Op.operands] at h
  case load t x => rw [h x (by simp)]
  case call c =>
    split
    · rename_i x t h1 h2
      rw [h x (by
        simp only [Call.operands, Array.mem_append]
        exact .inr (Array.mem_toList_iff.1 (by rw [h1]; simp)))]
    · rfl
  case lookup t m k ok => rw [h m (by simp), h k (by simp)]
theorem opA_congr {op : Op} {ρ ρ' : Operand → V} {id : Nat} (h : ∀ x ∈ op.operands, ρ x = ρ' x) : opA P op ρ id = opA P op ρ' id := by
  cases op <;> simp only [opA] <;> simp only [Op.operands] at h
  case box t x => rw [h x (by simp)]
  case buildSlice t n ps =>
    have e : (ps.toList.map fun (i, x) => (i, ρ x)) = ps.toList.map fun (i, x) => (i, ρ' x) := map_congr_ops fun x hx => by
      obtain ⟨i, x⟩ := x
      simp only
      rw [h x (by simp; exact ⟨i, by simpa using hx⟩)]
    rw [e]
  case makeSlice t l c => rw [h l (by simp), h c (by simp)]
  case makeMap t r => cases r <;> rfl
theorem opW_congr {op : Op} {ρ ρ' : Operand → V} {s : Store} (h : ∀ x ∈ op.operands, ρ x = ρ' x) : opW P op ρ s = opW P op ρ' s := by
  cases op <;> simp only [opW] <;> simp only [Op.operands] at h
  case store t x y => rw [h x (by simp), h y (by simp)]
  case mapUpdate t m k x => rw [h m (by simp), h k (by simp), h x (by simp)]
  case insert t m k x => rw [h m (by simp), h k (by simp), h x (by simp)]

/-! names -/
theorem mkAg_men {p : Nat → Bool} {cells : List V} (h : V.menL p cells = false) : (mkAg cells).men p = false := by
  unfold mkAg
  split
  · rfl
  · exact h
theorem menL_sub {p : Nat → Bool} {l k : List V} (h : V.menL p l = false) (hs : ∀ x ∈ k, x ∈ l) : V.menL p k = false := by
  refine menL_of fun j x hj => ?_
  obtain ⟨i, hi⟩ := List.getElem?_of_mem (hs x (List.mem_of_getElem? hj))
  exact menL_at h hi
theorem one_men {p : Nat → Bool} {g : Bool} {n : Nat} {cells : List V} {v : V} (h : V.menL p cells = false) (ho : one g n cells = some v) : v.men p = false := by
  unfold one at ho
  split at ho
  · split at ho
    · cases ho; exact mkAg_men h
    · cases ho
  · cases cells with
    | nil => cases ho
    | cons c r => cases ho; exact menL_at h (j := 0) rfl
theorem partV_men {p : Nat → Bool} {g : Bool} {n off : Nat} {cells : List V} {v : V} (h : V.menL p cells = false) (ho : partV g n off cells = some v) : v.men p = false := by
  unfold partV at ho
  split at ho
  · exact one_men (menL_sub h fun x hx => List.mem_of_mem_drop (List.mem_of_mem_take hx)) ho
  · cases ho
theorem aggCells_men {p : Nat → Bool} {x : V} {cs : List V} (h : x.men p = false) (hc : aggCells x = some cs) : V.menL p cs = false := by
  unfold aggCells at hc
  split at hc
  · cases hc; exact h
  · cases hc; exact menL_map_d p _
  · cases hc
theorem binV_men {p : Nat → Bool} {op : BinOp} {t : TypeId} {x y : V} {c : Prop} {v : V} (h : binV P op t x y = some (c, v)) : v.men p = false := by
  unfold binV at h
  have en : ∀ {c' : Prop} {b : Bool}, eqNil op c' b = some (c, v) → v.men p = false := by
    intro c' b h
    cases op <;> simp only [eqNil, Option.some.injEq, Prod.mk.injEq, reduceCtorEq] at h <;> rw [← h.2] <;> rfl
  split at h
  · split at h
    · split at h <;> cases h; rfl
    · split at h <;> cases h; rfl
    · split at h
      · split at h <;> cases h; rfl
      · cases h
  · split at h
    · split at h <;> cases h <;> rfl
    · cases h
  · split at h <;> cases h; rfl
  · unfold nilV at h
    split at h
    · split at h
      · split at h
        · exact en h
        · cases h
      · split at h
        · split at h
          · exact en h
          · cases h
        · cases h
    · cases h
theorem sliceV_men {p : Nat → Bool} {z : Nat} {x : V} {lo hi mx : Option V} {c : Prop} {v : V} (hx : x.men p = false) (h : sliceV z x lo hi mx = some (c, v)) : v.men p = false := by
  unfold sliceV at h
  split at h
  · rename_i l' h' _ _ 
    split at h
    · cases l' <;> cases h' <;> simp only [cutSl, Option.some.injEq, Prod.mk.injEq] at h <;> rw [← h.2] <;> rfl
    · split at h
      · cases l' <;> cases h' <;> simp only [cutRs, Option.some.injEq, Prod.mk.injEq] at h <;> rw [← h.2] <;> (try split) <;> first | rfl | exact hx
      · cases h
    · cases h
  · cases h
theorem sliceS_men {p : Nat → Bool} {x : V} {lo hi mx : Option V} {c : Prop} {v : V} (h : sliceS x lo hi mx = some (c, v)) : v.men p = false := by
  unfold sliceS at h
  split at h
  · rename_i l' h' _ _
    split at h
    · cases l' <;> cases h' <;> simp only [cutStr, Option.some.injEq, Prod.mk.injEq] at h <;> rw [← h.2] <;> rfl
    · cases h
  · cases h
theorem buildA_men {p : Nat → Bool} {t : TypeId} {parts : List (Nat × V)} {v : V} (hp : ∀ x ∈ parts, x.2.men p = false) (h : buildA P t parts = some v) : v.men p = false := by
  unfold buildA at h
  split at h
  · split at h
    · split at h
      · rename_i hcs
        cases h
        exact mkAg_men (fillV_men (lits_men _ _) hp hcs)
      · cases h
    · cases h
  · cases h
theorem indexA_men {p : Nat → Bool} {t : TypeId} {x i : V} {c : Prop} {v : V} (hx : x.men p = false) (h : indexA P t x i = some (c, v)) : v.men p = false := by
  unfold indexA at h
  split at h
  · rename_i hcs _
    split at h
    · split at h
      · cases h
      · split at h
        · rename_i hv; cases h; exact partV_men (aggCells_men hx (by assumption)) hv
        · cases h
    · cases h
  · cases h
theorem opP_men {p : Nat → Bool} {op : Op} {ρ : Operand → V} {c : Prop} {v : V} (hρ : ∀ x, (ρ x).men p = false) (h : opP P op ρ = some (c, v)) : v.men p = false := by
  unfold opP at h
  split at h <;> try (cases h; done)
  · cases h; exact hρ _
  · cases h; exact hρ _
  · split at h
    · rename_i t _; cases h; cases t <;> exact hρ _
    · cases h
  · split at h
    · split at h
      · split at h
        · rename_i hcs
          cases h
          refine mkAg_men (fillV_men (lits_men _ _) (fun x hx => ?_) hcs)
          simp only [List.mem_map] at hx
          obtain ⟨y, _, rfl⟩ := hx
          exact hρ _
        · cases h
      · cases h
    · split at h
      · rename_i hb
        cases h
        refine buildA_men (fun x hx => ?_) hb
        simp only [List.mem_map] at hx
        obtain ⟨y, _, rfl⟩ := hx
        exact hρ _
      · cases h
    · cases h
  · rename_i x
    have := hρ x
    split at h <;> cases h <;> rename_i hv <;> rw [hv] at this <;> exact this
  · exact binV_men h
  · split at h
    · rename_i hv
      cases h
      unfold unV at hv
      split at hv <;> cases hv <;> rfl
    · cases h
  · split at h
    · cases h
      refine menL_of fun j x hj => ?_
      simp only [List.getElem?_map, Option.map_eq_some_iff] at hj
      obtain ⟨y, _, rfl⟩ := hj
      exact hρ _
    · cases h
  · split at h
    · split at h
      · cases h
      · exact sliceV_men (hρ _) h
    · split at h
      · exact sliceS_men h
      · cases h
  · rename_i t x f
    have := hρ x
    split at h
    · split at h
      · cases h
      · split at h <;> cases h <;> rename_i hv <;> rw [hv] at this <;> exact this
    · cases h
  · split at h
    · rename_i hcs
      split at h
      · split at h
        · cases h
        · split at h
          · rename_i hv; cases h; exact partV_men (aggCells_men (hρ _) hcs) hv
          · cases h
      · cases h
    · cases h
  · rename_i t x i
    have := hρ x
    split at h
    · split at h
      · cases h
      · unfold idxV at h
        split at h
        · split at h
          · cases h; rfl
          · rename_i hv
            rw [hv] at this
            split at h
            · cases h; exact this
            · cases h
          · cases h
        · cases h
    · cases h
  · split at h
    · split at h
      · cases h; rfl
      · cases h
    · exact indexA_men (hρ _) h
  · rename_i t i
    have := hρ t
    split at h
    · rename_i hv
      rw [hv] at this
      split at h
      · rename_i hi; cases h; exact menL_at this hi
      · cases h
    · cases h
  · split at h
    · rename_i hv
      cases h
      unfold convV at hv
      split at hv
      · split at hv <;> cases hv; rfl
      · cases hv
    · cases h
  · have mm : ∀ {b : Bool} {l : List V} {v : V}, minmax b l = some v → v.men p = false := by
      intro b l v h
      unfold minmax at h
      split at h
      · split at h <;> cases h; rfl
      · cases h
    split at h
    · split at h
      · rename_i hv; cases h; exact mm hv
      · cases h
    · split at h
      · rename_i hv; cases h; exact mm hv
      · cases h
    · cases h
theorem loadV_men {p : Nat → Bool} {t : TypeId} {cells : List V} {off : Nat} {v : V} (h : V.menL p cells = false) (hl : loadV P t cells off = some v) : v.men p = false := by
  unfold loadV at hl
  split at hl
  · exact partV_men h hl
  · exact menL_at h hl
  · cases hl
theorem opR_men {p : Nat → Bool} {op : Op} {ρ : Operand → V} {e : Env} {s : Store} {c : Prop} {v : V} (hf : Fresh p e s) (hρ : ∀ x, (ρ x).men p = false) (h : opR P op ρ s = some (c, v)) : v.men p = false := by
  unfold opR at h
  split at h <;> try (cases h; done)
  · split at h
    · split at h
      · rename_i hb
        split at h
        · rename_i hv; cases h; exact loadV_men (hf.sto _ _ hb).2 hv
        · cases h
      · split at h
        · rename_i hv; cases h; exact loadV_men (menL_map_d p _) hv
        · cases h
      · cases h
    · split at h
      · rename_i hv; cases h; exact loadV_men (menL_map_d p _) hv
      · cases h
    · cases h
  · split at h
    · split at h
      · split at h
        · split at h
          · cases h; rfl
          · cases h
        · cases h
      · split at h
        · cases h; rfl
        · cases h
    · cases h
  · -- lookup
    have lk : ∀ {ok : Bool} {v : V} {b : Bool}, v.men p = false → (lookR ok v b).men p = false := by
      intro ok v b hv
      unfold lookR
      cases ok <;> simp [V.men, V.menL, hv]
    have zm : ∀ {t : TypeId} {z : V}, zeroV P t = some z → z.men p = false := by
      intro t z hz
      unfold zeroV at hz
      split at hz
      · split at hz
        · split at hz
          · cases hz; exact mkAg_men (lits_men p _)
          · cases hz
        · split at hz
          · cases hz; rfl
          · cases hz
        · cases hz
      · cases hz
    unfold lookV at h
    split at h
    · split at h
      · rename_i hz
        split at h
        · split at h
          · rename_i hg
            split at h
            · split at h
              · rename_i hv; cases h; exact lk (menL_at (hf.sto _ _ hg).2 hv)
              · cases h
            · cases h; exact lk (zm hz)
            · cases h
          · cases h
        · cases h; exact lk (zm hz)
        · cases h
      · cases h
    · cases h
theorem opR_grow {p : Nat → Bool} {op : Op} {ρ : Operand → V} {s s' : Store} {c : Prop} {v : V} (hρ : ∀ x, (ρ x).men p = false) (hs : ∀ i, p i = false → getB s' i = getB s i) (h : opR P op ρ s = some (c, v)) : opR P op ρ s' = some (c, v) := by
  unfold opR at h ⊢
  split at h <;> try (cases h; done)
  · rename_i t x
    have hx := hρ x
    split at h
    · rename_i hv
      rw [hv] at hx
      rw [hs _ (by simpa [V.men] using hx)]
      exact h
    · rename_i hv

      exact h
    · cases h
  · split at h
    · rename_i x t _ _
      have hx := hρ x
      split at h
      · rename_i id hv
        rw [hv] at hx
        rw [hs _ (by simpa [V.men] using hx)]
        exact h
      · exact h
    · cases h
  · rename_i t x k ok
    have hx := hρ x
    generalize ρ x = u at hx h ⊢
    unfold lookV at h ⊢
    split at h
    · split at h
      · split at h
        · rw [hs _ (by simpa [V.men] using hx)]; exact h
        · exact h
        · exact h
      · cases h
    · cases h
end Go.Fw
end
section
namespace Go.Fw
variable {P : Program}

section
variable {w0 : World} {L0 : Par} {X : Nat → Prop} {m : Nat → Option Nat} {e : Env} {s : Store} {a : Act} {w : World}
theorem Rel.disj (h : Rel w0 L0 X m e s a w) {b : Nat} (hb : X b) : b < w.heap.size ∧ ¬ Own m s b := by
  refine ⟨Nat.lt_of_lt_of_le (h.old b hb).1 h.ext.size, fun ho => ?_⟩
  rcases h.liv b ho with q | q
  · exact (h.old b hb).2 q
  · have := (h.old b hb).1; omega
end

def frz (s : Store) (id sz off len : Nat) : V := match getB s id with
  | some (.data n rows) => if n = sz ∧ off + len ≤ rows.length then .d (.sl false ((rows.drop off).take len)) else .top
  | _ => .top
def frzP (s : Store) (id row col : Nat) : V := match getB s id with
  | some (.vals cells) => match toDs cells with
    | some ds => if row = 0 then .d (.ip ds col) else .top
    | none => .top
  | _ => .top
mutual
/-- a result: the blocks in 'keep' are numbered anew, others are only read from now on -/
def V.fin (keep : List Nat) (s : Store) : V → V
  | .top => .top
  | .d x => .d x
  | .rs id sz off len => match keep.idxOf? id with | some j => .rs j sz off len | none => frz s id sz off len
  | .pt id sz row col => match keep.idxOf? id with | some j => .pt j sz row col | none => frzP s id row col
  | .mp id => match keep.idxOf? id with | some j => .mp j | none => .top
  | .fn f capt => .fn f (V.finL keep s capt)
  | .ag cells => mkAg (V.finL keep s cells)
  | .tup vs => .tup (V.finL keep s vs)
def V.finL (keep : List Nat) (s : Store) : List V → List V
  | [] => []
  | v :: r => v.fin keep s :: V.finL keep s r
end
def Blk.fin (keep : List Nat) (s : Store) : Blk → Blk
  | .vals cells => .vals (V.finL keep s cells)
  | .mp ks vs => .mp ks (V.finL keep s vs)
  | .data sz rows => .data sz rows
def finS (keep : List Nat) (s : Store) : List Nat → Nat → Store
  | [], _ => []
  | id :: r, j => (match getB s id with | some b => [(j, b.fin keep s)] | none => []) ++ finS keep s r (j + 1)

theorem finL_len (keep : List Nat) (s : Store) : ∀ l : List V, (V.finL keep s l).length = l.length := by
  intro l
  induction l with
  | nil => rfl
  | cons v r ih => simp [V.finL, ih]
theorem finL_at (keep : List Nat) (s : Store) : ∀ (l : List V) (j : Nat), (V.finL keep s l)[j]? = (l[j]?).map (V.fin keep s) := by
  intro l
  induction l with
  | nil => intro j; simp [V.finL]
  | cons v r ih => intro j; cases j <;> simp [V.finL, ih]
theorem getB_finS (keep : List Nat) (s : Store) : ∀ (l : List Nat) (j i : Nat), getB (finS keep s l j) i = if j ≤ i then (l[i - j]?).bind fun id => (getB s id).map (Blk.fin keep s) else none := by
  intro l
  induction l with
  | nil => intro j i; simp [finS, getB]
  | cons id r ih =>
    intro j i
    simp only [finS]
    have ga : ∀ (a b : Store), getB (a ++ b) i = (getB a i).or (getB b i) := by
      intro a
      induction a with
      | nil => intro b; simp [getB]
      | cons x a ih =>
        intro b
        obtain ⟨k, c⟩ := x
        simp only [List.cons_append, getB]
        split
        · rfl
        · exact ih b
    rw [ga, ih]
    by_cases e : i = j
    · subst e
      rw [if_neg (show ¬ i + 1 ≤ i by omega), if_pos (Nat.le_refl _), Nat.sub_self]
      cases hg : getB s id with
      | none => simp [getB, hg]
      | some b => simp [getB, hg]
    · have e1 : getB (match getB s id with | some b => [(j, b.fin keep s)] | none => []) i = none := by
        cases getB s id <;> simp [getB, Ne.symm e]
      rw [e1]
      simp only [Option.none_or]
      by_cases h : j ≤ i
      · have h' : j + 1 ≤ i := by omega
        rw [if_pos h, if_pos h', show i - j = (i - (j + 1)) + 1 by omega]
        simp
      · rw [if_neg h, if_neg (by omega)]

def finM (keep : List Nat) (m : Nat → Option Nat) (j : Nat) : Option Nat := (keep[j]?).bind m
section
variable {w0 : World} {L0 : Par} {X : Nat → Prop} {m : Nat → Option Nat} {e : Env} {s : Store} {a : Act} {w : World}
theorem idx_get {keep : List Nat} {id j : Nat} (h : keep.idxOf? id = some j) : keep[j]? = some id := by
  have := List.findIdx?_eq_some_iff_getElem.1 h
  obtain ⟨h1, h2, _⟩ := this
  rw [List.getElem?_eq_getElem h1]
  simpa using h2
theorem own_fin {keep : List Nat} {b : Nat} (h : Own (finM keep m) (finS keep s keep 0) b) : ∃ id blk, id ∈ keep ∧ getB s id = some blk ∧ m id = some b := by
  obtain ⟨j, blk, h1, h2⟩ := h
  rw [getB_finS] at h1
  simp only [Nat.zero_le, if_true, Nat.sub_zero] at h1
  obtain ⟨id, g1, g2⟩ := Option.bind_eq_some_iff.1 h1
  obtain ⟨b0, g3, g4⟩ := Option.map_eq_some_iff.1 g2
  simp only [finM, g1, Option.bind_some] at h2
  exact ⟨id, b0, List.mem_of_getElem? g1, g3, h2⟩
theorem live_fin {keep : List Nat} {b : Nat} (h : Live X (finM keep m) (finS keep s keep 0) b) : Live X m s b := h.imp_right fun h => by
  obtain ⟨id, blk, _, h2, h3⟩ := own_fin h
  exact ⟨id, blk, h2, h3⟩
theorem not_live (h : Rel w0 L0 X m e s a w) {keep : List Nat} {id b : Nat} {blk : Blk} (hid : getB s id = some blk) (hm : m id = some b) (hk : id ∉ keep) : ¬ Live X (finM keep m) (finS keep s keep 0) b := by
  rintro (hl | hl)
  · exact (h.disj hl).2 ⟨id, blk, hid, hm⟩
  · obtain ⟨i, c, h1, h2, h3⟩ := own_fin hl
    have := h.sto.inj i id b h3 hm (by rw [h2]; rfl) (by rw [hid]; rfl)
    subst this
    exact hk h1
theorem fin_rel (h : Rel w0 L0 X m e s a w) {keep : List Nat} {x : V} {v : Value} (hx : VRel w (Live X m s) m x v) : VRel w (Live X (finM keep m) (finS keep s keep 0)) (finM keep m) (x.fin keep s) v := by
  have hD : ∀ {x : D} {v : Value}, DRel w (Live X m s) x v → DRel w (Live X (finM keep m) (finS keep s keep 0)) x v := fun hx => hx.mono (fun _ _ _ q => q) (fun b hl => .inl (live_fin hl))
  have hkeep : ∀ {id j b : Nat}, keep.idxOf? id = some j → m id = some b → finM keep m j = some b := fun h1 h2 => by simp [finM, idx_get h1, h2]
  induction hx with
  | top v => exact .top v
  | d hx => exact .d (hD hx)
  | rsE id sz =>
    simp only [V.fin]
    split
    · exact .rsE _ sz
    · unfold frz
      split
      · split
        · exact .d (by simpa using DRel.slE false none 0 (by simp))
        · exact .top _
      · exact .top _
  | rs id sz off len cap b cs ty fr hm hc hxl hh hs =>
    simp only [V.fin]
    split
    · rename_i j hj; exact .rs j sz off len cap b cs ty fr (hkeep hj hm) hc hxl hh hs
    · rename_i hj
      have hnk : id ∉ keep := by
        intro hmem
        have := List.idxOf?_eq_none_iff.1 hj
        exact this hmem
      unfold frz
      split
      · rename_i n rows hg
        split
        · rename_i hcond
          obtain ⟨rfl, hle⟩ := hcond
          rcases h.sto.blk id _ hg with ⟨b', hm', cs', ty', fr', hh', hfr', hsz', hlen', hall⟩ | ⟨hn, _⟩
          · rw [hm] at hm'; cases hm'
            rw [hh] at hh'; cases hh'
            have hl : ((rows.drop off).take len).length = len := by simp; omega
            have hrow : ∀ (i : Nat) (r : List D), ((rows.drop off).take len)[i]? = some r → rows[off + i]? = some r := by
              intro i r h1
              rw [List.getElem?_take] at h1
              split at h1
              · rwa [List.getElem?_drop] at h1
              · cases h1
            have q := VRel.d (m := finM keep m) (DRel.sl (w := w) (L := Live X (finM keep m) (finS keep s keep 0)) false ((rows.drop off).take len) b (off * n) cap n (fun i j => (cs[(off + i) * n + j]?).getD undef) (fun _ _ _ _ _ _ => not_live h hg hm hnk) (by rw [hl]; exact hc)
              (by rw [hl]; exact hxl) (fun r hr => hlen' r (List.mem_of_mem_drop (List.mem_of_mem_take hr)))
              (fun i j r x h1 h2 => by
                obtain ⟨v, b1, b2, b3⟩ := hall (off + i) j r x (hrow i r h1) h2
                rw [cell_of hh, show off * n + i * n + j = (off + i) * n + j by rw [Nat.add_mul], b1]; rfl)
              (fun i j r x h1 h2 => by obtain ⟨v, b1, b2, b3⟩ := hall (off + i) j r x (hrow i r h1) h2; rw [b1]; exact b2)
              (fun i j r x h1 h2 => by obtain ⟨v, b1, b2, b3⟩ := hall (off + i) j r x (hrow i r h1) h2; rw [b1]; exact hD b3))
            rw [hl] at q
            exact q
          · rw [hm] at hn; cases hn
        · exact .top _
      · exact .top _
  | pt id sz row col b hm =>
    simp only [V.fin]
    split
    · rename_i j hj; exact .pt j sz row col b (hkeep hj hm)
    · rename_i hj
      have hnk : id ∉ keep := fun hmem => List.idxOf?_eq_none_iff.1 hj hmem
      unfold frzP
      split
      · rename_i cells hg
        split
        · rename_i ds hds
          split
          · rename_i h0
            subst h0
            rcases h.sto.blk id _ hg with ⟨b', hm', vs, ex, ty, fr, hh, hfr, hone, hall⟩ | ⟨hn, _, hn'⟩
            · rw [hm] at hm'; cases hm'
              have hd := toDs_rel hds hall
              have q := VRel.d (m := finM keep m) (DRel.ip (w := w) (L := Live X (finM keep m) (finS keep s keep 0)) ds b 0 col (fun j => (vs[j]?).getD undef) (fun _ _ _ => not_live h hg hm hnk)
                (fun j x hj => by obtain ⟨v, b1, b2⟩ := hd.get hj; rw [cell_of hh, Nat.zero_add, List.getElem?_toArray, List.getElem?_append_left (List.getElem?_eq_some_iff.1 b1).1]; simp [b1])
                (fun j x hj => by obtain ⟨v, b1, b2⟩ := hd.get hj; rw [b1]; exact hone v (List.mem_of_getElem? b1))
                (fun j x hj => by obtain ⟨v, b1, b2⟩ := hd.get hj; rw [b1]; exact hD b2))
              simpa using q
            · cases hn'
          · exact .top _
        · exact .top _
      · exact .top _
  | mp id b hm =>
    simp only [V.fin]
    split
    · rename_i j hj; exact .mp j b (hkeep hj hm)
    · exact .top _
  | fn f capt vs hl hr ih =>
    refine .fn f _ vs (hl.trans (finL_len _ _ _).symm) fun j x v h1 h2 => ?_
    rw [finL_at] at h1
    obtain ⟨y, hy, rfl⟩ := Option.map_eq_some_iff.1 h1
    exact ih j y v hy h2
  | ag cells vs hl ho hr ih =>
    refine mkAg_rel ho ⟨hl.trans (finL_len _ _ _).symm, fun j x v h1 h2 => ?_⟩
    rw [finL_at] at h1
    obtain ⟨y, hy, rfl⟩ := Option.map_eq_some_iff.1 h1
    exact ih j y v hy h2
  | tup cells vs hl hr ih =>
    refine .tup _ vs (hl.trans (finL_len _ _ _).symm) fun j x v h1 h2 => ?_
    rw [finL_at] at h1
    obtain ⟨y, hy, rfl⟩ := Option.map_eq_some_iff.1 h1
    exact ih j y v hy h2
end

/-! blocks that come between -/
theorem frz_grow {p : Nat → Bool} {s s' : Store} (hs : ∀ i, p i = false → getB s' i = getB s i) (x : V) (h : x.men p = false) : x.fin [] s' = x.fin [] s := by
  induction x using V.rec (motive_2 := fun l => V.menL p l = false → V.finL [] s' l = V.finL [] s l) with
  | rs id sz off len => simp only [V.men] at h; simp only [V.fin, List.idxOf?_nil, frz, hs id h]
  | pt id sz row col => simp only [V.men] at h; simp only [V.fin, List.idxOf?_nil, frzP, hs id h]
  | fn f capt ih => simp only [V.men] at h; simp only [V.fin, ih h]
  | ag cells ih => simp only [V.men] at h; simp only [V.fin, ih h]
  | tup vs ih => simp only [V.men] at h; simp only [V.fin, ih h]
  | nil => rfl
  | cons v r ih1 ih2 =>
    rename_i h
    simp only [V.menL, Bool.or_eq_false_iff] at h
    simp only [V.finL, ih1 h.1, ih2 h.2]
  | _ => rfl
theorem frzL_grow {p : Nat → Bool} {s s' : Store} (hs : ∀ i, p i = false → getB s' i = getB s i) (l : List V) (h : V.menL p l = false) : V.finL [] s' l = V.finL [] s l := by
  induction l with
  | nil => rfl
  | cons v r ih =>
    simp only [V.menL, Bool.or_eq_false_iff] at h
    simp only [V.finL, frz_grow hs v h.1, ih h.2]
end Go.Fw
end
section
namespace Go.Fw
variable {P : Program}

/-- a function with a Go body -/
def goFn (P : Program) (f : FuncId) : Bool := match P.funcs[f]? with
  | some fn => fn.name != "runtime.NumGoroutine" && fn.body.isSome
  | none => false
/-- A FUNCTION's ANSWER, of what names no block: the result, and the blocks that it leads to (numbered from 0); all that was stays as it was. -/
def Snd (P : Program) (f : FuncId) (args : List V) (r : V) (τ : Store) : Prop := goFn P f = true ∧
  ∀ (w : World) (X : Nat → Prop) (vs : List Value), (∀ b, X b → b < w.heap.size) → All2 (VRel w X (fun _ => none)) args vs →
    Calls P f vs.toArray w fun x w' => ∃ v m', x = .returned v ∧ Ext (fun _ => False) w w' ∧ VRel w' (Live X m' τ) m' r v ∧ SRel w' X m' τ ∧ ∀ b, Own m' τ b → w.heap.size ≤ b

/-! blocks of a call, numbered anew -/
mutual
def V.shift (k : Nat) : V → V
  | .top => .top
  | .d x => .d x
  | .rs id sz off len => .rs (k + id) sz off len
  | .pt id sz row col => .pt (k + id) sz row col
  | .mp id => .mp (k + id)
  | .fn f capt => .fn f (V.shiftL k capt)
  | .ag cells => .ag (V.shiftL k cells)
  | .tup vs => .tup (V.shiftL k vs)
def V.shiftL (k : Nat) : List V → List V
  | [] => []
  | v :: r => v.shift k :: V.shiftL k r
end
def Blk.shift (k : Nat) : Blk → Blk
  | .vals cells => .vals (V.shiftL k cells)
  | .mp ks vs => .mp ks (V.shiftL k vs)
  | .data sz rows => .data sz rows
def addS (s : Store) (k : Nat) : Store → Store
  | [] => s
  | (i, b) :: r => putB (addS s k r) (k + i) (b.shift k)
def big (i : Nat) : Bool := decide (100 ≤ i)
def okB : Blk → Bool
  | .vals cells => !V.menL big cells
  | .mp _ vs => !V.menL big vs
  | .data _ _ => true
def okT : Store → Bool
  | [] => true
  | (i, b) :: r => !big i && okB b && okT r
def okIds (r : V) (τ : Store) : Bool := !r.men big && okT τ

theorem shiftL_len (k : Nat) : ∀ l : List V, (V.shiftL k l).length = l.length := by
  intro l
  induction l with
  | nil => rfl
  | cons v r ih => simp [V.shiftL, ih]
theorem shiftL_at (k : Nat) : ∀ (l : List V) (j : Nat), (V.shiftL k l)[j]? = (l[j]?).map (V.shift k) := by
  intro l
  induction l with
  | nil => intro j; simp [V.shiftL]
  | cons v r ih => intro j; cases j <;> simp [V.shiftL, ih]
def joinM (m m' : Nat → Option Nat) (q : Nat) : Nat → Option Nat := fun i => if i / 100 = q then m' (i % 100) else m i
theorem sh_div {q j : Nat} (h : j < 100) : (100 * q + j) / 100 = q ∧ (100 * q + j) % 100 = j := by omega
theorem VRel.shift {w : World} {L L' : Nat → Prop} {m m' : Nat → Option Nat} (q : Nat) (hL : ∀ b, L' b → L b) {x : V} {v : Value} (hx : x.men big = false) (h : VRel w L m' x v) : VRel w L' (joinM m m' q) (x.shift (100 * q)) v := by
  have hid : ∀ id, big id = false → joinM m m' q (100 * q + id) = m' id := fun id hb => by
    have : id < 100 := by simpa [big] using hb
    obtain ⟨e1, e2⟩ := sh_div (q := q) this
    simp [joinM, e1, e2]
  have hD : ∀ {x : D} {v : Value}, DRel w L x v → DRel w L' x v := fun h => h.mono (fun _ _ _ q => q) (fun b hl => .inl (hL b hl))
  induction h with
  | top v => exact .top v
  | d h => exact .d (hD h)
  | rsE id sz => exact .rsE _ sz
  | rs id sz off len cap b cs ty fr hm hc hxl hh hs => exact .rs _ sz off len cap b cs ty fr ((hid id (by simpa [V.men] using hx)).trans hm) hc hxl hh hs
  | pt id sz row col b hm => exact .pt _ sz row col b ((hid id (by simpa [V.men] using hx)).trans hm)
  | mp id b hm => exact .mp _ b ((hid id (by simpa [V.men] using hx)).trans hm)
  | fn f capt vs hl hr ih =>
    refine .fn f _ vs (hl.trans (shiftL_len _ _).symm) fun j x v h1 h2 => ?_
    rw [shiftL_at] at h1
    obtain ⟨y, hy, rfl⟩ := Option.map_eq_some_iff.1 h1
    exact ih j y v hy h2 (menL_at (by simpa [V.men] using hx) hy)
  | ag cells vs hl ho hr ih =>
    refine .ag _ vs (hl.trans (shiftL_len _ _).symm) ho fun j x v h1 h2 => ?_
    rw [shiftL_at] at h1
    obtain ⟨y, hy, rfl⟩ := Option.map_eq_some_iff.1 h1
    exact ih j y v hy h2 (menL_at (by simpa [V.men] using hx) hy)
  | tup cells vs hl hr ih =>
    refine .tup _ vs (hl.trans (shiftL_len _ _).symm) fun j x v h1 h2 => ?_
    rw [shiftL_at] at h1
    obtain ⟨y, hy, rfl⟩ := Option.map_eq_some_iff.1 h1
    exact ih j y v hy h2 (menL_at (by simpa [V.men] using hx) hy)
theorem shift_men {p : Nat → Bool} {k : Nat} (hp : ∀ id, big id = false → p (k + id) = false) (x : V) (h : x.men big = false) : (x.shift k).men p = false := by
  induction x using V.rec (motive_2 := fun l => V.menL big l = false → V.menL p (V.shiftL k l) = false) <;> simp_all [V.shift, V.shiftL, V.men, V.menL]
theorem okT_at {τ : Store} (h : okT τ = true) {i : Nat} {b : Blk} (hi : getB τ i = some b) : i < 100 ∧ okB b = true := by
  induction τ with
  | nil => cases hi
  | cons x r ih =>
    obtain ⟨j, c⟩ := x
    simp only [okT, Bool.and_eq_true] at h
    simp only [getB] at hi
    split at hi
    · rename_i e; subst e; cases hi
      exact ⟨by have := h.1.1; simp [big] at this; omega, h.1.2⟩
    · exact ih h.2 hi
theorem getB_addS (s : Store) (q : Nat) {τ : Store} (h : okT τ = true) (i : Nat) : getB (addS s (100 * q) τ) i = if i / 100 = q ∧ (getB τ (i % 100)).isSome = true then (getB τ (i % 100)).map (Blk.shift (100 * q)) else getB s i := by
  induction τ with
  | nil => simp [addS, getB]
  | cons x r ih =>
    obtain ⟨j, c⟩ := x
    simp only [okT, Bool.and_eq_true] at h
    have hj : j < 100 := by have := h.1.1; simp [big] at this; omega
    simp only [addS, getB_putB, ih h.2, getB]
    by_cases e : i = 100 * q + j
    · subst e
      obtain ⟨e1, e2⟩ := sh_div (q := q) hj
      simp [e1, e2]
    · rw [if_neg e]
      by_cases e1 : i / 100 = q
      · have : j ≠ i % 100 := by omega
        simp [e1, this]
      · simp [e1]

def callOf (op : Op) (ρ : Operand → V) : Option (FuncId × List V) := match op with
  | .call c => match c.callee with
    | .value f => match ρ f with
      | .fn g capt => some (g, c.args.toList.map ρ ++ capt)
      | _ => none
    | _ => none
  | _ => none
theorem callOf_congr {op : Op} {ρ ρ' : Operand → V} (h : ∀ x ∈ op.operands, ρ x = ρ' x) : callOf op ρ = callOf op ρ' := by
  cases op <;> simp only [callOf] <;> simp only [Op.operands] at h
  case call c =>
    split
    · rename_i f hf
      rw [h f (by simp [Call.operands, hf]), map_congr_ops (l := c.args.toList) (f := ρ) (g := ρ') fun x hx => h x (by simp [Call.operands]; exact .inr (by simpa using hx))]
    · rfl

/-- A STEP OF AN OPERATION THAT MAKES OR READS: the value, and the blocks more. -/
def Loc (P : Program) (o : Oper) (ρ : Operand → V) (s : Store) (v : V) (s' : Store) : Prop := match cls o.op with
  | .p => ∃ c, opP P o.op ρ = some (c, v) ∧ c ∧ s' = s
  | .r => ∃ c, opR P o.op ρ s = some (c, v) ∧ c ∧ s' = s
  | .a => ∃ c blk, o.dst.isSome = true ∧ opA P o.op ρ (newId o.dst) = some (c, v, blk) ∧ c ∧ s' = putB s (newId o.dst) blk
  | .c => ∃ g args1 args r τ, o.dst.isSome = true ∧ callOf o.op ρ = some (g, args1) ∧ (args = args1 ∨ (args = V.finL [] s args1 ∧ ∃ x, r = .d (.lit x) ∧ τ = [])) ∧ V.menL (fun _ => true) args = false ∧ Snd P g args r τ ∧ okIds r τ = true ∧ v = r.shift (newId o.dst) ∧ s' = addS s (newId o.dst) τ
  | _ => False
def Do (P : Program) (o : Oper) (E E' : St) : Prop := match cls o.op with
  | .w => ∃ c s', opW P o.op (look E.e) E.s = some (c, s') ∧ c ∧ E' = ⟨put E.e o.dst vundef, s'⟩
  | .x => ∃ cl, o.op = .call cl ∧ cl.callee = .builtin .append ∧ ∃ k c sz n blk, ((∃ all, opAppend P cl (look E.e) E.s = some (k, c, sz, all) ∧ n = all.length ∧ blk = .data sz all) ∨ ∃ all, opAppendV P cl (look E.e) E.s = some (k, c, sz, n, all) ∧ blk = .vals (V.fgtL (hitO k (newId o.dst)) all)) ∧ c ∧
      E' = ⟨put (V.fgtL (hitO k (newId o.dst)) E.e) o.dst (.rs (newId o.dst) sz 0 n), putB (fgtS (hitO k (newId o.dst)) E.s) (newId o.dst) blk⟩
  | _ => ∃ v s', Loc P o (look E.e) E.s v s' ∧ E' = ⟨put E.e o.dst v, s'⟩
/-- does it make blocks? -/
def makes (o : Oper) : Bool := match cls o.op with | .a | .c => true | _ => false
def mine (o : Oper) (i : Nat) : Bool := decide (i / 100 = newId o.dst / 100)

section
variable {w0 : World} {L0 : Par} {X : Nat → Prop} {m : Nat → Option Nat} {e : Env} {s : Store} {a : Act} {w : World}
theorem newId_some {dst : Option Nat} (h : dst.isSome = true) : ∃ q, q ≠ 0 ∧ newId dst = 100 * q := by
  obtain ⟨k, rfl⟩ := Option.isSome_iff_exists.1 h
  exact ⟨k + 1, by omega, rfl⟩
theorem newId_ge (dst : Option Nat) : 90 ≤ newId dst := by
  cases dst <;> simp only [newId] <;> omega
theorem Fresh.sub {p p' : Nat → Bool} (h : Fresh p e s) (hp : ∀ i, p i = false → p' i = false) : Fresh p' e s := by
  have mm : ∀ x : V, x.men p = false → x.men p' = false := fun x => by
    induction x using V.rec (motive_2 := fun l => V.menL p l = false → V.menL p' l = false) <;> simp_all [V.men, V.menL]
  have ml : ∀ l : List V, V.menL p l = false → V.menL p' l = false := fun l h => menL_of fun j x hj => mm x (menL_at h hj)
  refine ⟨ml _ h.env, fun i blk hi => ⟨hp _ (h.sto i blk hi).1, ?_⟩⟩
  have := (h.sto i blk hi).2
  cases blk with
  | vals cells => exact ml _ this
  | mp ks vs => exact ml _ this
  | data sz rows => trivial

/-- WHAT A CALL HAS MADE IS THE CALLER's. -/
theorem Rel.called (h : Rel w0 L0 X m e s a w) {q : Nat} (hq0 : q ≠ 0) (hf : Fresh (fun i => decide (i / 100 = q)) e s) {w' : World} {m' : Nat → Option Nat} {r : V} {v : Value} {τ : Store} (hx : Ext (fun _ => False) w w') (hr : VRel w' (Live (Live X m s) m' τ) m' r v) (hs : SRel w' (Live X m s) m' τ)
    (hn : ∀ b, Own m' τ b → w.heap.size ≤ b) (hk : okIds r τ = true) (dst : Option Nat) : Rel w0 L0 X (joinM m m' q) (Fw.put e dst (r.shift (100 * q))) (addS s (100 * q) τ) (a.put dst v) w' := by
  simp only [okIds, Bool.and_eq_true, Bool.not_eq_true'] at hk
  obtain ⟨hk1, hk2⟩ := hk
  have hm : ∀ i, (fun i => decide (i / 100 = q)) i = false → joinM m m' q i = m i := fun i hi => by
    have : i / 100 ≠ q := by simpa using hi
    simp [joinM, this]
  have hnone : ∀ i, i / 100 = q → getB s i = none := fun i hi => by
    cases hg : getB s i with
    | none => rfl
    | some blk => have := (hf.sto i blk hg).1; simp [hi] at this
  have hget : ∀ i blk, getB (addS s (100 * q) τ) i = some blk → (i / 100 = q ∧ ∃ b0, getB τ (i % 100) = some b0 ∧ blk = b0.shift (100 * q)) ∨ (i / 100 ≠ q ∧ getB s i = some blk) := by
    intro i blk hg
    rw [getB_addS _ _ hk2] at hg
    split at hg
    · rename_i hc
      obtain ⟨b0, h1, h2⟩ := Option.map_eq_some_iff.1 hg
      exact .inl ⟨hc.1, b0, h1, h2.symm⟩
    · by_cases hi : i / 100 = q
      · rw [hnone i hi] at hg; cases hg
      · exact .inr ⟨hi, hg⟩
  have hown : ∀ b, Own (joinM m m' q) (addS s (100 * q) τ) b → Own m s b ∨ Own m' τ b := by
    rintro b ⟨i, blk, h1, h2⟩
    rcases hget i blk h1 with ⟨e1, b0, e2, _⟩ | ⟨e1, e2⟩
    · simp only [joinM, if_pos e1] at h2; exact .inr ⟨_, b0, e2, h2⟩
    · simp only [joinM, if_neg e1] at h2; exact .inl ⟨i, blk, e2, h2⟩
  have hL1 : ∀ b, Live X (joinM m m' q) (addS s (100 * q) τ) b → Live (Live X m s) m' τ b := by
    rintro b (hl | hl)
    · exact .inl (.inl hl)
    · exact (hown b hl).imp .inr id
  have hL2 : ∀ b, Live X (joinM m m' q) (addS s (100 * q) τ) b → Live X m s b ∨ w.heap.size ≤ b := by
    intro b hl
    rcases hL1 b hl with hl | hl
    · exact .inl hl
    · exact .inr (hn b hl)
  have hck : CellsKept (Live X m s) w w' := fun a v _ hc => by
    have hlt := World.block_lt_of_cell? w a hc
    have := hx.block a.block hlt (fun f => f)
    simpa [World.cell?, this] using hc
  have hsz : SizesKept w w' := hx.sizes
  have h1 : Rel w0 L0 X (joinM m m' q) e (addS s (100 * q) τ) a w' := by
    refine ⟨⟨h.env.len, fun j x v q1 q2 => VRel.mono hck hsz hL2 hm (menL_at hf.env q1) (h.env.at_ j x v q1 q2)⟩, ⟨fun i blk hi => ?_, fun i j b q1 q2 q3 q4 => ?_⟩, h.dfr, ?_, fun b hl => ?_, h.old, fun i hi hs => ?_⟩
    · rcases hget i blk hi with ⟨e1, b0, e2, rfl⟩ | ⟨e1, e2⟩
      · have hok := (okT_at hk2 e2).2
        have ej : joinM m m' q i = m' (i % 100) := by simp [joinM, e1]
        rcases hs.blk _ _ e2 with ⟨b, r1, r2⟩ | ⟨r1, sz, rfl⟩
        · refine .inl ⟨b, ej.trans r1, ?_⟩
          cases b0 with
          | vals cells =>
            obtain ⟨vs, ex, ty, fr, t1, t2, t3, t4⟩ := r2
            refine ⟨vs, ex, ty, fr, t1, t2, t3, t4.len.trans (shiftL_len _ _).symm, fun j x v s1 s2 => ?_⟩
            rw [shiftL_at] at s1
            obtain ⟨y, hy, rfl⟩ := Option.map_eq_some_iff.1 s1
            exact VRel.shift q hL1 (menL_at (by simpa [okB] using hok) hy) (t4.at_ j y v hy s2)
          | mp ks vs =>
            obtain ⟨es, cl, t1, t2, t4⟩ := r2
            refine ⟨es, cl, t1, t2, t4.len.trans (shiftL_len _ _).symm, fun j x v s1 s2 => ?_⟩
            rw [shiftL_at] at s1
            obtain ⟨y, hy, rfl⟩ := Option.map_eq_some_iff.1 s1
            exact VRel.shift q hL1 (menL_at (by simpa [okB] using hok) hy) (t4.at_ j y v hy s2)
          | data sz rows =>
            obtain ⟨cs, ty, fr, t1, t2, t3, t4, t5⟩ := r2
            exact ⟨cs, ty, fr, t1, t2, t3, t4, fun i j r x s1 s2 => by
              obtain ⟨v, u1, u2, u3⟩ := t5 i j r x s1 s2
              exact ⟨v, u1, u2, u3.mono (fun _ _ _ q => q) (fun b hl => .inl (hL1 b hl))⟩⟩
        · exact .inr ⟨ej.trans r1, sz, rfl⟩
      · have ej : joinM m m' q i = m i := by simp [joinM, e1]
        rcases h.sto.blk i blk e2 with ⟨b, r1, r2⟩ | ⟨r1, r2⟩
        · exact .inl ⟨b, ej.trans r1, BRel.mono hck hsz hL2 hm (hx.block b r2.lt (fun f => f)) (hf.sto i blk e2).2 r2⟩
        · exact .inr ⟨ej.trans r1, r2⟩
    · obtain ⟨c1, hc1⟩ := Option.isSome_iff_exists.1 q3
      obtain ⟨c2, hc2⟩ := Option.isSome_iff_exists.1 q4
      rcases hget i c1 hc1 with ⟨e1, b0, e2, _⟩ | ⟨e1, e2⟩ <;> rcases hget j c2 hc2 with ⟨f1, b1, f2, _⟩ | ⟨f1, f2⟩
      · simp only [joinM, if_pos e1] at q1
        simp only [joinM, if_pos f1] at q2
        have := hs.inj _ _ b q1 q2 (by rw [e2]; rfl) (by rw [f2]; rfl)
        omega
      · simp only [joinM, if_pos e1] at q1
        simp only [joinM, if_neg f1] at q2
        have := hn b ⟨_, b0, e2, q1⟩
        have := h.m_lt f2 q2
        omega
      · simp only [joinM, if_neg e1] at q1
        simp only [joinM, if_pos f1] at q2
        have := hn b ⟨_, b1, f2, q2⟩
        have := h.m_lt e2 q1
        omega
      · simp only [joinM, if_neg e1] at q1
        simp only [joinM, if_neg f1] at q2
        exact h.sto.inj i j b q1 q2 (by rw [e2]; rfl) (by rw [f2]; rfl)
    · exact ⟨hx.os.trans h.ext.os, hx.tape.trans h.ext.tape, hx.output.trans h.ext.output, Nat.le_trans h.ext.size hx.size, fun b hb hl => by
        rw [hx.block b (Nat.lt_of_lt_of_le hb h.ext.size) (fun f => f)]; exact h.ext.block b hb hl, fun b cs ty fr hb => by
        obtain ⟨c1, h1, h2⟩ := h.ext.sizes b cs ty fr hb
        obtain ⟨c2, h3, h4⟩ := hsz b c1 ty fr h1
        exact ⟨c2, h3, h4.trans h2⟩⟩
    · rcases hown b hl with hl | hl
      · exact h.liv b hl
      · exact .inr (Nat.le_trans h.ext.size (hn b hl))
    · have e1 : i / 100 ≠ q := by omega
      obtain ⟨c, hc⟩ := Option.isSome_iff_exists.1 hs
      rcases hget i c hc with ⟨e2, _⟩ | ⟨_, e2⟩
      · exact absurd e2 e1
      · simp only [joinM, if_neg e1]
        exact h.par i hi (by rw [e2]; rfl)
  exact h1.put dst (VRel.shift q hL1 hk1 hr)
theorem Rel.live_lt (h : Rel w0 L0 X m e s a w) {b : Nat} (hb : Live X m s b) : b < w.heap.size := by
  rcases hb with hb | ⟨i, blk, h1, h2⟩
  · exact Nat.lt_of_lt_of_le (h.old b hb).1 h.ext.size
  · exact h.m_lt h1 h2
theorem pure_rel {L : Nat → Prop} {args : List V} {vs : List Value} (hm : V.menL (fun _ => true) args = false) (h : All2 (VRel w L m) args vs) : All2 (VRel w L (fun _ => none)) args vs :=
  ⟨h.len, fun j x v h1 h2 => VRel.mono (p := fun _ => true) (fun _ _ _ q => q) (fun _ cs _ _ q => ⟨cs, q, rfl⟩) (fun b hl => .inl hl) (fun i hi => by cases hi) (menL_at hm h1) (h.at_ j x v h1 h2)⟩
end
end Go.Fw
end
section
namespace Go.Fw
variable {P : Program}

def puts (s : Store) : Store → Store
  | [] => s
  | (i, b) :: r => putB (puts s r) i b

theorem getB_puts' (s t : Store) (i : Nat) : getB (puts s t) i = match getB t i with | some b => some b | none => getB s i := by
  induction t with
  | nil => rfl
  | cons x r ih =>
    obtain ⟨k, d⟩ := x
    simp only [puts, getB_putB, getB]
    by_cases e : i = k
    · simp [e]
    · rw [if_neg e, if_neg (Ne.symm e)]; exact ih

/-! numbers of blocks, changed -/
mutual
def V.ren (ρ : Nat → Nat) : V → V
  | .top => .top
  | .d x => .d x
  | .rs id sz off len => .rs (ρ id) sz off len
  | .pt id sz row col => .pt (ρ id) sz row col
  | .mp id => .mp (ρ id)
  | .fn f capt => .fn f (V.renL ρ capt)
  | .ag cells => .ag (V.renL ρ cells)
  | .tup vs => .tup (V.renL ρ vs)
def V.renL (ρ : Nat → Nat) : List V → List V
  | [] => []
  | v :: r => v.ren ρ :: V.renL ρ r
end
def Blk.ren (ρ : Nat → Nat) : Blk → Blk
  | .vals cells => .vals (V.renL ρ cells)
  | .mp ks vs => .mp ks (V.renL ρ vs)
  | .data sz rows => .data sz rows
def Blk.men (p : Nat → Bool) : Blk → Bool
  | .vals cells => V.menL p cells
  | .mp _ vs => V.menL p vs
  | .data _ _ => false
def renS (ρ : Nat → Nat) : Store → Store
  | [] => []
  | (i, b) :: r => (ρ i, b.ren ρ) :: renS ρ r
def dropS (p : Nat → Bool) : Store → Store
  | [] => []
  | (i, b) :: r => if p i then dropS p r else (i, b) :: dropS p r
/-- the call's numbers: those that it was given, and new ones -/
def rho (ids : List Nat) (base j : Nat) : Nat := if j < ids.length then ids.getD j 0 else base + j
/-- blocks that were given and are given up -/
def lost (ids : List Nat) (s1 : Store) (id : Nat) : Bool := (List.range ids.length).any fun j => ids.getD j 0 == id && (getB s1 j).isNone
def badId (n : Nat) (s1 : Store) (j : Nat) : Bool := decide (100 ≤ j) || (decide (j < n) && (getB s1 j).isNone)
def okW (ids : List Nat) (s0 : Store) (args : List V) (r : V) (s1 : Store) : Bool :=
  decide ids.Nodup && decide (ids.length ≤ 90) && (List.range ids.length).all (fun j => (getB s0 j).isSome) && s0.all (fun x => decide (x.1 < ids.length) && !x.2.men (fun j => decide (ids.length ≤ j))) &&
    !V.menL (fun j => decide (ids.length ≤ j)) args && !r.men (badId ids.length s1) && s1.all (fun x => decide (x.1 < 100) && !x.2.men (badId ids.length s1))

theorem renL_len (ρ : Nat → Nat) : ∀ l : List V, (V.renL ρ l).length = l.length := by
  intro l
  induction l with
  | nil => rfl
  | cons v r ih => simp [V.renL, ih]
theorem renL_at (ρ : Nat → Nat) : ∀ (l : List V) (j : Nat), (V.renL ρ l)[j]? = (l[j]?).map (V.ren ρ) := by
  intro l
  induction l with
  | nil => intro j; simp [V.renL]
  | cons v r ih => intro j; cases j <;> simp [V.renL, ih]
theorem getB_dropS (p : Nat → Bool) (s : Store) (i : Nat) : getB (dropS p s) i = if p i then none else getB s i := by
  induction s with
  | nil => simp [dropS, getB]
  | cons x r ih =>
    obtain ⟨k, d⟩ := x
    simp only [dropS]
    by_cases e : k = i
    · subst e
      cases hp : p k <;> simp [getB, hp, ih]
    · cases hp : p k <;> simp [getB, hp, ih, e]
theorem getB_renS {ρ : Nat → Nat} {t : Store} {i : Nat} {b : Blk} (h : getB (renS ρ t) i = some b) : ∃ j b0, getB t j = some b0 ∧ ρ j = i ∧ b = b0.ren ρ := by
  induction t with
  | nil => cases h
  | cons x r ih =>
    obtain ⟨k, d⟩ := x
    simp only [renS, getB] at h
    split at h
    · rename_i e; cases h; exact ⟨k, d, by simp [getB], e, rfl⟩
    · rename_i e
      obtain ⟨j, b0, h1, h2, h3⟩ := ih h
      refine ⟨j, b0, ?_, h2, h3⟩
      simp only [getB]
      rw [if_neg (fun e1 => e (by rw [e1, h2]))]
      exact h1
theorem renS_none {ρ : Nat → Nat} {t : Store} {i : Nat} (h : getB (renS ρ t) i = none) {j : Nat} (hj : (getB t j).isSome = true) : ρ j ≠ i := by
  induction t with
  | nil => cases hj
  | cons x r ih =>
    obtain ⟨k, d⟩ := x
    simp only [renS, getB] at h
    split at h
    · cases h
    · rename_i e
      simp only [getB] at hj
      split at hj
      · rename_i e1; subst e1; exact e
      · exact ih h hj
theorem all_get {s : Store} {f : Nat × Blk → Bool} (h : s.all f = true) {i : Nat} {b : Blk} (hi : getB s i = some b) : f (i, b) = true := by
  induction s with
  | nil => cases hi
  | cons x r ih =>
    obtain ⟨k, d⟩ := x
    simp only [List.all_cons, Bool.and_eq_true] at h
    simp only [getB] at hi
    split at hi
    · rename_i e; subst e; cases hi; exact h.1
    · exact ih h.2 hi
theorem getB_mem {s : Store} {i : Nat} {b : Blk} (hi : getB s i = some b) : (i, b) ∈ s := by
  induction s with
  | nil => cases hi
  | cons x r ih =>
    obtain ⟨k, d⟩ := x
    simp only [getB] at hi
    split at hi
    · rename_i e; subst e; cases hi; simp
    · exact List.mem_cons_of_mem _ (ih hi)

theorem VRel.ren {w : World} {L L' : Nat → Prop} {m m' : Nat → Option Nat} {ρ : Nat → Nat} {bad : Nat → Bool} (hL : ∀ b, L' b → L b) (hid : ∀ j, bad j = false → m' (ρ j) = m j) {x : V} {v : Value} (hx : x.men bad = false) (h : VRel w L m x v) : VRel w L' m' (x.ren ρ) v := by
  induction h with
  | top v => exact .top v
  | d h => exact .d (h.mono (fun _ _ _ q => q) (fun b hl => .inl (hL b hl)))
  | rsE id sz => exact .rsE _ sz
  | rs id sz off len cap b cs ty fr hm hc hxl hh hs => exact .rs _ sz off len cap b cs ty fr ((hid id (by simpa [V.men] using hx)).trans hm) hc hxl hh hs
  | pt id sz row col b hm => exact .pt _ sz row col b ((hid id (by simpa [V.men] using hx)).trans hm)
  | mp id b hm => exact .mp _ b ((hid id (by simpa [V.men] using hx)).trans hm)
  | fn f capt vs hl hr ih =>
    refine .fn f _ vs (hl.trans (renL_len _ _).symm) fun j x v h1 h2 => ?_
    rw [renL_at] at h1
    obtain ⟨y, hy, rfl⟩ := Option.map_eq_some_iff.1 h1
    exact ih j y v hy h2 (menL_at (by simpa [V.men] using hx) hy)
  | ag cells vs hl ho hr ih =>
    refine .ag _ vs (hl.trans (renL_len _ _).symm) ho fun j x v h1 h2 => ?_
    rw [renL_at] at h1
    obtain ⟨y, hy, rfl⟩ := Option.map_eq_some_iff.1 h1
    exact ih j y v hy h2 (menL_at (by simpa [V.men] using hx) hy)
  | tup cells vs hl hr ih =>
    refine .tup _ vs (hl.trans (renL_len _ _).symm) fun j x v h1 h2 => ?_
    rw [renL_at] at h1
    obtain ⟨y, hy, rfl⟩ := Option.map_eq_some_iff.1 h1
    exact ih j y v hy h2 (menL_at (by simpa [V.men] using hx) hy)
/-- and back -/
theorem VRel.unren {w : World} {L L' : Nat → Prop} {m m' : Nat → Option Nat} {ρ : Nat → Nat} {bad : Nat → Bool} (hL : ∀ b, L' b → L b) (hid : ∀ j, bad j = false → m' j = m (ρ j)) {x : V} {v : Value} (hx : x.men bad = false) (h : VRel w L m (x.ren ρ) v) : VRel w L' m' x v := by
  generalize hy : x.ren ρ = y at h
  induction h generalizing x with
  | top v => cases x <;> simp only [V.ren, reduceCtorEq] at hy; exact .top v
  | d h => cases x <;> simp only [V.ren, reduceCtorEq, V.d.injEq] at hy; subst hy; exact .d (h.mono (fun _ _ _ q => q) (fun b hl => .inl (hL b hl)))
  | rsE id sz => cases x <;> simp only [V.ren, reduceCtorEq, V.rs.injEq] at hy; obtain ⟨_, rfl, rfl, rfl⟩ := hy; exact .rsE _ _
  | rs id sz off len cap b cs ty fr hm hc hxl hh hs =>
    cases x <;> simp only [V.ren, reduceCtorEq, V.rs.injEq] at hy
    obtain ⟨rfl, rfl, rfl, rfl⟩ := hy
    exact .rs _ _ _ _ cap b cs ty fr ((hid _ (by simpa [V.men] using hx)).trans hm) hc hxl hh hs
  | pt id sz row col b hm =>
    cases x <;> simp only [V.ren, reduceCtorEq, V.pt.injEq] at hy
    obtain ⟨rfl, rfl, rfl, rfl⟩ := hy
    exact .pt _ _ _ _ b ((hid _ (by simpa [V.men] using hx)).trans hm)
  | mp id b hm =>
    cases x <;> simp only [V.ren, reduceCtorEq, V.mp.injEq] at hy
    subst hy
    exact .mp _ b ((hid _ (by simpa [V.men] using hx)).trans hm)
  | fn f capt vs hl hr ih =>
    cases x <;> simp only [V.ren, reduceCtorEq, V.fn.injEq] at hy
    obtain ⟨rfl, rfl⟩ := hy
    exact .fn _ _ vs (hl.trans (renL_len _ _)) fun j y v h1 h2 => ih j _ v (by rw [renL_at, h1]; rfl) h2 (menL_at (by simpa [V.men] using hx) h1) rfl
  | ag cells vs hl ho hr ih =>
    cases x <;> simp only [V.ren, reduceCtorEq, V.ag.injEq] at hy
    subst hy
    exact .ag _ vs (hl.trans (renL_len _ _)) ho fun j y v h1 h2 => ih j _ v (by rw [renL_at, h1]; rfl) h2 (menL_at (by simpa [V.men] using hx) h1) rfl
  | tup cells vs hl hr ih =>
    cases x <;> simp only [V.ren, reduceCtorEq, V.tup.injEq] at hy
    subst hy
    exact .tup _ vs (hl.trans (renL_len _ _)) fun j y v h1 h2 => ih j _ v (by rw [renL_at, h1]; rfl) h2 (menL_at (by simpa [V.men] using hx) h1) rfl
theorem BRel.ren {w : World} {L L' : Nat → Prop} {m m' : Nat → Option Nat} {ρ : Nat → Nat} {bad : Nat → Bool} (hL : ∀ b, L' b → L b) (hid : ∀ j, bad j = false → m' (ρ j) = m j) {x : Blk} {b : Nat} (hx : x.men bad = false) (h : BRel w L m b x) : BRel w L' m' b (x.ren ρ) := by
  cases x with
  | vals cells =>
    obtain ⟨vs, ex, ty, fr, t1, t2, t3, t4⟩ := h
    refine ⟨vs, ex, ty, fr, t1, t2, t3, t4.len.trans (renL_len _ _).symm, fun j x v s1 s2 => ?_⟩
    rw [renL_at] at s1
    obtain ⟨y, hy, rfl⟩ := Option.map_eq_some_iff.1 s1
    exact VRel.ren hL hid (menL_at (by simpa [Blk.men] using hx) hy) (t4.at_ j y v hy s2)
  | mp ks vs =>
    obtain ⟨es, cl, t1, t2, t4⟩ := h
    refine ⟨es, cl, t1, t2, t4.len.trans (renL_len _ _).symm, fun j x v s1 s2 => ?_⟩
    rw [renL_at] at s1
    obtain ⟨y, hy, rfl⟩ := Option.map_eq_some_iff.1 s1
    exact VRel.ren hL hid (menL_at (by simpa [Blk.men] using hx) hy) (t4.at_ j y v hy s2)
  | data sz rows =>
    obtain ⟨cs, ty, fr, t1, t2, t3, t4, t5⟩ := h
    exact ⟨cs, ty, fr, t1, t2, t3, t4, fun i j r x s1 s2 => by
      obtain ⟨v, u1, u2, u3⟩ := t5 i j r x s1 s2
      exact ⟨v, u1, u2, u3.mono (fun _ _ _ q => q) (fun b hl => .inl (hL b hl))⟩⟩
theorem BRel.unren {w : World} {L L' : Nat → Prop} {m m' : Nat → Option Nat} {ρ : Nat → Nat} {bad : Nat → Bool} (hL : ∀ b, L' b → L b) (hid : ∀ j, bad j = false → m' j = m (ρ j)) {x : Blk} {b : Nat} (hx : x.men bad = false) (h : BRel w L m b (x.ren ρ)) : BRel w L' m' b x := by
  cases x with
  | vals cells =>
    obtain ⟨vs, ex, ty, fr, t1, t2, t3, t4⟩ := h
    exact ⟨vs, ex, ty, fr, t1, t2, t3, t4.len.trans (renL_len _ _), fun j x v s1 s2 => VRel.unren hL hid (menL_at (by simpa [Blk.men] using hx) s1) (t4.at_ j _ v (by rw [renL_at, s1]; rfl) s2)⟩
  | mp ks vs =>
    obtain ⟨es, cl, t1, t2, t4⟩ := h
    exact ⟨es, cl, t1, t2, t4.len.trans (renL_len _ _), fun j x v s1 s2 => VRel.unren hL hid (menL_at (by simpa [Blk.men] using hx) s1) (t4.at_ j _ v (by rw [renL_at, s1]; rfl) s2)⟩
  | data sz rows =>
    obtain ⟨cs, ty, fr, t1, t2, t3, t4, t5⟩ := h
    exact ⟨cs, ty, fr, t1, t2, t3, t4, fun i j r x s1 s2 => by
      obtain ⟨v, u1, u2, u3⟩ := t5 i j r x s1 s2
      exact ⟨v, u1, u2, u3.mono (fun _ _ _ q => q) (fun b hl => .inl (hL b hl))⟩⟩

/-- A FUNCTION's ANSWER, of what names the blocks s0 (numbered from 0): the result, and what stands then. -/
def SndW (P : Program) (f : FuncId) (args : List V) (s0 : Store) (r : V) (s1 : Store) : Prop := goFn P f = true ∧
  ∀ (w : World) (X : Nat → Prop) (m0 : Nat → Option Nat) (vs : List Value), (∀ b, X b → b < w.heap.size ∧ ¬ Own m0 s0 b) → SRel w X m0 s0 → All2 (VRel w (Live X m0 s0) m0) args vs →
    Calls P f vs.toArray w fun x w' => ∃ v m', x = .returned v ∧ Ext (Own m0 s0) w w' ∧ VRel w' (Live X m' s1) m' r v ∧ SRel w' X m' s1 ∧ (∀ b, Own m' s1 b → Own m0 s0 b ∨ w.heap.size ≤ b) ∧
      ∀ j, (getB s0 j).isSome = true → (getB s1 j).isSome = true → m' j = m0 j
theorem SndW.pure {f : FuncId} {args : List V} {r : V} {τ : Store} (h : SndW P f args [] r τ) : Snd P f args r τ := by
  refine ⟨h.1, fun w X vs hX hargs => ?_⟩
  have hO : ∀ b, ¬ Own (fun _ => none) [] b := by rintro b ⟨i, blk, h1, _⟩; cases h1
  have hL : ∀ b, Live X (fun _ => none) [] b → X b := fun b hb => hb.resolve_right (hO b)
  refine (h.2 w X (fun _ => none) vs (fun b hb => ⟨hX b hb, hO b⟩) ⟨fun i blk hi => (by cases hi), fun i j b h => (by cases h)⟩ (hargs.mono fun x v h => VRel.mono' (fun _ _ _ q => q) (fun _ cs _ _ q => ⟨cs, q, rfl⟩) (fun b hb => .inl (hL b hb)) h)).mono fun x w' hx => ?_
  obtain ⟨v, m', h1, h2, h3, h4, h5, _⟩ := hx
  exact ⟨v, m', h1, ⟨h2.os, h2.tape, h2.output, h2.size, fun b hb _ => h2.block b hb (hO b), h2.sizes⟩, h3, h4, fun b hb => (h5 b hb).resolve_left (hO b)⟩
theorem Snd.w {f : FuncId} {args : List V} {r : V} {τ : Store} (hp : V.menL (fun _ => true) args = false) (h : Snd P f args r τ) : SndW P f args [] r τ := by
  refine ⟨h.1, fun w X m0 vs hX hs hargs => ?_⟩
  have hO : ∀ b, ¬ Own m0 [] b := by rintro b ⟨i, blk, h1, _⟩; cases h1
  have hL : ∀ b, X b → Live X m0 [] b := fun b hb => .inl hb
  have hargs' : All2 (VRel w X (fun _ => none)) args vs := ⟨hargs.len, fun j x v h1 h2 => VRel.mono (p := fun _ => true) (fun _ _ _ q => q) (fun _ cs _ _ q => ⟨cs, q, rfl⟩) (fun b hl => .inl (hL b hl)) (fun i hi => by cases hi) (menL_at hp h1) (hargs.at_ j x v h1 h2)⟩
  refine (h.2 w X vs (fun b hb => (hX b hb).1) hargs').mono fun x w' hx => ?_
  obtain ⟨v, m', h1, h2, h3, h4, h5⟩ := hx
  exact ⟨v, m', h1, ⟨h2.os, h2.tape, h2.output, h2.size, fun b hb _ => h2.block b hb (fun f => f), h2.sizes⟩, h3, h4, fun b hb => .inr (h5 b hb), fun j hj => by cases hj⟩

section
variable {w0 : World} {L0 : Par} {X : Nat → Prop} {m : Nat → Option Nat} {e : Env} {s : Store} {a : Act} {w : World}
/-- those that the call is not given -/
def Others (X : Nat → Prop) (m : Nat → Option Nat) (s : Store) (ids : List Nat) (b : Nat) : Prop := X b ∨ ∃ id blk, getB s id = some blk ∧ m id = some b ∧ id ∉ ids
def give (ids : List Nat) (m : Nat → Option Nat) (j : Nat) : Option Nat := m (ids.getD j 0)
theorem own_give {ids : List Nat} {s0 : Store} {ρ : Nat → Nat} (hs0 : s0.all (fun x => decide (x.1 < ids.length)) = true) (hm0 : ∀ x ∈ s0, getB s (ids.getD x.1 0) = some (x.2.ren ρ)) {b : Nat} (ho : Own (give ids m) s0 b) : ∃ id ∈ ids, (getB s id).isSome = true ∧ m id = some b := by
  obtain ⟨j, b0, h1, h2⟩ := ho
  have hj : j < ids.length := by simpa using all_get hs0 h1
  have := hm0 _ (getB_mem h1)
  refine ⟨ids.getD j 0, ?_, by rw [this]; rfl, h2⟩
  simp [List.getD_eq_getElem?_getD, hj]

end
structure OkW (ids : List Nat) (s0 : Store) (args : List V) (r : V) (s1 : Store) : Prop where
  nd : ids.Nodup
  le : ids.length ≤ 90
  all : ∀ j, j < ids.length → (getB s0 j).isSome = true
  keys : s0.all (fun x => decide (x.1 < ids.length)) = true
  ment : ∀ {j b}, getB s0 j = some b → b.men (fun j => decide (ids.length ≤ j)) = false
  args : V.menL (fun j => decide (ids.length ≤ j)) args = false
  res : r.men (badId ids.length s1) = false
  outs : ∀ {j b}, getB s1 j = some b → j < 100 ∧ b.men (badId ids.length s1) = false
theorem okW_iff {ids : List Nat} {s0 : Store} {args : List V} {r : V} {s1 : Store} (h : okW ids s0 args r s1 = true) : OkW ids s0 args r s1 := by
  simp only [okW, Bool.and_eq_true, Bool.not_eq_true', decide_eq_true_eq] at h
  obtain ⟨⟨⟨⟨⟨⟨h1, h2⟩, h3⟩, h4⟩, h5⟩, h6⟩, h7⟩ := h
  refine ⟨h1, h2, fun j hj => List.all_eq_true.1 h3 j (List.mem_range.2 hj), ?_, fun {j b} hg => ?_, h5, h6, fun {j b} hg => ?_⟩
  · rw [List.all_eq_true] at h4 ⊢
    intro x hx
    have := h4 x hx
    simp only [Bool.and_eq_true] at this
    exact this.1
  · have := all_get h4 hg
    simp only [Bool.and_eq_true, Bool.not_eq_true'] at this
    exact this.2
  · have := all_get h7 hg
    simp only [Bool.and_eq_true, Bool.not_eq_true', decide_eq_true_eq] at this
    exact this
theorem rho_lt {ids : List Nat} {base j : Nat} (h : j < ids.length) : rho ids base j = ids.getD j 0 := by simp [rho, h]
theorem rho_ge {ids : List Nat} {base j : Nat} (h : ¬ j < ids.length) : rho ids base j = base + j := by simp [rho, h]
theorem mem_ids {ids : List Nat} {j : Nat} (h : j < ids.length) : ids.getD j 0 ∈ ids := by simp [List.getD_eq_getElem?_getD, h]
theorem of_ids {ids : List Nat} {id : Nat} (h : id ∈ ids) : ∃ j, j < ids.length ∧ ids.getD j 0 = id := by
  obtain ⟨j, hj, rfl⟩ := List.getElem_of_mem h
  exact ⟨j, hj, by simp [List.getD_eq_getElem?_getD, hj]⟩
theorem inj_ids {ids : List Nat} (hn : ids.Nodup) {i j : Nat} (hi : i < ids.length) (hj : j < ids.length) (h : ids.getD i 0 = ids.getD j 0) : i = j := by
  simp only [List.getD_eq_getElem?_getD, List.getElem?_eq_getElem hi, List.getElem?_eq_getElem hj, Option.getD_some] at h
  exact (List.getElem_inj (h₀ := hi) (h₁ := hj) hn).1 h

section
variable {w0 : World} {L0 : Par} {X : Nat → Prop} {m : Nat → Option Nat} {e : Env} {s : Store} {a : Act} {w : World}
variable {ids : List Nat} {s0 s1 : Store} {args : List V} {r : V} {base : Nat}
theorem own_give' (ho : OkW ids s0 args r s1) (hm0 : ∀ x ∈ s0, getB s (ids.getD x.1 0) = some (x.2.ren (rho ids base))) {b : Nat} (h : Own (give ids m) s0 b) : Own m s b := by
  obtain ⟨id, _, h2, h3⟩ := own_give ho.keys hm0 h
  obtain ⟨c, hc⟩ := Option.isSome_iff_exists.1 h2
  exact ⟨id, c, hc, h3⟩
theorem live_give (ho : OkW ids s0 args r s1) (hm0 : ∀ x ∈ s0, getB s (ids.getD x.1 0) = some (x.2.ren (rho ids base))) {b : Nat} (h : Live (Others X m s ids) (give ids m) s0 b) : Live X m s b := by
  rcases h with (h | ⟨id, blk, h1, h2, _⟩) | h
  · exact .inl h
  · exact .inr ⟨id, blk, h1, h2⟩
  · exact .inr (own_give' ho hm0 h)
/-- WHAT THE CALL IS GIVEN. -/
theorem Rel.given (h : Rel w0 L0 X m e s a w) (ho : OkW ids s0 args r s1) (hm0 : ∀ x ∈ s0, getB s (ids.getD x.1 0) = some (x.2.ren (rho ids base))) {vs : List Value} (hargs : All2 (VRel w (Live X m s) m) (V.renL (rho ids base) args) vs) :
    (∀ b, Others X m s ids b → b < w.heap.size ∧ ¬ Own (give ids m) s0 b) ∧ SRel w (Others X m s ids) (give ids m) s0 ∧ All2 (VRel w (Live (Others X m s ids) (give ids m) s0) (give ids m)) args vs := by
  have hid : ∀ j, decide (ids.length ≤ j) = false → give ids m j = m (rho ids base j) := fun j hj => by
    rw [rho_lt (by simpa using hj)]; rfl
  refine ⟨fun b hb => ?_, ⟨fun j blk hj => ?_, fun i j b q1 q2 q3 q4 => ?_⟩, ⟨hargs.len.trans (renL_len _ _), fun j x v h1 h2 => VRel.unren (fun b => live_give ho hm0) hid (menL_at ho.args h1) (hargs.at_ j _ v (by rw [renL_at, h1]; rfl) h2)⟩⟩
  · rcases hb with hb | ⟨id, blk, h1, h2, h3⟩
    · exact ⟨(h.disj hb).1, fun q => (h.disj hb).2 (own_give' ho hm0 q)⟩
    · refine ⟨h.m_lt h1 h2, fun q => ?_⟩
      obtain ⟨id', g1, g2, g3⟩ := own_give ho.keys hm0 q
      have := h.sto.inj id id' b h2 g3 (by rw [h1]; rfl) g2
      exact h3 (this ▸ g1)
  · have hg := hm0 _ (getB_mem hj)
    rcases h.sto.blk _ _ hg with ⟨b, r1, r2⟩ | ⟨r1, sz, r2⟩
    · exact .inl ⟨b, r1, BRel.unren (fun b => live_give ho hm0) hid (ho.ment hj) r2⟩
    · refine .inr ⟨r1, sz, ?_⟩
      cases blk with
      | vals cells => cases r2
      | mp ks vs => cases r2
      | data n rows => exact r2
  · have key : ∀ i, (getB s0 i).isSome = true → i < ids.length ∧ (getB s (ids.getD i 0)).isSome = true := fun i q => by
      obtain ⟨c, hc⟩ := Option.isSome_iff_exists.1 q
      exact ⟨by simpa using all_get ho.keys hc, by rw [hm0 _ (getB_mem hc)]; rfl⟩
    obtain ⟨k1, k2⟩ := key i q3
    obtain ⟨k3, k4⟩ := key j q4
    exact inj_ids ho.nd k1 k3 (h.sto.inj _ _ b q1 q2 k2 k4)
/-- WHAT IT LEAVES. -/
theorem Rel.calledW (h : Rel w0 L0 X m e s a w) {q : Nat} (hq0 : q ≠ 0) (hf : Fresh (fun i => decide (i / 100 = q)) e s) (ho : OkW ids s0 args r s1) (hm0 : ∀ x ∈ s0, getB s (ids.getD x.1 0) = some (x.2.ren (rho ids (100 * q))))
    {w' : World} {m' : Nat → Option Nat} {v : Value} (hx : Ext (Own (give ids m) s0) w w') (hr : VRel w' (Live (Others X m s ids) m' s1) m' r v) (hs : SRel w' (Others X m s ids) m' s1) (hn : ∀ b, Own m' s1 b → Own (give ids m) s0 b ∨ w.heap.size ≤ b)
    (hk : ∀ j, (getB s0 j).isSome = true → (getB s1 j).isSome = true → m' j = give ids m j) (dst : Option Nat) :
    Rel w0 L0 X (joinM m m' q) (Fw.put e dst (r.ren (rho ids (100 * q)))) (puts (dropS (lost ids s1) s) (renS (rho ids (100 * q)) s1)) (a.put dst v) w' := by
  have hsome : ∀ {i}, i ∈ ids → (getB s i).isSome = true := fun {i} hi => by
    obtain ⟨j, hj, rfl⟩ := of_ids hi
    obtain ⟨c, hc⟩ := Option.isSome_iff_exists.1 (ho.all j hj)
    rw [hm0 _ (getB_mem hc)]; rfl
  have hfq : ∀ {i}, (getB s i).isSome = true → i / 100 ≠ q := fun {i} hi => by
    obtain ⟨c, hc⟩ := Option.isSome_iff_exists.1 hi
    have := (hf.sto i c hc).1
    simpa using this
  have hm : ∀ i, (fun i => decide (i / 100 = q)) i = false → joinM m m' q i = m i := fun i hi => by
    have : i / 100 ≠ q := by simpa using hi
    simp [joinM, this]
  have hid : ∀ j, badId ids.length s1 j = false → joinM m m' q (rho ids (100 * q) j) = m' j := fun j hj => by
    simp only [badId, Bool.or_eq_false_iff, decide_eq_false_iff_not, Bool.and_eq_false_iff] at hj
    obtain ⟨h1, h2⟩ := hj
    by_cases hl : j < ids.length
    · rw [rho_lt hl]
      have e1 := hfq (hsome (mem_ids hl))
      simp only [joinM, if_neg e1]
      have h3 : (getB s1 j).isSome = true := by
        rcases h2 with h2 | h2
        · exact absurd hl h2
        · cases hg : getB s1 j with
          | none => rw [hg] at h2; cases h2
          | some b => rfl
      exact (hk j (ho.all j hl) h3).symm
    · rw [rho_ge hl]
      obtain ⟨e1, e2⟩ := sh_div (q := q) (show j < 100 by omega)
      simp only [joinM, if_pos e1, e2]
  have hgood : ∀ {j}, (getB s1 j).isSome = true → badId ids.length s1 j = false := fun {j} hj => by
    obtain ⟨c, hc⟩ := Option.isSome_iff_exists.1 hj
    have := (ho.outs hc).1
    simp only [badId, Bool.or_eq_false_iff, decide_eq_false_iff_not, Bool.and_eq_false_iff]
    exact ⟨by omega, .inr (by rw [hc]; rfl)⟩
  have hget : ∀ i blk, getB (puts (dropS (lost ids s1) s) (renS (rho ids (100 * q)) s1)) i = some blk → (∃ j b0, getB s1 j = some b0 ∧ rho ids (100 * q) j = i ∧ blk = b0.ren (rho ids (100 * q))) ∨ (getB s i = some blk ∧ i ∉ ids ∧ i / 100 ≠ q) := by
    intro i blk hg
    rw [getB_puts'] at hg
    split at hg
    · rename_i b hb
      cases hg
      obtain ⟨j, b0, h1, h2, h3⟩ := getB_renS hb
      exact .inl ⟨j, b0, h1, h2, h3⟩
    · rename_i hno
      rw [getB_dropS] at hg
      split at hg
      · cases hg
      · rename_i hl
        refine .inr ⟨hg, fun hmem => ?_, hfq (by rw [hg]; rfl)⟩
        obtain ⟨j, hj, rfl⟩ := of_ids hmem
        cases hg1 : getB s1 j with
        | none =>
          refine hl ?_
          simp only [lost, List.any_eq_true]
          exact ⟨j, List.mem_range.2 hj, by simp [hg1]⟩
        | some b =>
          have := renS_none hno (j := j) (by rw [hg1]; rfl)
          exact this (rho_lt hj)
  have hown : ∀ b, Own (joinM m m' q) (puts (dropS (lost ids s1) s) (renS (rho ids (100 * q)) s1)) b → Own m' s1 b ∨ ∃ id blk, getB s id = some blk ∧ m id = some b ∧ id ∉ ids := by
    rintro b ⟨i, blk, h1, h2⟩
    rcases hget i blk h1 with ⟨j, b0, g1, rfl, _⟩ | ⟨g1, g2, g3⟩
    · rw [hid j (hgood (by rw [g1]; rfl))] at h2
      exact .inl ⟨j, b0, g1, h2⟩
    · simp only [joinM, if_neg g3] at h2
      exact .inr ⟨i, blk, g1, h2, g2⟩
  have hL1 : ∀ b, Live X (joinM m m' q) (puts (dropS (lost ids s1) s) (renS (rho ids (100 * q)) s1)) b → Live (Others X m s ids) m' s1 b := by
    rintro b (hl | hl)
    · exact .inl (.inl hl)
    · rcases hown b hl with q | q
      · exact .inr q
      · exact .inl (.inr q)
  have hOm : ∀ b, Own (give ids m) s0 b → Own m s b := fun b => own_give' ho hm0
  have hL2 : ∀ b, Live X (joinM m m' q) (puts (dropS (lost ids s1) s) (renS (rho ids (100 * q)) s1)) b → Live X m s b ∨ w.heap.size ≤ b := by
    rintro b (hl | hl)
    · exact .inl (.inl hl)
    · rcases hown b hl with q | ⟨id, blk, g1, g2, _⟩
      · exact (hn b q).imp (fun q => .inr (hOm b q)) id
      · exact .inl (.inr ⟨id, blk, g1, g2⟩)
  have hck : CellsKept (Live X m s) w w' := fun a v hnl hc => by
    have hlt := World.block_lt_of_cell? w a hc
    have := hx.block a.block hlt (fun q => hnl (.inr (hOm _ q)))
    simpa [World.cell?, this] using hc
  have hsz : SizesKept w w' := hx.sizes
  have h1 : Rel w0 L0 X (joinM m m' q) e (puts (dropS (lost ids s1) s) (renS (rho ids (100 * q)) s1)) a w' := by
    refine ⟨⟨h.env.len, fun j x v q1 q2 => VRel.mono hck hsz hL2 hm (menL_at hf.env q1) (h.env.at_ j x v q1 q2)⟩, ⟨fun i blk hi => ?_, fun i j b q1 q2 q3 q4 => ?_⟩, h.dfr, ?_, fun b hl => ?_, h.old, fun i hi hsm => ?_⟩
    · rcases hget i blk hi with ⟨j, b0, g1, rfl, rfl⟩ | ⟨g1, g2, g3⟩
      · have ej := hid j (hgood (by rw [g1]; rfl))
        rcases hs.blk _ _ g1 with ⟨b, r1, r2⟩ | ⟨r1, sz, rfl⟩
        · exact .inl ⟨b, ej.trans r1, BRel.ren hL1 hid (ho.outs g1).2 r2⟩
        · exact .inr ⟨ej.trans r1, sz, rfl⟩
      · have ej : joinM m m' q i = m i := by simp [joinM, g3]
        rcases h.sto.blk i blk g1 with ⟨b, r1, r2⟩ | ⟨r1, r2⟩
        · refine .inl ⟨b, ej.trans r1, BRel.mono hck hsz hL2 hm (hx.block b r2.lt fun q => ?_) (hf.sto i blk g1).2 r2⟩
          obtain ⟨id', t1, t2, t3⟩ := own_give ho.keys hm0 q
          have := h.sto.inj i id' b r1 t3 (by rw [g1]; rfl) t2
          exact g2 (this ▸ t1)
        · exact .inr ⟨ej.trans r1, r2⟩
    · obtain ⟨c1, hc1⟩ := Option.isSome_iff_exists.1 q3
      obtain ⟨c2, hc2⟩ := Option.isSome_iff_exists.1 q4
      have clash : ∀ {i j : Nat} {b0 : Blk} {c : Blk}, getB s1 j = some b0 → m' j = some b → getB s i = some c → m i = some b → i ∉ ids → False := by
        intro i j b0 c t1 t2 t3 t4 t5
        rcases hn b ⟨j, b0, t1, t2⟩ with t | t
        · obtain ⟨id', u1, u2, u3⟩ := own_give ho.keys hm0 t
          have := h.sto.inj i id' b t4 u3 (by rw [t3]; rfl) u2
          exact t5 (this ▸ u1)
        · have := h.m_lt t3 t4; omega
      rcases hget i c1 hc1 with ⟨j1, b1, g1, rfl, _⟩ | ⟨g1, g2, g3⟩ <;> rcases hget j c2 hc2 with ⟨j2, b2, f1, rfl, _⟩ | ⟨f1, f2, f3⟩
      · rw [hid j1 (hgood (by rw [g1]; rfl))] at q1
        rw [hid j2 (hgood (by rw [f1]; rfl))] at q2
        rw [hs.inj _ _ b q1 q2 (by rw [g1]; rfl) (by rw [f1]; rfl)]
      · rw [hid j1 (hgood (by rw [g1]; rfl))] at q1
        simp only [joinM, if_neg f3] at q2
        exact (clash g1 q1 f1 q2 f2).elim
      · rw [hid j2 (hgood (by rw [f1]; rfl))] at q2
        simp only [joinM, if_neg g3] at q1
        exact (clash f1 q2 g1 q1 g2).elim
      · simp only [joinM, if_neg g3] at q1
        simp only [joinM, if_neg f3] at q2
        exact h.sto.inj i j b q1 q2 (by rw [g1]; rfl) (by rw [f1]; rfl)
    · exact ⟨hx.os.trans h.ext.os, hx.tape.trans h.ext.tape, hx.output.trans h.ext.output, Nat.le_trans h.ext.size hx.size, fun b hb hl => by
        rw [hx.block b (Nat.lt_of_lt_of_le hb h.ext.size) (fun q => ?_)]
        · exact h.ext.block b hb hl
        · rcases h.liv b (hOm b q) with t | t
          · exact hl t
          · omega, fun b cs ty fr hb => by
        obtain ⟨c1, h1, h2⟩ := h.ext.sizes b cs ty fr hb
        obtain ⟨c2, h3, h4⟩ := hsz b c1 ty fr h1
        exact ⟨c2, h3, h4.trans h2⟩⟩
    · rcases hown b hl with q | ⟨id, blk, g1, g2, _⟩
      · rcases hn b q with q | q
        · exact h.liv b (hOm b q)
        · exact .inr (Nat.le_trans h.ext.size q)
      · exact h.liv b ⟨id, blk, g1, g2⟩
    · have e1 : i / 100 ≠ q := by omega
      obtain ⟨c, hc⟩ := Option.isSome_iff_exists.1 hsm
      simp only [joinM, if_neg e1]
      rcases hget i c hc with ⟨j, b0, g1, g2, _⟩ | ⟨g1, _⟩
      · by_cases hl : j < ids.length
        · rw [rho_lt hl] at g2
          exact h.par i hi (g2 ▸ hsome (mem_ids hl))
        · rw [rho_ge hl] at g2; omega
      · exact h.par i hi (by rw [g1]; rfl)
  exact h1.put dst (VRel.ren hL1 hid ho.res hr)
end
/-- a call that is given blocks -/
def Imp (P : Program) (o : Oper) (E E' : St) : Prop := ∃ g args ids s0 r s1, o.dst.isSome = true ∧ callOf o.op (look E.e) = some (g, V.renL (rho ids (newId o.dst)) args) ∧ (∀ x ∈ s0, getB E.s (ids.getD x.1 0) = some (x.2.ren (rho ids (newId o.dst)))) ∧
  okW ids s0 args r s1 = true ∧ SndW P g args s0 r s1 ∧ E' = ⟨put E.e o.dst (r.ren (rho ids (newId o.dst))), puts (dropS (lost ids s1) E.s) (renS (rho ids (newId o.dst)) s1)⟩
/-- A STEP; im: calls are given blocks. -/
def DoI (P : Program) (im : Op → Bool) (o : Oper) (E E' : St) : Prop := match cls o.op, im o.op with
  | .c, true => Imp P o E E'
  | _, _ => Do P o E E'
def Stp (P : Program) (im : Op → Bool) (all : List Oper) (o : Oper) (E E' : St) : Prop := match guardOf all E.e o.guard with
  | none => False
  | some none => DoI P im o E E'
  | some (some (_, want, b)) => (b = want → DoI P im o E E') ∧ (b = !want → E' = ⟨put E.e o.dst vundef, E.s⟩)

theorem doI_do {im : Op → Bool} {o : Oper} (h : im o.op = true → cls o.op ≠ .c) {E E' : St} : DoI P im o E E' ↔ Do P o E E' := by
  unfold DoI
  cases hc : cls o.op <;> cases hi : im o.op <;> simp only
  exact absurd hc (h hi)
end Go.Fw
end
section
namespace Go.Fw
variable {P : Program}

section
variable {w0 : World} {L0 : Par} {X : Nat → Prop} {m : Nat → Option Nat} {a : Act} {w : World}
theorem upon_value {o : Oper} {K : Act → World → Prop} {Q : Exit → Act → World → Prop} {q : Value} {w' : World} (hr : (execOp a.eval o).run P w = .ok (.value q) w') (hK : K (a.put o.dst q) w') : o.wp P a w K Q := by
  unfold Oper.wp; rw [hr]; exact hK
theorem upon_skip {o : Oper} {K : Act → World → Prop} {Q : Exit → Act → World → Prop} {w' : World} (hr : (execOp a.eval o).run P w = .ok .skip w') (hK : K (a.put o.dst undef) w') : o.wp P a w K Q := by
  unfold Oper.wp; rw [hr]; exact hK
theorem call_run {g : FuncId} {o : Oper} {cl : Call} {fo : Operand} (ho : o.op = .call cl) (hc : cl.callee = .value fo) {caps : Array Value} (hf : a.eval fo = .func (.func g) #[] caps) (hg : goFn P g = true) :
    (execOp a.eval o).run P w = .ok (.enter g (cl.args.map a.eval ++ caps)) w := by
  unfold goFn at hg
  split at hg
  · rename_i fn hfn
    simp only [Bool.and_eq_true] at hg
    obtain ⟨h1, h2⟩ := hg
    have h3 : fn.body ≠ none := fun e => by rw [e] at h2; cases h2
    have h4 : fn.name ≠ "runtime.NumGoroutine" := by simpa using h1
    simp [execOp, ho, resolve, hc, hf, Deferred.ofValue, invoke, callFunc, hfn]
    rw [if_neg h4, if_neg h3]
  · cases hg
theorem callOf_inv {op : Op} {ρ : Operand → V} {g : FuncId} {args : List V} (h : callOf op ρ = some (g, args)) : ∃ cl fo capt, op = .call cl ∧ cl.callee = .value fo ∧ ρ fo = .fn g capt ∧ args = cl.args.toList.map ρ ++ capt := by
  cases op <;> simp only [callOf] at h <;> try (cases h; done)
  rename_i cl
  split at h
  · rename_i fo hfo
    split at h
    · rename_i g' capt hv
      cases h
      exact ⟨cl, fo, capt, rfl, hfo, hv, rfl⟩
    · cases h
  · cases h
theorem do_wp {E E' : St} (h : Rel w0 L0 X m E.e E.s a w) {o : Oper} (hf : makes o = true → Fresh (mine o) E.e E.s) (hd : Do P o E E') {K : Act → World → Prop} {Q : Exit → Act → World → Prop} (hK : ∀ m' a' w', Rel w0 L0 X m' E'.e E'.s a' w' → K a' w') : o.wp P a w K Q := by
  have idf : ∀ {dst : Option Nat} {q : Nat}, newId dst = 100 * q → Fresh (fun i => decide (i / 100 = newId dst / 100)) E.e E.s → Fresh (fun i => decide (i / 100 = q)) E.e E.s := fun {dst q} e hf => by
    rw [e] at hf
    simpa using hf
  unfold Do at hd
  cases hcl : cls o.op <;> rw [hcl] at hd <;> simp only at hd
  · -- p
    obtain ⟨v, s', hl, rfl⟩ := hd
    unfold Loc at hl
    rw [hcl] at hl
    obtain ⟨c, h1, hc, rfl⟩ := hl
    obtain ⟨q, h2, h3⟩ := opP_run (P := P) (w := w) h.look h1 hc
    exact upon_value h2 (hK m _ _ (h.put o.dst h3))
  · -- r
    obtain ⟨v, s', hl, rfl⟩ := hd
    unfold Loc at hl
    rw [hcl] at hl
    obtain ⟨c, h1, hc, rfl⟩ := hl
    obtain ⟨q, h2, h3⟩ := opR_run (P := P) h.sto h.look h1 hcl hc
    exact upon_value h2 (hK m _ _ (h.put o.dst h3))
  · -- a
    obtain ⟨v, s', hl, rfl⟩ := hd
    unfold Loc at hl
    rw [hcl] at hl
    obtain ⟨c, blk, hds, h1, hc, rfl⟩ := hl
    have hfr := hf (by simp [makes, hcl])
    have hf1 : Fresh (· == newId o.dst) E.e E.s := hfr.sub fun i hi => by
      have : i / 100 ≠ newId o.dst / 100 := by simpa [mine] using hi
      simp; intro e; exact this (by rw [e])
    have hid : getB E.s (newId o.dst) = none := by
      cases hg : getB E.s (newId o.dst) with
      | none => rfl
      | some b => have := (hf1.sto _ b hg).1; simp at this
    obtain ⟨q, w', h2, h3⟩ := opA_run h (newId_ge _) hf1 hid h1 hc
    exact upon_value h2 (hK _ _ _ h3)
  · -- w
    obtain ⟨c, s', h1, hc, rfl⟩ := hd
    obtain ⟨w', h2, h3⟩ := opW_run h h1 hc
    exact upon_skip h2 (hK _ _ _ h3)
  · -- x
    obtain ⟨cl, ho, hcal, k, c, sz, n, blk, ⟨all, h1, rfl, rfl⟩ | ⟨all, h1, rfl⟩, hc, rfl⟩ := hd
    · obtain ⟨q, w', m', h2, h3⟩ := append_run h ho hcal h1 hc (newId o.dst) (newId_ge _)
      exact upon_value h2 (hK _ _ _ h3)
    · obtain ⟨q, w', m', h2, h3⟩ := append_runV h ho hcal h1 hc (newId o.dst) (newId_ge _)
      exact upon_value h2 (hK _ _ _ h3)
  · -- c
    obtain ⟨v, s', hl, rfl⟩ := hd
    unfold Loc at hl
    rw [hcl] at hl
    obtain ⟨g, args1, args, r, τ, hds, hco, hfz, hpure, ⟨hg, hsnd⟩, hok, rfl, rfl⟩ := hl
    obtain ⟨cl, fo, capt, ho, hcal, hfo, rfl⟩ := callOf_inv hco
    have hfv := h.look fo
    rw [hfo] at hfv
    generalize hev : a.eval fo = u at hfv
    cases hfv with
    | fn _ _ vs hl hr =>
      have hrun := call_run (P := P) (w := w) ho hcal hev hg
      have hargs : All2 (VRel w (Live X m E.s) m) (cl.args.toList.map (look E.e) ++ capt) ((cl.args.map a.eval).toList ++ vs) := (All2.arr h.look cl.args).append ⟨hl, hr⟩
      unfold Oper.wp
      rw [hrun]
      simp only [Oper.upon]
      have ea : ((cl.args.map a.eval).toList ++ vs).toArray = cl.args.map a.eval ++ vs.toArray := by simp
      rw [← ea]
      obtain ⟨q, hq0, hq⟩ := newId_some hds
      have hfr := idf hq (hf (by simp [makes, hcl]))
      rcases hfz with rfl | ⟨rfl, y, rfl, rfl⟩
      · have hcalls := hsnd w (Live X m E.s) _ (fun b hb => h.live_lt hb) (pure_rel hpure hargs)
        refine hcalls.mono fun x w' hx => ?_
        obtain ⟨v, m', rfl, hx1, hx2, hx3, hx4⟩ := hx
        simp only
        have := h.called hq0 hfr hx1 hx2 hx3 hx4 hok o.dst
        rw [← hq] at this
        exact hK _ _ _ this
      · have hargs2 : All2 (VRel w (Live X (finM [] m) (finS [] E.s [] 0)) (finM [] m)) (V.finL [] E.s (cl.args.toList.map (look E.e) ++ capt)) ((cl.args.map a.eval).toList ++ vs) :=
          ⟨hargs.len.trans (finL_len _ _ _).symm, fun j x v h1 h2 => by
            rw [finL_at] at h1
            obtain ⟨z, hz, rfl⟩ := Option.map_eq_some_iff.1 h1
            exact fin_rel h (hargs.at_ j z v hz h2)⟩
        have hcalls := hsnd w (Live X (finM [] m) (finS [] E.s [] 0)) _ (fun b hb => h.live_lt (live_fin hb)) (pure_rel hpure hargs2)
        refine hcalls.mono fun x w' hx => ?_
        obtain ⟨v, m', rfl, hx1, hx2, hx3, hx4⟩ := hx
        simp only
        have hv : VRel w' (Live (Live X m E.s) m' []) m' (.d (.lit y)) v := by
          cases hx2 with
          | d hd => cases hd with
            | lit _ ho => exact .d (.lit _ ho)
        have := h.called hq0 hfr hx1 hv ⟨fun i blk hi => (by cases hi), fun i j b _ _ h3 => (by cases h3)⟩ hx4 hok o.dst
        rw [← hq] at this
        exact hK _ _ _ this
theorem doI_wp {im : Op → Bool} {E E' : St} (h : Rel w0 L0 X m E.e E.s a w) {o : Oper} (hf : makes o = true → Fresh (mine o) E.e E.s) (hd : DoI P im o E E') {K : Act → World → Prop} {Q : Exit → Act → World → Prop} (hK : ∀ m' a' w', Rel w0 L0 X m' E'.e E'.s a' w' → K a' w') : o.wp P a w K Q := by
  by_cases hi : im o.op = true → cls o.op ≠ .c
  · exact do_wp h hf ((doI_do hi).1 hd) hK
  · have him : im o.op = true := by
      cases q : im o.op with
      | true => rfl
      | false => exact absurd (fun h => by rw [q] at h; cases h) hi
    have hcl : cls o.op = .c := by
      cases hc : cls o.op <;> first | rfl | exact absurd (fun _ e => by cases hc.symm.trans e) hi
    unfold DoI at hd
    rw [hcl, him] at hd
    obtain ⟨g, args, ids, s0, r, s1, hds, hco, hm0, hok, ⟨hg, hsnd⟩, rfl⟩ := hd
    have ok := okW_iff hok
    obtain ⟨cl, fo, capt, ho, hcal, hfo, hargs0⟩ := callOf_inv hco
    obtain ⟨q, hq0, hq⟩ := newId_some hds
    have hfv := h.look fo
    rw [hfo] at hfv
    generalize hev : a.eval fo = u at hfv
    cases hfv with
    | fn _ _ vs hl hr =>
      have hrun := call_run (P := P) (w := w) ho hcal hev hg
      have hargs : All2 (VRel w (Live X m E.s) m) (V.renL (rho ids (newId o.dst)) args) ((cl.args.map a.eval).toList ++ vs) := by
        rw [hargs0]; exact (All2.arr h.look cl.args).append ⟨hl, hr⟩
      obtain ⟨g1, g2, g3⟩ := h.given ok hm0 hargs
      have hcalls := hsnd w (Others X m E.s ids) _ _ g1 g2 g3
      unfold Oper.wp
      rw [hrun]
      simp only [Oper.upon]
      have ea : ((cl.args.map a.eval).toList ++ vs).toArray = cl.args.map a.eval ++ vs.toArray := by simp
      rw [← ea]
      refine hcalls.mono fun x w' hx => ?_
      obtain ⟨v, m', rfl, hx1, hx2, hx3, hx4, hx5⟩ := hx
      have hfr : Fresh (fun i => decide (i / 100 = q)) E.e E.s := (hf (by simp [makes, hcl])).sub fun i hi => by
        simp only [mine, hq, decide_eq_false_iff_not] at hi ⊢
        omega
      simp only
      rw [hq] at hm0
      have := h.calledW hq0 hfr ok hm0 hx1 hx2 hx3 hx4 hx5 o.dst
      rw [← hq] at this
      exact hK _ _ _ this
end
end Go.Fw
end
section
namespace Go.Fw
variable {P : Program}

def shiftS (k : Nat) (τ : Store) : Store := τ.map fun (i, b) => (k + i, b.shift k)
theorem addS_puts (s : Store) (k : Nat) (τ : Store) : addS s k τ = puts s (shiftS k τ) := by
  induction τ with
  | nil => rfl
  | cons x r ih => obtain ⟨i, b⟩ := x; simp [addS, shiftS, puts, ih]
theorem putB_comm {i j : Nat} (h : i ≠ j) (b c : Blk) (s : Store) : putB (putB s i b) j c = putB (putB s j c) i b := by
  induction s with
  | nil =>
    simp only [putB, h, Ne.symm h, if_false]
    split <;> split <;> first | rfl | omega
  | cons x r ih =>
    obtain ⟨k, d⟩ := x
    simp only [putB]
    by_cases e1 : k = i
    · subst e1
      simp only [if_true, if_neg h, putB]
      by_cases e2 : j < k
      · simp [e2, putB, Ne.symm h, show ¬ k < j by omega]
      · simp [e2, putB, h]
    · by_cases e2 : k = j
      · subst e2
        simp only [if_true, if_neg e1, putB]
        by_cases e3 : i < k
        · simp [e3, putB, h, show ¬ k < i by omega]
        · simp [e3, putB, e1]
      · simp only [if_neg e1, if_neg e2]
        by_cases a1 : i < k <;> by_cases a2 : j < k <;> simp only [a1, a2, if_true, if_false, putB, h, Ne.symm h, e1, e2]
        · by_cases a3 : j < i
          · simp [a3, show ¬ i < j by omega]
          · simp [a3, show i < j by omega]
        · simp [show ¬ j < i by omega]
        · simp [show ¬ i < j by omega]
        · rw [ih]
theorem puts_put {i : Nat} (b : Blk) (s t : Store) (h : ∀ x ∈ t, x.1 ≠ i) : puts (putB s i b) t = putB (puts s t) i b := by
  induction t with
  | nil => rfl
  | cons x r ih =>
    obtain ⟨k, d⟩ := x
    simp only [puts]
    rw [ih fun x hx => h x (by simp [hx]), putB_comm (Ne.symm (h (k, d) (by simp)))]
theorem puts_comm (s t u : Store) (h : ∀ x ∈ t, ∀ y ∈ u, x.1 ≠ y.1) : puts (puts s t) u = puts (puts s u) t := by
  induction t with
  | nil => rfl
  | cons x r ih =>
    obtain ⟨k, d⟩ := x
    simp only [puts]
    rw [puts_put _ _ _ fun y hy => Ne.symm (h (k, d) (by simp) y hy), ih fun x hx y hy => h x (by simp [hx]) y hy]
theorem getB_puts (s t : Store) (i : Nat) (h : ∀ x ∈ t, x.1 ≠ i) : getB (puts s t) i = getB s i := by
  induction t with
  | nil => rfl
  | cons x r ih =>
    obtain ⟨k, d⟩ := x
    simp only [puts, getB_putB]
    rw [if_neg (Ne.symm (h (k, d) (by simp))), ih fun x hx => h x (by simp [hx])]

/-- a step, by the value and the blocks that are put -/
def LocX (P : Program) (o : Oper) (ρ : Operand → V) (s : Store) (v : V) (ext : Store) : Prop := match cls o.op with
  | .p => ∃ c, opP P o.op ρ = some (c, v) ∧ c ∧ ext = []
  | .r => ∃ c, opR P o.op ρ s = some (c, v) ∧ c ∧ ext = []
  | .a => ∃ c blk, o.dst.isSome = true ∧ opA P o.op ρ (newId o.dst) = some (c, v, blk) ∧ c ∧ ext = [(newId o.dst, blk)]
  | .c => ∃ g args1 args r τ, o.dst.isSome = true ∧ callOf o.op ρ = some (g, args1) ∧ (args = args1 ∨ (args = V.finL [] s args1 ∧ ∃ x, r = .d (.lit x) ∧ τ = [])) ∧ V.menL (fun _ => true) args = false ∧ Snd P g args r τ ∧ okIds r τ = true ∧ v = r.shift (newId o.dst) ∧ ext = shiftS (newId o.dst) τ
  | .w => ∃ c s', opW P o.op ρ s = some (c, s') ∧ c ∧ v = vundef ∧ ∃ id blk, s' = putB s id blk ∧ ext = [(id, blk)]
  | .x => False
def LocG (P : Program) (all : List Oper) (o : Oper) (e : Env) (s : Store) (v : V) (ext : Store) : Prop := match guardOf all e o.guard with
  | none => False
  | some none => LocX P o (look e) s v ext
  | some (some (_, want, b)) => (b = want → LocX P o (look e) s v ext) ∧ (b = !want → v = vundef ∧ ext = [])
theorem updV_put {t : TypeId} {x k y : V} {s s' : Store} {c : Prop} (h : updV P t x k y s = some (c, s')) : ∃ id ks vs ks' vs', getB s id = some (.mp ks vs) ∧ x = .mp id ∧ s' = putB s id (.mp ks' vs') ∧ ∀ v ∈ vs', v ∈ vs ∨ v = y := by
  unfold updV at h
  split at h
  · split at h
    · split at h
      · rename_i hg
        split at h
        · cases h; exact ⟨_, _, _, _, _, hg, rfl, rfl, fun v hv => List.mem_or_eq_of_mem_set hv⟩
        · cases h; exact ⟨_, _, _, _, _, hg, rfl, rfl, fun v hv => by simpa using hv⟩
        · cases h
      · cases h
    · cases h
  · cases h
theorem opW_put {op : Op} {ρ : Operand → V} {s s' : Store} {c : Prop} (h : opW P op ρ s = some (c, s')) : ∃ id blk, s' = putB s id blk := by
  unfold opW at h
  split at h <;> try (cases h; done)
  · split at h
    · split at h
      · split at h
        · split at h
          · cases h; exact ⟨_, _, rfl⟩
          · cases h
        · split at h
          · split at h
            · cases h; exact ⟨_, _, rfl⟩
            · cases h
          · cases h
        · cases h
      · cases h
    · cases h
  · obtain ⟨id, _, _, ks', vs', _, _, h, _⟩ := updV_put h; exact ⟨id, _, h⟩
  · obtain ⟨id, _, _, ks', vs', _, _, h, _⟩ := updV_put h; exact ⟨id, _, h⟩
theorem locX_of {o : Oper} (hx : cls o.op ≠ .x) {E E' : St} : Do P o E E' ↔ ∃ v ext, LocX P o (look E.e) E.s v ext ∧ E' = ⟨put E.e o.dst v, puts E.s ext⟩ := by
  unfold Do LocX Loc
  cases hc : cls o.op <;> simp only
  · constructor
    · rintro ⟨v, s', ⟨c, h1, h2, rfl⟩, rfl⟩; exact ⟨v, [], ⟨c, h1, h2, rfl⟩, rfl⟩
    · rintro ⟨v, ext, ⟨c, h1, h2, rfl⟩, rfl⟩; exact ⟨v, _, ⟨c, h1, h2, rfl⟩, rfl⟩
  · constructor
    · rintro ⟨v, s', ⟨c, h1, h2, rfl⟩, rfl⟩; exact ⟨v, [], ⟨c, h1, h2, rfl⟩, rfl⟩
    · rintro ⟨v, ext, ⟨c, h1, h2, rfl⟩, rfl⟩; exact ⟨v, _, ⟨c, h1, h2, rfl⟩, rfl⟩
  · constructor
    · rintro ⟨v, s', ⟨c, blk, h0, h1, h2, rfl⟩, rfl⟩; exact ⟨v, _, ⟨c, blk, h0, h1, h2, rfl⟩, rfl⟩
    · rintro ⟨v, ext, ⟨c, blk, h0, h1, h2, rfl⟩, rfl⟩; exact ⟨v, _, ⟨c, blk, h0, h1, h2, rfl⟩, rfl⟩
  · constructor
    · rintro ⟨c, s', h1, h2, rfl⟩
      obtain ⟨id, blk, rfl⟩ := opW_put h1
      exact ⟨vundef, [(id, blk)], ⟨c, _, h1, h2, rfl, id, blk, rfl, rfl⟩, rfl⟩
    · rintro ⟨v, ext, ⟨c, s', h1, h2, rfl, id, blk, rfl, rfl⟩, rfl⟩; exact ⟨c, _, h1, h2, rfl⟩
  · exact absurd hc hx
  · constructor
    · rintro ⟨v, s', ⟨g, args1, args, r, τ, h0, h1, h1b, h2, h3, h4, rfl, rfl⟩, rfl⟩; exact ⟨_, _, ⟨g, args1, args, r, τ, h0, h1, h1b, h2, h3, h4, rfl, rfl⟩, by rw [addS_puts]⟩
    · rintro ⟨v, ext, ⟨g, args1, args, r, τ, h0, h1, h1b, h2, h3, h4, rfl, rfl⟩, rfl⟩; exact ⟨_, _, ⟨g, args1, args, r, τ, h0, h1, h1b, h2, h3, h4, rfl, rfl⟩, by rw [addS_puts]⟩
theorem bool_or (b want : Bool) : b = want ∨ b = !want := by cases b <;> cases want <;> simp
theorem locG_of {im : Op → Bool} {all : List Oper} {o : Oper} (hx : cls o.op ≠ .x) (hi : im o.op = true → cls o.op ≠ .c) {E E' : St} : Stp P im all o E E' ↔ ∃ v ext, LocG P all o E.e E.s v ext ∧ E' = ⟨put E.e o.dst v, puts E.s ext⟩ := by
  unfold Stp LocG
  simp only [doI_do hi]
  cases hg : guardOf all E.e o.guard with
  | none => simp
  | some g =>
    cases g with
    | none => exact locX_of hx
    | some q =>
      obtain ⟨k, want, b⟩ := q
      simp only
      rcases bool_or b want with hb | hb
      · have hne : ¬ (b = !want) := by subst hb; cases b <;> simp
        simp only [hb, true_implies, show ¬ (want = !want) by cases want <;> simp, false_implies, and_true]
        exact locX_of hx
      · have hne : ¬ (b = want) := by subst hb; cases want <;> simp
        simp only [hb, true_implies, show ¬ ((!want) = want) by cases want <;> simp, false_implies, true_and]
        constructor
        · rintro rfl; exact ⟨vundef, [], ⟨rfl, rfl⟩, rfl⟩
        · rintro ⟨v, ext, ⟨rfl, rfl⟩, rfl⟩; rfl
theorem locX_congr {o : Oper} {ρ ρ' : Operand → V} (h : ∀ x ∈ o.op.operands, ρ x = ρ' x) {s : Store} {v : V} {ext : Store} : LocX P o ρ s v ext ↔ LocX P o ρ' s v ext := by
  unfold LocX
  rw [opP_congr h, opR_congr h, opA_congr h, opW_congr h, callOf_congr h]
/-- which slots an operation looks at -/
def looks (all : List Oper) (o : Oper) (k : Nat) : Bool := (o.op.operands.toList.any fun x => match x with | .tmp t => t == k | _ => false) || (match o.guard with | some (g, _) => ((all[g]?).bind (·.dst)) == some k | none => false)
theorem guardOf_congr {all : List Oper} {o : Oper} {e e' : Env} (h : ∀ k, looks all o k = true → e'.getD k .top = e.getD k .top) : guardOf all e' o.guard = guardOf all e o.guard := by
  unfold guardOf
  cases hg : o.guard with
  | none => rfl
  | some q =>
    obtain ⟨j, want⟩ := q
    simp only
    cases ha : all[j]? with
    | none => rfl
    | some g =>
      simp only
      cases hd : g.dst with
      | none => rfl
      | some k =>
        simp only
        rw [h k (by simp [looks, hg, ha, hd])]
theorem locG_congr {all : List Oper} {o : Oper} {e e' : Env} (h : ∀ k, looks all o k = true → e'.getD k .top = e.getD k .top) {s : Store} {v : V} {ext : Store} : LocG P all o e' s v ext ↔ LocG P all o e s v ext := by
  have hl : ∀ x ∈ o.op.operands, look e' x = look e x := fun x hx => by
    cases x with
    | tmp t => exact h t (by simp only [looks, Bool.or_eq_true, List.any_eq_true]; exact .inl ⟨.tmp t, by simpa using hx, by simp⟩)
    | const v => rfl
    | global g => rfl
    | func f => rfl
  unfold LocG
  rw [guardOf_congr h, locX_congr hl]
theorem callOf_men {op : Op} {ρ : Operand → V} {p : Nat → Bool} (hρ : ∀ x, (ρ x).men p = false) {g : FuncId} {args : List V} (h : callOf op ρ = some (g, args)) : V.menL p args = false := by
  obtain ⟨cl, fo, capt, ho, hcal, hfo, rfl⟩ := callOf_inv h
  have h1 : V.menL p capt = false := by
    have := hρ fo
    rw [hfo] at this
    simpa [V.men] using this
  exact menL_of fun j x hj => by
    rw [List.getElem?_append] at hj
    split at hj
    · rw [List.getElem?_map] at hj
      obtain ⟨z, _, rfl⟩ := Option.map_eq_some_iff.1 hj
      exact hρ z
    · exact menL_at h1 hj
theorem locX_grow {o : Oper} {p : Nat → Bool} {ρ : Operand → V} {s s' : Store} {v : V} {ext : Store} (hw : cls o.op ≠ .w) (hρ : ∀ x, (ρ x).men p = false) (hs : ∀ i, p i = false → getB s' i = getB s i) (h : LocX P o ρ s v ext) : LocX P o ρ s' v ext := by
  unfold LocX at h ⊢
  cases hc : cls o.op <;> rw [hc] at h <;> simp only at h ⊢
  · exact h
  · obtain ⟨c, h1, h2, h3⟩ := h; exact ⟨c, opR_grow hρ hs h1, h2, h3⟩
  · exact h
  · exact absurd hc hw
  · obtain ⟨g, args1, args, r, τ, h0, h1, h1b, h2⟩ := h
    refine ⟨g, args1, args, r, τ, h0, h1, ?_, h2⟩
    rcases h1b with h1b | ⟨h1b, h3⟩
    · exact .inl h1b
    · exact .inr ⟨h1b.trans (frzL_grow hs _ (callOf_men hρ h1)).symm, h3⟩
theorem locG_grow {all : List Oper} {o : Oper} {p : Nat → Bool} {e : Env} {s s' : Store} {v : V} {ext : Store} (hw : cls o.op ≠ .w) (hρ : V.menL p e = false) (hs : ∀ i, p i = false → getB s' i = getB s i) (h : LocG P all o e s v ext) : LocG P all o e s' v ext := by
  unfold LocG at h ⊢
  cases hg : guardOf all e o.guard with
  | none => rw [hg] at h; exact h
  | some g =>
    rw [hg] at h
    cases g with
    | none => exact locX_grow hw (look_men hρ) hs h
    | some q => exact ⟨fun hb => locX_grow hw (look_men hρ) hs (h.1 hb), h.2⟩
theorem locX_any {o : Oper} {ρ : Operand → V} {s s' : Store} {v : V} {ext : Store} (hp : cls o.op = .p) (h : LocX P o ρ s v ext) : LocX P o ρ s' v ext := by
  unfold LocX at h ⊢; rw [hp] at h ⊢; exact h
theorem locG_any {all : List Oper} {o : Oper} {e : Env} {s s' : Store} {v : V} {ext : Store} (hp : cls o.op = .p) (h : LocG P all o e s v ext) : LocG P all o e s' v ext := by
  unfold LocG at h ⊢
  cases hg : guardOf all e o.guard with
  | none => rw [hg] at h; exact h
  | some g =>
    rw [hg] at h
    cases g with
    | none => exact locX_any hp h
    | some q => exact ⟨fun hb => locX_any hp (h.1 hb), h.2⟩
theorem locX_ext {o : Oper} {ρ : Operand → V} {s : Store} {v : V} {ext : Store} (hw : cls o.op ≠ .w) (h : LocX P o ρ s v ext) : ∀ x ∈ ext, makes o = true ∧ mine o x.1 = true := by
  unfold LocX at h
  intro x hx
  cases hc : cls o.op <;> rw [hc] at h <;> simp only at h
  · obtain ⟨c, h1, h2, rfl⟩ := h; cases hx
  · obtain ⟨c, h1, h2, rfl⟩ := h; cases hx
  · obtain ⟨c, blk, h0, h1, h2, rfl⟩ := h
    simp at hx
    subst hx
    exact ⟨by simp [makes, hc], by simp [mine]⟩
  · exact absurd hc hw
  · obtain ⟨g, args1, args, r, τ, h0, h1, h1b, h2, h3, h4, rfl, rfl⟩ := h
    obtain ⟨q, _, hq⟩ := newId_some h0
    simp only [shiftS, List.mem_map] at hx
    obtain ⟨⟨i, b⟩, hi, rfl⟩ := hx
    refine ⟨by simp [makes, hc], ?_⟩
    have : i < 100 := by
      simp only [okIds, Bool.and_eq_true] at h4
      have : ∀ {τ : Store}, okT τ = true → (i, b) ∈ τ → i < 100 := by
        intro τ
        induction τ with
        | nil => intro _ h; cases h
        | cons y r ih =>
          obtain ⟨j, c⟩ := y
          intro h hm
          simp only [okT, Bool.and_eq_true] at h
          rcases List.mem_cons.1 hm with e | hm
          · cases e; have := h.1.1; simp [big] at this; omega
          · exact ih h.2 hm
      exact this h4.2 hi
    simp only [mine, hq, decide_eq_true_eq]
    omega
theorem locG_ext {all : List Oper} {o : Oper} {e : Env} {s : Store} {v : V} {ext : Store} (hw : cls o.op ≠ .w) (h : LocG P all o e s v ext) : ∀ x ∈ ext, makes o = true ∧ mine o x.1 = true := by
  unfold LocG at h
  cases hg : guardOf all e o.guard with
  | none => rw [hg] at h; exact h.elim
  | some g =>
    rw [hg] at h
    cases g with
    | none => exact locX_ext hw h
    | some q =>
      obtain ⟨k, want, b⟩ := q
      rcases bool_or b want with hb | hb
      · exact locX_ext hw (h.1 hb)
      · intro x hx; rw [(h.2 hb).2] at hx; cases hx

/-! two operations that stand in no order -/
def apart (all : List Oper) (x y : Oper) : Bool := (match x.dst with | some d => !looks all y d && y.dst != some d | none => true) && (match y.dst with | some d => !looks all x d | none => true)
def quiet (im : Op → Bool) (o : Oper) : Bool := match cls o.op with | .w | .x => false | .c => !im o.op | _ => true
/-! an append, and what reckons addresses behind it -/
def isAddr (o : Oper) : Bool := (match o.op with | .nilCheck _ | .fieldAddr _ _ _ => true | _ => false) && o.guard.isNone
def isLoad (o : Oper) : Bool := (match o.op with | .load _ _ => true | _ => false) && o.guard.isNone
def isUpd (o : Oper) : Bool := (match o.op with | .mapUpdate _ _ _ _ => true | _ => false) && o.guard.isNone
def isMove (o : Oper) : Bool := (match o.op with | .move _ => true | _ => false) && o.guard.isNone
def comm (im : Op → Bool) (all : List Oper) (x y : Oper) : Bool := apart all x y && ((quiet im x && quiet im y) || (cls x.op == .p && cls y.op == .w) || (cls x.op == .w && cls y.op == .p) || (cls x.op == .x && x.guard.isNone && isAddr y) || (isMove x && (cls y.op == .x && y.guard.isNone)) || (isLoad x && isUpd y) || (isUpd x && isLoad y))
theorem put_getD {e : Env} {d : Option Nat} {v : V} {k : Nat} (h : d ≠ some k) : (put e d v).getD k .top = e.getD k .top := by
  cases d with
  | none => rfl
  | some j =>
    simp only [put, List.getD_eq_getElem?_getD]
    rw [List.getElem?_set_ne (fun e => h (by rw [e]))]
theorem put_comm {e : Env} {d d' : Option Nat} {v v' : V} (h : ∀ k, d = some k → d' ≠ some k) : put (put e d v) d' v' = put (put e d' v') d v := by
  cases d with
  | none => rfl
  | some k =>
    cases d' with
    | none => rfl
    | some k' =>
      simp only [put]
      exact List.set_comm _ _ (fun e => h k rfl (by rw [e]))
theorem look_fgt {p : Nat → Bool} {e : Env} {d : Option Nat} {v : V} {x : Operand} (hx : ∀ t, x = .tmp t → d ≠ some t) : look (put (V.fgtL p e) d v) x = (look e x).fgt p := by
  cases x with
  | tmp t =>
    have h : (put (V.fgtL p e) d v).getD t .top = (V.fgtL p e).getD t .top := put_getD (hx t rfl)
    show (put (V.fgtL p e) d v).getD t .top = (e.getD t .top).fgt p
    rw [h, List.getD_eq_getElem?_getD, List.getD_eq_getElem?_getD, fgtL_at]
    cases e[t]? <;> rfl
  | const v => cases v <;> simp only [look, litV] <;> first | rfl | (split <;> rfl)
  | func f => rfl
  | global g => rfl
theorem addr_fgt {p : Nat → Bool} {o : Oper} (ho : isAddr o = true) {ρ ρ' : Operand → V} (h : ∀ x ∈ o.op.operands, ρ' x = (ρ x).fgt p) {c : Prop} {r : V} (hr : opP P o.op ρ' = some (c, r)) : ∃ r0, opP P o.op ρ = some (c, r0) ∧ r0.fgt p = r := by
  obtain ⟨dst, op, ty, pos, after, guard⟩ := o
  simp only [isAddr, Bool.and_eq_true] at ho
  simp only at hr h ⊢
  cases op <;> (try (have hq := ho.1; simp at hq; done))
  · rename_i x
    have hx := h x (by simp [Op.operands])
    simp only [opP] at hr ⊢
    rw [hx] at hr
    clear hx h ho
    generalize ρ x = u at hr ⊢
    cases u with
    | pt id sz r' c' =>
      simp only [V.fgt] at hr
      by_cases q : p id = true
      · rw [if_pos q] at hr; cases hr
      · rw [if_neg q] at hr; cases hr; exact ⟨_, rfl, by simp [V.fgt, q]⟩
    | d y => cases y <;> simp only [V.fgt] at hr <;> first | (cases hr; done) | (cases hr; exact ⟨_, rfl, rfl⟩)
    | fn f capt => simp only [V.fgt] at hr; cases hr; exact ⟨_, rfl, rfl⟩
    | rs id sz off len =>
      simp only [V.fgt] at hr
      by_cases q : p id = true
      · rw [if_pos q] at hr; cases hr
      · rw [if_neg q] at hr; cases hr
    | mp id =>
      simp only [V.fgt] at hr
      by_cases q : p id = true
      · rw [if_pos q] at hr; cases hr
      · rw [if_neg q] at hr; cases hr
    | top => cases hr
    | ag cells => cases hr
    | tup vs => cases hr
  · rename_i t x f
    have hx := h x (by simp [Op.operands])
    simp only [opP] at hr ⊢
    rw [hx] at hr
    clear hx h ho
    generalize ρ x = u at hr ⊢
    split at hr
    · rename_i off ft hf
      split at hr
      · cases hr
      · rename_i hz
        simp only [hf, if_neg hz]
        cases u with
        | pt id sz r' c' =>
          simp only [V.fgt] at hr
          by_cases q : p id = true
          · rw [if_pos q] at hr; cases hr
          · rw [if_neg q] at hr; cases hr; exact ⟨_, rfl, by simp [V.fgt, q]⟩
        | d y => cases y <;> simp only [V.fgt] at hr <;> first | (cases hr; done) | (cases hr; exact ⟨_, rfl, rfl⟩)
        | rs id sz off' len =>
          simp only [V.fgt] at hr
          by_cases q : p id = true
          · rw [if_pos q] at hr; cases hr
          · rw [if_neg q] at hr; cases hr
        | mp id =>
          simp only [V.fgt] at hr
          by_cases q : p id = true
          · rw [if_pos q] at hr; cases hr
          · rw [if_neg q] at hr; cases hr
        | fn f capt => cases hr
        | top => cases hr
        | ag cells => cases hr
        | tup vs => cases hr
    · cases hr
theorem append_congr {cl : Call} {ρ ρ' : Operand → V} (h : ∀ x ∈ cl.args, ρ x = ρ' x) (s : Store) : opAppend P cl ρ s = opAppend P cl ρ' s ∧ opAppendV P cl ρ s = opAppendV P cl ρ' s := by
  have h2 : ∀ x ∈ cl.args.toList, ρ x = ρ' x := fun x hx => h x (by simpa using hx)
  rcases ha : cl.args.toList with _ | ⟨x, _ | ⟨y, _ | ⟨z, r⟩⟩⟩
  · simp [opAppend, opAppendV, ha]
  · simp [opAppend, opAppendV, ha]
  · rw [ha] at h2
    have hx := h2 x (by simp)
    have hy := h2 y (by simp)
    rcases ht : cl.argTypes.toList with _ | ⟨t, _ | ⟨u, _ | ⟨q, r⟩⟩⟩ <;> simp [opAppend, opAppendV, ha, ht, hx, hy]
  · simp [opAppend, opAppendV, ha]
theorem fgtL_put (p : Nat → Bool) (e : Env) (d : Option Nat) (v : V) : V.fgtL p (put e d v) = put (V.fgtL p e) d (v.fgt p) := by
  cases d with
  | none => rfl
  | some k =>
    simp only [put]
    apply List.ext_getElem?
    intro j
    rw [fgtL_at, List.getElem?_set, List.getElem?_set, fgtL_len]
    by_cases e1 : k = j
    · subst e1
      simp only [if_true]
      split <;> rfl
    · simp only [if_neg e1, fgtL_at]
theorem exchangeX {im : Op → Bool} {all : List Oper} {x y : Oper} (ha : apart all x y = true) (hx : cls x.op = .x) (hxg : x.guard = none) (hy : isAddr y = true) {E E1 E2 : St} (h1 : Stp P im all x E E1) (h2 : Stp P im all y E1 E2) : ∃ E1', Stp P im all y E E1' ∧ Stp P im all x E1' E2 := by
  have hyg : y.guard = none := by
    simp only [isAddr, Bool.and_eq_true, Option.isNone_iff_eq_none] at hy; exact hy.2
  have hyp : cls y.op = .p := by
    simp only [isAddr, Bool.and_eq_true] at hy
    have := hy.1
    split at this
    · rename_i q; rw [q]; rfl
    · rename_i q; rw [q]; rfl
    · cases this
  have gx : ∀ e, guardOf all e x.guard = some none := fun e => by rw [hxg]; rfl
  have gy : ∀ e, guardOf all e y.guard = some none := fun e => by rw [hyg]; rfl
  have dx : ∀ {E E' : St}, Stp P im all x E E' ↔ Do P x E E' := fun {E E'} => by
    unfold Stp; rw [gx]; exact doI_do (fun _ => by rw [hx]; simp)
  have dy : ∀ {E E' : St}, Stp P im all y E E' ↔ Do P y E E' := fun {E E'} => by
    unfold Stp; rw [gy]; exact doI_do (fun _ => by rw [hyp]; simp)
  rw [dx] at h1
  rw [dy] at h2
  unfold Do at h1 h2
  rw [hx] at h1
  rw [hyp] at h2
  simp only at h1 h2
  obtain ⟨cl, ho, hcal, k, c, sz, n, blk, g1, hc, rfl⟩ := h1
  obtain ⟨r, s', hl, rfl⟩ := h2
  unfold Loc at hl
  rw [hyp] at hl
  obtain ⟨c2, g2, hc2, rfl⟩ := hl
  simp only [apart, Bool.and_eq_true] at ha
  have hne : ∀ q, x.dst = some q → y.dst ≠ some q := fun q e => by
    have := ha.1; rw [e] at this; simp at this; exact this.2
  have hlx : ∀ q, looks all y q = true → x.dst ≠ some q := fun q hk e => by
    have := ha.1; rw [e] at this; simp [hk] at this
  have hly : ∀ q, looks all x q = true → y.dst ≠ some q := fun q hk e => by
    have := ha.2; rw [e] at this; simp [hk] at this
  obtain ⟨r0, g3, g4⟩ := addr_fgt (P := P) (p := hitO k (newId x.dst)) hy (ρ := look E.e) (fun z hz => look_fgt fun t ht => by
    subst ht
    exact hlx t (by unfold looks; rw [Bool.or_eq_true]; exact .inl (List.any_eq_true.2 ⟨.tmp t, by simpa using hz, by simp⟩))) g2
  have hargs : ∀ z ∈ cl.args, look (put E.e y.dst r0) z = look E.e z := fun z hz => by
    cases z with
    | tmp t =>
      exact put_getD (hly t (by
        unfold looks
        rw [Bool.or_eq_true, ho]
        exact .inl (List.any_eq_true.2 ⟨.tmp t, by simp only [Op.operands, Call.operands, Array.toList_append, List.mem_append]; exact .inr (by simpa using hz), by simp⟩)))
    | _ => rfl
  obtain ⟨q1, q2⟩ := append_congr (P := P) hargs E.s
  refine ⟨⟨put E.e y.dst r0, E.s⟩, dy.2 ?_, dx.2 ?_⟩
  · unfold Do; rw [hyp]
    refine ⟨r0, E.s, ?_, rfl⟩
    unfold Loc; rw [hyp]
    exact ⟨c2, g3, hc2, rfl⟩
  · unfold Do; rw [hx]
    refine ⟨cl, ho, hcal, k, c, sz, n, blk, ?_, hc, ?_⟩
    · rcases g1 with ⟨al, w1, w2, w3⟩ | ⟨al, w1, w2⟩
      · exact .inl ⟨al, q1.trans w1, w2, w3⟩
      · exact .inr ⟨al, q2.trans w1, w2⟩
    · rw [fgtL_put, g4, put_comm fun q e1 e2 => hne q e2 e1]
theorem exchangeM {im : Op → Bool} {all : List Oper} {x y : Oper} (ha : apart all x y = true) (hx : isMove x = true) (hy : cls y.op = .x) (hyg : y.guard = none) {E E1 E2 : St} (h1 : Stp P im all x E E1) (h2 : Stp P im all y E1 E2) : ∃ E1', Stp P im all y E E1' ∧ Stp P im all x E1' E2 := by
  simp only [isMove, Bool.and_eq_true, Option.isNone_iff_eq_none] at hx
  obtain ⟨hm, hxg⟩ := hx
  obtain ⟨z, hz⟩ : ∃ z, x.op = .move z := by
    split at hm
    · rename_i z q; exact ⟨z, q⟩
    · cases hm
  have hxp : cls x.op = .p := by rw [hz]; rfl
  have gx : ∀ e, guardOf all e x.guard = some none := fun e => by rw [hxg]; rfl
  have gy : ∀ e, guardOf all e y.guard = some none := fun e => by rw [hyg]; rfl
  have dx : ∀ {E E' : St}, Stp P im all x E E' ↔ Do P x E E' := fun {E E'} => by
    unfold Stp; rw [gx]; exact doI_do (fun _ => by rw [hxp]; simp)
  have dy : ∀ {E E' : St}, Stp P im all y E E' ↔ Do P y E E' := fun {E E'} => by
    unfold Stp; rw [gy]; exact doI_do (fun _ => by rw [hy]; simp)
  rw [dx] at h1
  rw [dy] at h2
  unfold Do at h1 h2
  rw [hxp] at h1
  rw [hy] at h2
  simp only at h1 h2
  obtain ⟨r, s', hl, rfl⟩ := h1
  unfold Loc at hl
  rw [hxp] at hl
  obtain ⟨c2, g2, hc2, rfl⟩ := hl
  rw [hz] at g2
  simp only [opP] at g2
  cases g2
  obtain ⟨cl, ho, hcal, k, c, sz, n, blk, g1, hc, rfl⟩ := h2
  simp only [apart, Bool.and_eq_true] at ha
  have hne : ∀ q, x.dst = some q → y.dst ≠ some q := fun q e => by
    have := ha.1; rw [e] at this; simp at this; exact this.2
  have hlx : ∀ q, looks all y q = true → x.dst ≠ some q := fun q hk e => by
    have := ha.1; rw [e] at this; simp [hk] at this
  have hly : ∀ q, looks all x q = true → y.dst ≠ some q := fun q hk e => by
    have := ha.2; rw [e] at this; simp [hk] at this
  have hargs : ∀ u ∈ cl.args, look (put E.e x.dst (look E.e z)) u = look E.e u := fun u hu => by
    cases u with
    | tmp t =>
      exact put_getD (hlx t (by
        unfold looks
        rw [Bool.or_eq_true, ho]
        exact .inl (List.any_eq_true.2 ⟨.tmp t, by simp only [Op.operands, Call.operands, Array.toList_append, List.mem_append]; exact .inr (by simpa using hu), by simp⟩)))
    | _ => rfl
  obtain ⟨q1, q2⟩ := append_congr (P := P) hargs E.s
  refine ⟨⟨put (V.fgtL (hitO k (newId y.dst)) E.e) y.dst (.rs (newId y.dst) sz 0 n), putB (fgtS (hitO k (newId y.dst)) E.s) (newId y.dst) blk⟩, dy.2 ?_, dx.2 ?_⟩
  · unfold Do; rw [hy]
    refine ⟨cl, ho, hcal, k, c, sz, n, blk, ?_, hc, rfl⟩
    rcases g1 with ⟨al, w1, w2, w3⟩ | ⟨al, w1, w2⟩
    · exact .inl ⟨al, q1.symm.trans w1, w2, w3⟩
    · exact .inr ⟨al, q2.symm.trans w1, w2⟩
  · unfold Do; rw [hxp]
    have hlk : look (put (V.fgtL (hitO k (newId y.dst)) E.e) y.dst (.rs (newId y.dst) sz 0 n)) z = (look E.e z).fgt (hitO k (newId y.dst)) := look_fgt fun t ht => by
      subst ht
      exact hly t (by unfold looks; rw [Bool.or_eq_true, hz]; exact .inl (List.any_eq_true.2 ⟨.tmp t, by simp [Op.operands], by simp⟩))
    refine ⟨(look E.e z).fgt (hitO k (newId y.dst)), putB (fgtS (hitO k (newId y.dst)) E.s) (newId y.dst) blk, ?_, ?_⟩
    · unfold Loc; rw [hxp]
      exact ⟨True, by rw [hz]; simp only [opP]; rw [hlk], trivial, rfl⟩
    · simp only [fgtL_put]; rw [put_comm hne]
/-! a load beside a map's update -/
theorem load_upd {t : TypeId} {a : Operand} {ρ : Operand → V} {s : Store} {id : Nat} {ks ks' : List Value} {vs vs' : List V} (h : getB s id = some (.mp ks vs)) : opR P (.load t a) ρ (putB s id (.mp ks' vs')) = opR P (.load t a) ρ s := by
  simp only [opR]
  cases ρ a with
  | pt i sz r c =>
    simp only [getB_putB]
    by_cases e : i = id
    · subst e
      rw [if_pos rfl, h]
    · rw [if_neg e]
  | d y => cases y <;> rfl
  | _ => rfl
theorem exchangeL {im : Op → Bool} {all : List Oper} {x y : Oper} (ha : apart all x y = true) (h : (isLoad x = true ∧ isUpd y = true) ∨ (isUpd x = true ∧ isLoad y = true)) {E E1 E2 : St} (h1 : Stp P im all x E E1) (h2 : Stp P im all y E1 E2) : ∃ E1', Stp P im all y E E1' ∧ Stp P im all x E1' E2 := by
  have hl : ∀ {o : Oper}, isLoad o = true → (∃ t a, o.op = .load t a) ∧ o.guard = none := fun {o} q => by
    simp only [isLoad, Bool.and_eq_true, Option.isNone_iff_eq_none] at q
    refine ⟨?_, q.2⟩
    have := q.1
    split at this
    · exact ⟨_, _, by assumption⟩
    · cases this
  have hu : ∀ {o : Oper}, isUpd o = true → (∃ t m k v, o.op = .mapUpdate t m k v) ∧ o.guard = none := fun {o} q => by
    simp only [isUpd, Bool.and_eq_true, Option.isNone_iff_eq_none] at q
    refine ⟨?_, q.2⟩
    have := q.1
    split at this
    · exact ⟨_, _, _, _, by assumption⟩
    · cases this
  have dl : ∀ {o : Oper} {E E' : St}, isLoad o = true → (Stp P im all o E E' ↔ ∃ c v, opR P o.op (look E.e) E.s = some (c, v) ∧ c ∧ E' = ⟨put E.e o.dst v, E.s⟩) := fun {o E E'} q => by
    obtain ⟨⟨t, a, e⟩, g⟩ := hl q
    have hc : cls o.op = .r := by rw [e]; rfl
    unfold Stp
    rw [show guardOf all E.e o.guard = some none by rw [g]; rfl]
    show DoI P im o E E' ↔ _
    rw [doI_do (fun _ => by rw [hc]; simp)]
    unfold Do Loc
    rw [hc]
    simp only
    constructor
    · rintro ⟨v, s', ⟨c, q1, q2, rfl⟩, rfl⟩; exact ⟨c, v, q1, q2, rfl⟩
    · rintro ⟨c, v, q1, q2, rfl⟩; exact ⟨v, _, ⟨c, q1, q2, rfl⟩, rfl⟩
  have du : ∀ {o : Oper} {E E' : St}, isUpd o = true → (Stp P im all o E E' ↔ ∃ c s', opW P o.op (look E.e) E.s = some (c, s') ∧ c ∧ E' = ⟨put E.e o.dst vundef, s'⟩) := fun {o E E'} q => by
    obtain ⟨⟨t, m, k, v, e⟩, g⟩ := hu q
    have hc : cls o.op = .w := by rw [e]; rfl
    unfold Stp
    rw [show guardOf all E.e o.guard = some none by rw [g]; rfl]
    show DoI P im o E E' ↔ _
    rw [doI_do (fun _ => by rw [hc]; simp)]
    unfold Do
    rw [hc]
  simp only [apart, Bool.and_eq_true] at ha
  have hne : ∀ q, x.dst = some q → y.dst ≠ some q := fun q e => by
    have := ha.1; rw [e] at this; simp at this; exact this.2
  have hlx : ∀ q, looks all y q = true → x.dst ≠ some q := fun q hk e => by
    have := ha.1; rw [e] at this; simp [hk] at this
  have hly : ∀ q, looks all x q = true → y.dst ≠ some q := fun q hk e => by
    have := ha.2; rw [e] at this; simp [hk] at this
  have opx : ∀ (v : V), ∀ z ∈ x.op.operands, look (put E.e y.dst v) z = look E.e z := fun v z hz => by
    cases z with
    | tmp t => exact put_getD (hly t (by unfold looks; rw [Bool.or_eq_true]; exact .inl (List.any_eq_true.2 ⟨.tmp t, by simpa using hz, by simp⟩)))
    | _ => rfl
  have opy : ∀ (v : V), ∀ z ∈ y.op.operands, look (put E.e x.dst v) z = look E.e z := fun v z hz => by
    cases z with
    | tmp t => exact put_getD (hlx t (by unfold looks; rw [Bool.or_eq_true]; exact .inl (List.any_eq_true.2 ⟨.tmp t, by simpa using hz, by simp⟩)))
    | _ => rfl
  rcases h with ⟨qx, qy⟩ | ⟨qx, qy⟩
  · obtain ⟨c1, v, g1, g2, rfl⟩ := (dl qx).1 h1
    obtain ⟨c2, s', g3, g4, rfl⟩ := (du qy).1 h2
    obtain ⟨⟨t, a, ex⟩, _⟩ := hl qx
    obtain ⟨⟨t2, m, k, v2, ey⟩, _⟩ := hu qy
    simp only at g3
    rw [opW_congr (opy v)] at g3
    refine ⟨⟨put E.e y.dst vundef, s'⟩, (du qy).2 ⟨c2, s', g3, g4, rfl⟩, (dl qx).2 ⟨c1, v, ?_, g2, ?_⟩⟩
    · rw [ey] at g3
      obtain ⟨id, ks, vs, ks', vs', w1, _, rfl, _⟩ := updV_put g3
      simp only
      rw [opR_congr (opx vundef)]
      rw [ex] at g1 ⊢
      rw [load_upd w1]; exact g1
    · simp only; rw [put_comm hne]
  · obtain ⟨c1, s', g1, g2, rfl⟩ := (du qx).1 h1
    obtain ⟨c2, v, g3, g4, rfl⟩ := (dl qy).1 h2
    obtain ⟨⟨t, m, k, v2, ex⟩, _⟩ := hu qx
    obtain ⟨⟨t2, a, ey⟩, _⟩ := hl qy
    simp only at g3
    rw [opR_congr (opy vundef)] at g3
    have g1' := g1
    rw [ex] at g1'
    obtain ⟨id, ks, vs, ks', vs', w1, _, rfl, _⟩ := updV_put g1'
    rw [ey, load_upd w1, ← ey] at g3
    refine ⟨⟨put E.e y.dst v, E.s⟩, (dl qy).2 ⟨c2, v, g3, g4, rfl⟩, (du qx).2 ⟨c1, putB E.s id (.mp ks' vs'), ?_, g2, ?_⟩⟩
    · simp only; rw [opW_congr (opx v)]; exact g1
    · simp only; rw [put_comm hne]
theorem exchange {im : Op → Bool} {all : List Oper} {x y : Oper} (hc : comm im all x y = true) {E E1 E2 : St} (hfx : makes x = true → Fresh (mine x) E.e E.s) (hfy : makes y = true → Fresh (mine y) E.e E.s)
    (hd : makes x = true → makes y = true → ∀ i, mine x i = true → mine y i = false) (h1 : Stp P im all x E E1) (h2 : Stp P im all y E1 E2) : ∃ E1', Stp P im all y E E1' ∧ Stp P im all x E1' E2 := by
  simp only [comm, Bool.and_eq_true, Bool.or_eq_true] at hc
  obtain ⟨ha, hq⟩ := hc
  rcases hq with hq | hq
  case inr => exact exchangeL ha (.inr hq) h1 h2
  rcases hq with hq | hq
  case inr => exact exchangeL ha (.inl hq) h1 h2
  rcases hq with hq | ⟨hq1, hq2, hq3⟩
  case inr => exact exchangeM ha hq1 (by simpa using hq2) (by simpa using hq3) h1 h2
  rcases hq with hq | ⟨⟨hq1, hq2⟩, hq3⟩
  case inr => exact exchangeX ha (by simpa using hq1) (by simpa using hq2) hq3 h1 h2
  have hxx : cls x.op ≠ .x := by
    rcases hq with (⟨h, _⟩ | ⟨h, _⟩) | ⟨h, _⟩
    · intro e; simp [quiet, e] at h
    · intro e; simp [e] at h
    · intro e; simp [e] at h
  have hyx : cls y.op ≠ .x := by
    rcases hq with (⟨_, h⟩ | ⟨_, h⟩) | ⟨_, h⟩
    · intro e; simp [quiet, e] at h
    · intro e; simp [e] at h
    · intro e; simp [e] at h
  have hxc : im x.op = true → cls x.op ≠ .c := by
    intro him
    rcases hq with (⟨h, _⟩ | ⟨h, _⟩) | ⟨h, _⟩
    · intro e; simp [quiet, e, him] at h
    · intro e; simp [e] at h
    · intro e; simp [e] at h
  have hyc : im y.op = true → cls y.op ≠ .c := by
    intro him
    rcases hq with (⟨_, h⟩ | ⟨_, h⟩) | ⟨_, h⟩
    · intro e; simp [quiet, e, him] at h
    · intro e; simp [e] at h
    · intro e; simp [e] at h
  rw [locG_of hxx hxc] at h1
  obtain ⟨vx, ex, g1, rfl⟩ := h1
  rw [locG_of hyx hyc] at h2
  obtain ⟨vy, ey, g2, rfl⟩ := h2
  simp only [apart, Bool.and_eq_true] at ha
  have hne : ∀ k, x.dst = some k → y.dst ≠ some k := fun k e => by
    have := ha.1; rw [e] at this; simp at this; exact this.2
  have hlx : ∀ k, looks all y k = true → x.dst ≠ some k := fun k hk e => by
    have := ha.1; rw [e] at this; simp [hk] at this
  have hly : ∀ k, looks all x k = true → y.dst ≠ some k := fun k hk e => by
    have := ha.2; rw [e] at this; simp [hk] at this
  have g2' : LocG P all y E.e (puts E.s ex) vy ey := (locG_congr fun k hk => put_getD (hlx k hk)).1 g2
  have g1' : LocG P all x (put E.e y.dst vy) E.s vx ex := (locG_congr fun k hk => put_getD (hly k hk)).2 g1
  have key : LocG P all y E.e E.s vy ey ∧ LocG P all x (put E.e y.dst vy) (puts E.s ey) vx ex ∧ puts (puts E.s ex) ey = puts (puts E.s ey) ex := by
    rcases hq with (⟨q1, q2⟩ | ⟨q1, q2⟩) | ⟨q1, q2⟩
    · have wx : cls x.op ≠ .w := fun e => by simp [quiet, e] at q1
      have wy : cls y.op ≠ .w := fun e => by simp [quiet, e] at q2
      have ex1 := locG_ext wx g1
      have ey1 := locG_ext wy g2
      have a1 : LocG P all y E.e E.s vy ey := by
        by_cases hex : ex = []
        · subst hex; exact g2'
        · obtain ⟨z, zs, rfl⟩ := List.exists_cons_of_ne_nil hex
          have hm := (ex1 z (by simp)).1
          exact locG_grow (p := mine x) wy (hfx hm).env (fun i hi => (getB_puts _ _ _ fun q hq e => by rw [← e, (ex1 q hq).2] at hi; cases hi).symm) g2'
      have a2 : LocG P all x E.e (puts E.s ey) vx ex := by
        by_cases hey : ey = []
        · subst hey; exact g1
        · obtain ⟨z, zs, rfl⟩ := List.exists_cons_of_ne_nil hey
          have hm := (ey1 z (by simp)).1
          exact locG_grow (p := mine y) wx (hfy hm).env (fun i hi => getB_puts _ _ _ fun q hq e => by rw [← e, (ey1 q hq).2] at hi; cases hi) g1
      refine ⟨a1, (locG_congr fun k hk => put_getD (hly k hk)).2 a2, puts_comm _ _ _ fun q hq r hr e => ?_⟩
      have := hd (ex1 q hq).1 (ey1 r hr).1 q.1 (ex1 q hq).2
      rw [e, (ey1 r hr).2] at this
      cases this
    · have px : cls x.op = .p := by simpa using q1
      have e0 : ex = [] := by
        have := locG_ext (by rw [px]; simp) g1
        cases ex with
        | nil => rfl
        | cons z zs => have := (this z (by simp)).1; simp [makes, px] at this
      subst e0
      exact ⟨g2', locG_any px g1', rfl⟩
    · have py : cls y.op = .p := by simpa using q2
      have e0 : ey = [] := by
        have := locG_ext (by rw [py]; simp) g2
        cases ey with
        | nil => rfl
        | cons z zs => have := (this z (by simp)).1; simp [makes, py] at this
      subst e0
      exact ⟨locG_any py g2', g1', rfl⟩
  obtain ⟨k1, k2, k3⟩ := key
  refine ⟨⟨put E.e y.dst vy, puts E.s ey⟩, (locG_of hyx hyc).2 ⟨vy, ey, k1, rfl⟩, (locG_of hxx hxc).2 ⟨vx, ex, k2, ?_⟩⟩
  rw [k3, put_comm hne]
end Go.Fw
end
section
namespace Go.Fw
variable {P : Program}

theorem put_menL {p : Nat → Bool} {e : Env} {d : Option Nat} {v : V} (h : V.menL p e = false) (hv : v.men p = false) : V.menL p (put e d v) = false := by
  cases d with
  | none => exact h
  | some k =>
    refine menL_of fun j x hj => ?_
    rcases List.mem_or_eq_of_mem_set (List.mem_of_getElem? hj) with hx | rfl
    · obtain ⟨i, hi⟩ := List.getElem?_of_mem hx; exact menL_at h hi
    · exact hv
theorem Fresh.puts {p : Nat → Bool} {e : Env} {s : Store} (h : Fresh p e s) {ext : Store} (hx : ∀ x ∈ ext, p x.1 = false ∧ FreshB p x.2) : Fresh p e (puts s ext) := by
  refine ⟨h.env, ?_⟩
  induction ext with
  | nil => exact h.sto
  | cons y r ih =>
    obtain ⟨i, b⟩ := y
    intro j blk hj
    simp only [Fw.puts, getB_putB] at hj
    split at hj
    · rename_i e; subst e; cases hj; exact hx (j, b) (by simp)
    · exact ih (fun x hx' => hx x (by simp [hx'])) j blk hj
theorem locX_fresh {o : Oper} {p : Nat → Bool} {e : Env} {s : Store} {v : V} {ext : Store} (hf : Fresh p e s) (hp : makes o = true → ∀ i, mine o i = true → p i = false) (h : LocX P o (look e) s v ext) : v.men p = false ∧ ∀ x ∈ ext, p x.1 = false ∧ FreshB p x.2 := by
  have hρ := look_men hf.env
  unfold LocX at h
  cases hc : cls o.op <;> rw [hc] at h <;> simp only at h
  · obtain ⟨c, h1, h2, rfl⟩ := h; exact ⟨opP_men hρ h1, by simp⟩
  · obtain ⟨c, h1, h2, rfl⟩ := h; exact ⟨opR_men hf hρ h1, by simp⟩
  · obtain ⟨c, blk, h0, h1, h2, rfl⟩ := h
    have hid : p (newId o.dst) = false := hp (by simp [makes, hc]) _ (by simp [mine])
    have key : v.men p = false ∧ FreshB p blk := by
      unfold opA at h1
      split at h1 <;> try (cases h1; done)
      · split at h1
        · rename_i hcs; cases h1; exact ⟨hid, men_cells (hρ _) hcs⟩
        · cases h1
      · split at h1
        · split at h1
          · cases h1; exact ⟨hid, lits_men p _⟩
          · cases h1
        · cases h1
      · split at h1
        · split at h1
          · split at h1
            · split at h1
              · rename_i hcs
                have hfm : V.menL p _ = false := fillV_men (lits_men p _) (fun x hx => by
                  simp only [List.mem_map] at hx
                  obtain ⟨u, _, rfl⟩ := hx
                  exact hρ u.2) hcs
                split at h1
                · cases h1; exact ⟨hid, trivial⟩
                · cases h1; exact ⟨hid, hfm⟩
              · cases h1
            · cases h1
          · cases h1
        · cases h1
      · split at h1
        · split at h1
          · split at h1
            · cases h1; exact ⟨hid, trivial⟩
            · cases h1
          · cases h1
        · cases h1
      · cases h1; exact ⟨hid, rfl⟩
    exact ⟨key.1, by simpa using ⟨hid, key.2⟩⟩
  · obtain ⟨c, s', h1, h2, rfl, id, blk, rfl, rfl⟩ := h
    refine ⟨rfl, ?_⟩
    simp only [List.mem_singleton, forall_eq]
    have key0 : ∀ {id0 : Nat} {b0 : Blk}, p id0 = false → FreshB p b0 → putB s id0 b0 = putB s id blk → p id = false ∧ FreshB p blk := by
      intro id0 b0 hp0 hb0 he
      have e1 := congrArg (fun t => getB t id) he
      simp only [getB_putB, if_true] at e1
      by_cases e2 : id = id0
      · subst e2; simp at e1; exact ⟨hp0, e1 ▸ hb0⟩
      · rw [if_neg e2] at e1
        exact ⟨(hf.sto id blk e1).1, (hf.sto id blk e1).2⟩
    have upd : ∀ {t : TypeId} {x k y : Operand}, updV P t (look e x) (look e k) (look e y) s = some (c, putB s id blk) → p id = false ∧ FreshB p blk := by
      intro t x k y h
      obtain ⟨id0, ks, vs, ks', vs', g1, _, g2, g3⟩ := updV_put h
      refine key0 (b0 := .mp ks' vs') (hf.sto _ _ g1).1 (menL_of fun j v hj => ?_) g2.symm
      rcases g3 v (List.mem_of_getElem? hj) with q | rfl
      · obtain ⟨i, hi⟩ := List.getElem?_of_mem q
        exact menL_at (hf.sto _ _ g1).2 hi
      · exact hρ y
    unfold opW at h1
    split at h1 <;> try (cases h1; done)
    case h_2 => exact upd h1
    case h_3 => exact upd h1
    split at h1
    · rename_i id' sz r cl vs ex hcs
      have hvs := men_cells (hρ _) hcs
      have same : ∀ {id0 : Nat} {b0 : Blk}, putB s id0 b0 = putB s id blk → id0 = id ∧ b0 = blk ∨ True := fun _ => .inr trivial
      have key : ∀ {id0 : Nat} {b0 : Blk}, p id0 = false → FreshB p b0 → putB s id0 b0 = putB s id blk → getB s id0 ≠ some b0 → p id = false ∧ FreshB p blk := by
        intro id0 b0 hp0 hb0 he hne
        have e1 := congrArg (fun t => getB t id) he
        simp only [getB_putB, if_true] at e1
        by_cases e2 : id = id0
        · subst e2; simp at e1; exact ⟨hp0, e1 ▸ hb0⟩
        · rw [if_neg e2] at e1
          exact ⟨(hf.sto id blk e1).1, (hf.sto id blk e1).2⟩
      have key2 : ∀ {id0 : Nat} {b0 : Blk}, p id0 = false → FreshB p b0 → putB s id0 b0 = putB s id blk → p id = false ∧ FreshB p blk := by
        intro id0 b0 hp0 hb0 he
        have e1 := congrArg (fun t => getB t id) he
        simp only [getB_putB, if_true] at e1
        by_cases e2 : id = id0
        · subst e2; simp at e1; exact ⟨hp0, e1 ▸ hb0⟩
        · rw [if_neg e2] at e1
          exact ⟨(hf.sto id blk e1).1, (hf.sto id blk e1).2⟩
      split at h1
      · split at h1
        · rename_i cells hg
          split at h1
          · simp only [Option.some.injEq, Prod.mk.injEq] at h1
            exact key2 (b0 := .vals (setAt cells (r * sz + cl) vs)) (hf.sto _ _ hg).1 (setAt_men hvs _ (hf.sto _ _ hg).2) h1.2
          · cases h1
        · rename_i n rows hg
          split at h1
          · split at h1
            · simp only [Option.some.injEq, Prod.mk.injEq] at h1
              refine key2 (hf.sto _ _ hg).1 ?_ h1.2
              trivial
            · cases h1
          · cases h1
        · cases h1
      · cases h1
    · cases h1
  · obtain ⟨g, args1, args, r, τ, h0, h1, h1b, h2, h3, h4, rfl, rfl⟩ := h
    obtain ⟨q, _, hq⟩ := newId_some h0
    simp only [okIds, Bool.and_eq_true, Bool.not_eq_true'] at h4
    have hsh : ∀ id, big id = false → p (newId o.dst + id) = false := fun id hb => by
      refine hp (by simp [makes, hc]) _ ?_
      have : id < 100 := by simpa [big] using hb
      simp only [mine, hq, decide_eq_true_eq]; omega
    refine ⟨shift_men hsh r h4.1, ?_⟩
    have : ∀ {τ : Store}, okT τ = true → ∀ x ∈ shiftS (newId o.dst) τ, p x.1 = false ∧ FreshB p x.2 := by
      intro τ
      induction τ with
      | nil => intro _ x hx; cases hx
      | cons y r ih =>
        obtain ⟨i, b⟩ := y
        intro h x hx
        simp only [okT, Bool.and_eq_true, Bool.not_eq_true'] at h
        simp only [shiftS, List.map_cons, List.mem_cons] at hx
        rcases hx with rfl | hx
        · refine ⟨hsh i h.1.1, ?_⟩
          cases b with
          | vals cells =>
            refine menL_of fun j x hj => ?_
            rw [shiftL_at] at hj
            obtain ⟨y, hy, rfl⟩ := Option.map_eq_some_iff.1 hj
            exact shift_men hsh y (menL_at (by simpa [okB] using h.1.2) hy)
          | mp ks vs =>
            refine menL_of fun j x hj => ?_
            rw [shiftL_at] at hj
            obtain ⟨y, hy, rfl⟩ := Option.map_eq_some_iff.1 hj
            exact shift_men hsh y (menL_at (by simpa [okB] using h.1.2) hy)
          | data sz rows => trivial
        · exact ih h.2 x hx
    exact this h4.2
theorem fgtL_men {p q : Nat → Bool} {l : List V} (h : V.menL p l = false) : V.menL p (V.fgtL q l) = false := by
  have key : ∀ x : V, x.men p = false → (x.fgt q).men p = false := fun x => by
    induction x using V.rec (motive_2 := fun l => V.menL p l = false → V.menL p (V.fgtL q l) = false) <;> simp_all [V.fgt, V.fgtL, V.men, V.menL]
    all_goals (split <;> simp_all [V.men])
  refine menL_of fun j x hj => ?_
  rw [fgtL_at] at hj
  obtain ⟨y, hy, rfl⟩ := Option.map_eq_some_iff.1 hj
  exact key y (menL_at h hy)
theorem stp_fresh {im : Op → Bool} {all : List Oper} {o : Oper} {p : Nat → Bool} {E E' : St} (hf : Fresh p E.e E.s) (hp : ∀ i, mine o i = true → p i = false) (h : Stp P im all o E E') : Fresh p E'.e E'.s := by
  by_cases hx : cls o.op = .x
  · have hdo : DoI P im o E E' → Fresh p E'.e E'.s := by
      intro h
      rw [doI_do (fun _ => by rw [hx]; simp)] at h
      unfold Do at h
      rw [hx] at h
      obtain ⟨cl, ho, hcal, k, c, sz, n, blk, h1, hc, rfl⟩ := h
      have hid : p (newId o.dst) = false := hp _ (by simp [mine])
      refine ⟨put_menL (fgtL_men hf.env) hid, fun i blk hi => ?_⟩
      rw [getB_putB] at hi
      split at hi
      · rename_i e; subst e; cases hi
        refine ⟨hid, ?_⟩
        rcases h1 with ⟨all, h1, rfl, rfl⟩ | ⟨all, h1, rfl⟩
        · trivial
        · -- what is added names no block that is to be new
          refine fgtL_men ?_
          unfold opAppendV at h1
          split at h1
          · split at h1
            · split at h1
              · split at h1
                · split at h1
                  · rename_i hb hsr
                    cases h1
                    have sub : ∀ {l l' : List V}, V.menL p l = false → (∀ v ∈ l', v ∈ l) → V.menL p l' = false := fun h hs => menL_sub h hs
                    refine menL_of fun j x hj => ?_
                    rcases List.mem_append.1 (List.mem_of_getElem? hj) with hm | hm
                    · unfold baseV at hb
                      split at hb <;> try (cases hb; done)
                      · cases hb; cases hm
                      · split at hb
                        · split at hb
                          · rename_i hg
                            cases hb
                            obtain ⟨i, hi⟩ := List.getElem?_of_mem hm
                            exact menL_at (hf.sto _ _ hg).2 hi
                          · cases hb
                        · cases hb
                    · unfold srcV at hsr
                      split at hsr <;> try (cases hsr; done)
                      split at hsr
                      · split at hsr
                        · rename_i hg
                          cases hsr
                          obtain ⟨i, hi⟩ := List.getElem?_of_mem (List.mem_of_mem_drop (List.mem_of_mem_take hm))
                          exact menL_at (hf.sto _ _ hg).2 hi
                        · cases hsr
                      · cases hsr
                  · cases h1
                · cases h1
              · cases h1
            · cases h1
          · cases h1
      · rw [getB_fgtS] at hi
        split at hi
        · cases hi
        · obtain ⟨b0, hb0, rfl⟩ := Option.map_eq_some_iff.1 hi
          refine ⟨(hf.sto i b0 hb0).1, ?_⟩
          cases b0 with
          | vals cells => exact fgtL_men (hf.sto i _ hb0).2
          | mp ks vs => exact fgtL_men (hf.sto i _ hb0).2
          | data sz rows => trivial
    unfold Stp at h
    split at h
    · exact h.elim
    · exact hdo h
    · rename_i want b hg
      rcases bool_or b want with hb | hb
      · exact hdo (h.1 hb)
      · rw [h.2 hb]; exact ⟨put_menL hf.env rfl, hf.sto⟩
  · by_cases hi : im o.op = true → cls o.op ≠ .c
    case neg =>
      have him : im o.op = true := by
        cases q : im o.op with
        | true => rfl
        | false => exact absurd (fun h => by rw [q] at h; cases h) hi
      have hcl : cls o.op = .c := by
        cases hc : cls o.op <;> first | rfl | exact absurd (fun _ e => by cases hc.symm.trans e) hi
      have hdo : DoI P im o E E' → Fresh p E'.e E'.s := by
        intro h
        unfold DoI at h
        rw [hcl, him] at h
        obtain ⟨g, args, ids, s0, r, s1, hds, hco, hm0, hok, _, rfl⟩ := h
        have ok := okW_iff hok
        obtain ⟨q, hq0, hq⟩ := newId_some hds
        have hrho : ∀ j, badId ids.length s1 j = false → p (rho ids (newId o.dst) j) = false := fun j hj => by
          simp only [badId, Bool.or_eq_false_iff, decide_eq_false_iff_not] at hj
          by_cases hl : j < ids.length
          · rw [rho_lt hl]
            obtain ⟨c, hc⟩ := Option.isSome_iff_exists.1 (ok.all j hl)
            exact (hf.sto _ _ (hm0 _ (getB_mem hc))).1
          · rw [rho_ge hl]
            refine hp _ ?_
            simp only [mine, decide_eq_true_eq]
            omega
        have hren : ∀ x : V, x.men (badId ids.length s1) = false → (x.ren (rho ids (newId o.dst))).men p = false := fun x => by
          induction x using V.rec (motive_2 := fun l => V.menL (badId ids.length s1) l = false → V.menL p (V.renL (rho ids (newId o.dst)) l) = false) <;> simp_all [V.men, V.menL, V.ren, V.renL]
        have hren' : ∀ b : Blk, b.men (badId ids.length s1) = false → FreshB p (b.ren (rho ids (newId o.dst))) := fun b hb => by
          cases b with
          | vals cells =>
            refine menL_of fun j x hj => ?_
            rw [renL_at] at hj
            obtain ⟨y, hy, rfl⟩ := Option.map_eq_some_iff.1 hj
            exact hren y (menL_at (by simpa [Blk.men] using hb) hy)
          | mp ks vs =>
            refine menL_of fun j x hj => ?_
            rw [renL_at] at hj
            obtain ⟨y, hy, rfl⟩ := Option.map_eq_some_iff.1 hj
            exact hren y (menL_at (by simpa [Blk.men] using hb) hy)
          | data sz rows => trivial
        refine ⟨put_menL hf.env (hren _ ok.res), fun i blk hi => ?_⟩
        rw [getB_puts'] at hi
        split at hi
        · rename_i b hb
          cases hi
          obtain ⟨j, b0, h1, rfl, rfl⟩ := getB_renS hb
          refine ⟨hrho j ?_, hren' _ (ok.outs h1).2⟩
          have := (ok.outs h1).1
          simp only [badId, Bool.or_eq_false_iff, decide_eq_false_iff_not, Bool.and_eq_false_iff]
          exact ⟨by omega, .inr (by rw [h1]; rfl)⟩
        · rw [getB_dropS] at hi
          split at hi
          · cases hi
          · exact hf.sto i blk hi
      unfold Stp at h
      split at h
      · exact h.elim
      · exact hdo h
      · rename_i want b hg
        rcases bool_or b want with hb | hb
        · exact hdo (h.1 hb)
        · rw [h.2 hb]; exact ⟨put_menL hf.env rfl, hf.sto⟩
    rw [locG_of hx hi] at h
    obtain ⟨v, ext, hl, rfl⟩ := h
    have key : v.men p = false ∧ ∀ x ∈ ext, p x.1 = false ∧ FreshB p x.2 := by
      unfold LocG at hl
      split at hl
      · exact hl.elim
      · exact locX_fresh hf (fun _ => hp) hl
      · rename_i want b hg
        rcases bool_or b want with hb | hb
        · exact locX_fresh hf (fun _ => hp) (hl.1 hb)
        · obtain ⟨rfl, rfl⟩ := hl.2 hb; exact ⟨rfl, by simp⟩
    exact ⟨put_menL hf.env key.1, (hf.puts key.2).sto⟩

/-! the region -/
def Steps (P : Program) (im : Op → Bool) (all : List Oper) : List Nat → St → St → Prop
  | [], E, E' => E' = E
  | i :: r, E, E' => ∃ o, all[i]? = some o ∧ ∃ E1, Stp P im all o E E1 ∧ Steps P im all r E1 E'
/-- the direct and the farther reasons why one stands behind another -/
def dep (all : List Oper) : Nat → Nat → Nat → Bool
  | 0, _, _ => false
  | n + 1, j, i => match all[i]? with
    | some o => o.after.toList.any fun e => Region.binds .any e && (e.on == j || dep all n j e.on)
    | none => false
def ahead (all : List Oper) : Bool := (List.range all.length).all fun i => match all[i]? with | some o => o.after.toList.all fun e => !Region.binds .any e || decide (e.on < i) | none => true
/-- what operations make stands in slots of their own -/
def alone (all : List Oper) : Bool := (List.range all.length).all fun j => match all[j]? with
  | some x => !makes x || (List.range all.length).all fun i => i == j || (match all[i]? with | some y => y.dst != x.dst | none => true)
  | none => true
def indep (im : Op → Bool) (all : List Oper) : Bool := ahead all && (List.range all.length).all fun i => (List.range i).all fun j => dep all all.length j i || (match all[j]?, all[i]? with | some x, some y => comm im all x y | _, _ => true)
def ks (all : List Oper) : List Nat := all.filterMap fun o => if makes o then some (newId o.dst / 100) else none
def madeIn (all : List Oper) (i : Nat) : Bool := (ks all).contains (i / 100)

def FreshAll (all : List Oper) (R : List Nat) (E : St) : Prop := ∀ i ∈ R, ∀ o, all[i]? = some o → makes o = true → Fresh (mine o) E.e E.s
theorem newId_inj {d d' : Option Nat} (h : newId d / 100 = newId d' / 100) : d = d' := by
  cases d with
  | none =>
    cases d' with
    | none => rfl
    | some k => simp only [newId] at h; omega
  | some k =>
    cases d' with
    | none => simp only [newId] at h; omega
    | some k' =>
      simp only [newId] at h
      rw [show k = k' by omega]
theorem alone_mine {all : List Oper} (ha : alone all = true) {i j : Nat} (hij : i ≠ j) {x y : Oper} (hx : all[i]? = some x) (hy : all[j]? = some y) (hm : makes x = true) (k : Nat) (hk : mine y k = true) : mine x k = false := by
  have hi : i < all.length := (List.getElem?_eq_some_iff.1 hx).1
  have hj : j < all.length := (List.getElem?_eq_some_iff.1 hy).1
  have h1 := List.all_eq_true.1 ha i (List.mem_range.2 hi)
  rw [hx] at h1
  simp only [hm, Bool.not_true, Bool.false_or] at h1
  have h2 := List.all_eq_true.1 h1 j (List.mem_range.2 hj)
  rw [hy] at h2
  have h3 : y.dst ≠ x.dst := by
    simp only [Bool.or_eq_true, beq_iff_eq, bne_iff_ne] at h2
    rcases h2 with h2 | h2
    · exact absurd h2.symm hij
    · exact h2
  simp only [mine, decide_eq_true_eq, decide_eq_false_iff_not] at hk ⊢
  intro e
  exact h3 (newId_inj (hk.symm.trans e))
theorem freshAll_step {im : Op → Bool} {all : List Oper} (ha : alone all = true) {R : List Nat} {E E' : St} {i : Nat} {o : Oper} (hi : all[i]? = some o) (hni : i ∉ R) (hf : FreshAll all R E) (h : Stp P im all o E E') : FreshAll all R E' := by
  intro j hj x hx hm
  exact stp_fresh (hf j hj x hx hm) (fun k hk => alone_mine ha (fun e : j = i => hni (e ▸ hj)) hx hi hm k hk) h
/-- one that may stand first is taken first -/
theorem to_front {im : Op → Bool} {all : List Oper} (ha : alone all = true) {i : Nat} {o : Oper} (hi : all[i]? = some o) : ∀ {R : List Nat} {E E' : St}, R.Nodup → i ∈ R → FreshAll all R E → (∀ j ∈ R.takeWhile (· != i), ∀ x, all[j]? = some x → comm im all x o = true) → Steps P im all R E E' →
    ∃ E1, Stp P im all o E E1 ∧ Steps P im all (R.erase i) E1 E' := by
  intro R
  induction R with
  | nil => intro E E' _ h; cases h
  | cons j r ih =>
    intro E E' hnd hm hf hc hs
    obtain ⟨x, hx, E1, h1, h2⟩ := hs
    by_cases e : j = i
    · subst e
      rw [hx] at hi; cases hi
      exact ⟨E1, h1, by simpa using h2⟩
    · have hmr : i ∈ r := (List.mem_cons.1 hm).resolve_left (Ne.symm e)
      have hnd' := List.nodup_cons.1 hnd
      have hfr : FreshAll all r E1 := freshAll_step ha hx hnd'.1 (fun k hk => hf k (by simp [hk])) h1
      have htw : (j :: r).takeWhile (· != i) = j :: r.takeWhile (· != i) := by simp [e]
      rw [htw] at hc
      obtain ⟨E2, g1, g2⟩ := ih hnd'.2 hmr hfr (fun k hk => hc k (by simp [hk])) h2
      obtain ⟨E3, g3, g4⟩ := exchange (hc j (by simp) x hx) (hf j (by simp) x hx) (hf i hm o hi) (fun m1 m2 k hk => alone_mine ha (Ne.symm e) hi hx m2 k hk) h1 g1
      refine ⟨E3, g3, ?_⟩
      rw [List.erase_cons_tail (by simpa using e)]
      exact ⟨x, hx, E2, g4, g2⟩

section
variable {w0 : World} {L0 : Par} {X : Nat → Prop}
theorem stp_op {im : Op → Bool} {all : List Oper} {i : Nat} {o : Oper} (hi : all[i]? = some o) {m : Nat → Option Nat} {a : Act} {w : World} {E E1 : St} (h : Rel w0 L0 X m E.e E.s a w) (hf : makes o = true → Fresh (mine o) E.e E.s) (hs : Stp P im all o E E1) {K : Act → World → Prop} {Q : Exit → Act → World → Prop}
    (hK : ∀ m' a' w', Rel w0 L0 X m' E1.e E1.s a' w' → K a' w') : wpOp P all.toArray Q i K a w := by
  unfold wpOp
  have hi' : all.toArray[i]? = some o := by simpa using hi
  simp only [hi']
  have gy : ∀ {g : Nat} {want : Bool} {q : Oper} {k : Nat} {u : Value}, o.guard = some (g, want) → all[g]? = some q → q.dst = some k → k < E.e.length → a.tmps.toList[k]? = some u → Region.wanted o (yielded all.toArray a.tmps) = ((match u with | .bool b => some b | _ => none) == some want) := by
    intro g want q k u h1 h2 h3 _ h4
    have h5 : a.tmps[k]? = some u := by simpa using h4
    unfold Region.wanted
    rw [h1]
    simp only [yielded, List.getElem?_toArray, h2, Option.bind_some, h3, h5]
    cases u <;> rfl
  unfold Stp at hs
  cases hg : guardOf all E.e o.guard with
  | none => rw [hg] at hs; exact hs.elim
  | some gq =>
    rw [hg] at hs
    unfold guardOf at hg
    cases hog : o.guard with
    | none =>
      rw [hog] at hg
      cases hg
      have : Region.wanted o (yielded all.toArray a.tmps) = true := by simp [Region.wanted, hog]
      rw [if_pos this]
      exact .inl (doI_wp h hf hs hK)
    | some q0 =>
      obtain ⟨g, want⟩ := q0
      rw [hog] at hg
      simp only at hg
      cases hag : all[g]? with
      | none => rw [hag] at hg; cases hg
      | some q =>
        rw [hag] at hg
        simp only at hg
        cases hqd : q.dst with
        | none => rw [hqd] at hg; cases hg
        | some k =>
          rw [hqd] at hg
          simp only at hg
          have hlt : k < E.e.length := by
            rcases Nat.lt_or_ge k E.e.length with h | h
            · exact h
            · rw [List.getD_eq_getElem?_getD, List.getElem?_eq_none h] at hg
              cases hg
          have hek : E.e[k]? = some (E.e.getD k .top) := by simp [List.getD_eq_getElem?_getD, List.getElem?_eq_getElem hlt]
          obtain ⟨u, hu, hur⟩ := h.env.get hek
          have hw := gy hog hag hqd hlt hu
          split at hg
          · rename_i b hb
            cases hg
            rw [hb] at hur
            have := hur.lit_inv; subst this
            simp only at hw hs
            rcases bool_or b want with e | e
            · subst e
              rw [if_pos (by rw [hw]; simp)]
              exact .inl (doI_wp h hf (hs.1 rfl) hK)
            · rw [if_neg (by rw [hw, e]; cases want <;> simp)]
              have := hs.2 e
              subst this
              exact hK m _ _ (h.put o.dst .int)
          · rename_i vs hb
            cases hg
            rw [hb] at hur
            have := hur.lit_inv; subst this
            simp only at hw hs
            rw [if_neg (by rw [hw]; simp)]
            have := hs.2 (by first | rfl | trivial)
            subst this
            exact hK m _ _ (h.put o.dst .int)
          · cases hg
theorem fresh_enter {all : List Oper} {e : Env} {s : Store} : FreshAll all (List.range all.length) ⟨V.fgtL (madeIn all) e, fgtS (madeIn all) s⟩ := by
  intro i _ o ho hm
  refine (fgt_fresh (madeIn all) e s).sub fun j hj => ?_
  have : newId o.dst / 100 ∈ ks all := by
    simp only [ks, List.mem_filterMap]
    exact ⟨o, List.mem_of_getElem? ho, by simp [hm]⟩
  simp only [mine, decide_eq_false_iff_not]
  intro e
  have : madeIn all j = true := by simp [madeIn, e, this]
  rw [this] at hj; cases hj
theorem Rel.fgt {m : Nat → Option Nat} {e : Env} {s : Store} {a : Act} {w : World} (h : Rel w0 L0 X m e s a w) (p : Nat → Bool) : Rel w0 L0 X m (V.fgtL p e) (fgtS p s) a w := by
  have hown : ∀ b, Own m (fgtS p s) b → Own m s b := by
    rintro b ⟨i, blk, h1, h2⟩
    rw [getB_fgtS] at h1
    split at h1
    · cases h1
    · obtain ⟨b0, hb0, _⟩ := Option.map_eq_some_iff.1 h1; exact ⟨i, b0, hb0, h2⟩
  have hL : ∀ b, Live X m (fgtS p s) b → Live X m s b ∨ w.heap.size ≤ b := fun b hl => .inl (hl.imp_right (hown b))
  have hk : CellsKept (Live X m s) w w := fun _ _ _ q => q
  have hz : SizesKept w w := fun _ cs _ _ q => ⟨cs, q, rfl⟩
  refine ⟨⟨h.env.len.trans (fgtL_len _ _).symm, fun j x v q1 q2 => ?_⟩, ⟨fun i blk hi => ?_, fun i j b q1 q2 q3 q4 => ?_⟩, h.dfr, h.ext, fun b hl => h.liv b (hown b hl), h.old, fun i hi hs => h.par i hi (by
    rw [getB_fgtS] at hs
    split at hs
    · cases hs
    · simpa using hs)⟩
  · rw [fgtL_at] at q1
    obtain ⟨y, hy, rfl⟩ := Option.map_eq_some_iff.1 q1
    exact VRel.mono' hk hz hL ((h.env.at_ j y v hy q2).fgt p)
  · rw [getB_fgtS] at hi
    split at hi
    · cases hi
    · obtain ⟨b0, hb0, rfl⟩ := Option.map_eq_some_iff.1 hi
      rcases h.sto.blk i b0 hb0 with ⟨b, r1, r2⟩ | ⟨r1, sz, rfl⟩
      · exact .inl ⟨b, r1, BRel.mono (p := fun _ => false) hk hz hL (fun _ _ => rfl) rfl (by cases b0 <;> first | exact menL_false _ | trivial) (r2.fgt p)⟩
      · exact .inr ⟨r1, sz, rfl⟩
  · have key : ∀ i, (getB (fgtS p s) i).isSome = true → (getB s i).isSome = true := fun i q => by
      rw [getB_fgtS] at q
      split at q
      · cases q
      · simpa using q
    exact h.sto.inj i j b q1 q2 (key i q3) (key j q4)
/-- in the text's order -/
theorem seq_ops {im : Op → Bool} {all : List Oper} (ha : alone all = true) : ∀ {R : List Nat} {m : Nat → Option Nat} {a : Act} {w : World} {E E' : St}, R.Nodup → FreshAll all R E → Rel w0 L0 X m E.e E.s a w → Steps P im all R E E' → ∀ {Q : Exit → Act → World → Prop}, (∀ m' a' w', Rel w0 L0 X m' E'.e E'.s a' w' → Q .normal a' w') → wpOps P all.toArray Q R a w := by
  intro R
  induction R with
  | nil => intro m a w E E' _ _ h hs Q hQ; cases hs; exact hQ m a w h
  | cons i r ih =>
    intro m a w E E' hnd hf h hs Q hQ
    obtain ⟨o, hi, E1, h1, h2⟩ := hs
    have hnd' := List.nodup_cons.1 hnd
    rw [wpOps_cons]
    exact stp_op hi h (hf i (by simp) o hi) h1 fun m' a' w' h' => ih hnd'.2 (freshAll_step ha hi hnd'.1 (fun k hk => hf k (by simp [hk])) h1) h' h2 hQ

theorem dep_listed {all : List Oper} {listed : Array Bool} (hcl : ∀ i o, all[i]? = some o → listed.getD i true = true → i < all.length → ∀ e ∈ o.after.toList, Region.binds .any e = true → listed.getD e.on false = true) (hlen : listed.size = all.length) :
    ∀ n j i o, all[i]? = some o → (∀ e ∈ o.after.toList, Region.binds .any e = true → listed.getD e.on false = true) → dep all n j i = true → listed.getD j false = true := by
  intro n
  induction n with
  | zero => intro j i o _ _ h; cases h
  | succ n ih =>
    intro j i o hi hd h
    simp only [dep, hi, List.any_eq_true, Bool.and_eq_true, Bool.or_eq_true, beq_iff_eq] at h
    obtain ⟨e, he, hb, h | h⟩ := h
    · rw [← h]; exact hd e he hb
    · have hl := hd e he hb
      cases hx : all[e.on]? with
      | none => cases n <;> simp [dep, hx] at h
      | some o' =>
        have hlt := (List.getElem?_eq_some_iff.1 hx).1
        refine ih j e.on o' hx (hcl e.on o' hx ?_ hlt) h
        have : e.on < listed.size := by omega
        simp [Array.getD, this] at hl ⊢
        exact hl
def undone (n : Nat) (listed : Array Bool) : List Nat := (List.range n).filter fun i => !listed.getD i true
theorem undone_set {n : Nat} {listed : Array Bool} {i : Nat} (hl : listed.size = n) (hi : i < n) : undone n (listed.setIfInBounds i true) = (undone n listed).erase i := by
  unfold undone
  rw [List.Nodup.erase_eq_filter (List.nodup_range.filter _), List.filter_filter]
  refine List.filter_congr fun k hk => ?_
  have hk' := List.mem_range.1 hk
  by_cases e : i = k
  · subst e; simp [Array.getD, hl, hi]
  · have h1 : (listed.setIfInBounds i true).getD k true = listed.getD k true := by
      simp [Array.getD_eq_getD_getElem?, Array.getElem?_setIfInBounds, e]
    rw [h1]
    simp [Ne.symm e]
theorem any_ops {im : Op → Bool} {all : List Oper} (ha : alone all = true) (hi : indep im all = true) : ∀ (fuel : Nat) {listed : Array Bool} {m : Nat → Option Nat} {a : Act} {w : World} {E E' : St}, listed.size = all.length → (undone all.length listed).length ≤ fuel →
    (∀ i o, all[i]? = some o → listed.getD i true = true → i < all.length → ∀ e ∈ o.after.toList, Region.binds .any e = true → listed.getD e.on false = true) →
    FreshAll all (undone all.length listed) E → Rel w0 L0 X m E.e E.s a w → Steps P im all (undone all.length listed) E E' → ∀ {Q : Exit → Act → World → Prop}, (∀ m' a' w', Rel w0 L0 X m' E'.e E'.s a' w' → Q .normal a' w') → wpAny P .any all.toArray Q fuel listed a w := by
  simp only [indep, Bool.and_eq_true] at hi
  obtain ⟨hah, hco⟩ := hi
  intro fuel
  have rdy : ∀ {listed : Array Bool}, listed.size = all.length → ∀ i, i ∈ Region.ready .any all.toArray listed ↔ i ∈ undone all.length listed ∧ ∃ o, all[i]? = some o ∧ ∀ e ∈ o.after.toList, Region.binds .any e = true → listed.getD e.on false = true := by
    intro listed hl i
    simp only [Region.ready, undone, List.mem_filter, List.size_toArray, List.getElem?_toArray, Bool.and_eq_true]
    constructor
    · rintro ⟨h1, h2, h3⟩
      refine ⟨⟨h1, h2⟩, ?_⟩
      cases ho : all[i]? with
      | none => rw [ho] at h3; cases h3
      | some o =>
        rw [ho] at h3
        refine ⟨o, rfl, fun e he hb => ?_⟩
        simp only [Option.map_some, Option.getD_some, Array.all_eq_true_iff_forall_mem] at h3
        have := h3 e (by simpa using he)
        simpa [hb] using this
    · rintro ⟨⟨h1, h2⟩, o, ho, h3⟩
      refine ⟨h1, h2, ?_⟩
      rw [ho]
      simp only [Option.map_some, Option.getD_some, Array.all_eq_true_iff_forall_mem]
      intro e he
      by_cases hb : Region.binds .any e = true
      · simp [h3 e (by simpa using he) hb]
      · simp [hb]
  -- as long as one is left, one may be taken
  have least : ∀ {listed : Array Bool}, listed.size = all.length → Region.ready .any all.toArray listed = [] → undone all.length listed = [] := by
    intro listed hl hr
    cases hu : undone all.length listed with
    | nil => rfl
    | cons i r =>
      exfalso
      have hmem : ∀ k, k ∈ undone all.length listed ↔ k < all.length ∧ listed.getD k true = false := fun k => by simp [undone]
      have hmin : ∀ k, k < i → listed.getD k false = true := by
        intro k hk
        have hii : i < all.length := ((hmem i).1 (by rw [hu]; simp)).1
        have hsort : (undone all.length listed).Pairwise (· < ·) := List.pairwise_lt_range.filter _
        rw [hu] at hsort
        have hks : k < listed.size := by omega
        cases hq : listed.getD k true with
        | true => simp [Array.getD, hks] at hq ⊢; exact hq
        | false =>
          have : k ∈ undone all.length listed := (hmem k).2 ⟨by omega, hq⟩
          rw [hu] at this
          rcases List.mem_cons.1 this with e | hm
          · omega
          · have := (List.pairwise_cons.1 hsort).1 k hm
            omega
      have hii : i < all.length := ((hmem i).1 (by rw [hu]; simp)).1
      have : i ∈ Region.ready .any all.toArray listed := (rdy hl i).2 ⟨by rw [hu]; simp, all[i], List.getElem?_eq_getElem hii, fun e he hb => by
        have h1 := List.all_eq_true.1 hah i (List.mem_range.2 hii)
        rw [List.getElem?_eq_getElem hii] at h1
        have h2 := List.all_eq_true.1 h1 e he
        simp only [hb, Bool.not_true, Bool.false_or, decide_eq_true_eq] at h2
        exact hmin _ h2⟩
      rw [hr] at this; cases this
  induction fuel with
  | zero =>
    intro listed m a w E E' hl hn hcl hf h hs Q hQ
    have hu : undone all.length listed = [] := List.eq_nil_of_length_eq_zero (by omega)
    rw [hu] at hs
    cases hs
    refine ⟨?_, hQ m a w h⟩
    cases hr : Region.ready .any all.toArray listed with
    | nil => rfl
    | cons i r =>
      have := ((rdy hl i).1 (by rw [hr]; simp)).1
      rw [hu] at this; cases this
  | succ n ih =>
    intro listed m a w E E' hl hn hcl hf h hs Q hQ
    refine ⟨fun hr => ?_, fun i hri => ?_⟩
    · have hu := least hl hr
      rw [hu] at hs
      cases hs
      exact hQ m a w h
    · obtain ⟨hu, o, ho, hd⟩ := (rdy hl i).1 hri
      have hii : i < all.length := (List.getElem?_eq_some_iff.1 ho).1
      have hnd : (undone all.length listed).Nodup := List.nodup_range.filter _
      have hsort : (undone all.length listed).Pairwise (· < ·) := List.pairwise_lt_range.filter _
      obtain ⟨E1, g1, g2⟩ := to_front ha ho hnd hu hf (fun j hj x hx => by
        have hju : j ∈ undone all.length listed := (List.takeWhile_prefix _).subset hj
        have hne : j ≠ i := by have := List.all_eq_true.1 List.all_takeWhile j hj; simpa using this
        have hji : j < i := by
          have : ∀ (R : List Nat), R.Pairwise (· < ·) → i ∈ R → j ∈ R.takeWhile (· != i) → j < i := by
            intro R
            induction R with
            | nil => intro _ h; cases h
            | cons k r ih =>
              intro hp hm hj
              have hp' := List.pairwise_cons.1 hp
              by_cases e : k = i
              · simp [e] at hj
              · have hmr : i ∈ r := (List.mem_cons.1 hm).resolve_left (Ne.symm e)
                simp only [List.takeWhile_cons, bne_iff_ne, ne_eq, e, not_false_eq_true, if_true, List.mem_cons] at hj
                rcases hj with rfl | hj
                · exact hp'.1 i hmr
                · exact ih hp'.2 hmr hj
          exact this _ hsort hu hj
        have h1 := List.all_eq_true.1 (List.all_eq_true.1 hco i (List.mem_range.2 hii)) j (List.mem_range.2 hji)
        simp only [hx, ho, Bool.or_eq_true] at h1
        rcases h1 with h1 | h1
        · have := dep_listed hcl hl _ j i o ho hd h1
          have hjl : j < listed.size := by omega
          have h2 : listed.getD j true = false := by have := hju; simp only [undone, List.mem_filter, Bool.not_eq_true'] at this; exact this.2
          simp [Array.getD, hjl] at this h2
          rw [this] at h2; cases h2
        · exact h1) hs
      refine stp_op ho h (hf i hu o ho) g1 fun m' a' w' h' => ?_
      have hue := undone_set (listed := listed) hl hii
      refine ih (by simpa using hl) ?_ ?_ ?_ h' (by rw [hue]; exact g2) hQ
      · rw [hue, List.length_erase_of_mem hu]; omega
      · intro k x hx hk hkl e he hb
        by_cases e1 : i = k
        · subst e1
          rw [ho] at hx; cases hx
          have := hd e he hb
          have hne : e.on < all.length := by
            have hlt : e.on < listed.size := by
              rcases Nat.lt_or_ge e.on listed.size with h | h
              · exact h
              · simp [Array.getD, Nat.not_lt.2 h] at this
            omega
          simp [Array.getD_eq_getD_getElem?, Array.getElem?_setIfInBounds] at this ⊢
          split
          · split <;> simp_all
          · exact this
        · have hk' : listed.getD k true = true := by
            simpa [Array.getD_eq_getD_getElem?, Array.getElem?_setIfInBounds, e1] using hk
          have := hcl k x hx hk' hkl e he hb
          simp [Array.getD_eq_getD_getElem?, Array.getElem?_setIfInBounds] at this ⊢
          split
          · split <;> simp_all
          · exact this
      · rw [hue]
        have hf' : FreshAll all ((undone all.length listed).erase i) E := fun k hk => hf k (List.mem_of_mem_erase hk)
        exact freshAll_step ha ho (List.Nodup.not_mem_erase hnd) hf' g1
end
end Go.Fw
end
