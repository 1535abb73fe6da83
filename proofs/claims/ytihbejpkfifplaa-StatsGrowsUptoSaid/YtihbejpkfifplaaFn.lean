/- append, as the model does it. -/
import Derived.Test.YtihbejpkfifplaaFm
set_option linter.unusedVariables false
set_option linter.unusedSimpArgs false
namespace Go.Fw
variable {P : Program}

theorem not_int {u : TypeId} (h : tkind P u = 1) {w : World} : ((underlying u).run P w).andThen (fun d w' => (.ok (match d with | .int _ => true | _ => false) w' : Result Bool)) = .ok false w := by
  obtain ⟨e, he⟩ := tkind1 h
  rw [und_run he]; rfl
theorem app_room {t u el ty : TypeId} {sz : Nat} (ht : elemOfT P t = some el) (hu : tkind P u = 1) (hsz : (∀ w, (sizeOf el).run P w = .ok sz w)) {w : World} {base A : Option Addr} {sLen sCap n k : Nat} {vs : List Value} (hle : sLen + n ≤ sCap)
    (hnew : (Builtin.firstCells sz n (.slice A n k)).run P w = .ok vs.toArray w) :
    (Builtin.append_ #[t, u] ty #[.slice base sLen sCap, .slice A n k]).run P w = (match base with | some a => ((storeCells (a.add (sLen * sz)) vs).run P w).andThen (fun _ w' => .ok (.slice base (sLen + n) sCap) w') | none => .ok (.slice base (sLen + n) sCap) w) := by
  obtain ⟨eu, hue⟩ := tkind1 hu
  simp only [Builtin.append_, List.getElem?_toArray, List.getElem?_cons_zero, List.getElem?_cons_succ, Sem.run_bind, und_run (elem_und ht), Result.andThen_ok, hsz, und_run hue, Sem.run_pure, Builtin.lenOf, if_pos hle, Bool.not_false, if_true, hnew, Bool.false_eq_true, if_false, Sem.run_ite]
  cases base with
  | none => simp
  | some a => simp
theorem app_grow {t u el ty : TypeId} {z : List Value} (ht : elemOfT P t = some el) (hu : tkind P u = 1) (hz : zeroOf P el = some z) (hzl : 0 < z.length) (hby : 0 < bytesOfT P el) {w : World} {base A : Option Addr} {sLen sCap n k : Nat} {olds vs : List Value} (hgt : sCap < sLen + n)
    (hbd : (sLen + n) * bytesOfT P el ≤ 140737488355328)
    (hold : ∀ w', w'.heap = w.heap → (Builtin.firstCells z.length sLen (.slice base sLen sCap)).run P w' = .ok olds.toArray w')
    (hnew : ∀ w', w'.heap = w.heap → (Builtin.firstCells z.length n (.slice A n k)).run P w' = .ok vs.toArray w') :
    ∃ cap, sLen + n ≤ cap ∧ (Builtin.append_ #[t, u] ty #[.slice base sLen sCap, .slice A n k]).run P w = .ok (.slice (some ⟨w.heap.size, 0, none⟩) (sLen + n) cap) (wand { w with drawn := w.drawn + 1 } (.cells (olds ++ vs ++ (List.replicate (cap - (sLen + n)) z).flatten).toArray el)) := by
  obtain ⟨eu, hue⟩ := tkind1 hu
  obtain ⟨i, v, hi, hv, hcell, hl⟩ := zero_info hz
  have hsz : ∀ w, (sizeOf el).run P w = .ok z.length w := fun w => by simp [sizeOf, typeInfo, hi, hl]
  have hb : bytesOfT P el = i.bytes := by simp [bytesOfT, hi]
  rw [hb] at hby hbd
  have hneed : (sLen + n : Nat) ≤ 140737488355328 := Nat.le_trans (Nat.le_mul_of_pos_right _ hby) hbd
  have hn1 : ¬ (((sLen + n : Nat) : Int) > IntKind.i64.max ∧ i.bytes = 0) := by omega
  have hn2 : ¬ (Builtin.nextslicecap (sLen + n) sCap * i.bytes > 2 ^ 48) := by have := growslice_fits hgt hbd; omega
  have hgt' : ¬ (sLen + n ≤ sCap) := by omega
  let cap := (Question.appendCap (sLen + n) sCap el).cut (w.tape w.drawn (Question.appendCap (sLen + n) sCap el))
  have hcap : sLen + n ≤ cap := by show sLen + n ≤ (sLen + n) + _ % _; omega
  refine ⟨cap, hcap, ?_⟩
  have hz' : Builtin.zeroCells z.toArray (cap - (sLen + n)) = (List.replicate (cap - (sLen + n)) z).flatten.toArray := by
    unfold Builtin.zeroCells
    rw [← range_zero z hzl (cap - (sLen + n)), Array.toArray_toList]
    rfl
  simp only [Builtin.append_, List.getElem?_toArray, List.getElem?_cons_zero, List.getElem?_cons_succ, Sem.run_bind, und_run (elem_und ht), Result.andThen_ok, hsz, und_run hue, Sem.run_pure, Builtin.lenOf, if_neg hgt', info_run hi, Sem.run_ite, Bool.false_eq_true, false_or, if_neg hn1, if_neg hn2, if_false, Bool.not_false, if_true, run_choose, Question.forced, run_askRoom]
  rw [hold { w with drawn := w.drawn + 1 } rfl]
  simp only [Result.andThen_ok]
  rw [hnew { w with drawn := w.drawn + 1 } rfl]
  simp only [Result.andThen_ok, zeroValue, Sem.run_bind, info_run hi, hv, Sem.run_pure, hcell, newRow, run_newObj]
  show Result.ok (Value.slice _ _ cap) (World.mk (w.heap.push (Obj.cells (olds.toArray ++ vs.toArray ++ Builtin.zeroCells z.toArray (cap - (sLen + n))) el)) _ _ _ _) = _
  rw [hz']
  simp
  rfl

section
variable {w0 : World} {L0 : Par} {X : Nat → Prop} {m : Nat → Option Nat} {e : Env} {s : Store} {a : Act} {w : World}
/-- rows of two parts -/
theorem two_rows {R : D → Value → Prop} {sz : Nat} {olds news : List (List D)} {us vs : List Value} (hlu : us.length = olds.length * sz) (hu : ∀ (i j : Nat) (r : List D) (x : D), olds[i]? = some r → r[j]? = some x → ∃ v, us[i * sz + j]? = some v ∧ v.oneCell = true ∧ R x v)
    (hv : ∀ (i j : Nat) (r : List D) (x : D), news[i]? = some r → r[j]? = some x → ∃ v, vs[i * sz + j]? = some v ∧ v.oneCell = true ∧ R x v) (ws : List Value) (ho : ∀ r ∈ olds, r.length = sz) :
    ∀ (i j : Nat) (r : List D) (x : D), (olds ++ news)[i]? = some r → r[j]? = some x → ∃ v, (us ++ vs ++ ws)[i * sz + j]? = some v ∧ v.oneCell = true ∧ R x v := by
  intro i j r x h1 h2
  rw [List.getElem?_append] at h1
  split at h1
  · rename_i hi
    obtain ⟨v, b1, b2⟩ := hu i j r x h1 h2
    refine ⟨v, ?_, b2⟩
    rw [List.append_assoc, List.getElem?_append, if_pos (List.getElem?_eq_some_iff.1 b1).1]
    exact b1
  · rename_i hi
    obtain ⟨v, b1, b2⟩ := hv _ j r x h1 h2
    refine ⟨v, ?_, b2⟩
    have e1 : i * sz + j = olds.length * sz + ((i - olds.length) * sz + j) := by
      have : i = olds.length + (i - olds.length) := by omega
      rw [← Nat.add_assoc, ← Nat.add_mul, ← this]
    rw [List.append_assoc, List.getElem?_append, if_neg (by omega), e1, hlu, Nat.add_sub_cancel_left, List.getElem?_append, if_pos (List.getElem?_eq_some_iff.1 b1).1]
    exact b1

/-- APPEND. -/
theorem append_run (h : Rel w0 L0 X m e s a w) {o : Oper} {cl : Call} (ho : o.op = .call cl) (hcal : cl.callee = .builtin .append) {k : Option Nat} {c : Prop} {sz : Nat} {all : List (List D)} (hop : opAppend P cl (look e) s = some (k, c, sz, all)) (hc : c) (id : Nat) (h90 : 90 ≤ id) :
    ∃ q w' m', (execOp a.eval o).run P w = .ok (.value q) w' ∧ Rel w0 L0 X m' (put (V.fgtL (hitO k id) e) o.dst (.rs id sz 0 all.length)) (putB (fgtS (hitO k id) s) id (.data sz all)) (a.put o.dst q) w' := by
  unfold opAppend at hop
  split at hop
  · rename_i x y t u hargs htys
    have ha : cl.args = #[x, y] := by rw [← Array.toArray_toList (xs := cl.args), hargs]
    have htt : cl.argTypes = #[t, u] := by rw [← Array.toArray_toList (xs := cl.argTypes), htys]
    split at hop
    · rename_i el hel
      split at hop
      · rename_i z hz
        split at hop
        · rename_i hcond
          obtain ⟨h1, h2, h3, h4⟩ := hcond
          split at hop
          · rename_i k' c1 olds c2 news hb hsr
            cases hop
            obtain ⟨hc1, hc2, hbd⟩ := hc
            obtain ⟨⟨A, kk, hyv⟩, hnl, vs, hvl, hvr, hvd⟩ := src_run (P := P) h.sto h2 (h.look y) hsr hc2
            rw [hyv] at hvr
            have hbase := base_run h.sto (h.look x) hb hc1
            have lift : ∀ {q : Value} {w' : World}, (Builtin.append_ #[t, u] o.type #[a.eval x, a.eval y]).run P w = .ok q w' → (execOp a.eval o).run P w = .ok (.value q) w' := by
              intro q w' hq
              simp only [execOp, ho, resolve, hcal, ha, htt, invoke, builtin, pure_bind, List.map_toArray, List.map_cons, List.map_nil, Sem.run_bind, hq, Result.andThen_ok, Sem.run_pure]
            have hones : Ones z := oneCells_ones h1
            have hmx : olds.length + news.length ≤ 9223372036854775807 := Nat.le_trans (Nat.le_mul_of_pos_right _ h3) (Nat.le_trans hbd (by omega))
            obtain ⟨i, zv, hi, hzv, hcell, hl⟩ := zero_info hz
            have hsz : ∀ w, (sizeOf el).run P w = .ok z.length w := fun w => by simp [sizeOf, typeInfo, hi, hl]
            -- a new row
            have grow : ∀ {base : Option Addr} {sLen sCap : Nat} {us : List Value}, a.eval x = .slice base sLen sCap → sCap < sLen + news.length → sLen = olds.length → us.length = olds.length * z.length →
                (∀ w', w'.heap = w.heap → (Builtin.firstCells z.length sLen (.slice base sLen sCap)).run P w' = .ok us.toArray w') →
                (∀ (i j : Nat) (r : List D) (x : D), olds[i]? = some r → r[j]? = some x → ∃ v, us[i * z.length + j]? = some v ∧ v.oneCell = true ∧ DRel w (Live X m s) x v) → (∀ r ∈ olds, r.length = z.length) → (∀ k0, k = some k0 → (getB s k0).isSome = true) →
                ∃ q w' m', (execOp a.eval o).run P w = .ok (.value q) w' ∧ Rel w0 L0 X m' (put (V.fgtL (hitO k id) e) o.dst (.rs id z.length 0 (olds ++ news).length)) (putB (fgtS (hitO k id) s) id (.data z.length (olds ++ news))) (a.put o.dst q) w' := by
              intro base sLen sCap us hxv hgt hlo hul hur hud hol hk
              subst hlo
              obtain ⟨cap, hcap, hrun⟩ := app_grow (P := P) (ty := o.type) hel h4 hz h2 h3 hgt hbd hur hvr
              rw [← hxv, ← hyv] at hrun
              let w1 : World := { w with drawn := w.drawn + 1 }
              let cells := (us ++ vs ++ (List.replicate (cap - (olds.length + news.length)) z).flatten)
              have hclen : cells.length = cap * z.length := by
                simp only [cells, List.length_append, hul, hvl, List.length_flatten, List.map_replicate, List.sum_replicate_nat]
                rw [← Nat.add_mul, ← Nat.add_mul]
                congr 1; omega
              have hck : CellsKept (Live X m s) w (wand w1 (.cells cells.toArray el)) := fun b v hn hb => and_kept w (.cells cells.toArray el) (Live X m s) b v hn hb
              refine ⟨_, _, setM m id (some w.heap.size), lift hrun, Rel.put (h.swap h90 (k := k) (w' := wand w1 (.cells cells.toArray el)) hk hck (and_sizes w _) (fun b hb _ => and_heap w _ hb) rfl rfl rfl (by have e9 : w1.heap.size = w.heap.size := rfl; simp [wand]; omega) (.inr ⟨w.heap.size, rfl, .inl (Nat.le_refl _), ?_⟩)) o.dst ?_⟩
              · refine ⟨cells.toArray, el, (0, 0), heap_new w _, free00 _, ?_, fun r hr => ?_, fun i j r x q1 q2 => ?_⟩
                · simp only [List.size_toArray, hclen, List.length_append]
                  exact Nat.mul_le_mul_right _ hcap
                · rcases List.mem_append.1 hr with hr | hr
                  · exact hol r hr
                  · exact hnl r hr
                · obtain ⟨v, b1, b2, b3⟩ := two_rows hul hud hvd ((List.replicate (cap - (olds.length + news.length)) z).flatten) hol i j r x q1 q2
                  refine ⟨v, by simpa [cells] using b1, b2, b3.mono hck fun b hl => ?_⟩
                  rcases hl with hl | ⟨i', c', t1, t2⟩
                  · exact .inl (.inl hl)
                  rw [getB_putB] at t1
                  by_cases e1 : i' = id
                  · subst e1; simp [setM] at t2; exact .inr (by omega)
                  · rw [if_neg e1, getB_fgtS] at t1
                    split at t1
                    · cases t1
                    · obtain ⟨c0, t3, _⟩ := Option.map_eq_some_iff.1 t1
                      simp only [setM, if_neg e1] at t2
                      exact .inl (.inr ⟨i', c0, t3, t2⟩)
              · have q := VRel.rs (w := wand w1 (.cells cells.toArray el)) (L := Live X (setM m id (some w.heap.size)) (putB (fgtS (hitO k id) s) id (.data z.length (olds ++ news)))) (m := setM m id (some w.heap.size)) id z.length 0 (olds.length + news.length) cap w.heap.size cells.toArray el (0, 0) (by simp [setM]) hcap hmx (heap_new w _) (by simp [hclen])
                simpa using q
            rcases hbase with ⟨hxv, rfl, hk⟩ | ⟨k0, b, len, cap, cs, ty, fr, rfl, hk0, hmk, hxv, hlc, hh, hfr, hcs, hol, holl, hod⟩
            · by_cases hn : news = []
              · subst hn
                have hrun := app_room (P := P) (ty := o.type) (base := none) (sLen := 0) (sCap := 0) (n := 0) (A := A) (k := kk) (vs := vs) hel h4 hsz (Nat.le_refl _) (hvr w rfl)
                rw [← hxv] at hrun
                simp only [List.length_nil] at hyv
                rw [← hyv] at hrun
                refine ⟨_, w, setM m id none, lift hrun, Rel.put (h.swap h90 (k := k) (ob := none) hk (fun _ _ _ q => q) (fun _ cs _ _ q => ⟨cs, q, rfl⟩) (fun _ _ _ => rfl) rfl rfl rfl (Nat.le_refl _) (.inl ⟨rfl, _, rfl⟩)) o.dst ?_⟩
                rw [hxv]
                exact .rsE id _
              · exact grow hxv (by have := List.length_pos_iff.2 hn; omega) rfl (us := []) (by simp) (fun w' _ => rfl) (by simp) (by simp) hk
            · by_cases hroom : len + news.length ≤ cap
              · have hrun := app_room (P := P) (ty := o.type) (base := some ⟨b, 0, none⟩) (A := A) (k := kk) (vs := vs) hel h4 hsz hroom (hvr w rfl)
                have hin : len * z.length + vs.length ≤ cs.size := by
                  rw [hvl, ← Nat.add_mul]
                  exact Nat.le_trans (Nat.mul_le_mul_right _ hroom) hcs
                have hones' : Ones vs := by
                  intro v hv
                  obtain ⟨q, hq, rfl⟩ := List.getElem_of_mem hv
                  have hi' : q / z.length < news.length := Nat.div_lt_of_lt_mul (by rw [Nat.mul_comm, ← hvl]; exact hq)
                  have hr := List.getElem?_eq_getElem hi'
                  have hj : q % z.length < (news[q / z.length]).length := by rw [hnl _ (List.getElem_mem hi')]; exact Nat.mod_lt _ h2
                  obtain ⟨v, b1, b2, _⟩ := hvd _ _ _ _ hr (List.getElem?_eq_getElem hj)
                  have e1 : q / z.length * z.length + q % z.length = q := by rw [Nat.mul_comm]; exact Nat.div_add_mod q z.length
                  rw [e1, List.getElem?_eq_getElem hq] at b1
                  cases b1; exact b2
                have hst := storeCells_run (P := P) (b := b) (len * z.length) vs 0 cs w hh hfr (by omega) hones'
                simp only [Nat.add_zero] at hst
                simp only [add_none, Nat.zero_add, hst, Result.andThen_ok] at hrun
                rw [← hxv, ← hyv] at hrun
                have hs : (setArr cs (len * z.length) vs).size = cs.size := setArr_size _ _ _
                obtain ⟨c0, hc0⟩ := Option.isSome_iff_exists.1 hk0
                have hlive : Live X m s b := .inr ⟨k0, c0, hc0, hmk⟩
                have hkept := row_kept (w := w) (b := b) (cs := cs) (cs' := setArr cs (len * z.length) vs) (ty := ty) (fr := fr) (Live X m s) hlive
                refine ⟨_, _, setM m id (some b), lift hrun, Rel.put (h.swap h90 (k := some k0) (by rintro k1 ⟨⟩; exact hk0) hkept (row_sizes hh hs) (fun b' hb' hne => setRow_other _ _ _ _ fun e1 => hne k0 rfl (by rw [e1]; exact hmk)) rfl rfl rfl (by simp) (.inr ⟨b, rfl, .inr ⟨k0, rfl, hmk⟩, ?_⟩)) o.dst ?_⟩
                · refine ⟨setArr cs (len * z.length) vs, ty, fr, setRow_heap w b _ _ _ _ hh, by rw [hs]; exact hfr, ?_, fun r hr => ?_, fun i j r x q1 q2 => ?_⟩
                  · rw [hs, List.length_append, hol]
                    exact Nat.le_trans (Nat.mul_le_mul_right _ hroom) hcs
                  · rcases List.mem_append.1 hr with hr | hr
                    · exact holl r hr
                    · exact hnl r hr
                  · have hL' : ∀ b', Live X (setM m id (some b)) (putB (fgtS (hitO (some k0) id) s) id (.data z.length (olds ++ news))) b' → Live X m s b' ∨ w.heap.size ≤ b' := by
                      rintro b' (hl | ⟨i', c', t1, t2⟩)
                      · exact .inl (.inl hl)
                      rw [getB_putB] at t1
                      by_cases e1 : i' = id
                      · subst e1; simp [setM] at t2; rw [← t2]; exact .inl hlive
                      · rw [if_neg e1, getB_fgtS] at t1
                        split at t1
                        · cases t1
                        · obtain ⟨c0, t3, _⟩ := Option.map_eq_some_iff.1 t1
                          simp only [setM, if_neg e1] at t2
                          exact .inl (.inr ⟨i', c0, t3, t2⟩)
                    rw [List.getElem?_append] at q1
                    split at q1
                    · rename_i hi'
                      obtain ⟨v, b1, b2, b3⟩ := hod i j r x q1 q2
                      refine ⟨v, ?_, b2, b3.mono hkept hL'⟩
                      rw [setArr_at _ _ _ _ hin, if_neg ?_]
                      · exact b1
                      · have hj : j < z.length := by
                          rw [← holl r (List.mem_of_getElem? q1)]; exact (List.getElem?_eq_some_iff.1 q2).1
                        have : (i + 1) * z.length ≤ len * z.length := Nat.mul_le_mul_right _ (by omega)
                        rw [Nat.add_mul, Nat.one_mul] at this
                        omega
                    · rename_i hi'
                      obtain ⟨v, b1, b2, b3⟩ := hvd _ j r x q1 q2
                      refine ⟨v, ?_, b2, b3.mono hkept hL'⟩
                      have hlt := (List.getElem?_eq_some_iff.1 b1).1
                      have e1 : i * z.length + j = len * z.length + ((i - olds.length) * z.length + j) := by
                        have : i = len + (i - olds.length) := by omega
                        rw [← Nat.add_assoc, ← Nat.add_mul, ← this]
                      rw [setArr_at _ _ _ _ hin, e1, if_pos (by omega), Nat.add_sub_cancel_left]
                      exact b1
                · have q := VRel.rs (w := w.setRow b (setArr cs (len * z.length) vs)) (L := Live X (setM m id (some b)) (putB (fgtS (hitO (some k0) id) s) id (.data z.length (olds ++ news)))) (m := setM m id (some b)) id z.length 0 (len + news.length) cap b (setArr cs (len * z.length) vs) ty fr (by simp [setM]) hroom (by omega) (setRow_heap w b _ _ _ _ hh) (by rw [hs]; simpa using hcs)
                  simpa [hol] using q
              · refine grow hxv (by omega) hol.symm (us := (cs.toList.take (len * z.length))) ?_ ?_ ?_ holl (by rintro k1 ⟨⟩; exact hk0)
                · have : len * z.length ≤ cap * z.length := Nat.mul_le_mul_right _ hlc
                  simp [hol]; omega
                · intro w' hw
                  have hle : len * z.length ≤ cs.size := Nat.le_trans (Nat.mul_le_mul_right _ hlc) hcs
                  have q := run_loadCells_list (P := P) w' ⟨b, 0, none⟩ (cs.toList.take (len * z.length)) fun j v hj => by
                    rw [add_none, Nat.zero_add]
                    rw [List.getElem?_take] at hj
                    split at hj
                    · rw [cell_of (by rw [hw]; exact hh)]; simpa using hj
                    · cases hj
                  have e1 : (cs.toList.take (len * z.length)).length = len * z.length := by simp; omega
                  rw [e1] at q
                  exact q
                · intro i j r x q1 q2
                  obtain ⟨v, b1, b2, b3⟩ := hod i j r x q1 q2
                  refine ⟨v, ?_, b2, b3⟩
                  have hj : j < z.length := by
                    rw [← holl r (List.mem_of_getElem? q1)]; exact (List.getElem?_eq_some_iff.1 q2).1
                  have hi' := (List.getElem?_eq_some_iff.1 q1).1
                  have : (i + 1) * z.length ≤ len * z.length := Nat.mul_le_mul_right _ (by omega)
                  rw [Nat.add_mul, Nat.one_mul] at this
                  rw [List.getElem?_take, if_pos (by omega)]
                  simpa using b1
          · cases hop
        · cases hop
      · cases hop
    · cases hop
  · cases hop
end
end Go.Fw
