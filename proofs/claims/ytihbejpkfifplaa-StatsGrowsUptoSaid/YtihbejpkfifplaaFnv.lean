/- append, where cells name blocks. -/
import Derived.Test.YtihbejpkfifplaaFn
set_option linter.unusedVariables false
set_option linter.unusedSimpArgs false
namespace Go.Fw
variable {P : Program}

theorem srcV_run {w : World} {X : Nat → Prop} {m : Nat → Option Nat} {s : Store} (hs : SRel w X m s) {sz n : Nat} {x : V} {v : Value} {c : Prop} {nv : List V} (hx : VRel w (Live X m s) m x v) (h : srcV sz x s = some (c, n, nv)) (hc : c) :
    (∃ A k, v = .slice A n k) ∧ 0 < n ∧ ∃ vs : List Value, vs.length = n * sz ∧ Ones vs ∧ All2 (VRel w (Live X m s) m) nv vs ∧ ∀ w', w'.heap = w.heap → (Builtin.firstCells sz n v).run P w' = .ok vs.toArray w' := by
  unfold srcV at h
  split at h <;> try (cases h; done)
  rename_i id n' off len
  split at h
  · rename_i hn
    subst hn
    split at h
    · rename_i cells hg
      cases h
      obtain ⟨hc0, hc⟩ := hc
      cases hx with
      | rsE => omega
      | rs _ _ _ _ cap b cs ty fr hm hc' hxl hh hs' =>
        rcases hs.blk id _ hg with ⟨b', hm', arr, ex, ty', fr', hh', hfr', hone, hall⟩ | ⟨_, _, hn⟩
        · rw [hm] at hm'; cases hm'
          rw [hh] at hh'; cases hh'
          have hle : off * n' + n * n' ≤ arr.length := by rw [hall.len]; exact hc
          have hvl : ((arr.drop (off * n')).take (n * n')).length = n * n' := by simp; omega
          refine ⟨⟨_, _, rfl⟩, hc0, (arr.drop (off * n')).take (n * n'), hvl, fun v hv => hone v (List.mem_of_mem_drop (List.mem_of_mem_take hv)), (hall.drop _).take _, fun w' hw => ?_⟩
          have q := run_loadCells_list (P := P) w' ⟨b, off * n', none⟩ ((arr.drop (off * n')).take (n * n')) fun j v hj => by
            rw [List.getElem?_take] at hj
            split at hj
            · rw [List.getElem?_drop] at hj
              rw [add_none, cell_of (by rw [hw]; exact hh), List.getElem?_toArray, List.getElem?_append_left (List.getElem?_eq_some_iff.1 hj).1]
              exact hj
            · cases hj
          rw [hvl] at q
          exact q
        · cases hn
    · cases h
  · cases h
theorem baseV_run {w : World} {X : Nat → Prop} {m : Nat → Option Nat} {s : Store} (hs : SRel w X m s) {sz n : Nat} {x : V} {v : Value} {c : Prop} {k : Option Nat} {cells : List V} (hx : VRel w (Live X m s) m x v) (hb : baseV sz x s = some (k, c, n, cells)) (hc : c) :
    (v = .slice none 0 0 ∧ n = 0 ∧ cells = [] ∧ ∀ k0, k = some k0 → (getB s k0).isSome = true) ∨ ∃ k0 b cap arr ex ty fr, k = some k0 ∧ (getB s k0).isSome = true ∧ m k0 = some b ∧ v = .slice (some ⟨b, 0, none⟩) n cap ∧ n ≤ cap ∧ w.heap[b]? = some (Obj.cells (arr ++ ex).toArray ty fr) ∧ Free fr (arr ++ ex).length ∧ cap * sz ≤ (arr ++ ex).length ∧
      cells.length = n * sz ∧ Ones arr ∧ All2 (VRel w (Live X m s) m) cells arr := by
  unfold baseV at hb
  split at hb <;> try (cases hb; done)
  · cases hb
    have := hx.lit_inv; subst this
    exact .inl ⟨rfl, rfl, rfl, by simp⟩
  · rename_i id n' len
    split at hb
    · rename_i hn
      subst hn
      split at hb
      · rename_i cells' hg
        cases hb
        cases hx with
        | rsE => exact .inl ⟨rfl, rfl, by simpa using hc, by rintro k0 ⟨⟩; rw [hg]; rfl⟩
        | rs _ _ _ _ cap b cs ty fr hm hc' hxl hh hs' =>
          rcases hs.blk id _ hg with ⟨b', hm', arr, ex, ty', fr', hh', hfr', hone, hall⟩ | ⟨_, _, hn⟩
          · rw [hm] at hm'; cases hm'
            rw [hh] at hh'; cases hh'
            exact .inr ⟨id, b, cap, arr, ex, ty, fr, rfl, by rw [hg]; rfl, hm, by simp, hc', hh, hfr', by simpa using hs', hc, hone, hall⟩
          · cases hn
      · cases hb
    · cases hb

section
variable {w0 : World} {L0 : Par} {X : Nat → Prop} {m : Nat → Option Nat} {e : Env} {s : Store} {a : Act} {w : World}
theorem setArr_end {arr ex : List Value} {vs : List Value} (h : vs.length ≤ ex.length) : setArr (arr ++ ex).toArray arr.length vs = (arr ++ vs ++ ex.drop vs.length).toArray := by
  apply Array.ext_getElem?
  intro j
  rw [setArr_at _ _ _ _ (by simp; omega), List.getElem?_toArray, List.getElem?_toArray, List.append_assoc, List.getElem?_append, List.getElem?_append]
  by_cases hj : j < arr.length
  · rw [if_neg (by omega), if_pos hj, if_pos hj]
  · rw [if_neg hj, if_neg hj, List.getElem?_append]
    by_cases h2 : j - arr.length < vs.length
    · rw [if_pos (by omega), if_pos h2]
    · rw [if_neg (by omega), if_neg h2, List.getElem?_drop]
      congr 1; omega
/-- APPEND, where cells name blocks. -/
theorem append_runV (h : Rel w0 L0 X m e s a w) {o : Oper} {cl : Call} (ho : o.op = .call cl) (hcal : cl.callee = .builtin .append) {k : Option Nat} {c : Prop} {sz n : Nat} {all : List V} (hop : opAppendV P cl (look e) s = some (k, c, sz, n, all)) (hc : c) (id : Nat) (h90 : 90 ≤ id) :
    ∃ q w' m', (execOp a.eval o).run P w = .ok (.value q) w' ∧ Rel w0 L0 X m' (put (V.fgtL (hitO k id) e) o.dst (.rs id sz 0 n)) (putB (fgtS (hitO k id) s) id (.vals (V.fgtL (hitO k id) all))) (a.put o.dst q) w' := by
  unfold opAppendV at hop
  split at hop
  · rename_i x y t u hargs htys
    have ha : cl.args = #[x, y] := by rw [← Array.toArray_toList (xs := cl.args), hargs]
    have htt : cl.argTypes = #[t, u] := by rw [← Array.toArray_toList (xs := cl.argTypes), htys]
    split at hop
    · rename_i el hel
      split at hop
      · rename_i z hz
        split at hop
        · rename_i hcond
          obtain ⟨h1, h2, h3, h4⟩ := hcond
          split at hop
          · rename_i k' c1 n1 olds c2 n2 news hb hsr
            cases hop
            obtain ⟨hc1, hc2, hbd⟩ := hc
            obtain ⟨⟨A, kk, hyv⟩, hn2, vs, hvl, hvo, hva, hvr⟩ := srcV_run (P := P) h.sto (h.look y) hsr hc2
            rw [hyv] at hvr
            have hbase := baseV_run h.sto (h.look x) hb hc1
            have lift : ∀ {q : Value} {w' : World}, (Builtin.append_ #[t, u] o.type #[a.eval x, a.eval y]).run P w = .ok q w' → (execOp a.eval o).run P w = .ok (.value q) w' := by
              intro q w' hq
              simp only [execOp, ho, resolve, hcal, ha, htt, invoke, builtin, pure_bind, List.map_toArray, List.map_cons, List.map_nil, Sem.run_bind, hq, Result.andThen_ok, Sem.run_pure]
            have hones : Ones z := oneCells_ones h1
            have hmx : n1 + n2 ≤ 9223372036854775807 := Nat.le_trans (Nat.le_mul_of_pos_right _ h3) (Nat.le_trans hbd (by omega))
            obtain ⟨i, zv, hi, hzv, hcell, hl⟩ := zero_info hz
            have hsz : ∀ w, (sizeOf el).run P w = .ok z.length w := fun w => by simp [sizeOf, typeInfo, hi, hl]
            -- cells, told less
            have less : ∀ {w' : World} {ob : Option Nat} {xs : List V} {us : List Value} {blk : Blk}, CellsKept (Live X m s) w w' → SizesKept w w' → (∀ b, ob = some b → Live X m s b ∨ w.heap.size ≤ b) → All2 (VRel w (Live X m s) m) xs us →
                All2 (VRel w' (Live X (setM m id ob) (putB (fgtS (hitO k id) s) id blk)) (setM m id ob)) (V.fgtL (hitO k id) xs) us := by
              intro w' ob xs us blk hck hszk hob hxs
              refine ⟨hxs.len.trans (fgtL_len _ _).symm, fun j x v q1 q2 => ?_⟩
              rw [fgtL_at] at q1
              obtain ⟨y, hy, rfl⟩ := Option.map_eq_some_iff.1 q1
              refine VRel.mono (p := hitO k id) hck hszk ?_ (fun i hi => ?_) (fgt_men _ y) ((hxs.at_ j y v hy q2).fgt _)
              · rintro b (hl | ⟨i', c', t1, t2⟩)
                · exact .inl (.inl hl)
                · rw [getB_putB] at t1
                  by_cases e1 : i' = id
                  · subst e1; simp only [setM, if_true] at t2; exact hob b t2
                  · rw [if_neg e1, getB_fgtS] at t1
                    split at t1
                    · cases t1
                    · obtain ⟨c0, t3, _⟩ := Option.map_eq_some_iff.1 t1
                      simp only [setM, if_neg e1] at t2
                      exact .inl (.inr ⟨i', c0, t3, t2⟩)
              · simp only [hitO, Bool.or_eq_false_iff, beq_eq_false_iff_ne] at hi
                simp only [setM, if_neg hi.1]
            -- a new row
            have grow : ∀ {base : Option Addr} {sCap : Nat} {us : List Value}, a.eval x = .slice base n1 sCap → sCap < n1 + n2 → us.length = n1 * z.length → Ones us → All2 (VRel w (Live X m s) m) olds us →
                (∀ w', w'.heap = w.heap → (Builtin.firstCells z.length n1 (.slice base n1 sCap)).run P w' = .ok us.toArray w') → (∀ k0, k = some k0 → (getB s k0).isSome = true) →
                ∃ q w' m', (execOp a.eval o).run P w = .ok (.value q) w' ∧ Rel w0 L0 X m' (put (V.fgtL (hitO k id) e) o.dst (.rs id z.length 0 (n1 + n2))) (putB (fgtS (hitO k id) s) id (.vals (V.fgtL (hitO k id) (olds ++ news)))) (a.put o.dst q) w' := by
              intro base sCap us hxv hgt hul huo hua hur hk
              obtain ⟨cap, hcap, hrun⟩ := app_grow (P := P) (ty := o.type) hel h4 hz h2 h3 hgt hbd hur hvr
              rw [← hxv, ← hyv] at hrun
              let w1 : World := { w with drawn := w.drawn + 1 }
              let ex := (List.replicate (cap - (n1 + n2)) z).flatten
              have hclen : (us ++ vs ++ ex).length = cap * z.length := by
                simp only [ex, List.length_append, hul, hvl, List.length_flatten, List.map_replicate, List.sum_replicate_nat]
                rw [← Nat.add_mul, ← Nat.add_mul]
                congr 1; omega
              have hck : CellsKept (Live X m s) w (wand w1 (.cells (us ++ vs ++ ex).toArray el)) := fun b v hn hb => and_kept w (.cells (us ++ vs ++ ex).toArray el) (Live X m s) b v hn hb
              refine ⟨_, _, setM m id (some w.heap.size), lift hrun, Rel.put (h.swap h90 (k := k) (w' := wand w1 (.cells (us ++ vs ++ ex).toArray el)) hk hck (and_sizes w _) (fun b hb _ => and_heap w _ hb) rfl rfl rfl (by have e9 : w1.heap.size = w.heap.size := rfl; simp [wand]; omega) (.inr ⟨w.heap.size, rfl, .inl (Nat.le_refl _), ?_⟩)) o.dst ?_⟩
              · refine ⟨us ++ vs, ex, el, (0, 0), heap_new w _, free00 _, ?_, less hck (and_sizes w _) (fun b hb => by cases hb; exact .inr (Nat.le_refl _)) (hua.append hva)⟩
                intro v hv
                rcases List.mem_append.1 hv with hv | hv
                · exact huo v hv
                · exact hvo v hv
              · have q := VRel.rs (w := wand w1 (.cells (us ++ vs ++ ex).toArray el)) (L := Live X (setM m id (some w.heap.size)) (putB (fgtS (hitO k id) s) id (.vals (V.fgtL (hitO k id) (olds ++ news))))) (m := setM m id (some w.heap.size)) id z.length 0 (n1 + n2) cap w.heap.size (us ++ vs ++ ex).toArray el (0, 0) (by simp [setM]) hcap hmx (heap_new w _) (by simp only [List.size_toArray, hclen, Nat.zero_add, Nat.le_refl])
                simpa using q
            rcases hbase with ⟨hxv, rfl, rfl, hk⟩ | ⟨k0, b, cap, arr, ex, ty, fr, rfl, hk0, hmk, hxv, hlc, hh, hfr, hcs, hol, hone, hall⟩
            · exact grow hxv (by omega) (us := []) (by simp) (by intro v hv; cases hv) All2.nil (fun w' _ => rfl) hk
            · have harr : arr.length = n1 * z.length := by rw [hall.len, hol]
              by_cases hroom : n1 + n2 ≤ cap
              · have hrun := app_room (P := P) (ty := o.type) (base := some ⟨b, 0, none⟩) (A := A) (k := kk) (vs := vs) hel h4 hsz hroom (hvr w rfl)
                have hin : n1 * z.length + vs.length ≤ (arr ++ ex).length := by
                  rw [hvl, ← Nat.add_mul]
                  exact Nat.le_trans (Nat.mul_le_mul_right _ hroom) hcs
                have hst := storeCells_run (P := P) (b := b) (n1 * z.length) vs 0 (arr ++ ex).toArray w hh (by simpa using hfr) (by simpa using hin) hvo
                have hend : setArr (arr ++ ex).toArray (n1 * z.length) vs = (arr ++ vs ++ ex.drop vs.length).toArray := by
                  rw [← harr]
                  exact setArr_end (by simp only [List.length_append] at hin; omega)
                simp only [Nat.add_zero] at hst
                simp only [add_none, Nat.zero_add, hst, Result.andThen_ok] at hrun
                rw [← hxv, ← hyv] at hrun
                have hs : (setArr (arr ++ ex).toArray (n1 * z.length) vs).size = (arr ++ ex).toArray.size := setArr_size _ _ _
                obtain ⟨c0, hc0⟩ := Option.isSome_iff_exists.1 hk0
                have hlive : Live X m s b := .inr ⟨k0, c0, hc0, hmk⟩
                have hkept := row_kept (w := w) (b := b) (cs := (arr ++ ex).toArray) (cs' := setArr (arr ++ ex).toArray (n1 * z.length) vs) (ty := ty) (fr := fr) (Live X m s) hlive
                refine ⟨_, _, setM m id (some b), lift hrun, Rel.put (h.swap h90 (k := some k0) (by rintro k1 ⟨⟩; exact hk0) hkept (row_sizes hh hs) (fun b' hb' hne => setRow_other _ _ _ _ fun e1 => hne k0 rfl (by rw [e1]; exact hmk)) rfl rfl rfl (by simp) (.inr ⟨b, rfl, .inr ⟨k0, rfl, hmk⟩, ?_⟩)) o.dst ?_⟩
                · refine ⟨arr ++ vs, ex.drop vs.length, ty, fr, ?_, ?_, ?_, less hkept (row_sizes hh hs) (fun b' hb' => by cases hb'; exact .inl hlive) (hall.append hva)⟩
                  · rw [← hend]; exact setRow_heap w b _ _ _ _ hh
                  · have : (arr ++ vs ++ ex.drop vs.length).length = (arr ++ ex).length := by
                      simp only [List.length_append, List.length_drop] at hin ⊢; omega
                    rw [this]; exact hfr
                  · intro v hv
                    rcases List.mem_append.1 hv with hv | hv
                    · exact hone v hv
                    · exact hvo v hv
                · have q := VRel.rs (w := w.setRow b (setArr (arr ++ ex).toArray (n1 * z.length) vs)) (L := Live X (setM m id (some b)) (putB (fgtS (hitO (some k0) id) s) id (.vals (V.fgtL (hitO (some k0) id) (olds ++ news))))) (m := setM m id (some b)) id z.length 0 (n1 + n2) cap b (setArr (arr ++ ex).toArray (n1 * z.length) vs) ty fr (by simp [setM]) hroom hmx (setRow_heap w b _ _ _ _ hh) (by rw [hs]; simpa using hcs)
                  simpa using q
              · refine grow hxv (by omega) harr hone hall ?_ (by rintro k1 ⟨⟩; exact hk0)
                intro w' hw
                have q := run_loadCells_list (P := P) w' ⟨b, 0, none⟩ arr fun j v hj => by
                  rw [add_none, Nat.zero_add, cell_of (by rw [hw]; exact hh), List.getElem?_toArray, List.getElem?_append_left (List.getElem?_eq_some_iff.1 hj).1]
                  exact hj
                rw [harr] at q
                exact q
          · cases hop
        · cases hop
      · cases hop
    · cases hop
  · cases hop
end
end Go.Fw
