/- slices.Sort and slices.Compact at rows of numbers, as the walks ask of them. -/
import Derived.Test.YtihbejpkfifplaaPa
import Derived.Test.YtihbejpkfifplaaShelf
import Derived.Sort.OwnSortedInts
set_option linter.unusedVariables false
set_option linter.unusedSimpArgs false
namespace Go.Proofs.Ytihbejpkfifplaa.Z
open Go Go.Fw
theorem put_ints {w w' : World} {X : Nat → Prop} {m : Nat → Option Nat} {b : Nat} {cs : Array Value} {ty : TypeId} {fr : Nat × Nat} {l ts : List Int} (hm : m 0 = some b) (hcs : w.heap[b]? = some (.cells cs ty fr)) (hfree : Free fr cs.size) (hlen : l.length ≤ cs.size)
    (hX : ∀ x, X x → x < w.heap.size ∧ ¬ Own m [(0, .data 1 (l.map encI))] x) (hg : w.grownBy w' (some b)) (hw' : w'.heap[b]? = some (.cells (Go.Sort.putCells (Value.int .i64) 0 ts.toArray cs) ty fr)) (hts : ts.length = l.length) (hok : ∀ x ∈ ts, okLit (.int .i64 x) = true) :
    Ext (Own m [(0, .data 1 (l.map encI))]) w w' ∧ SRel w' X m [(0, .data 1 (ts.map encI))] ∧ ∀ r : Nat, r = b → Own m [(0, .data 1 (l.map encI))] r := by
  have hown : ∀ r : Nat, r = b → Own m [(0, .data 1 (l.map encI))] r := fun r e => ⟨0, _, rfl, by rw [e]; exact hm⟩
  have hsz : (Go.Sort.putCells (Value.int .i64) 0 ts.toArray cs).size = cs.size := by simp [Go.Sort.putCells]
  refine ⟨⟨hg.os, hg.tape, hg.output, hg.size, fun r hr hn => hg.block r hr (fun e => hn (hown r (Option.some.inj e))), fun r c t f hc => ?_⟩, ⟨fun id blk hi => ?_, fun i j r h1 h2 h3 h4 => ?_⟩, hown⟩
  · by_cases e : r = b
    · subst e
      rw [hcs] at hc
      obtain ⟨rfl, rfl, rfl⟩ := Obj.cells.inj (Option.some.inj hc)
      exact ⟨_, hw', hsz⟩
    · have hlt : r < w.heap.size := (Array.getElem?_eq_some_iff.1 hc).1
      exact ⟨c, by rw [hg.block r hlt (fun q => e (Option.some.inj q))]; exact hc, rfl⟩
  · have hi0 : id = 0 ∧ blk = .data 1 (ts.map encI) := by
      simp only [getB] at hi
      split at hi
      · rename_i e; exact ⟨e.symm, (Option.some.inj hi).symm⟩
      · cases hi
    obtain ⟨rfl, rfl⟩ := hi0
    refine .inl ⟨b, hm, _, ty, fr, hw', by rw [hsz]; exact hfree, by rw [hsz, List.length_map]; omega, fun r hr => ?_, fun i j r x hr hx => ?_⟩
    · obtain ⟨v, _, rfl⟩ := List.mem_map.1 hr; rfl
    · rw [List.getElem?_map] at hr
      obtain ⟨v, hv, rfl⟩ := Option.map_eq_some_iff.1 hr
      have hlt := (List.getElem?_eq_some_iff.1 hv).1
      have hj : j = 0 ∧ x = D.int v := by
        cases j with
        | zero => simp at hx; exact ⟨rfl, hx.symm⟩
        | succ j => simp at hx
      obtain ⟨rfl, rfl⟩ := hj
      refine ⟨.int .i64 v, ?_, rfl, .lit _ (hok v (List.mem_of_getElem? hv))⟩
      have hc : i < cs.size := by omega
      simp only [Nat.mul_one, Nat.add_zero, Go.Sort.putCells, Array.getElem?_mapIdx, Array.getElem?_eq_getElem hc, Option.map_some]
      rw [if_pos ⟨Nat.zero_le _, by simpa using hlt⟩]
      simp [hlt, (List.getElem?_eq_some_iff.1 hv).2]
  · have q : ∀ k, (getB [(0, Blk.data 1 (ts.map encI))] k).isSome = true → k = 0 := fun k hk => by
      simp only [getB] at hk
      split at hk
      · rename_i e; exact e.symm
      · cases hk
    rw [q i h3, q j h4]
/-- a row that a call is given, as the kit's contracts read it -/
theorem row_in {w : World} {X : Nat → Prop} {m : Nat → Option Nat} {l : List Int} {v : Value} (hS : SRel w X m [(0, .data 1 (l.map encI))]) (hv : VRel w (Live X m [(0, .data 1 (l.map encI))]) m (.rs 0 1 0 l.length) v) (hl : 0 < l.length) :
    ∃ b cap cs ty fr, v = .slice (some ⟨b, 0, none⟩) l.length cap ∧ m 0 = some b ∧ l.length ≤ cap ∧ cap ≤ cs.size ∧ w.heap[b]? = some (.cells cs ty fr) ∧ Free fr cs.size ∧ Go.Sort.Holds (Value.int .i64) w b 0 l.toArray ∧ ∀ x ∈ l, okLit (.int .i64 x) = true := by
  generalize hn : l.length = n at hv
  cases hv with
  | rsE => omega
  | rs id sz off len cap b cs ty fr hm hc hx hh hs =>
    rcases hS.blk 0 _ rfl with ⟨b', h1, cs', ty', fr', h2, h3, h4, h5, h6⟩ | ⟨h1, _⟩
    · rw [hm] at h1
      obtain rfl := Option.some.inj h1
      rw [hh] at h2
      obtain ⟨rfl, rfl, rfl⟩ := Obj.cells.inj (Option.some.inj h2)
      have hcell : ∀ j (hj : j < l.length), cs[j]? = some (.int .i64 l[j]) ∧ okLit (.int .i64 l[j]) = true := fun j hj => by
        obtain ⟨v, q1, q2, q3⟩ := h6 j 0 (encI l[j]) (D.int l[j]) (by simp [hj]) (by simp)
        cases q3 with
        | lit _ h => exact ⟨by simpa using q1, h⟩
      refine ⟨b, cap, cs, ty, fr, rfl, hm, by omega, by omega, hh, h3, fun j hj => ?_, fun x hx => ?_⟩
      · have hj' : j < l.length := by simpa using hj
        refine ⟨?_, ?_⟩
        · simp only [World.cell?, hh, Nat.zero_add]
          simp only [Option.isSome_none, Bool.false_eq_true, if_false]
          rw [(hcell j hj').1]
          simp [hj']
        · have hlt : j < cs.size := by
            have := (hcell j hj').1
            exact (Array.getElem?_eq_some_iff.1 this).1
          have := h3 j hlt
          simp only [World.frozen?, hh, Nat.zero_add]
          simpa using this
      · obtain ⟨j, hj⟩ := List.getElem?_of_mem hx
        have hlt := (List.getElem?_eq_some_iff.1 hj).1
        have := (hcell j hlt).2
        rw [(List.getElem?_eq_some_iff.1 hj).2] at this
        exact this
    · rw [hm] at h1; cases h1
theorem keep_nil {w : World} {X : Nat → Prop} {m : Nat → Option Nat} {s : Store} : Ext (Own m s) w w := ⟨rfl, rfl, rfl, Nat.le_refl _, fun _ _ _ => rfl, fun _ c _ _ h => ⟨c, h, rfl⟩⟩
theorem sort_ok (l : List Int) (hl : l.length < 4611686018427387904) : SndW P 98 [.rs 0 1 0 l.length] [(0, .data 1 (l.map encI))] (.tup []) [(0, .data 1 ((l.mergeSort fun x y => decide (x ≤ y)).map encI))] := by
  refine ⟨by kernel_rfl, fun w X m0 vs hX hS hargs => ?_⟩
  obtain ⟨v, tl, rfl, hv, ht⟩ := hargs.head
  have : tl = [] := by have := ht.len; simpa using this
  subst this
  by_cases hp : 0 < l.length
  · obtain ⟨b, cap, cs, ty, fr, rfl, hm, hc, hcs, hh, hf, hH, hk⟩ := row_in hS hv hp
    have hb : b < w.heap.size := (Array.getElem?_eq_some_iff.1 hh).1
    refine (Go.Proofs.Try.slices_Sort_int b 0 cap l w hH hb hl).mono ?_
    rintro e w' ⟨rfl, n, os, rfl⟩
    obtain ⟨h1, h2, h3⟩ := put_ints (ts := l.mergeSort fun x y => decide (x ≤ y)) hm hh hf (by omega) hX (grownBy_sortedI _) (heap_sortedI _ hh) (by simp) (fun x hx => hk x (by simpa using hx))
    refine ⟨_, m0, rfl, h1, .tup [] [] rfl (fun j x v h => by simp at h), h2, fun r hr => ?_, fun j _ _ => rfl⟩
    obtain ⟨i, blk, g1, g2⟩ := hr
    simp only [getB] at g1
    split at g1
    · rename_i e; subst e; rw [hm] at g2; exact .inl (h3 r (Option.some.inj g2).symm)
    · cases g1
  · obtain rfl : l = [] := by cases l with
      | nil => rfl
      | cons _ _ => simp at hp
    obtain ⟨A, cap, rfl⟩ : ∃ A cap, v = .slice A 0 cap := by
      generalize hn : ([] : List Int).length = n at hv
      cases hv with
      | rsE => exact ⟨_, _, rfl⟩
      | rs => simp at hn; subst hn; exact ⟨_, _, rfl⟩
    refine (Go.Proofs.Try.slices_Sort_int_none A cap w).mono ?_
    rintro e w' ⟨rfl, rfl⟩
    refine ⟨_, m0, rfl, keep_nil (X := X), .tup [] [] rfl (fun j x v h => by simp at h), by simpa using hS, fun r hr => .inl (by simpa using hr), fun j _ _ => rfl⟩
theorem compact_mem {l : List Int} {x : Int} (h : x ∈ Go.Lib.compact l) : x ∈ l := by
  unfold Go.Lib.compact Go.Lib.compactUpTo at h
  obtain ⟨j, hj, rfl⟩ := List.mem_map.1 h
  have hlt : j < l.length := by have := (List.mem_filter.1 hj).1; simpa using this
  simp [hlt]
theorem compact_ok (l : List Int) (hl : l.length ≤ 9223372036854775807) : SndW P 99 [.rs 0 1 0 l.length] [(0, .data 1 (l.map encI))] (.rs 0 1 0 (Go.Lib.compact l).length) [(0, .data 1 ((Go.Lib.compact l ++ List.replicate (l.length - (Go.Lib.compact l).length) 0).map encI))] := by
  refine ⟨by kernel_rfl, fun w X m0 vs hX hS hargs => ?_⟩
  obtain ⟨v, tl, rfl, hv, ht⟩ := hargs.head
  have : tl = [] := by have := ht.len; simpa using this
  subst this
  by_cases hp : 0 < l.length
  · obtain ⟨b, cap, cs, ty, fr, rfl, hm, hc, hcs, hh, hf, hH, hk⟩ := row_in hS hv hp
    have hb : b < w.heap.size := (Array.getElem?_eq_some_iff.1 hh).1
    have hcl := Go.Lib.compact_length_le l
    refine (Go.Proofs.Try.slices_Compact_int b 0 cap l w hH hl hc).mono ?_
    rintro e w' ⟨rfl, q, rfl⟩
    have g1 := grownBy_sortedI (w := w) (g := b) (n := q) (os := #[]) (Go.Lib.compact l ++ List.replicate (l.length - (Go.Lib.compact l).length) 0).toArray
    have g2 := heap_sortedI (n := q) (os := #[]) (Go.Lib.compact l ++ List.replicate (l.length - (Go.Lib.compact l).length) 0).toArray hh
    rw [Go.Sort.grow_empty] at g1 g2
    obtain ⟨h1, h2, h3⟩ := put_ints (ts := Go.Lib.compact l ++ List.replicate (l.length - (Go.Lib.compact l).length) 0) hm hh hf (by omega) hX g1 g2 (by simp; omega) (fun x hx => by
      rcases List.mem_append.1 hx with hx | hx
      · exact hk x (compact_mem hx)
      · rw [(List.mem_replicate.1 hx).2]; rfl)
    have hsz : (Go.Sort.putCells (Value.int .i64) 0 (Go.Lib.compact l ++ List.replicate (l.length - (Go.Lib.compact l).length) 0).toArray cs).size = cs.size := by simp [Go.Sort.putCells]
    refine ⟨_, m0, rfl, h1, VRel.rs 0 1 0 _ cap b _ ty fr hm (by omega) (by omega) g2 (by rw [hsz]; omega), h2, fun r hr => ?_, fun j _ _ => rfl⟩
    obtain ⟨i, blk, g1, g2⟩ := hr
    simp only [getB] at g1
    split at g1
    · rename_i e; subst e; rw [hm] at g2; exact .inl (h3 r (Option.some.inj g2).symm)
    · cases g1
  · obtain rfl : l = [] := by cases l with
      | nil => rfl
      | cons _ _ => simp at hp
    obtain ⟨A, cap, rfl⟩ : ∃ A cap, v = .slice A 0 cap := by
      generalize hn : ([] : List Int).length = n at hv
      cases hv with
      | rsE => exact ⟨_, _, rfl⟩
      | rs => simp at hn; subst hn; exact ⟨_, _, rfl⟩
    refine (Go.Proofs.Try.slices_Compact_int_empty A cap w).mono ?_
    rintro e w' ⟨rfl, rfl⟩
    exact ⟨_, m0, rfl, keep_nil (X := X), hv, hS, fun r hr => .inl hr, fun j _ _ => rfl⟩
end Go.Proofs.Ytihbejpkfifplaa.Z
