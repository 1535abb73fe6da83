/- vfs: Names. -/
import Derived.Test.YtkdodclenhnfcaaV9
import Derived.Test.YtkdodclenhnfcaaIter
namespace Go.Proofs.Ytkdodclenhnfcaa.VI
set_option linter.unusedVariables false
set_option linter.unusedSimpArgs false
open Go Go.RowKit Go.Sort Go.Shelf Go.Proofs.YtkdodclenhnfcaaW.PrintWords Go.Maps Go.Proofs.Ytkdodclenhnfcaa.V2 Go.Proofs.Ytkdodclenhnfcaa.V5

/-- the names that are told -/
structure Names (s : St) (L : List ByteArray) : Prop where
  sorted : L.Pairwise (fun a b => a.data.toList < b.data.toList)
  mem : ∀ x, x ∈ L ↔ (s.files x).isSome = true
  len : L.length = s.many
def mk (l : List UInt8) : ByteArray := ⟨l.toArray⟩
theorem mk_data (x : ByteArray) : mk x.data.toList = x := by cases x; rfl
theorem keys_of {W : World} {base : Nat} {own : Foot} {mb : Nat} {s : St} {D : DataW Value} (h : FilesAt W base own mb s D) : (strKeys D).Nodup ∧ (∀ x, x ∈ strKeys D ↔ (s.files (mk x)).isSome = true) ∧ (strKeys D).length = s.many := by
  obtain ⟨es, hD, hpw⟩ := h.tidy
  obtain ⟨es', hD', hko⟩ := h.owns.keysOf
  obtain rfl : es = es' := by rw [hD] at hD'; simpa using hD'
  subst hD
  have hk : ∀ p ∈ es, ∃ x, p.1 = .string x := fun p hp => by obtain ⟨v, hv⟩ := hko p hp; obtain ⟨x, _, hx, _⟩ := Maps.keyOf_str Try.underlying9 hv; exact ⟨x, hx⟩
  refine ⟨?_, fun x => ?_, ?_⟩
  · show (es.map fun p => strOf p.1).Nodup
    refine List.pairwise_map.2 (hpw.imp_of_mem fun {p q} hp' hq' hne e => hne ?_)
    obtain ⟨a, ha⟩ := hk p hp'
    obtain ⟨b, hb⟩ := hk q hq'
    rw [ha, hb] at e ⊢
    exact congrArg _ e
  · have hh := h.has (mk x)
    rw [← hh]
    have hkx : key (mk x) = .string x := by unfold key mk; simp
    rw [hkx, has_eq, List.any_eq_true]
    show x ∈ es.map (fun p => strOf p.1) ↔ _
    rw [List.mem_map]
    constructor
    · rintro ⟨p, hp', rfl⟩
      obtain ⟨a, ha⟩ := hk p hp'
      exact ⟨p, hp', by rw [ha]; simp [Lit.sameKey, strOf]⟩
    · rintro ⟨p, hp', hs⟩
      obtain ⟨a, ha⟩ := hk p hp'
      rw [ha] at hs
      exact ⟨p, hp', by rw [ha]; simpa [Lit.sameKey, strOf] using hs⟩
  · rw [← h.many]
    show (es.map _).length = es.length
    simp
theorem names_of {W : World} {base : Nat} {own : Foot} {mb : Nat} {s : St} {D : DataW Value} (h : FilesAt W base own mb s D) {ss : List (List UInt8)} (hp : ss.Perm (strKeys D)) : Names s ((ss.mergeSort (fun x y => decide (x ≤ y))).map mk) := by
  obtain ⟨h1, h2, h3⟩ := keys_of h
  have hperm := (List.mergeSort_perm ss (fun x y => decide (x ≤ y))).trans hp
  have tr : ∀ a b c : List UInt8, decide (a ≤ b) = true → decide (b ≤ c) = true → decide (a ≤ c) = true := fun a b c h1 h2 => by simp only [decide_eq_true_eq] at *; exact List.le_trans h1 h2
  have tot : ∀ a b : List UInt8, (decide (a ≤ b) || decide (b ≤ a)) = true := fun a b => by simp only [Bool.or_eq_true, decide_eq_true_eq]; exact List.le_total a b
  have hs := List.pairwise_mergeSort tr tot ss
  have hnd := hperm.nodup_iff.2 h1
  refine ⟨?_, fun x => ?_, ?_⟩
  · refine List.pairwise_map.2 ?_
    have hb := hs.and hnd
    refine hb.imp fun {a b} hab => ?_
    have hle : a ≤ b := of_decide_eq_true hab.1
    show (mk a).data.toList < (mk b).data.toList
    have e1 : (mk a).data.toList = a := by simp [mk]
    have e2 : (mk b).data.toList = b := by simp [mk]
    rw [e1, e2]
    refine Classical.byContradiction fun hn => hab.2 (List.le_antisymm hle (List.not_lt.1 hn))
  · rw [List.mem_map]
    constructor
    · rintro ⟨y, hy, rfl⟩
      exact (h2 y).1 (hperm.mem_iff.1 hy)
    · intro hx
      refine ⟨x.data.toList, hperm.mem_iff.2 ((h2 _).2 ?_), mk_data x⟩
      rw [mk_data]
      exact hx
  · rw [List.length_map, hperm.length_eq, h3]

set_option maxHeartbeats 1000000 in
set_option maxRecDepth 100000 in
theorem names {w : World} {base : Nat} {own : Foot} {fb mb xb : Nat} {s : St} (h : FSI w base own fb mb xb s) :
    Calls Try.prog 17 #[.pointer (some ⟨fb, 0, none⟩)] w fun e w' => ∃ v L, e = .returned v ∧ Names s L ∧ Kd.R Kd.string 9 w' w.heap.size (fun k => w.heap.size ≤ k) v L ∧ Below w.heap.size w w' := by
  obtain ⟨D, hD⟩ := h.files
  have z0 : w.cell? ⟨fb, 0, none⟩ = some (.map (some mb)) := h.row.cell 0
  have hc := hD.cap
  have hmn := hD.many
  have C2 := Try.slices_Sorted_keys_28_29 mb s.many D _ w hD.owns (by rw [hmn]; unfold maxLen; omega) (by rw [hmn]; omega)
  have HD := Lib.hid hD
  clear h hD hmn hc
  refine (callsIn_wide (n := 6)).1 ?_
  have hfK : Fence.wide.fn 29 := trivial
  have hfS : Fence.wide.fn 28 := trivial
  refine callsIn_of_wp Try.func17 rfl trivial ?_ rfl
  simp only [Try.ntmps17, List.size_toArray, List.length_cons, List.length_nil, Nat.reduceAdd, Nat.reduceSub, Array.replicate_succ, Array.replicate_zero, List.push_toArray, List.append_toArray, List.nil_append, List.cons_append]
  gi_wp2_with (first
    | (gi_at_call 29; refine (Try.maps_Keys_29 _ _).mono ?_; rintro e w' ⟨rfl, rfl⟩)
    | (gi_at_call 28; refine C2.mono ?_; rintro e w' ⟨v, ss, rfl, hS, hrow, hnil, hb⟩))
  go_ret
  have e : (ss.mergeSort (fun x y => decide (x ≤ y))).map encStr = encs Value.string ((ss.mergeSort (fun x y => decide (x ≤ y))).map mk) := by
    unfold encs
    rw [List.map_map]
    rfl
  rw [e] at hrow
  have el : ss.length = ((ss.mergeSort (fun x y => decide (x ≤ y))).map mk).length := by rw [List.length_map]; exact ((List.mergeSort_perm ss _).length_eq).symm
  rw [el] at hrow
  refine ⟨v, _, rfl, names_of HD.out hS, Kd.R_of_own (ownsRow_base_a hrow (by simp)) (fun k hk => ?_), ((Below.refl _ w).alloc (Nat.le_refl _) _).trans (hb.mono (by simp))⟩
  have := own_base hrow k hk
  simp at this
  omega
end Go.Proofs.Ytkdodclenhnfcaa.VI
