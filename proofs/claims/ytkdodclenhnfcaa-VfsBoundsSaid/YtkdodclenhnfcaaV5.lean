/- vfs: a file looked up; a page put. -/
import Derived.Test.YtkdodclenhnfcaaV4
import Derived.StringKeys
namespace Go.Proofs.Ytkdodclenhnfcaa.V5
set_option linter.unusedVariables false
set_option linter.unusedSimpArgs false
open Go Go.RowKit Go.Sort Go.Proofs.YtkdodclenhnfcaaW.PrintWords Go.Maps Go.Proofs.Ytkdodclenhnfcaa.V2

theorem tight {H : Type} {w : World} {P : Program} {k : TypeId} {R : Value → Option (DataW H × List MemPlace)} {b n : Nat} {D : DataW H} (h : w.ownsMap P k R b n D) : w.ownsMap P k R b (Maps.size D) D := by
  obtain ⟨es, clock, hb, F, hs, rfl⟩ := h
  exact ⟨es, clock, hb, F, by simp [Maps.size, length_sorted], rfl⟩
theorem key_inj {a b : ByteArray} (h : key a = key b) : a = b := by
  unfold key at h
  injection h with h
  cases a with | mk a => cases b with | mk b =>
  simp at h
  rw [h]
theorem key_lit (a : ByteArray) : WideAt.IsKeyLit (key a) := by
  first | exact trivial | (unfold key; constructor) | simp [key, WideAt.IsKeyLit]
theorem key_of {nm : ByteArray} (h : nm.size ≤ maxLen) : keyOf Try.prog 9 (.string nm) = some (key nm) := Go.WideMaps.keyOf_string_mk Try.underlying9 h

theorem look_file {W : World} {base : Nat} {own : Foot} {mb : Nat} {s : St} {D : DataW Value} (h : FilesAt W base own mb s D) (nm : ByteArray) (hn : nm.size ≤ maxLen) :
    ∃ v, (Instr.lookup 50 (.map (some mb)) (.string nm) true).run Try.prog W = .ok (.tuple #[v, .bool (s.files nm).isSome]) W ∧ kP.R 29 W base (fun k => own k = some (some nm)) v ((s.files nm).getD []) := by
  obtain ⟨v, ps, hrun, hR⟩ := h.owns.look_ok (string_keyed Try.underlying9) Try.underlying50 (z := .slice none 0 0) (zd := .held (.slice none 0 0)) (zp := []) (by kernel_rfl) rfl (key_of hn)
  rw [h.has nm] at hrun
  refine ⟨v, hrun, ?_⟩
  simp only [hv, Option.some.injEq, Prod.mk.injEq] at hR
  cases hf : s.files nm with
  | none =>
    have hh := h.has nm
    rw [hf] at hh
    rw [Maps.atKey_of_not_has (by simpa using hh)] at hR
    have e : v = .slice none 0 0 := by injection hR.1
    subst e
    exact Kd.R_nil _ _ _ _ _
  | some l =>
    obtain ⟨v', h1, h2⟩ := h.pages nm l hf
    rw [h1] at hR
    have e : v = v' := by injection hR.1
    subst e
    exact h2

def setF (f : ByteArray → Option (List (List Int))) (nm : ByteArray) (v : Option (List (List Int))) : ByteArray → Option (List (List Int)) := fun x => if x = nm then v else f x
/-- who owns what behind an append to the file nm: the new blocks are the file's -/
def own1 (own : Foot) (nm : ByteArray) (a b : Nat) : Foot := fun k => if k < a then own k else if k < b then some (some nm) else none

theorem FilesAt.put {w W w1 w2 : World} {base : Nat} {own : Foot} {mb : Nat} {s : St} {D : DataW Value} {nm : ByteArray} {v v1 : Value} {ps' : List (List Int)}
    (h : FilesAt w base own mb s D) (hm : own mb = some none) (old : ∀ k, own k ≠ none → base ≤ k ∧ k < w.heap.size) (hb : Below w.heap.size w W)
    (hv1 : ∀ g, v.ownBlock = some g → own g = some (some nm)) (hg : W.grownBy w1 v.ownBlock) (hR : kP.R 29 w1 base (fun k => own1 own nm w.heap.size w1.heap.size k = some (some nm)) v1 ps')
    (ho : w2.ownsMap Try.prog 9 hv mb (s.many + 1) (D.put (key nm) (.held v1))) (hg2 : w1.grownBy w2 (some mb)) (s' : St) (hf : s'.files = setF s.files nm (some ps')) (hc : s'.many = if (s.files nm).isSome then s.many else s.many + 1) (hsm : ps'.length ≤ 4096 ∧ ∀ p ∈ ps', p.length ≤ 1024) (hcap : s'.many ≤ 256) :
    FilesAt w2 base (own1 own nm w.heap.size w1.heap.size) mb s' (D.put (key nm) (.held v1)) := by
  have hsz : Maps.size (D.put (key nm) (.held v1)) = s'.many := by
    rw [Maps.size_put h.tidy, h.has nm, hc, h.many]
  have hs1 := hb.size
  have hs2 := hg.size
  refine ⟨hsz ▸ tight ho, h.tidy.put (key_lit nm) _, hsz, fun x => ?_, fun x ps hp => ?_, fun x ps hp => ?_, hcap⟩
  · rw [hf]
    unfold setF
    by_cases hx : x = nm
    · subst hx
      rw [if_pos rfl, Maps.has_put_same h.tidy.isMap (key_lit x)]
      rfl
    · rw [if_neg hx, Maps.has_put_other (fun e => hx (key_inj e))]
      exact h.has x
  · rw [hf] at hp
    unfold setF at hp
    by_cases hx : x = nm
    · subst hx
      rw [if_pos rfl] at hp
      have e := Option.some.inj hp
      subst e
      refine ⟨v1, fun z => Maps.atKey_put_same h.tidy.isMap (key_lit x) _ z, Kd.R_grown hR hg2 (fun k hk e => ?_)⟩
      have e' := Option.some.inj e
      subst e'
      unfold own1 at hk
      rw [if_pos (old k (by rw [hm]; simp)).2, hm] at hk
      cases hk
    · rw [if_neg hx] at hp
      obtain ⟨v0, h1, h2⟩ := h.pages x ps hp
      refine ⟨v0, fun z => ?_, ?_⟩
      · rw [Maps.atKey_put_other (fun e => hx (key_inj e))]
        exact h1 z
      · refine Kd.R_mono (Kd.R_step h2 (fun k ho hk => ?_)) (fun k hk => ?_)
        · have hne : some k ≠ v.ownBlock := fun e => by
            have := hv1 k e.symm
            rw [ho] at this
            simp at this
            exact hx this
          have hmk : some k ≠ some mb := fun e => by
            have e' := Option.some.inj e
            rw [e', hm] at ho
            simp at ho
          rw [hg2.block k (by omega) hmk, hg.block k (by omega) hne, hb.block k hk]
        · unfold own1
          rw [if_pos (old k (by rw [hk]; simp)).2]
          exact hk
  · rw [hf] at hp
    unfold setF at hp
    by_cases hx : x = nm
    · rw [if_pos hx] at hp
      rw [← Option.some.inj hp]
      exact hsm
    · rw [if_neg hx] at hp
      exact h.small x ps hp
end Go.Proofs.Ytkdodclenhnfcaa.V5
