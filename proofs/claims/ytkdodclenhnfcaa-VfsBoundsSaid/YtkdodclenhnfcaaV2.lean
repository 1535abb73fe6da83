/- The file system in memory: one invariant, and what keeps it. -/
import Derived.Test.YtkdodclenhnfcaaV1
import Derived.Test.YtkdodclenhnfcaaWWords
import Derived.Maps.Own
import Derived.Maps.OwnSet
import Derived.Maps.Keyed
import Derived.Maps.Views
import Derived.Lib.Hide
namespace Go.Proofs.Ytkdodclenhnfcaa.V2
set_option linter.unusedVariables false
set_option linter.unusedSimpArgs false
open Go Go.RowKit Go.Proofs.Ytkdodclenhnfcaa.Fwd Go.Proofs.YtkdodclenhnfcaaW.PrintWords Go.Maps

/-- what a file system holds -/
structure St where
  files : ByteArray → Option (List (List Int))
  many : Nat
  quota : Int
  size : Int
  calls : Int
  faults : Int → Bool
  failed : Bool
/-- a map's element as the value that it is -/
def hv (v : Value) : Option (DataW Value × List MemPlace) := some (.held v, [])
def key (nm : ByteArray) : Lit := .string nm.data.toList
/-- a file's pages -/
def kP : Kd (List Int) := Kd.slice 5 (Kd.int .u8)
abbrev cells (mb xb : Nat) (s : St) : Array Value := #[.map (some mb), .int .i64 s.quota, .int .i64 s.size, .int .i64 s.calls, .map (some xb), .bool s.failed]
/-- who owns a block: 'some none': the file system itself; 'some (some n)': the file n -/
abbrev Foot := Nat → Option (Option ByteArray)
structure FilesAt (w : World) (base : Nat) (own : Foot) (mb : Nat) (s : St) (D : DataW Value) : Prop where
  owns : w.ownsMap Try.prog 9 hv mb s.many D
  tidy : Maps.Tidy D
  many : Maps.size D = s.many
  has : ∀ nm, Maps.has D (key nm) = (s.files nm).isSome
  pages : ∀ nm ps, s.files nm = some ps → ∃ v, (∀ z, D.atKey (key nm) z = .held v) ∧ kP.R 29 w base (fun k => own k = some (some nm)) v ps
  small : ∀ nm ps, s.files nm = some ps → ps.length ≤ 4096 ∧ ∀ p ∈ ps, p.length ≤ 1024
  cap : s.many ≤ 256
structure FaultsAt (w : World) (xb : Nat) (s : St) (K : Nat) (D : DataW Value) : Prop where
  owns : w.ownsMap Try.prog 3 (plainElem Try.prog 4) xb K D
  at_ : ∀ i, -9223372036854775808 ≤ i → i ≤ 9223372036854775807 → D.atKey (.int .i64 i) (.lit (.bool false)) = .lit (.bool (s.faults i))
structure FSI (w : World) (base : Nat) (own : Foot) (fb mb xb : Nat) (s : St) : Prop where
  row : Base.Row w fb 53 (cells mb xb s)
  files : ∃ D, FilesAt w base own mb s D
  faults : ∃ K D, FaultsAt w xb s K D
  ofb : own fb = some none
  omb : own mb = some none
  oxb : own xb = some none
  mx : mb ≠ xb
  old : ∀ k, own k ≠ none → base ≤ k ∧ k < w.heap.size
  calls : -9223372036854775808 ≤ s.calls ∧ s.calls ≤ 9223372036854775807

/-- only block g may have turned -/
theorem FilesAt.step {w w' : World} {base : Nat} {own : Foot} {mb : Nat} {s : St} {D : DataW Value} (h : FilesAt w base own mb s D) (hm : own mb = some none) (hk : ∀ k, own k ≠ none → w'.heap[k]? = w.heap[k]?) (hs : w.heap.size ≤ w'.heap.size) : FilesAt w' base own mb s D := by
  refine ⟨?_, h.tidy, h.many, h.has, fun nm ps hf => ?_, h.small, h.cap⟩
  · obtain ⟨es, clock, hb, r⟩ := h.owns
    exact ⟨es, clock, (hk mb (by rw [hm]; simp)).trans hb, r⟩
  · obtain ⟨v, h1, h2⟩ := h.pages nm ps hf
    exact ⟨v, h1, Kd.R_step h2 (fun k ho _ => hk k (by rw [ho]; simp))⟩
theorem FaultsAt.step {w w' : World} {xb : Nat} {s : St} {K : Nat} {D : DataW Value} (h : FaultsAt w xb s K D) (hk : w'.heap[xb]? = w.heap[xb]?) : FaultsAt w' xb s K D := by
  refine ⟨?_, h.at_⟩
  obtain ⟨es, clock, hb, r⟩ := h.owns
  exact ⟨es, clock, hk.trans hb, r⟩
theorem FSI.step {w w' : World} {base : Nat} {own : Foot} {fb mb xb : Nat} {s : St} (h : FSI w base own fb mb xb s) (hk : ∀ k, own k ≠ none → w'.heap[k]? = w.heap[k]?) (hs : w.heap.size ≤ w'.heap.size) : FSI w' base own fb mb xb s := by
  obtain ⟨D, hD⟩ := h.files
  obtain ⟨K, X, hX⟩ := h.faults
  refine ⟨(hk fb (by rw [h.ofb]; simp)).trans h.row, ⟨D, hD.step h.omb hk hs⟩, ⟨K, X, hX.step (hk xb (by rw [h.oxb]; simp))⟩, h.ofb, h.omb, h.oxb, h.mx, fun k ho => ?_, h.calls⟩
  have := h.old k ho
  omega
theorem FSI.past {w w' : World} {base : Nat} {own : Foot} {fb mb xb : Nat} {s : St} (h : FSI w base own fb mb xb s) (hb : Below w.heap.size w w') : FSI w' base own fb mb xb s :=
  h.step (fun k ho => hb.block k (h.old k ho).2) hb.size
/-- a store into the struct itself -/
theorem FSI.stored {w w' : World} {base : Nat} {own : Foot} {fb mb xb : Nat} {s s' : St} (h : FSI w base own fb mb xb s) (hr : Base.Row w' fb 53 (cells mb xb s')) (hg : w.grownBy w' (some fb)) (hf : s'.files = s.files) (hm : s'.many = s.many) (hx : s'.faults = s.faults) (hc : -9223372036854775808 ≤ s'.calls ∧ s'.calls ≤ 9223372036854775807) : FSI w' base own fb mb xb s' := by
  obtain ⟨D, hD⟩ := h.files
  obtain ⟨K, X, hX⟩ := h.faults
  have hmf : mb ≠ fb := by
    rintro rfl
    obtain ⟨es, clock, hb, _⟩ := hD.owns
    have := h.row
    unfold Base.Row at this
    rw [hb] at this
    cases this
  have hxf : xb ≠ fb := by
    rintro rfl
    obtain ⟨es, clock, hb, _⟩ := hX.owns
    have := h.row
    unfold Base.Row at this
    rw [hb] at this
    cases this
  have blk : ∀ k, own k ≠ none → k ≠ fb → w'.heap[k]? = w.heap[k]? := fun k ho hne => hg.block k (h.old k ho).2 (by simp; exact fun e => hne e)
  refine ⟨hr, ⟨D, ?_, hD.tidy, by rw [hm]; exact hD.many, fun nm => by rw [hf]; exact hD.has nm, fun nm ps hp => ?_, fun nm ps hp => hD.small nm ps (by rw [← hf]; exact hp), by rw [hm]; exact hD.cap⟩, ⟨K, X, ?_, fun i h1 h2 => by rw [hx]; exact hX.at_ i h1 h2⟩, h.ofb, h.omb, h.oxb, h.mx, fun k ho => ?_, hc⟩
  · rw [hm]
    obtain ⟨es, clock, hb, r⟩ := hD.owns
    exact ⟨es, clock, (blk mb (by rw [h.omb]; simp) hmf).trans hb, r⟩
  · rw [hf] at hp
    obtain ⟨v, h1, h2⟩ := hD.pages nm ps hp
    exact ⟨v, h1, Kd.R_step h2 (fun k ho _ => blk k (by rw [ho]; simp) (fun e => by rw [e, h.ofb] at ho; simp at ho))⟩
  · obtain ⟨es, clock, hb, r⟩ := hX.owns
    exact ⟨es, clock, (blk xb (by rw [h.oxb]; simp) hxf).trans hb, r⟩
  · have := h.old k ho
    have := hg.size
    omega
end Go.Proofs.Ytkdodclenhnfcaa.V2
