/- The laws' calls as a kind; small facts. -/
import Derived.Test.YtkdodclenhnfcaaVA
import Derived.Test.YtkdodclenhnfcaaVB
namespace Go.Proofs.Ytkdodclenhnfcaa.VD
set_option linter.unusedVariables false
set_option linter.unusedSimpArgs false
open Go Go.RowKit Go.ChangeMaps Go.Sort Go.Proofs.YtkdodclenhnfcaaW.PrintWords Go.Maps Go.Proofs.Ytkdodclenhnfcaa.V2 Go.Proofs.Ytkdodclenhnfcaa.V3 Go.Proofs.Ytkdodclenhnfcaa.V4 Go.Proofs.Ytkdodclenhnfcaa.V5 Go.Proofs.Ytkdodclenhnfcaa.V6 Go.Proofs.Ytkdodclenhnfcaa.V7 Go.Proofs.Ytkdodclenhnfcaa.V8 Go.Proofs.Ytkdodclenhnfcaa.V9 Go.Proofs.Ytkdodclenhnfcaa.VA

structure OpS where
  what : Int
  name : ByteArray
  b : List Int
  n : Int
instance : Inhabited OpS := ⟨⟨0, ⟨#[]⟩, [], 0⟩⟩
def kOp : Kd OpS := Kd.iso (Kd.pair (Kd.int .i64) (Kd.pair Kd.string (Kd.pair (Kd.slice 5 (Kd.int .u8)) (Kd.int .i64)))) (fun x : OpS => (x.what, x.name, x.b, x.n))
theorem kOp_mk (w : World) (x : OpS) {A : Option Addr} {c : Nat} (hl : x.b.length ≤ c) (hC : Kd.C (Kd.int .u8) w A x.b.length x.b) : kOp.K w x [.int .i64 x.what, .string x.name, .slice A x.b.length c, .int .i64 x.n] :=
  ⟨[.int .i64 x.what], [.string x.name, .slice A x.b.length c, .int .i64 x.n], rfl, rfl, ⟨[.string x.name], [.slice A x.b.length c, .int .i64 x.n], rfl, rfl, ⟨[.slice A x.b.length c], [.int .i64 x.n], rfl, ⟨A, c, rfl, hl, hC⟩, rfl⟩⟩⟩
theorem kOp_open {w : World} {x : OpS} {cs : List Value} (h : kOp.K w x cs) : ∃ A c, cs = [.int .i64 x.what, .string x.name, .slice A x.b.length c, .int .i64 x.n] ∧ x.b.length ≤ c ∧ Kd.C (Kd.int .u8) w A x.b.length x.b := by
  obtain ⟨_, _, rfl, rfl, ⟨_, _, rfl, rfl, ⟨_, _, rfl, ⟨A, c, rfl, hl, hC⟩, rfl⟩⟩⟩ := h
  exact ⟨A, c, rfl, hl, hC⟩
theorem add_next (ad : Addr) (m j : Nat) (hj : j ≠ 0) : ad.add (m + j) = ⟨(ad.add m).block, (ad.add m).off + j, none⟩ := by
  unfold Addr.add
  rw [if_neg (by omega)]
  split
  · rename_i h0; subst h0; simp
  · simp [Nat.add_assoc]
theorem op_at {w W : World} {A : Option Addr} {l : List OpS} (h : kOp.C w A l.length l) (hb : Below w.heap.size w W) (k : Nat) (hk : k < l.length) :
    ∃ ad B c, A = some ad ∧ l[k].b.length ≤ c ∧ Kd.C (Kd.int .u8) w B l[k].b.length l[k].b ∧ W.cell? (ad.add (k * 4)) = some (.int .i64 l[k].what) ∧ W.cell? ⟨(ad.add (k * 4)).block, (ad.add (k * 4)).off + 1, none⟩ = some (.string l[k].name) ∧ W.cell? ⟨(ad.add (k * 4)).block, (ad.add (k * 4)).off + 2, none⟩ = some (.slice B l[k].b.length c) ∧ W.cell? ⟨(ad.add (k * 4)).block, (ad.add (k * 4)).off + 3, none⟩ = some (.int .i64 l[k].n) := by
  obtain ⟨ad, e, hx⟩ := h.2.2 (by omega)
  obtain ⟨cs, h1, h2, h3⟩ := hx k _ (List.getElem?_eq_getElem hk)
  obtain ⟨B, c, rfl, hl, hC⟩ := kOp_open h2
  have g : ∀ j v, [Value.int .i64 l[k].what, .string l[k].name, .slice B l[k].b.length c, .int .i64 l[k].n][j]? = some v → W.cell? (ad.add (k * 4 + j)) = some v := fun j v hj => by
    have h5 : w.cell? (ad.add (k * 4 + j)) = some v := h3 j v hj
    rw [Below.cell hb (World.block_lt_of_cell? w _ h5)]
    exact h5
  refine ⟨ad, B, c, e, hl, hC, g 0 _ rfl, ?_, ?_, ?_⟩
  · rw [← add_next ad (k * 4) 1 (by decide)]; exact g 1 _ rfl
  · rw [← add_next ad (k * 4) 2 (by decide)]; exact g 2 _ rfl
  · rw [← add_next ad (k * 4) 3 (by decide)]; exact g 3 _ rfl
theorem C_block {w : World} {A : Option Addr} {q : IntKind} {xs : List Int} (h : Kd.C (Kd.int q) w A xs.length xs) (h0 : xs.length ≠ 0) : ∀ a, A = some a → a.block < w.heap.size := by
  intro a ha
  obtain ⟨ad, e, hx⟩ := h.2.2 (by omega)
  obtain ⟨cs, h1, h2, h3⟩ := hx 0 _ (List.getElem?_eq_getElem (by omega))
  have h4 := h3 0 (.int q (xs[0]'(by omega))) (by rw [show cs = [.int q (xs[0]'(by omega))] from h2]; rfl)
  have := World.block_lt_of_cell? w _ h4
  rw [V6.add_block] at this
  rw [ha] at e
  rw [Option.some.inj e]
  exact this

theorem FSI.size {w : World} {base : Nat} {own : Foot} {fb mb xb : Nat} {s : St} (h : FSI w base own fb mb xb s) : base < w.heap.size := by
  have := h.old fb (by rw [h.ofb]; simp)
  omega
theorem FSI.fresh {w : World} {base : Nat} {own : Foot} {fb mb xb : Nat} {s : St} (h : FSI w base own fb mb xb s) {k : Nat} (hk : w.heap.size ≤ k) : own k = none := by
  by_cases h0 : own k = none
  · exact h0
  · have := (h.old k h0).2
    omega
theorem FSI.elder {w : World} {base : Nat} {own : Foot} {fb mb xb : Nat} {s : St} (h : FSI w base own fb mb xb s) {k : Nat} (hk : k < base) : own k = none := by
  by_cases h0 : own k = none
  · exact h0
  · have := (h.old k h0).1
    omega
theorem frame_below2 {own own' : Foot} {base B fb mb xb : Nat} {w W W' : World} {s : St} (hF : FSI W base own fb mb xb s) (hb : Below B w W) (hle : B ≤ base) (f : V6.Frame own own' W W') : Below B w W' :=
  ⟨f.os.trans hb.os, f.tape.trans hb.tape, f.output.trans hb.output, Nat.le_trans hb.size f.size, fun k hk => (f.block k (by have := FSI.size hF; omega) (FSI.elder hF (by omega))).trans (hb.block k hk)⟩
/-- a page that lay there at first is still there, and no file owns it -/
theorem old_page {w W : World} {base : Nat} {own : Foot} {fb mb xb : Nat} {s : St} {A : Option Addr} {page : List Int} (hC : Kd.C (Kd.int .u8) w A page.length page) (hb : Below w.heap.size w W) (hF : FSI W base own fb mb xb s) (hle : w.heap.size ≤ base) :
    Kd.C (Kd.int .u8) W A page.length page ∧ (page.length ≠ 0 → ∀ a, A = some a → a.block < W.heap.size ∧ own a.block = none) := by
  refine ⟨Kd.C_below hC hb, fun h0 a ha => ?_⟩
  have h1 := C_block hC h0 a ha
  have h2 := FSI.size hF
  exact ⟨by omega, FSI.elder hF (by omega)⟩
end Go.Proofs.Ytkdodclenhnfcaa.VD
