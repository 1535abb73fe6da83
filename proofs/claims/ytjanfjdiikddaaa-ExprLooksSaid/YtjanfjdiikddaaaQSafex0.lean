-- written by hyprint.py, this session's program over the kit's print
import Derived.Test.YtjanfjdiikddaaaProg
import Derived.Below
import Derived.Deep.Draws
import Derived.Deep.AppendLies
import Derived.Maps.AppendAt
import Derived.OwnWalk
import Derived.Laws.BytesArg
import Derived.Laws.MakeOwn
import Derived.Laws.OwnMore
import Derived.Deep.OwnRows
import Derived.Tactics
import Derived.Lib.ConvBytes
import Derived.Laws.Slices
import Derived.WalkKit
import Derived.KernelRfl
import Derived.RowKit3
import Derived.Deep.LoopGhost
import Derived.Deep.QuietTactic
import Derived.BigQuiet
import Derived.WideLaws
import Derived.Deep.DeepCutAuto
import Derived.Deep.CutBlock
import Derived.Deep.RegionHeld3
import Derived.Laws.Rows
import Derived.Lib.AppendStr
import Derived.ArgAppend
import Derived.Laws.IdiomCopy
import Derived.OrdersHeld
import Derived.Laws.BitsLemmas
import Derived.RowKit
import Derived.Test.YtjanfjdiikddaaaA4
import Derived.Lib.QuietBelow
import Derived.BigQuiet
import Derived.Lib.Hide
import Derived.Test.YtjanfjdiikddaaaShelf
import Derived.Sort.OwnSortedInts
import Derived.Lib.OwnBridge
import Derived.Lib.RowBridge
import Derived.Handy
import Derived.Test.YtjanfjdiikddaaaWWords
import Derived.Test.YtjanfjdiikddaaaWLast
import Derived.Test.YtjanfjdiikddaaaWTab
import Derived.Test.YtjanfjdiikddaaaWFour
import Derived.Test.YtjanfjdiikddaaaWQPut
import Derived.Test.YtjanfjdiikddaaaWApart
import Derived.Test.YtjanfjdiikddaaaWArr
import Derived.Test.YtjanfjdiikddaaaWZeros
import Derived.Test.YtjanfjdiikddaaaWFoot
import Derived.Test.YtjanfjdiikddaaaWKept
import Derived.Test.YtjanfjdiikddaaaWShare
import Derived.Test.YtjanfjdiikddaaaWN
import Derived.Test.YtjanfjdiikddaaaWFootNe
import Derived.Test.YtjanfjdiikddaaaWAt
import Derived.Test.YtjanfjdiikddaaaWEqStruct
import Derived.Test.YtjanfjdiikddaaaWRepsOne
import Derived.Test.YtjanfjdiikddaaaWInv
import Derived.Test.YtjanfjdiikddaaaWInvWords
import Derived.Test.YtjanfjdiikddaaaWGuard
import Derived.Test.YtjanfjdiikddaaaWNEv
import Derived.Test.YtjanfjdiikddaaaWMore
namespace Go.Proofs.Ytjanfjdiikddaaa.QSafe
open Go.RowKit Go.Proofs.YtjanfjdiikddaaaW.PrintWords Go.Proofs.YtjanfjdiikddaaaW.PrintLast Go.Proofs.YtjanfjdiikddaaaW.PrintMore
attribute [local go_sem] max2_int min2_int max_two min_two max_three min_three max_four min_four   -- for this text's walks alone
set_option linter.unusedVariables false
set_option linter.unusedSimpArgs false



def errW : Option Int → Value
  | none => .nilIface
  | some c => .iface 0 (.int .i64 c)
theorem errW_none : errW none = .nilIface := rfl
theorem errW_some (c : Int) : errW (some c) = .iface 0 (.int .i64 c) := rfl

theorem info3 : (Try.prog.info? 3).map (fun i => (i.zero, i.size, i.bytes)) = some (some (.int .i64 0), 1, 8) := by kernel_rfl
-- the values' own types
def rd_L3 (xs : List (List Int)) (i : Int) : (List Int) := xs.getD i.toNat ([] : List Int)
theorem at_L3 {w : World} {A : Option Addr} {n : Nat} {xs : List (List Int)} (h : Kd.C (Kd.slice 2 (Kd.int .i64)) w A n xs) (i : Int) (h0 : 0 ≤ i) (h1 : i < n) : ∃ ad A0 c0, A = some ad ∧ w.cell? (ad.add i.toNat) = some (.slice A0 (rd_L3 xs i).length c0) ∧ (rd_L3 xs i).length ≤ c0 ∧ (Kd.int .i64).C w A0 (rd_L3 xs i).length (rd_L3 xs i) := by
  obtain ⟨ad, c, e, _, hK, hc0⟩ := Kd.C_get h ([] : List Int) i h0 h1
  have hc : ∀ j u, c[j]? = some u → w.cell? (ad.add (i.toNat * 1 + j)) = some u := hc0
  obtain ⟨A0, c0, rfl, l0, g0⟩ := hK
  exact ⟨ad, A0, c0, e, by have hq := hc 0 _ rfl; rwa [Nat.mul_one, Nat.add_zero] at hq, l0, g0⟩

/-! #### struct type 26 -/
structure S26 where
  f0 : Int
  f1 : Bool
  f2 : Int
  f3 : ByteArray
  f4 : (List Int)
def z26 : S26 := ⟨(0 : Int), false, (0 : Int), (⟨#[]⟩ : ByteArray), ([] : List Int)⟩
def k26 : Kd S26 := Kd.iso (Kd.pair (Kd.int .i64) (Kd.pair Kd.bool (Kd.pair (Kd.int .i64) (Kd.pair Kd.string (Kd.slice 2 (Kd.int .i64)))))) (fun x : S26 => (x.f0, x.f1, x.f2, x.f3, x.f4))
theorem k26_open {w : World} {x : S26} {cs : List Value} (h : k26.K w x cs) : ∃ A4 c4, cs = [.int .i64 x.f0, .bool x.f1, .int .i64 x.f2, .string x.f3, .slice A4 x.f4.length c4] ∧ x.f4.length ≤ c4 ∧ (Kd.int .i64).C w A4 x.f4.length x.f4 := by
  obtain ⟨_, _, rfl, rfl, ⟨_, _, rfl, rfl, ⟨_, _, rfl, rfl, ⟨_, _, rfl, rfl, ⟨A4, c4, rfl, l4, g4⟩⟩⟩⟩⟩ := h
  exact ⟨A4, c4, rfl, l4, g4⟩
theorem k26_openM {w : World} {base : Nat} {ok : Nat → Prop} {x : S26} {cs : List Value} (h : k26.M w base ok x cs) : ∃ v4, cs = [.int .i64 x.f0, .bool x.f1, .int .i64 x.f2, .string x.f3, v4] ∧ (Kd.int .i64).R 2 w base ok v4 x.f4 := by
  obtain ⟨_, _, rfl, rfl, ⟨_, _, rfl, rfl, ⟨_, _, rfl, rfl, ⟨_, _, rfl, rfl, ⟨v4, rfl, g4⟩⟩⟩⟩⟩ := h
  exact ⟨v4, rfl, g4⟩
theorem k26_mk (w : World) (x : S26) {A4 : Option Addr} {c4 : Nat} (l4 : x.f4.length ≤ c4) (g4 : (Kd.int .i64).C w A4 x.f4.length x.f4) : k26.K w x [.int .i64 x.f0, .bool x.f1, .int .i64 x.f2, .string x.f3, .slice A4 x.f4.length c4] := ⟨[.int .i64 x.f0], [.bool x.f1, .int .i64 x.f2, .string x.f3, .slice A4 x.f4.length c4], rfl, rfl, ⟨[.bool x.f1], [.int .i64 x.f2, .string x.f3, .slice A4 x.f4.length c4], rfl, rfl, ⟨[.int .i64 x.f2], [.string x.f3, .slice A4 x.f4.length c4], rfl, rfl, ⟨[.string x.f3], [.slice A4 x.f4.length c4], rfl, rfl, ⟨A4, c4, rfl, l4, g4⟩⟩⟩⟩⟩
theorem k26_mkM (w : World) (base : Nat) (ok : Nat → Prop) (x : S26) {v4 : Value} (g4 : (Kd.int .i64).R 2 w base ok v4 x.f4) : k26.M w base ok x [.int .i64 x.f0, .bool x.f1, .int .i64 x.f2, .string x.f3, v4] := ⟨[.int .i64 x.f0], [.bool x.f1, .int .i64 x.f2, .string x.f3, v4], rfl, rfl, ⟨[.bool x.f1], [.int .i64 x.f2, .string x.f3, v4], rfl, rfl, ⟨[.int .i64 x.f2], [.string x.f3, v4], rfl, rfl, ⟨[.string x.f3], [v4], rfl, rfl, ⟨v4, rfl, g4⟩⟩⟩⟩⟩
theorem k26_openF {W : World} {ok : Nat → Prop} {x : S26} {cs : List Value} (h : Kd.FK k26 W ok x cs) : ∃ A4 c4, cs = [.int .i64 x.f0, .bool x.f1, .int .i64 x.f2, .string x.f3, .slice A4 x.f4.length c4] ∧ x.f4.length ≤ c4 ∧ Kd.F (Kd.int .i64) W ok A4 x.f4.length x.f4 := by
  obtain ⟨A4, c4, rfl, l4, _⟩ := k26_open (Kd.FK_now h)
  exact ⟨A4, c4, rfl, l4, (fun W' hW => by obtain ⟨A4_, c4_, he, l4_, g4_⟩ := k26_open (h W' hW); injection (Option.some.inj (show some (Value.slice A4 x.f4.length c4) = some (Value.slice A4_ x.f4.length c4_) from congrArg (fun l => l[4]?) he)) with ha_ _ _; rw [ha_]; exact g4_)⟩
theorem k26_mkF (W : World) (ok : Nat → Prop) (x : S26) {A4 : Option Addr} {c4 : Nat} (l4 : x.f4.length ≤ c4) (g4 : Kd.F (Kd.int .i64) W ok A4 x.f4.length x.f4) : Kd.FK k26 W ok x [.int .i64 x.f0, .bool x.f1, .int .i64 x.f2, .string x.f3, .slice A4 x.f4.length c4] := fun W2 hW => k26_mk W2 x l4 (g4 W2 hW)
def rd_T26 (xs : List S26) (i : Int) : S26 := xs.getD i.toNat z26
theorem at_T26 {w : World} {A : Option Addr} {n : Nat} {xs : List S26} (h : Kd.C k26 w A n xs) (i : Int) (h0 : 0 ≤ i) (h1 : i < n) : ∃ ad A4 c4, A = some ad ∧ w.cell? (ad.add (i.toNat * 5)) = some (.int .i64 (rd_T26 xs i).f0) ∧ w.cell? ⟨(ad.add (i.toNat * 5)).block, (ad.add (i.toNat * 5)).off + 1, none⟩ = some (.bool (rd_T26 xs i).f1) ∧ w.cell? ⟨(ad.add (i.toNat * 5)).block, (ad.add (i.toNat * 5)).off + 2, none⟩ = some (.int .i64 (rd_T26 xs i).f2) ∧ w.cell? ⟨(ad.add (i.toNat * 5)).block, (ad.add (i.toNat * 5)).off + 3, none⟩ = some (.string (rd_T26 xs i).f3) ∧ w.cell? ⟨(ad.add (i.toNat * 5)).block, (ad.add (i.toNat * 5)).off + 4, none⟩ = some (.slice A4 (rd_T26 xs i).f4.length c4) ∧ (rd_T26 xs i).f4.length ≤ c4 ∧ (Kd.int .i64).C w A4 (rd_T26 xs i).f4.length (rd_T26 xs i).f4 := by
  obtain ⟨ad, c, e, _, hK, hc0⟩ := Kd.C_get h z26 i h0 h1
  have hc : ∀ j u, c[j]? = some u → w.cell? (ad.add (i.toNat * 5 + j)) = some u := hc0
  obtain ⟨A4, c4, rfl, l4, g4⟩ := k26_open hK
  exact ⟨ad, A4, c4, e, hc 0 _ rfl, by rw [← add_field _ _ 1 (by omega)]; exact hc 1 _ rfl, by rw [← add_field _ _ 2 (by omega)]; exact hc 2 _ rfl, by rw [← add_field _ _ 3 (by omega)]; exact hc 3 _ rfl, by rw [← add_field _ _ 4 (by omega)]; exact hc 4 _ rfl, l4, g4⟩

/-! #### struct type 33, nested in itself -/
structure S33 where
  f0 : Int
  f1 : (List S33)
  f2 : Int
  f3 : ByteArray
  f4 : S26
def z33 : S33 := ⟨(0 : Int), ([] : List S33), (0 : Int), (⟨#[]⟩ : ByteArray), z26⟩
def F33 (d : Kd S33) : Kd S33 := Kd.iso (Kd.pair (Kd.int .i64) (Kd.pair (Kd.slice 33 d) (Kd.pair (Kd.int .i64) (Kd.pair Kd.string k26)))) (fun x : S33 => (x.f0, x.f1, x.f2, x.f3, x.f4))
theorem mono33 : Kd.Mono F33 := Kd.mono_iso _ (Kd.mono_pair (Kd.mono_const _) (Kd.mono_pair (Kd.mono_slice 33 Kd.mono_id) (Kd.mono_pair (Kd.mono_const _) (Kd.mono_pair (Kd.mono_const _) (Kd.mono_const _)))))
theorem sub33 : Kd.Sub F33 [2, 33] := Kd.sub_iso _ (Kd.sub_pair (Kd.sub_const _ (by decide)) (Kd.sub_pair (Kd.sub_slice 33 (by decide) Kd.sub_id) (Kd.sub_pair (Kd.sub_const _ (by decide)) (Kd.sub_pair (Kd.sub_const _ (by decide)) (Kd.sub_const _ (by decide))))))
theorem sz33 : ∀ n, (Kd.upto F33 9 [2, 33] n).sz = 9 := Kd.upto_sz (fun _ => rfl)
def k33 : Kd S33 := Kd.fix F33 9 [2, 33] sz33 (Kd.upto_E sub33)
theorem k33_open {w : World} {x : S33} {cs : List Value} (h : k33.K w x cs) : ∃ A1 c1 A8 c8, cs = [.int .i64 x.f0, .slice A1 x.f1.length c1, .int .i64 x.f2, .string x.f3, .int .i64 x.f4.f0, .bool x.f4.f1, .int .i64 x.f4.f2, .string x.f4.f3, .slice A8 x.f4.f4.length c8] ∧ x.f1.length ≤ c1 ∧ k33.C w A1 x.f1.length x.f1 ∧ x.f4.f4.length ≤ c8 ∧ (Kd.int .i64).C w A8 x.f4.f4.length x.f4.f4 := by
  obtain ⟨n, h⟩ := h
  cases n with
  | zero => exact h.elim
  | succ n =>
    obtain ⟨_, _, rfl, rfl, ⟨_, _, rfl, ⟨A1, c1, rfl, l1, g1⟩, ⟨_, _, rfl, rfl, ⟨_, _, rfl, rfl, s4⟩⟩⟩⟩ := h
    obtain ⟨A8, c8, rfl, l8, g8⟩ := k26_open s4
    exact ⟨A1, c1, A8, c8, rfl, l1, Kd.fix_C g1, l8, g8⟩
theorem k33_openM {w : World} {base : Nat} {ok : Nat → Prop} {x : S33} {cs : List Value} (h : k33.M w base ok x cs) : ∃ v1 v8, cs = [.int .i64 x.f0, v1, .int .i64 x.f2, .string x.f3, .int .i64 x.f4.f0, .bool x.f4.f1, .int .i64 x.f4.f2, .string x.f4.f3, v8] ∧ k33.R 33 w base ok v1 x.f1 ∧ (Kd.int .i64).R 2 w base ok v8 x.f4.f4 := by
  obtain ⟨n, h⟩ := h
  cases n with
  | zero => exact h.elim
  | succ n =>
    obtain ⟨_, _, rfl, rfl, ⟨_, _, rfl, ⟨v1, rfl, g1⟩, ⟨_, _, rfl, rfl, ⟨_, _, rfl, rfl, s4⟩⟩⟩⟩ := h
    obtain ⟨v8, rfl, g8⟩ := k26_openM s4
    exact ⟨v1, v8, rfl, Kd.fix_R g1, g8⟩
theorem k33_mk (w : World) (x : S33) {A1 : Option Addr} {c1 : Nat} (l1 : x.f1.length ≤ c1) (g1 : k33.C w A1 x.f1.length x.f1) {A8 : Option Addr} {c8 : Nat} (l8 : x.f4.f4.length ≤ c8) (g8 : (Kd.int .i64).C w A8 x.f4.f4.length x.f4.f4) : k33.K w x [.int .i64 x.f0, .slice A1 x.f1.length c1, .int .i64 x.f2, .string x.f3, .int .i64 x.f4.f0, .bool x.f4.f1, .int .i64 x.f4.f2, .string x.f4.f3, .slice A8 x.f4.f4.length c8] := by
  obtain ⟨n1, q1⟩ := Kd.fix_C_back mono33 g1
  have r1 := Kd.upto_C_le mono33 sz33 (show n1 ≤ n1 by omega) q1
  exact ⟨n1 + 1, ⟨[.int .i64 x.f0], [.slice A1 x.f1.length c1, .int .i64 x.f2, .string x.f3, .int .i64 x.f4.f0, .bool x.f4.f1, .int .i64 x.f4.f2, .string x.f4.f3, .slice A8 x.f4.f4.length c8], rfl, rfl, ⟨[.slice A1 x.f1.length c1], [.int .i64 x.f2, .string x.f3, .int .i64 x.f4.f0, .bool x.f4.f1, .int .i64 x.f4.f2, .string x.f4.f3, .slice A8 x.f4.f4.length c8], rfl, ⟨A1, c1, rfl, l1, r1⟩, ⟨[.int .i64 x.f2], [.string x.f3, .int .i64 x.f4.f0, .bool x.f4.f1, .int .i64 x.f4.f2, .string x.f4.f3, .slice A8 x.f4.f4.length c8], rfl, rfl, ⟨[.string x.f3], [.int .i64 x.f4.f0, .bool x.f4.f1, .int .i64 x.f4.f2, .string x.f4.f3, .slice A8 x.f4.f4.length c8], rfl, rfl, (k26_mk w x.f4 l8 g8)⟩⟩⟩⟩⟩
theorem k33_mkM (w : World) (base : Nat) (ok : Nat → Prop) (x : S33) {v1 : Value} (g1 : k33.R 33 w base ok v1 x.f1) {v8 : Value} (g8 : (Kd.int .i64).R 2 w base ok v8 x.f4.f4) : k33.M w base ok x [.int .i64 x.f0, v1, .int .i64 x.f2, .string x.f3, .int .i64 x.f4.f0, .bool x.f4.f1, .int .i64 x.f4.f2, .string x.f4.f3, v8] := by
  obtain ⟨n1, q1⟩ := Kd.fix_R_back mono33 g1
  have r1 := Kd.upto_R_le mono33 sz33 (show n1 ≤ n1 by omega) q1
  exact ⟨n1 + 1, ⟨[.int .i64 x.f0], [v1, .int .i64 x.f2, .string x.f3, .int .i64 x.f4.f0, .bool x.f4.f1, .int .i64 x.f4.f2, .string x.f4.f3, v8], rfl, rfl, ⟨[v1], [.int .i64 x.f2, .string x.f3, .int .i64 x.f4.f0, .bool x.f4.f1, .int .i64 x.f4.f2, .string x.f4.f3, v8], rfl, ⟨v1, rfl, r1⟩, ⟨[.int .i64 x.f2], [.string x.f3, .int .i64 x.f4.f0, .bool x.f4.f1, .int .i64 x.f4.f2, .string x.f4.f3, v8], rfl, rfl, ⟨[.string x.f3], [.int .i64 x.f4.f0, .bool x.f4.f1, .int .i64 x.f4.f2, .string x.f4.f3, v8], rfl, rfl, (k26_mkM w base ok x.f4 g8)⟩⟩⟩⟩⟩
theorem k33_openF {W : World} {ok : Nat → Prop} {x : S33} {cs : List Value} (h : Kd.FK k33 W ok x cs) : ∃ A1 c1 A8 c8, cs = [.int .i64 x.f0, .slice A1 x.f1.length c1, .int .i64 x.f2, .string x.f3, .int .i64 x.f4.f0, .bool x.f4.f1, .int .i64 x.f4.f2, .string x.f4.f3, .slice A8 x.f4.f4.length c8] ∧ x.f1.length ≤ c1 ∧ Kd.F k33 W ok A1 x.f1.length x.f1 ∧ x.f4.f4.length ≤ c8 ∧ Kd.F (Kd.int .i64) W ok A8 x.f4.f4.length x.f4.f4 := by
  obtain ⟨A1, c1, A8, c8, rfl, l1, _, l8, _⟩ := k33_open (Kd.FK_now h)
  exact ⟨A1, c1, A8, c8, rfl, l1, (fun W' hW => by obtain ⟨A1_, c1_, A8_, c8_, he, l1_, g1_, l8_, g8_⟩ := k33_open (h W' hW); injection (Option.some.inj (show some (Value.slice A1 x.f1.length c1) = some (Value.slice A1_ x.f1.length c1_) from congrArg (fun l => l[1]?) he)) with ha_ _ _; rw [ha_]; exact g1_), l8, (fun W' hW => by obtain ⟨A1_, c1_, A8_, c8_, he, l1_, g1_, l8_, g8_⟩ := k33_open (h W' hW); injection (Option.some.inj (show some (Value.slice A8 x.f4.f4.length c8) = some (Value.slice A8_ x.f4.f4.length c8_) from congrArg (fun l => l[8]?) he)) with ha_ _ _; rw [ha_]; exact g8_)⟩
theorem k33_mkF (W : World) (ok : Nat → Prop) (x : S33) {A1 : Option Addr} {c1 : Nat} (l1 : x.f1.length ≤ c1) (g1 : Kd.F k33 W ok A1 x.f1.length x.f1) {A8 : Option Addr} {c8 : Nat} (l8 : x.f4.f4.length ≤ c8) (g8 : Kd.F (Kd.int .i64) W ok A8 x.f4.f4.length x.f4.f4) : Kd.FK k33 W ok x [.int .i64 x.f0, .slice A1 x.f1.length c1, .int .i64 x.f2, .string x.f3, .int .i64 x.f4.f0, .bool x.f4.f1, .int .i64 x.f4.f2, .string x.f4.f3, .slice A8 x.f4.f4.length c8] := fun W2 hW => k33_mk W2 x l1 (g1 W2 hW) l8 (g8 W2 hW)
def rd_T33 (xs : List S33) (i : Int) : S33 := xs.getD i.toNat z33
theorem at_T33 {w : World} {A : Option Addr} {n : Nat} {xs : List S33} (h : Kd.C k33 w A n xs) (i : Int) (h0 : 0 ≤ i) (h1 : i < n) : ∃ ad A1 c1 A8 c8, A = some ad ∧ w.cell? (ad.add (i.toNat * 9)) = some (.int .i64 (rd_T33 xs i).f0) ∧ w.cell? ⟨(ad.add (i.toNat * 9)).block, (ad.add (i.toNat * 9)).off + 1, none⟩ = some (.slice A1 (rd_T33 xs i).f1.length c1) ∧ w.cell? ⟨(ad.add (i.toNat * 9)).block, (ad.add (i.toNat * 9)).off + 2, none⟩ = some (.int .i64 (rd_T33 xs i).f2) ∧ w.cell? ⟨(ad.add (i.toNat * 9)).block, (ad.add (i.toNat * 9)).off + 3, none⟩ = some (.string (rd_T33 xs i).f3) ∧ w.cell? ⟨(ad.add (i.toNat * 9)).block, (ad.add (i.toNat * 9)).off + 4, none⟩ = some (.int .i64 (rd_T33 xs i).f4.f0) ∧ w.cell? ⟨(ad.add (i.toNat * 9)).block, (ad.add (i.toNat * 9)).off + 5, none⟩ = some (.bool (rd_T33 xs i).f4.f1) ∧ w.cell? ⟨(ad.add (i.toNat * 9)).block, (ad.add (i.toNat * 9)).off + 6, none⟩ = some (.int .i64 (rd_T33 xs i).f4.f2) ∧ w.cell? ⟨(ad.add (i.toNat * 9)).block, (ad.add (i.toNat * 9)).off + 7, none⟩ = some (.string (rd_T33 xs i).f4.f3) ∧ w.cell? ⟨(ad.add (i.toNat * 9)).block, (ad.add (i.toNat * 9)).off + 8, none⟩ = some (.slice A8 (rd_T33 xs i).f4.f4.length c8) ∧ (rd_T33 xs i).f1.length ≤ c1 ∧ k33.C w A1 (rd_T33 xs i).f1.length (rd_T33 xs i).f1 ∧ (rd_T33 xs i).f4.f4.length ≤ c8 ∧ (Kd.int .i64).C w A8 (rd_T33 xs i).f4.f4.length (rd_T33 xs i).f4.f4 := by
  obtain ⟨ad, c, e, _, hK, hc0⟩ := Kd.C_get h z33 i h0 h1
  have hc : ∀ j u, c[j]? = some u → w.cell? (ad.add (i.toNat * 9 + j)) = some u := hc0
  obtain ⟨A1, c1, A8, c8, rfl, l1, g1, l8, g8⟩ := k33_open hK
  exact ⟨ad, A1, c1, A8, c8, e, hc 0 _ rfl, by rw [← add_field _ _ 1 (by omega)]; exact hc 1 _ rfl, by rw [← add_field _ _ 2 (by omega)]; exact hc 2 _ rfl, by rw [← add_field _ _ 3 (by omega)]; exact hc 3 _ rfl, by rw [← add_field _ _ 4 (by omega)]; exact hc 4 _ rfl, by rw [← add_field _ _ 5 (by omega)]; exact hc 5 _ rfl, by rw [← add_field _ _ 6 (by omega)]; exact hc 6 _ rfl, by rw [← add_field _ _ 7 (by omega)]; exact hc 7 _ rfl, by rw [← add_field _ _ 8 (by omega)]; exact hc 8 _ rfl, l1, g1, l8, g8⟩

end Go.Proofs.Ytjanfjdiikddaaa.QSafe
