-- Written by a program of this claim's own (wip/gen/gen.py), out of the translation; an ordinary proof text.
import Derived.Test.YtpkaliaaffgbdaaProg
import Derived.Below
import Derived.Deep.Draws
import Derived.Deep.AppendLies
import Derived.Maps.AppendAt
import Derived.OwnWalk
import Derived.Laws.BytesArg
import Derived.Laws.MakeOwn
import Derived.Laws.OwnMore
import Derived.Deep.OwnRows
import Derived.Tactics
import Derived.Lib.ConvBytes
import Derived.Laws.Slices
import Derived.WalkKit
import Derived.KernelRfl
import Derived.RowKit3
import Derived.Deep.LoopGhost
import Derived.Deep.QuietTactic
import Derived.BigQuiet
import Derived.WideLaws
import Derived.Deep.DeepCutAuto
import Derived.Deep.CutBlock
import Derived.Deep.RegionHeld3
import Derived.Laws.Rows
import Derived.Lib.AppendStr
import Derived.ArgAppend
import Derived.Laws.IdiomCopy
import Derived.OrdersHeld
import Derived.Laws.BitsLemmas
import Derived.RowKit
import Derived.WalkLawsBesides
import Derived.Outline
import Derived.StillTailTactics
import Derived.RangeFuncBox
import Derived.RangeFuncLeaves
import Derived.Shelf.Abstract
import Derived.OwnWalkIn
import Derived.TacticsInMore
import Derived.LoopNIn
import Derived.LoopIn
import Derived.Maps.AppendAt
import Derived.Shelf.Strings.Builder1
import Derived.Test.YtpkaliaaffgbdaaWWords
import Derived.Test.YtpkaliaaffgbdaaWLast
import Derived.Test.YtpkaliaaffgbdaaWTab
import Derived.Test.YtpkaliaaffgbdaaWFour
import Derived.Test.YtpkaliaaffgbdaaWQPut
import Derived.Test.YtpkaliaaffgbdaaWApart
import Derived.Test.YtpkaliaaffgbdaaWArr
import Derived.Test.YtpkaliaaffgbdaaWZeros
import Derived.Test.YtpkaliaaffgbdaaWFoot
import Derived.Test.YtpkaliaaffgbdaaWKept
import Derived.Test.YtpkaliaaffgbdaaWShare
import Derived.Test.YtpkaliaaffgbdaaWN
import Derived.Test.YtpkaliaaffgbdaaWFootNe
import Derived.Test.YtpkaliaaffgbdaaWAt
import Derived.Test.YtpkaliaaffgbdaaWEqStruct
import Derived.Test.YtpkaliaaffgbdaaWRepsOne
import Derived.Test.YtpkaliaaffgbdaaWInv
import Derived.Test.YtpkaliaaffgbdaaWInvWords
import Derived.Test.YtpkaliaaffgbdaaWGuard
import Derived.Test.YtpkaliaaffgbdaaWNEv
import Derived.Test.YtpkaliaaffgbdaaWMore
namespace Go.Proofs.Ytpkaliaaffgbdaa.QA
open Go.RowKit Go.Proofs.YtpkaliaaffgbdaaW.PrintWords Go.Proofs.YtpkaliaaffgbdaaW.PrintLast Go.Proofs.YtpkaliaaffgbdaaW.PrintMore
attribute [local go_sem] max2_int min2_int max_two min_two max_three min_three max_four min_four   -- for this text's walks alone
set_option linter.unusedVariables false
set_option linter.unusedSimpArgs false
abbrev Y : Bool := true
abbrev Z : Bool := false



def errW : Option Int → Value
 | none => .nilIface
 | some c => .iface 0 (.int .i64 c)
theorem errW_none : errW none = .nilIface := rfl
theorem errW_some (c : Int) : errW (some c) = .iface 0 (.int .i64 c) := rfl

theorem ne_nil_empty (l : List UInt8) : (l != []) = !l.isEmpty := by cases l <;> rfl
theorem info3 : (Try.prog.info? 3).map (fun i => (i.zero, i.size, i.bytes)) = some (some (.int .i64 0), 1, 8) := by kernel_rfl
theorem info52 : (Try.prog.info? 52).map (fun i => (i.zero, i.size, i.bytes)) = some (some (.agg #[(.string ⟨#[]⟩), (.string ⟨#[]⟩)]), 2, 32) := by kernel_rfl
theorem info54 : (Try.prog.info? 54).map (fun i => (i.zero, i.size, i.bytes)) = some (some (.agg #[(.int .i64 0), (.int .i64 0), (.string ⟨#[]⟩), (.string ⟨#[]⟩), (.slice none 0 0)]), 5, 72) := by kernel_rfl
theorem info79 : (Try.prog.info? 79).map (fun i => (i.zero, i.size, i.bytes)) = some (some (.agg #[(.int .i64 0), (.int .i64 0), (.string ⟨#[]⟩), (.string ⟨#[]⟩), (.slice none 0 0), (.int .i64 0), (.slice none 0 0)]), 7, 104) := by kernel_rfl
-- the values' own types
/-! #### struct type 52 -/
structure S52 where
 f0 : ByteArray
 f1 : ByteArray
def z52 : S52 := ⟨(⟨#[]⟩ : ByteArray), (⟨#[]⟩ : ByteArray)⟩
def k52 : Kd S52 := Kd.iso (Kd.pair Kd.string Kd.string) (fun x : S52 => (x.f0, x.f1))
theorem k52_open {w : World} {x : S52} {cs : List Value} (h : k52.K w x cs) : cs = [.string x.f0, .string x.f1] := by
 obtain ⟨_, _, rfl, rfl, rfl⟩ := h
 exact rfl
theorem k52_openM {w : World} {base : Nat} {ok : Nat → Prop} {x : S52} {cs : List Value} (h : k52.M w base ok x cs) : cs = [.string x.f0, .string x.f1] := by
 obtain ⟨_, _, rfl, rfl, rfl⟩ := h
 exact rfl
theorem k52_mk (w : World) (x : S52)  : k52.K w x [.string x.f0, .string x.f1] := ⟨[.string x.f0], [.string x.f1], rfl, rfl, rfl⟩
theorem k52_mkM (w : World) (base : Nat) (ok : Nat → Prop) (x : S52)  : k52.M w base ok x [.string x.f0, .string x.f1] := ⟨[.string x.f0], [.string x.f1], rfl, rfl, rfl⟩
theorem k52_mkF (W : World) (ok : Nat → Prop) (x : S52) : Kd.FK k52 W ok x [.string x.f0, .string x.f1] := fun W2 _ => k52_mk W2 x
def rd_T52 (xs : List S52) (i : Int) : S52 := xs.getD i.toNat z52
theorem at_T52 {w : World} {A : Option Addr} {n : Nat} {xs : List S52} (h : Kd.C k52 w A n xs) (i : Int) (h0 : 0 ≤ i) (h1 : i < n) : ∃ ad , A = some ad ∧ w.cell? (ad.add (i.toNat * 2)) = some (.string (rd_T52 xs i).f0) ∧ w.cell? ⟨(ad.add (i.toNat * 2)).block, (ad.add (i.toNat * 2)).off + 1, none⟩ = some (.string (rd_T52 xs i).f1) := by
 obtain ⟨ad, c, e, _, hK, hc0⟩ := Kd.C_get h z52 i h0 h1
 have hc : ∀ j u, c[j]? = some u → w.cell? (ad.add (i.toNat * 2 + j)) = some u := hc0
 obtain rfl := k52_open hK
 exact ⟨ad, e, hc 0 _ rfl, by rw [← add_field _ _ 1 (by omega)]; exact hc 1 _ rfl⟩

def rd_L3 (xs : List (List S52)) (i : Int) : (List S52) := xs.getD i.toNat ([] : List S52)
theorem at_L3 {w : World} {A : Option Addr} {n : Nat} {xs : List (List S52)} (h : Kd.C (Kd.slice 52 k52) w A n xs) (i : Int) (h0 : 0 ≤ i) (h1 : i < n) : ∃ ad A0 c0, A = some ad ∧ w.cell? (ad.add i.toNat) = some (.slice A0 (rd_L3 xs i).length c0) ∧ (rd_L3 xs i).length ≤ c0 ∧ k52.C w A0 (rd_L3 xs i).length (rd_L3 xs i) := by
 obtain ⟨ad, c, e, _, hK, hc0⟩ := Kd.C_get h ([] : List S52) i h0 h1
 have hc : ∀ j u, c[j]? = some u → w.cell? (ad.add (i.toNat * 1 + j)) = some u := hc0
 obtain ⟨A0, c0, rfl, l0, g0⟩ := hK
 exact ⟨ad, A0, c0, e, by have hq := hc 0 _ rfl; rwa [Nat.mul_one, Nat.add_zero] at hq, l0, g0⟩

/-! #### struct type 54 -/
structure S54 where
 f0 : Int
 f1 : Int
 f2 : ByteArray
 f3 : ByteArray
 f4 : (List S52)
def z54 : S54 := ⟨(0 : Int), (0 : Int), (⟨#[]⟩ : ByteArray), (⟨#[]⟩ : ByteArray), ([] : List S52)⟩
def k54 : Kd S54 := Kd.iso (Kd.pair (Kd.int .i64) (Kd.pair (Kd.int .i64) (Kd.pair Kd.string (Kd.pair Kd.string (Kd.slice 52 k52))))) (fun x : S54 => (x.f0, x.f1, x.f2, x.f3, x.f4))
theorem k54_open {w : World} {x : S54} {cs : List Value} (h : k54.K w x cs) : ∃ A4 c4, cs = [.int .i64 x.f0, .int .i64 x.f1, .string x.f2, .string x.f3, .slice A4 x.f4.length c4] ∧ x.f4.length ≤ c4 ∧ k52.C w A4 x.f4.length x.f4 := by
 obtain ⟨_, _, rfl, rfl, ⟨_, _, rfl, rfl, ⟨_, _, rfl, rfl, ⟨_, _, rfl, rfl, ⟨A4, c4, rfl, l4, g4⟩⟩⟩⟩⟩ := h
 exact ⟨A4, c4, rfl, l4, g4⟩
theorem k54_openM {w : World} {base : Nat} {ok : Nat → Prop} {x : S54} {cs : List Value} (h : k54.M w base ok x cs) : ∃ v4, cs = [.int .i64 x.f0, .int .i64 x.f1, .string x.f2, .string x.f3, v4] ∧ k52.R 52 w base ok v4 x.f4 := by
 obtain ⟨_, _, rfl, rfl, ⟨_, _, rfl, rfl, ⟨_, _, rfl, rfl, ⟨_, _, rfl, rfl, ⟨v4, rfl, g4⟩⟩⟩⟩⟩ := h
 exact ⟨v4, rfl, g4⟩
theorem k54_mk (w : World) (x : S54) {A4 : Option Addr} {c4 : Nat} (l4 : x.f4.length ≤ c4) (g4 : k52.C w A4 x.f4.length x.f4) : k54.K w x [.int .i64 x.f0, .int .i64 x.f1, .string x.f2, .string x.f3, .slice A4 x.f4.length c4] := ⟨[.int .i64 x.f0], [.int .i64 x.f1, .string x.f2, .string x.f3, .slice A4 x.f4.length c4], rfl, rfl, ⟨[.int .i64 x.f1], [.string x.f2, .string x.f3, .slice A4 x.f4.length c4], rfl, rfl, ⟨[.string x.f2], [.string x.f3, .slice A4 x.f4.length c4], rfl, rfl, ⟨[.string x.f3], [.slice A4 x.f4.length c4], rfl, rfl, ⟨A4, c4, rfl, l4, g4⟩⟩⟩⟩⟩
theorem k54_mkM (w : World) (base : Nat) (ok : Nat → Prop) (x : S54) {v4 : Value} (g4 : k52.R 52 w base ok v4 x.f4) : k54.M w base ok x [.int .i64 x.f0, .int .i64 x.f1, .string x.f2, .string x.f3, v4] := ⟨[.int .i64 x.f0], [.int .i64 x.f1, .string x.f2, .string x.f3, v4], rfl, rfl, ⟨[.int .i64 x.f1], [.string x.f2, .string x.f3, v4], rfl, rfl, ⟨[.string x.f2], [.string x.f3, v4], rfl, rfl, ⟨[.string x.f3], [v4], rfl, rfl, ⟨v4, rfl, g4⟩⟩⟩⟩⟩
theorem k54_openF {W : World} {ok : Nat → Prop} {x : S54} {cs : List Value} (h : Kd.FK k54 W ok x cs) : ∃ A4 c4, cs = [.int .i64 x.f0, .int .i64 x.f1, .string x.f2, .string x.f3, .slice A4 x.f4.length c4] ∧ x.f4.length ≤ c4 ∧ Kd.F k52 W ok A4 x.f4.length x.f4 := by
 obtain ⟨A4, c4, rfl, l4, _⟩ := k54_open (Kd.FK_now h)
 exact ⟨A4, c4, rfl, l4, (fun W' hW => by obtain ⟨A4_, c4_, he, l4_, g4_⟩ := k54_open (h W' hW); injection (Option.some.inj (show some (Value.slice A4 x.f4.length c4) = some (Value.slice A4_ x.f4.length c4_) from congrArg (fun l => l[4]?) he)) with ha_ _ _; rw [ha_]; exact g4_)⟩
theorem k54_mkF (W : World) (ok : Nat → Prop) (x : S54) {A4 : Option Addr} {c4 : Nat} (l4 : x.f4.length ≤ c4) (g4 : Kd.F k52 W ok A4 x.f4.length x.f4) : Kd.FK k54 W ok x [.int .i64 x.f0, .int .i64 x.f1, .string x.f2, .string x.f3, .slice A4 x.f4.length c4] := fun W2 hW => k54_mk W2 x l4 (g4 W2 hW)
def rd_T54 (xs : List S54) (i : Int) : S54 := xs.getD i.toNat z54
theorem at_T54 {w : World} {A : Option Addr} {n : Nat} {xs : List S54} (h : Kd.C k54 w A n xs) (i : Int) (h0 : 0 ≤ i) (h1 : i < n) : ∃ ad A4 c4, A = some ad ∧ w.cell? (ad.add (i.toNat * 5)) = some (.int .i64 (rd_T54 xs i).f0) ∧ w.cell? ⟨(ad.add (i.toNat * 5)).block, (ad.add (i.toNat * 5)).off + 1, none⟩ = some (.int .i64 (rd_T54 xs i).f1) ∧ w.cell? ⟨(ad.add (i.toNat * 5)).block, (ad.add (i.toNat * 5)).off + 2, none⟩ = some (.string (rd_T54 xs i).f2) ∧ w.cell? ⟨(ad.add (i.toNat * 5)).block, (ad.add (i.toNat * 5)).off + 3, none⟩ = some (.string (rd_T54 xs i).f3) ∧ w.cell? ⟨(ad.add (i.toNat * 5)).block, (ad.add (i.toNat * 5)).off + 4, none⟩ = some (.slice A4 (rd_T54 xs i).f4.length c4) ∧ (rd_T54 xs i).f4.length ≤ c4 ∧ k52.C w A4 (rd_T54 xs i).f4.length (rd_T54 xs i).f4 := by
 obtain ⟨ad, c, e, _, hK, hc0⟩ := Kd.C_get h z54 i h0 h1
 have hc : ∀ j u, c[j]? = some u → w.cell? (ad.add (i.toNat * 5 + j)) = some u := hc0
 obtain ⟨A4, c4, rfl, l4, g4⟩ := k54_open hK
 exact ⟨ad, A4, c4, e, hc 0 _ rfl, by rw [← add_field _ _ 1 (by omega)]; exact hc 1 _ rfl, by rw [← add_field _ _ 2 (by omega)]; exact hc 2 _ rfl, by rw [← add_field _ _ 3 (by omega)]; exact hc 3 _ rfl, by rw [← add_field _ _ 4 (by omega)]; exact hc 4 _ rfl, l4, g4⟩

def rd_L5 (xs : List (List Int)) (i : Int) : (List Int) := xs.getD i.toNat ([] : List Int)
theorem at_L5 {w : World} {A : Option Addr} {n : Nat} {xs : List (List Int)} (h : Kd.C (Kd.slice 3 (Kd.int .i64)) w A n xs) (i : Int) (h0 : 0 ≤ i) (h1 : i < n) : ∃ ad A0 c0, A = some ad ∧ w.cell? (ad.add i.toNat) = some (.slice A0 (rd_L5 xs i).length c0) ∧ (rd_L5 xs i).length ≤ c0 ∧ (Kd.int .i64).C w A0 (rd_L5 xs i).length (rd_L5 xs i) := by
 obtain ⟨ad, c, e, _, hK, hc0⟩ := Kd.C_get h ([] : List Int) i h0 h1
 have hc : ∀ j u, c[j]? = some u → w.cell? (ad.add (i.toNat * 1 + j)) = some u := hc0
 obtain ⟨A0, c0, rfl, l0, g0⟩ := hK
 exact ⟨ad, A0, c0, e, by have hq := hc 0 _ rfl; rwa [Nat.mul_one, Nat.add_zero] at hq, l0, g0⟩

/-! #### struct type 79 -/
structure S79 where
 f0 : S54
 f1 : Int
 f2 : (List Int)
def z79 : S79 := ⟨z54, (0 : Int), ([] : List Int)⟩
def k79 : Kd S79 := Kd.iso (Kd.pair k54 (Kd.pair (Kd.int .i64) (Kd.slice 3 (Kd.int .i64)))) (fun x : S79 => (x.f0, x.f1, x.f2))
theorem k79_open {w : World} {x : S79} {cs : List Value} (h : k79.K w x cs) : ∃ A4 c4 A6 c6, cs = [.int .i64 x.f0.f0, .int .i64 x.f0.f1, .string x.f0.f2, .string x.f0.f3, .slice A4 x.f0.f4.length c4, .int .i64 x.f1, .slice A6 x.f2.length c6] ∧ x.f0.f4.length ≤ c4 ∧ k52.C w A4 x.f0.f4.length x.f0.f4 ∧ x.f2.length ≤ c6 ∧ (Kd.int .i64).C w A6 x.f2.length x.f2 := by
 obtain ⟨_, _, rfl, s0, ⟨_, _, rfl, rfl, ⟨A6, c6, rfl, l6, g6⟩⟩⟩ := h
 obtain ⟨A4, c4, rfl, l4, g4⟩ := k54_open s0
 exact ⟨A4, c4, A6, c6, rfl, l4, g4, l6, g6⟩
theorem k79_openM {w : World} {base : Nat} {ok : Nat → Prop} {x : S79} {cs : List Value} (h : k79.M w base ok x cs) : ∃ v4 v6, cs = [.int .i64 x.f0.f0, .int .i64 x.f0.f1, .string x.f0.f2, .string x.f0.f3, v4, .int .i64 x.f1, v6] ∧ k52.R 52 w base ok v4 x.f0.f4 ∧ (Kd.int .i64).R 3 w base ok v6 x.f2 := by
 obtain ⟨_, _, rfl, s0, ⟨_, _, rfl, rfl, ⟨v6, rfl, g6⟩⟩⟩ := h
 obtain ⟨v4, rfl, g4⟩ := k54_openM s0
 exact ⟨v4, v6, rfl, g4, g6⟩
theorem k79_mk (w : World) (x : S79) {A4 : Option Addr} {c4 : Nat} (l4 : x.f0.f4.length ≤ c4) (g4 : k52.C w A4 x.f0.f4.length x.f0.f4) {A6 : Option Addr} {c6 : Nat} (l6 : x.f2.length ≤ c6) (g6 : (Kd.int .i64).C w A6 x.f2.length x.f2) : k79.K w x [.int .i64 x.f0.f0, .int .i64 x.f0.f1, .string x.f0.f2, .string x.f0.f3, .slice A4 x.f0.f4.length c4, .int .i64 x.f1, .slice A6 x.f2.length c6] := ⟨[.int .i64 x.f0.f0, .int .i64 x.f0.f1, .string x.f0.f2, .string x.f0.f3, .slice A4 x.f0.f4.length c4], [.int .i64 x.f1, .slice A6 x.f2.length c6], rfl, (k54_mk w x.f0 l4 g4), ⟨[.int .i64 x.f1], [.slice A6 x.f2.length c6], rfl, rfl, ⟨A6, c6, rfl, l6, g6⟩⟩⟩
theorem k79_mkM (w : World) (base : Nat) (ok : Nat → Prop) (x : S79) {v4 : Value} (g4 : k52.R 52 w base ok v4 x.f0.f4) {v6 : Value} (g6 : (Kd.int .i64).R 3 w base ok v6 x.f2) : k79.M w base ok x [.int .i64 x.f0.f0, .int .i64 x.f0.f1, .string x.f0.f2, .string x.f0.f3, v4, .int .i64 x.f1, v6] := ⟨[.int .i64 x.f0.f0, .int .i64 x.f0.f1, .string x.f0.f2, .string x.f0.f3, v4], [.int .i64 x.f1, v6], rfl, (k54_mkM w base ok x.f0 g4), ⟨[.int .i64 x.f1], [v6], rfl, rfl, ⟨v6, rfl, g6⟩⟩⟩
theorem k79_openF {W : World} {ok : Nat → Prop} {x : S79} {cs : List Value} (h : Kd.FK k79 W ok x cs) : ∃ A4 c4 A6 c6, cs = [.int .i64 x.f0.f0, .int .i64 x.f0.f1, .string x.f0.f2, .string x.f0.f3, .slice A4 x.f0.f4.length c4, .int .i64 x.f1, .slice A6 x.f2.length c6] ∧ x.f0.f4.length ≤ c4 ∧ Kd.F k52 W ok A4 x.f0.f4.length x.f0.f4 ∧ x.f2.length ≤ c6 ∧ Kd.F (Kd.int .i64) W ok A6 x.f2.length x.f2 := by
 obtain ⟨A4, c4, A6, c6, rfl, l4, _, l6, _⟩ := k79_open (Kd.FK_now h)
 exact ⟨A4, c4, A6, c6, rfl, l4, (fun W' hW => by obtain ⟨A4_, c4_, A6_, c6_, he, l4_, g4_, l6_, g6_⟩ := k79_open (h W' hW); injection (Option.some.inj (show some (Value.slice A4 x.f0.f4.length c4) = some (Value.slice A4_ x.f0.f4.length c4_) from congrArg (fun l => l[4]?) he)) with ha_ _ _; rw [ha_]; exact g4_), l6, (fun W' hW => by obtain ⟨A4_, c4_, A6_, c6_, he, l4_, g4_, l6_, g6_⟩ := k79_open (h W' hW); injection (Option.some.inj (show some (Value.slice A6 x.f2.length c6) = some (Value.slice A6_ x.f2.length c6_) from congrArg (fun l => l[6]?) he)) with ha_ _ _; rw [ha_]; exact g6_)⟩
theorem k79_mkF (W : World) (ok : Nat → Prop) (x : S79) {A4 : Option Addr} {c4 : Nat} (l4 : x.f0.f4.length ≤ c4) (g4 : Kd.F k52 W ok A4 x.f0.f4.length x.f0.f4) {A6 : Option Addr} {c6 : Nat} (l6 : x.f2.length ≤ c6) (g6 : Kd.F (Kd.int .i64) W ok A6 x.f2.length x.f2) : Kd.FK k79 W ok x [.int .i64 x.f0.f0, .int .i64 x.f0.f1, .string x.f0.f2, .string x.f0.f3, .slice A4 x.f0.f4.length c4, .int .i64 x.f1, .slice A6 x.f2.length c6] := fun W2 hW => k79_mk W2 x l4 (g4 W2 hW) l6 (g6 W2 hW)
def rd_T79 (xs : List S79) (i : Int) : S79 := xs.getD i.toNat z79
theorem at_T79 {w : World} {A : Option Addr} {n : Nat} {xs : List S79} (h : Kd.C k79 w A n xs) (i : Int) (h0 : 0 ≤ i) (h1 : i < n) : ∃ ad A4 c4 A6 c6, A = some ad ∧ w.cell? (ad.add (i.toNat * 7)) = some (.int .i64 (rd_T79 xs i).f0.f0) ∧ w.cell? ⟨(ad.add (i.toNat * 7)).block, (ad.add (i.toNat * 7)).off + 1, none⟩ = some (.int .i64 (rd_T79 xs i).f0.f1) ∧ w.cell? ⟨(ad.add (i.toNat * 7)).block, (ad.add (i.toNat * 7)).off + 2, none⟩ = some (.string (rd_T79 xs i).f0.f2) ∧ w.cell? ⟨(ad.add (i.toNat * 7)).block, (ad.add (i.toNat * 7)).off + 3, none⟩ = some (.string (rd_T79 xs i).f0.f3) ∧ w.cell? ⟨(ad.add (i.toNat * 7)).block, (ad.add (i.toNat * 7)).off + 4, none⟩ = some (.slice A4 (rd_T79 xs i).f0.f4.length c4) ∧ w.cell? ⟨(ad.add (i.toNat * 7)).block, (ad.add (i.toNat * 7)).off + 5, none⟩ = some (.int .i64 (rd_T79 xs i).f1) ∧ w.cell? ⟨(ad.add (i.toNat * 7)).block, (ad.add (i.toNat * 7)).off + 6, none⟩ = some (.slice A6 (rd_T79 xs i).f2.length c6) ∧ (rd_T79 xs i).f0.f4.length ≤ c4 ∧ k52.C w A4 (rd_T79 xs i).f0.f4.length (rd_T79 xs i).f0.f4 ∧ (rd_T79 xs i).f2.length ≤ c6 ∧ (Kd.int .i64).C w A6 (rd_T79 xs i).f2.length (rd_T79 xs i).f2 := by
 obtain ⟨ad, c, e, _, hK, hc0⟩ := Kd.C_get h z79 i h0 h1
 have hc : ∀ j u, c[j]? = some u → w.cell? (ad.add (i.toNat * 7 + j)) = some u := hc0
 obtain ⟨A4, c4, A6, c6, rfl, l4, g4, l6, g6⟩ := k79_open hK
 exact ⟨ad, A4, c4, A6, c6, e, hc 0 _ rfl, by rw [← add_field _ _ 1 (by omega)]; exact hc 1 _ rfl, by rw [← add_field _ _ 2 (by omega)]; exact hc 2 _ rfl, by rw [← add_field _ _ 3 (by omega)]; exact hc 3 _ rfl, by rw [← add_field _ _ 4 (by omega)]; exact hc 4 _ rfl, by rw [← add_field _ _ 5 (by omega)]; exact hc 5 _ rfl, by rw [← add_field _ _ 6 (by omega)]; exact hc 6 _ rfl, l4, g4, l6, g6⟩

/-! #### rows and attributes: equality -/
instance : DecidableEq S52 := fun a b => if h : a.f0 = b.f0 ∧ a.f1 = b.f1 then isTrue (by cases a; cases b; simp_all) else isFalse (by intro e; subst e; simp at h)
instance : DecidableEq S54 := fun a b => if h : a.f0 = b.f0 ∧ a.f1 = b.f1 ∧ a.f2 = b.f2 ∧ a.f3 = b.f3 ∧ a.f4 = b.f4 then isTrue (by cases a; cases b; simp_all) else isFalse (by intro e; subst e; simp at h)
/-- A row as the value that a call is given. -/
abbrev vrow (x : S54) (A : Option Addr) (c : Nat) : Value := .agg #[.int .i64 x.f0, .int .i64 x.f1, .string x.f2, .string x.f3, .slice A x.f4.length c]
theorem bytes_ext {a b : ByteArray} : a.toList = b.toList ↔ a = b := by
 rw [ByteArray.toList_eq, ByteArray.toList_eq, Array.toList_inj]
 exact ⟨fun h => by cases a; cases b; simp_all, fun h => by rw [h]⟩
theorem bytes_beq (a b : ByteArray) : (a.toList == b.toList) = decide (a = b) := by
 rw [Bool.eq_iff_iff, beq_iff_eq, decide_eq_true_iff, bytes_ext]
theorem attr_eq (a b : S52) : (!((a.f0.toList) == (b.f0.toList)) || (!((a.f1.toList) == (b.f1.toList)))) = !decide (a = b) := by
 rw [bytes_beq, bytes_beq]
 by_cases h : a = b
 ·subst h; simp
 ·have : ¬ (a.f0 = b.f0 ∧ a.f1 = b.f1) := fun e => h (by cases a; cases b; simp_all)
  rw [decide_eq_false h]
  by_cases h0 : a.f0 = b.f0
  ·have h1 : ¬ a.f1 = b.f1 := fun e => this ⟨h0, e⟩
   simp [h1]
  ·simp [h0]
theorem rd_T52_at (l : List S52) (i : Nat) (h : i < l.length) : rd_T52 l (i : Int) = l[i] := by simp [rd_T52, List.getElem?_eq_getElem h]
theorem rd_T54_at (l : List S54) (i : Nat) (h : i < l.length) : rd_T54 l (i : Int) = l[i] := by simp [rd_T54, List.getElem?_eq_getElem h]
theorem up1 {i : Nat} (h : i < 9223372036854775807) : wrap64 ((i : Int) + 1) = ((i + 1 : Nat) : Int) := by
 unfold wrap64
 omega
theorem take_succ_eq {α : Type} {l m : List α} {i : Nat} (h : i < l.length) (h' : i < m.length) : (l.take (i + 1) = m.take (i + 1)) ↔ (l.take i = m.take i ∧ l[i] = m[i]) := by
 rw [List.take_succ_eq_append_getElem h, List.take_succ_eq_append_getElem h']
 constructor
 ·intro e
  have := List.append_inj e (by simp; omega)
  exact ⟨this.1, by simpa using this.2⟩
 ·rintro ⟨e1, e2⟩
  rw [e1, e2]

/-! #### short words: a fact at a world that draws and what is made leave as it was -/
section
open Go
variable {α : Type} {d : Kd α} {e : Nat} {w W W1 : World} {base n : Nat} {ok : Nat → Prop} {v : Value} {xs : List α} {A : Option Addr}
theorem aN (h : Aside0 (Kd.N d e w base ok v xs)) (t : Kd.N d e w base ok v xs → Kd.N d e W base ok v xs := by intro h_; (with_reducible repeat (first | apply Kd.N_alloc | apply Kd.N_drewN | apply Kd.N_drew)); exact h_) : Kd.N d e W base ok v xs := t h.out
theorem aR (h : Aside0 (Kd.R d e w base ok v xs)) (t : Kd.R d e w base ok v xs → Kd.R d e W base ok v xs := by intro h_; (with_reducible repeat (first | apply Kd.R_alloc | apply Kd.R_drewN | apply Kd.R_drew)); exact h_) : Kd.R d e W base ok v xs := t h.out
theorem aV (h : Aside0 (Kd.V d e w base ok v xs)) (t : Kd.V d e w base ok v xs → Kd.V d e W base ok v xs := by intro h_; (with_reducible repeat (first | apply Kd.V_alloc | apply Kd.V_drewN | apply Kd.V_drew)); exact h_) : Kd.V d e W base ok v xs := t h.out
theorem aB (h : Aside0 (Below n w W1)) (t : Below n w W1 → Below n w W := by intro h_; repeat (first | (with_reducible first | exact h_ | apply below_alloc | apply pw_below_drewN | apply below_drew1) | exact h_)) : Below n w W := t h.out
theorem aK {g : Nat} {o : Obj} (h : Aside0 (w.heap[g]? = some o)) (t : w.heap[g]? = some o → W.heap[g]? = some o := by intro h_; (with_reducible repeat (first | refine blk_drewN ?_ _ | refine blk_drew ?_ | refine blk_alloc ?_ _)); exact h_) : W.heap[g]? = some o := t h.out
theorem aC (h : Kd.C d w A n xs) (t : Kd.C d w A n xs → Kd.C d W A n xs := by intro h_; (with_reducible repeat (first | refine Kd.C_alloc ?_ _ | refine Kd.C_drewN ?_ _ | refine Kd.C_drew ?_)); exact h_) : Kd.C d W A n xs := t h
theorem aS {P Q : Prop} (h : P) (t : P → Q := by intro h_; first | exact Kd.N_base h_ | exact Kd.S_base h_ | exact Kd.R_base h_) : Q := t h
theorem aA {P : Prop} (h : P := by first | (with_reducible assumption) | assumption) : P := h
theorem aE {β : Type} {a b : β} (h : a = b := by first | rfl | (simp; done) | (congr 1; first | (with_reducible assumption) | (symm; with_reducible assumption)) | (simp [*]; done) | (simp only [ne_nil_empty]; done) | (rw [ne_nil_empty]; rfl)) : a = b := h
end
section
open Go
variable {P : Program} {ops : Array Oper} {Q : Exit → Act → World → Prop} {md : Region.Mode} {S : World → Prop} {ds : List Nat} {T : Bool × List (List Nat × List Nat)}
theorem pA (i M : Nat) {oi : Oper} {v : Value} {fuel : Nat} {l : Array Bool} {a a' : Act} {w : World} (l' : Array Bool) (hT : Aside0 (rtab md ops = T)) (h : wpAnyLast P md ops Q S ds fuel l' a' w) (hi : ops[i]? = some oi := by rfl) (hN : oi.dst = some M := by rfl) (hc : anyT T l.toList l'.toList i = true := by kernel_rfl) (hQ : ∀ c a w, Q (.panic c) (a.put oi.dst v) w → Q (.panic c) a w := by exact fun _ _ _ h => h) (hw : Region.wanted oi (yielded ops a.tmps) = true := by rfl) (hy : ∀ w, (execOp a.eval oi).run P w = .ok (.value v) w := by intro w'; go_simp; with_reducible rfl) (ha : a.put (some M) v = a' := by simp only [Act.put, List.setIfInBounds_toArray, List.set_cons_zero, List.set_cons_succ, i64_w, i32_w]; rfl) : wpAnyLast P md ops Q S ds (fuel + 1) l a w :=
 pure_ l' hi hN (any_of hT.out hc) hQ (Or.inl ⟨hw, hy⟩) ha h
theorem pU (i M : Nat) {oi : Oper} {fuel : Nat} {l : Array Bool} {a a' : Act} {w : World} (l' : Array Bool) (hT : Aside0 (rtab md ops = T)) (h : wpAnyLast P md ops Q S ds fuel l' a' w) (hi : ops[i]? = some oi := by rfl) (hN : oi.dst = some M := by rfl) (hc : anyT T l.toList l'.toList i = true := by kernel_rfl) (hQ : ∀ c a w, Q (.panic c) (a.put oi.dst undef) w → Q (.panic c) a w := by exact fun _ _ _ h => h) (hw : Region.wanted oi (yielded ops a.tmps) = false := by rfl) (ha : a.put (some M) undef = a' := by simp only [Act.put, List.setIfInBounds_toArray, List.set_cons_zero, List.set_cons_succ, i64_w, i32_w]; rfl) : wpAnyLast P md ops Q S ds (fuel + 1) l a w :=
 pure_ l' hi hN (any_of hT.out hc) hQ (Or.inr ⟨hw, rfl⟩) ha h
end

/-! #### rows whose attributes lie in arrays of attributes: of a known type -/
section
open Go
def tslice {α : Type} (e : Nat) (d : Kd α) : Kd (List α) := { Kd.slice e d with
 K := fun w xs cs => ∃ A c, cs = [.slice A xs.length c] ∧ xs.length ≤ c ∧ d.C w A xs.length xs ∧ (0 < xs.length → ∃ ad cells, A = some ad ∧ w.heap[ad.block]? = some (.cells cells e (0, 0)))
 K_len := by
  rintro w x cs ⟨A, c, rfl, _⟩
  rfl
 K_one := by
  rintro w x cs ⟨A, c, rfl, _⟩ u hu
  rw [List.mem_singleton.1 hu]
  rfl
 K_below := by
  rintro w w1 x cs hb ⟨A, c, rfl, hl, hr, ht⟩
  refine ⟨A, c, rfl, hl, Kd.C_below hr hb, fun h => ?_⟩
  obtain ⟨ad, cells, rfl, hc⟩ := ht h
  have hlt : ad.block < w.heap.size := by
   rcases Nat.lt_or_ge ad.block w.heap.size with h' | h'
   ·exact h'
   ·rw [Array.getElem?_eq_none h'] at hc; cases hc
  exact ⟨ad, cells, rfl, (hb.block _ hlt).trans hc⟩
 K_of_M := by
  rintro w base ok x cs ⟨v, rfl, h⟩
  obtain ⟨A, c, rfl, hl, hr⟩ := Kd.R_reads h
  refine ⟨A, c, rfl, hl, hr, fun hp => ?_⟩
  obtain ⟨g, cap, he, _, _, cells, hc⟩ := Kd.R_form h hp
  injection he with h1 h2 h3
  exact ⟨_, cells, h1, hc⟩ }
def kT54 : Kd S54 := Kd.iso (Kd.pair (Kd.int .i64) (Kd.pair (Kd.int .i64) (Kd.pair Kd.string (Kd.pair Kd.string (tslice 52 k52))))) (fun x : S54 => (x.f0, x.f1, x.f2, x.f3, x.f4))
theorem kT_open {w : World} {x : S54} {cs : List Value} (h : kT54.K w x cs) : ∃ A4 c4, cs = [.int .i64 x.f0, .int .i64 x.f1, .string x.f2, .string x.f3, .slice A4 x.f4.length c4] ∧ x.f4.length ≤ c4 ∧ k52.C w A4 x.f4.length x.f4 ∧ (0 < x.f4.length → ∃ ad cells, A4 = some ad ∧ w.heap[ad.block]? = some (.cells cells 52 (0, 0))) := by
 obtain ⟨_, _, rfl, rfl, ⟨_, _, rfl, rfl, ⟨_, _, rfl, rfl, ⟨_, _, rfl, rfl, ⟨A4, c4, rfl, l4, g4, t4⟩⟩⟩⟩⟩ := h
 exact ⟨A4, c4, rfl, l4, g4, t4⟩
theorem kT_mk (w : World) (x : S54) {A4 : Option Addr} {c4 : Nat} (l4 : x.f4.length ≤ c4) (g4 : k52.C w A4 x.f4.length x.f4) (t4 : 0 < x.f4.length → ∃ ad cells, A4 = some ad ∧ w.heap[ad.block]? = some (.cells cells 52 (0, 0))) : kT54.K w x [.int .i64 x.f0, .int .i64 x.f1, .string x.f2, .string x.f3, .slice A4 x.f4.length c4] := ⟨[.int .i64 x.f0], [.int .i64 x.f1, .string x.f2, .string x.f3, .slice A4 x.f4.length c4], rfl, rfl, ⟨[.int .i64 x.f1], [.string x.f2, .string x.f3, .slice A4 x.f4.length c4], rfl, rfl, ⟨[.string x.f2], [.string x.f3, .slice A4 x.f4.length c4], rfl, rfl, ⟨[.string x.f3], [.slice A4 x.f4.length c4], rfl, rfl, ⟨A4, c4, rfl, l4, g4, t4⟩⟩⟩⟩⟩
theorem kT_K {w : World} {x : S54} {cs : List Value} (h : kT54.K w x cs) : k54.K w x cs := by
 obtain ⟨A4, c4, rfl, l4, g4, _⟩ := kT_open h
 exact k54_mk w x l4 g4
section
variable {W w : World} {base n : Nat} {ok : Nat → Prop} {v : Value} {xs : List S54} {A : Option Addr}
theorem sT (h : Kd.S k54 54 w base ok v xs) : Kd.S kT54 54 w base ok v xs := h
theorem cT (h : Kd.C kT54 W A n xs) : Kd.C k54 W A n xs := by
 obtain ⟨hl, hm, hr⟩ := h
 refine ⟨hl, hm, fun hn => ?_⟩
 obtain ⟨ad, e, hc⟩ := hr hn
 refine ⟨ad, e, fun j p hj => ?_⟩
 obtain ⟨c, h1, h2, h3⟩ := hc j p hj
 exact ⟨c, h1, kT_K h2, h3⟩
theorem fT {x : S54} {c : List Value} (h : Kd.FK kT54 W ok x c) : Kd.FK k54 W ok x c := fun W' hW => kT_K (h W' hW)
theorem nT (h : Kd.N kT54 54 W base ok v xs) : Kd.N k54 54 W base ok v xs := by
 obtain ⟨h0, rows, hl, hR, hf⟩ := h
 exact ⟨h0, rows, hl, hR, fun j x c hx hc => fT (hf j x c hx hc)⟩
theorem kT_openF {x : S54} {cs : List Value} (h : Kd.FK kT54 W ok x cs) : ∃ A4 c4, cs = [.int .i64 x.f0, .int .i64 x.f1, .string x.f2, .string x.f3, .slice A4 x.f4.length c4] ∧ x.f4.length ≤ c4 ∧ Kd.F k52 W ok A4 x.f4.length x.f4 ∧ (0 < x.f4.length → ∃ ad cells, A4 = some ad ∧ ok ad.block ∧ W.heap[ad.block]? = some (.cells cells 52 (0, 0))) := by
 obtain ⟨A4, c4, rfl, l4, hF⟩ := k54_openF (fT h)
 refine ⟨A4, c4, rfl, l4, hF, fun hp => ?_⟩
 obtain ⟨A', c', he, _, _, ht⟩ := kT_open (Kd.FK_now h)
 injection (Option.some.inj (show some (Value.slice A4 x.f4.length c4) = some (Value.slice A' x.f4.length c') from congrArg (fun l => l[4]?) he)) with ha _ _
 obtain ⟨ad, cells, e, hc⟩ := ht hp
 obtain ⟨ad', _, e', _, _, _, hok⟩ := Kd.F_get hF z52 0 (by omega) (by omega)
 have : ad' = ad := Option.some.inj (e'.symm.trans (ha.trans e))
 subst this
 exact ⟨ad', cells, e', hok (by decide), hc⟩
theorem kT_mkF (x : S54) {A4 : Option Addr} {c4 : Nat} (l4 : x.f4.length ≤ c4) (g4 : Kd.F k52 W ok A4 x.f4.length x.f4) (t4 : 0 < x.f4.length → ∃ ad cells, A4 = some ad ∧ ok ad.block ∧ W.heap[ad.block]? = some (.cells cells 52 (0, 0))) : Kd.FK kT54 W ok x [.int .i64 x.f0, .int .i64 x.f1, .string x.f2, .string x.f3, .slice A4 x.f4.length c4] := fun W2 hW => kT_mk W2 x l4 (g4 W2 hW) fun hp => by
 obtain ⟨ad, cells, e, hok, hc⟩ := t4 hp
 have hlt : ad.block < W.heap.size := by
  rcases Nat.lt_or_ge ad.block W.heap.size with h' | h'
  ·exact h'
  ·rw [Array.getElem?_eq_none h'] at hc; cases hc
 exact ⟨ad, cells, e, (hW _ hok hlt).trans hc⟩
end
end

/-! #### an attribute's text is written, in whatever rows it lies -/
section
open Go
variable {W : World} {p : Addr} {s old : ByteArray}
theorem cell_congr {W W' : World} {a : Addr} (h : W'.heap[a.block]? = W.heap[a.block]?) : W'.cell? a = W.cell? a := by
 unfold World.cell?
 rw [h]
/-- Attributes, after one's text has been written. -/
def pokeS (p : Addr) (s : ByteArray) (A : Option Addr) (ys : List S52) : List S52 :=
 ys.mapIdx fun j y => ⟨if A.map (·.add (j * 2)) = some p then s else y.f0, if A.map (·.add (j * 2 + 1)) = some p then s else y.f1⟩
theorem pokeS_len {A : Option Addr} {ys : List S52} : (pokeS p s A ys).length = ys.length := by simp [pokeS]
theorem C_poke {W' : World} {A : Option Addr} {n : Nat} {ys : List S52} (h : Kd.C k52 W A n ys) (hc : ∀ a u, W.cell? a = some u → W'.cell? a = some (if a = p then .string s else u)) : Kd.C k52 W' A n (pokeS p s A ys) := by
 obtain ⟨hl, hm, hr⟩ := h
 refine ⟨by rw [pokeS_len]; exact hl, hm, fun hn => ?_⟩
 obtain ⟨ad, rfl, hc0⟩ := hr hn
 refine ⟨ad, rfl, fun j q hj => ?_⟩
 rw [pokeS, List.getElem?_mapIdx] at hj
 obtain ⟨y, hy, rfl⟩ := Option.map_eq_some_iff.1 hj
 obtain ⟨c, hcl, hK, hcc⟩ := hc0 j y hy
 obtain rfl := k52_open hK
 have h0 := hc _ _ (hcc 0 _ rfl)
 have h1 := hc _ _ (hcc 1 _ rfl)
 refine ⟨_, rfl, k52_mk W' _, fun i u hu => ?_⟩
 match i, hu with
 | 0, hu =>
  obtain rfl := Option.some.inj hu
  refine h0.trans (congrArg some ?_)
  have e : ad.add (j * k52.sz + 0) = ad.add (j * 2) := rfl
  rw [e]
  by_cases c : ad.add (j * 2) = p
  ·rw [if_pos c]; simp [c]
  ·rw [if_neg c]; simp [c]
 | 1, hu =>
  obtain rfl := Option.some.inj hu
  refine h1.trans (congrArg some ?_)
  have e : ad.add (j * k52.sz + 1) = ad.add (j * 2 + 1) := rfl
  rw [e]
  by_cases c : ad.add (j * 2 + 1) = p
  ·rw [if_pos c]; simp [c]
  ·rw [if_neg c]; simp [c]
 | i + 2, hu => simp at hu
theorem size_poke (v : Value) : (W.setCell p v).heap.size = W.heap.size := by simp [World.setCell]
theorem F_poke {ok : Nat → Prop} {A : Option Addr} {n : Nat} {ys : List S52} (h : Kd.F k52 W ok A n ys) (hp : W.cell? p = some (.string old)) : Kd.F k52 (W.setCell p (.string s)) ok A n (pokeS p s A ys) := by
 intro W' hW
 have hlt : p.block < W.heap.size := World.block_lt_of_cell? W _ hp
 by_cases hb : ok p.block
 ·have hWp := hW p.block hb (by rw [size_poke]; exact hlt)
  have hlt' : p.block < W'.heap.size := by
   rcases Nat.lt_or_ge p.block W'.heap.size with h' | h'
   ·exact h'
   ·rw [Array.getElem?_eq_none h'] at hWp
    have := Array.getElem?_eq_none_iff.1 hWp.symm
    rw [size_poke] at this
    omega
  obtain ⟨W2, h2a, h2b⟩ : ∃ W2 : World, W2.heap[p.block]? = W.heap[p.block]? ∧ ∀ k, k ≠ p.block → W2.heap[k]? = W'.heap[k]? :=
   ⟨{ W' with heap := W'.heap.set p.block (W.heap[p.block]) hlt' }, by simp, fun k hk => by simp [Ne.symm hk]⟩
  refine C_poke (h W2 fun k hk hkl => ?_) fun a u ha => ?_
  ·by_cases e : k = p.block
   ·subst e; exact h2a
   ·rw [h2b k e, hW k hk (by rw [size_poke]; exact hkl), Below.heap_setCell W p _ k e]
  ·by_cases e : a.block = p.block
   ·have e1 : W'.cell? a = (W.setCell p (.string s)).cell? a := cell_congr (by rw [e]; exact hWp)
    have e2 : W2.cell? a = W.cell? a := cell_congr (by rw [e]; exact h2a)
    rw [e1]
    by_cases c : a = p
    ·subst c
     rw [if_pos rfl]
     exact World.cell?_setCell_same W _ _ hp
    ·rw [if_neg c, World.cell?_setCell_other W _ _ _ (Ne.symm c), ← e2]
     exact ha
   ·have e1 : W2.cell? a = W'.cell? a := cell_congr (h2b _ e)
    rw [if_neg (fun c => e (by rw [c])), ← e1]
    exact ha
 ·have hC : Kd.C k52 W' A n ys := h W' fun k hk hkl => by
   have e : k ≠ p.block := fun e => hb (e ▸ hk)
   rw [hW k hk (by rw [size_poke]; exact hkl), Below.heap_setCell W p _ k e]
  have he : pokeS p s A ys = ys := by
   by_cases hn : 0 < n
   ·obtain ⟨ad, _, rfl, _, _, _, hok⟩ := Kd.F_get h z52 0 (by omega) (by omega)
    have hne : ∀ i, (ad.add i) ≠ p := fun i e => hb (by
     have h2 : ok ad.block := hok (by decide)
     rw [← e]
     unfold Addr.add
     (try split) <;> exact h2)
    unfold pokeS
    apply List.ext_getElem? ; intro j
    rw [List.getElem?_mapIdx]
    cases ys[j]? with
    | none => rfl
    | some y => simp [hne]
   ·have : ys = [] := List.length_eq_zero_iff.1 (by have := hC.1; omega)
    subst this; rfl
  rw [he]
  exact hC
theorem typed_poke {v : Value} {k : Nat} {e : Nat} {cells : Array Value} (h : W.heap[k]? = some (.cells cells e (0, 0))) : ∃ cells', (W.setCell p v).heap[k]? = some (.cells cells' e (0, 0)) := by
 by_cases c : k = p.block
 ·subst c
  refine ⟨if p.spot.isSome then cells else cells.setIfInBounds p.off v, ?_⟩
  simp [World.setCell, Array.getElem?_modify, h]
 ·exact ⟨cells, (Below.heap_setCell W p v k c).trans h⟩
/-- Rows with attributes: a text of an attribute is written. -/
theorem N_poke {base : Nat} {ok : Nat → Prop} {v : Value} {xs : List S54} (h : Kd.N kT54 54 W base ok v xs) (hp : W.cell? p = some (.string old)) {cells : Array Value} (ht : W.heap[p.block]? = some (.cells cells 52 (0, 0))) :
  ∃ xs' : List S54, xs'.map (fun x => x.f4.length) = xs.map (fun x => x.f4.length) ∧ Kd.N kT54 54 (W.setCell p (.string s)) base ok v xs' := by
 have hne : v.ownBlock ≠ some p.block := fun e => by
  obtain ⟨c2, h2⟩ := Kd.N_typed h _ e
  rw [ht] at h2
  injection h2 with h2
  injection h2 with _ h3 _
  exact absurd h3 (by decide)
 obtain ⟨h0, rows, hl, hR, hf⟩ := h
 have hch : ∀ j : Nat, ∃ x' : S54, ∀ x c, xs[j]? = some x → rows[j]? = some c → x'.f4.length = x.f4.length ∧ Kd.FK kT54 (W.setCell p (.string s)) (fun k => ok k ∧ some k ≠ v.ownBlock) x' c := by
  intro j
  cases hx : xs[j]? with
  | none => exact ⟨z54, fun x c h => by cases h⟩
  | some x =>
   cases hc : rows[j]? with
   | none => exact ⟨z54, fun x c _ h => by cases h⟩
   | some c =>
    obtain ⟨A, c4, rfl, l4, hF, hT⟩ := kT_openF (hf j x c hx hc)
    refine ⟨⟨x.f0, x.f1, x.f2, x.f3, pokeS p s A x.f4⟩, fun x2 c2 e1 e2 => ?_⟩
    cases e1; cases e2
    refine ⟨pokeS_len, ?_⟩
    have h1 := F_poke (s := s) hF hp
    have h2 := kT_mkF (W := W.setCell p (.string s)) (ok := fun k => ok k ∧ some k ≠ v.ownBlock) (⟨x.f0, x.f1, x.f2, x.f3, pokeS p s A x.f4⟩ : S54) (A4 := A) (c4 := c4) (by show (pokeS p s A x.f4).length ≤ c4; rw [pokeS_len]; exact l4) (by show Kd.F k52 _ _ A (pokeS p s A x.f4).length _; rw [pokeS_len]; exact h1) (by
     show 0 < (pokeS p s A x.f4).length → _
     rw [pokeS_len]
     intro hq
     obtain ⟨ad, cs, e, hok, hcs⟩ := hT hq
     obtain ⟨cs', h'⟩ := typed_poke (p := p) (v := .string s) hcs
     exact ⟨ad, cs', e, hok, h'⟩)
    have e : (pokeS p s A x.f4).length = x.f4.length := pokeS_len
    simp only [e] at h2
    exact h2
 have hg := fun j => Classical.choose_spec (hch j)
 refine ⟨(List.range xs.length).map fun j => Classical.choose (hch j), ?_, h0, rows, by simp [hl], ?_, fun j x c hx hc => ?_⟩
 ·apply List.ext_getElem
  ·simp
  ·intro j h1 h2
   simp only [List.length_map] at h2
   rw [List.getElem_map, List.getElem_map, List.getElem_map, List.getElem_range]
   have hc : rows[j]? = some (rows[j]'(by omega)) := List.getElem?_eq_getElem _
   exact (hg j _ _ (List.getElem?_eq_getElem h2) hc).1
 ·exact Kd.R_step hR fun k hk _ => Below.heap_setCell W p _ k fun e => hne (by rw [← hk, e])
 ·rw [List.getElem?_map] at hx
  obtain ⟨i, hi, rfl⟩ := Option.map_eq_some_iff.1 hx
  have hj : j < xs.length := by
   rcases Nat.lt_or_ge j xs.length with h' | h'
   ·exact h'
   ·rw [List.getElem?_eq_none (by simpa using h')] at hi; cases hi
  rw [List.getElem?_range hj] at hi
  cases hi
  exact (hg j _ c (List.getElem?_eq_getElem hj) hc).2
end

end Go.Proofs.Ytpkaliaaffgbdaa.QA
