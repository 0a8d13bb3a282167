-- Written by a program of this claim's own (wip/gen/gen.py), out of the translation; an ordinary proof text.
import Derived.Test.YtacffcdjgjiemaaQAx0
import Derived.Test.YtacffcdjgjiemaaQAx2
import Derived.Test.YtacffcdjgjiemaaQAx3
namespace Go.Proofs.Ytacffcdjgjiemaa.QA
open Go.RowKit Go.Proofs.YtacffcdjgjiemaaW.PrintWords Go.Proofs.YtacffcdjgjiemaaW.PrintLast Go.Proofs.YtacffcdjgjiemaaW.PrintMore
attribute [local go_sem] max2_int min2_int max_two min_two max_three min_three max_four min_four   -- for this text's walks alone
set_option linter.unusedVariables false
set_option linter.unusedSimpArgs false

/-! ### boltinglaw05_NamesJoin: function 7 -/
def boltinglaw05_NamesJoin.j0 : Nat → ByteArray → Int → Bool → Option (Bool)
  | 0, _, _, _ => none
  | k + 1, x0, x7, x51 => if x51 = true then (some false) else ((names_Right.f k x0).bind fun t376 => (if t376 = true then (if x7 = 0 then ((names_Attr.f k x0).bind fun t377 => (if t377 = true then ((boltinglaw05_fixed.f k).bind fun t378 => (some t378)) else ((boltinglaw05_fixed.f k).bind fun t379 => (some t379)))) else (if 0 ≤ x7 then (if x7 ≤ (x0.size : Int) then ((names_Right.f k (x0.extract 0 (x7 : Int).toNat)).bind fun t380 => (if t380 = true then ((names_Attr.f k x0).bind fun t381 => (if t381 = true then ((names_Attr.f k (x0.extract 0 (x7 : Int).toNat)).bind fun t382 => (if t382 = true then ((boltinglaw05_fixed.f k).bind fun t383 => (some t383)) else (some false))) else ((boltinglaw05_fixed.f k).bind fun t384 => (some t384)))) else (some false))) else (none)) else (none))) else ((names_Attr.f k x0).bind fun t385 => (if t385 = true then (if x7 = 0 then ((boltinglaw05_fixed.f k).bind fun t386 => (some t386)) else (if 0 ≤ x7 then (if x7 ≤ (x0.size : Int) then ((names_Attr.f k (x0.extract 0 (x7 : Int).toNat)).bind fun t387 => (if t387 = true then ((boltinglaw05_fixed.f k).bind fun t388 => (some t388)) else (some false))) else (none)) else (none))) else ((boltinglaw05_fixed.f k).bind fun t389 => (some t389))))))
def boltinglaw05_NamesJoin.f (k : Nat) (a0 : ByteArray) (a1 : ByteArray) (a2 : Int) : Option (Bool) := if 0 ≤ (mn (a0.size : Int) 200) then (if (mn (a0.size : Int) 200) ≤ (a0.size : Int) then (if 0 ≤ (mn (a1.size : Int) 200) then (if (mn (a1.size : Int) 200) ≤ (a1.size : Int) then (if (wrap64 (((a0.extract 0 ((mn (a0.size : Int) 200) : Int).toNat).size : Int) + 1)) = 0 then (none) else ((names_Attr.f k (a0.extract 0 ((mn (a0.size : Int) 200) : Int).toNat)).bind fun t364 => (if t364 = true then ((names_Attr.f k (a1.extract 0 ((mn (a1.size : Int) 200) : Int).toNat)).bind fun t365 => (if t365 = true then (if (a0.extract 0 ((mn (a0.size : Int) 200) : Int).toNat).size + (a1.extract 0 ((mn (a1.size : Int) 200) : Int).toNat).size ≤ 9223372036854775807 then ((names_Attr.f k ((a0.extract 0 ((mn (a0.size : Int) 200) : Int).toNat) ++ (a1.extract 0 ((mn (a1.size : Int) 200) : Int).toNat))).bind fun t366 => (if t366 = true then ((names_Right.f k (a0.extract 0 ((mn (a0.size : Int) 200) : Int).toNat)).bind fun t367 => (if t367 = true then ((names_Attr.f k (a1.extract 0 ((mn (a1.size : Int) 200) : Int).toNat)).bind fun t368 => (if t368 = true then ((names_Right.f k ((a0.extract 0 ((mn (a0.size : Int) 200) : Int).toNat) ++ (a1.extract 0 ((mn (a1.size : Int) 200) : Int).toNat))).bind fun t369 => (boltinglaw05_NamesJoin.j0 k (a0.extract 0 ((mn (a0.size : Int) 200) : Int).toNat) (Int.tmod (Go.bits .and .i64 a2 65535) (wrap64 (((a0.extract 0 ((mn (a0.size : Int) 200) : Int).toNat).size : Int) + 1))) (!t369))) else (boltinglaw05_NamesJoin.j0 k (a0.extract 0 ((mn (a0.size : Int) 200) : Int).toNat) (Int.tmod (Go.bits .and .i64 a2 65535) (wrap64 (((a0.extract 0 ((mn (a0.size : Int) 200) : Int).toNat).size : Int) + 1))) false))) else (boltinglaw05_NamesJoin.j0 k (a0.extract 0 ((mn (a0.size : Int) 200) : Int).toNat) (Int.tmod (Go.bits .and .i64 a2 65535) (wrap64 (((a0.extract 0 ((mn (a0.size : Int) 200) : Int).toNat).size : Int) + 1))) false))) else (boltinglaw05_NamesJoin.j0 k (a0.extract 0 ((mn (a0.size : Int) 200) : Int).toNat) (Int.tmod (Go.bits .and .i64 a2 65535) (wrap64 (((a0.extract 0 ((mn (a0.size : Int) 200) : Int).toNat).size : Int) + 1))) true))) else (none)) else ((names_Right.f k (a0.extract 0 ((mn (a0.size : Int) 200) : Int).toNat)).bind fun t370 => (if t370 = true then ((names_Attr.f k (a1.extract 0 ((mn (a1.size : Int) 200) : Int).toNat)).bind fun t371 => (if t371 = true then (if (a0.extract 0 ((mn (a0.size : Int) 200) : Int).toNat).size + (a1.extract 0 ((mn (a1.size : Int) 200) : Int).toNat).size ≤ 9223372036854775807 then ((names_Right.f k ((a0.extract 0 ((mn (a0.size : Int) 200) : Int).toNat) ++ (a1.extract 0 ((mn (a1.size : Int) 200) : Int).toNat))).bind fun t372 => (boltinglaw05_NamesJoin.j0 k (a0.extract 0 ((mn (a0.size : Int) 200) : Int).toNat) (Int.tmod (Go.bits .and .i64 a2 65535) (wrap64 (((a0.extract 0 ((mn (a0.size : Int) 200) : Int).toNat).size : Int) + 1))) (!t372))) else (none)) else (boltinglaw05_NamesJoin.j0 k (a0.extract 0 ((mn (a0.size : Int) 200) : Int).toNat) (Int.tmod (Go.bits .and .i64 a2 65535) (wrap64 (((a0.extract 0 ((mn (a0.size : Int) 200) : Int).toNat).size : Int) + 1))) false))) else (boltinglaw05_NamesJoin.j0 k (a0.extract 0 ((mn (a0.size : Int) 200) : Int).toNat) (Int.tmod (Go.bits .and .i64 a2 65535) (wrap64 (((a0.extract 0 ((mn (a0.size : Int) 200) : Int).toNat).size : Int) + 1))) false))))) else ((names_Right.f k (a0.extract 0 ((mn (a0.size : Int) 200) : Int).toNat)).bind fun t373 => (if t373 = true then ((names_Attr.f k (a1.extract 0 ((mn (a1.size : Int) 200) : Int).toNat)).bind fun t374 => (if t374 = true then (if (a0.extract 0 ((mn (a0.size : Int) 200) : Int).toNat).size + (a1.extract 0 ((mn (a1.size : Int) 200) : Int).toNat).size ≤ 9223372036854775807 then ((names_Right.f k ((a0.extract 0 ((mn (a0.size : Int) 200) : Int).toNat) ++ (a1.extract 0 ((mn (a1.size : Int) 200) : Int).toNat))).bind fun t375 => (boltinglaw05_NamesJoin.j0 k (a0.extract 0 ((mn (a0.size : Int) 200) : Int).toNat) (Int.tmod (Go.bits .and .i64 a2 65535) (wrap64 (((a0.extract 0 ((mn (a0.size : Int) 200) : Int).toNat).size : Int) + 1))) (!t375))) else (none)) else (boltinglaw05_NamesJoin.j0 k (a0.extract 0 ((mn (a0.size : Int) 200) : Int).toNat) (Int.tmod (Go.bits .and .i64 a2 65535) (wrap64 (((a0.extract 0 ((mn (a0.size : Int) 200) : Int).toNat).size : Int) + 1))) false))) else (boltinglaw05_NamesJoin.j0 k (a0.extract 0 ((mn (a0.size : Int) 200) : Int).toNat) (Int.tmod (Go.bits .and .i64 a2 65535) (wrap64 (((a0.extract 0 ((mn (a0.size : Int) 200) : Int).toNat).size : Int) + 1))) false)))))) else (none)) else (none)) else (none)) else (none)
theorem boltinglaw05_NamesJoin.mono_l : ∀ k, (∀ y0 y1 y2, LeO (boltinglaw05_NamesJoin.j0 k y0 y1 y2) (boltinglaw05_NamesJoin.j0 (k + 1) y0 y1 y2))
  | 0 => fun _ _ _ r h => by simp [boltinglaw05_NamesJoin.j0] at h
  | k + 1 => by
    have ih0 := boltinglaw05_NamesJoin.mono_l k
    · intro y0 y1 y2
      unfold boltinglaw05_NamesJoin.j0
      repeat' first
      | (with_reducible exact ih0 _ _ _)
      | (with_reducible exact boltinglaw05_fixed.mono _)
      | (with_reducible exact names_Attr.mono _ _)
      | (with_reducible exact names_Right.mono _ _)
      | (with_reducible exact LeO.refl _)
      | (with_reducible exact LeO.none _)
      | (with_reducible refine LeO.ite ?_ ?_)
      | (with_reducible refine LeO.bind ?_ (fun _ => ?_))
      | exact ih0 _ _ _
      | exact boltinglaw05_fixed.mono _
      | exact names_Attr.mono _ _
      | exact names_Right.mono _ _
      | exact LeO.none _
      | refine LeO.ite ?_ ?_
      | refine LeO.bind ?_ (fun _ => ?_)
theorem boltinglaw05_NamesJoin.mono : ∀ a0 a1 a2 k, LeO (boltinglaw05_NamesJoin.f k a0 a1 a2) (boltinglaw05_NamesJoin.f (k + 1) a0 a1 a2) := by
  intro a0 a1 a2 k
  have ih0 := boltinglaw05_NamesJoin.mono_l k
  unfold boltinglaw05_NamesJoin.f
  repeat' first
      | (with_reducible exact ih0 _ _ _)
      | (with_reducible exact boltinglaw05_fixed.mono _)
      | (with_reducible exact names_Attr.mono _ _)
      | (with_reducible exact names_Right.mono _ _)
      | (with_reducible exact LeO.refl _)
      | (with_reducible exact LeO.none _)
      | (with_reducible refine LeO.ite ?_ ?_)
      | (with_reducible refine LeO.bind ?_ (fun _ => ?_))
      | exact ih0 _ _ _
      | exact boltinglaw05_fixed.mono _
      | exact names_Attr.mono _ _
      | exact names_Right.mono _ _
      | exact LeO.none _
      | refine LeO.ite ?_ ?_
      | refine LeO.bind ?_ (fun _ => ?_)
set_option maxHeartbeats 8000000 in
set_option maxRecDepth 100000 in
theorem boltinglaw05_NamesJoin.calls (k : Nat) (a0 : ByteArray) (a1 : ByteArray) (a2 : Int) (r : Bool) (w : World) (h : boltinglaw05_NamesJoin.f k a0 a1 a2 = some r) :
    Calls Try.prog 7 #[.string a0, .string a1, .int .i64 a2] w fun e w' => e = .returned (.bool r) ∧ Below w.heap.size w w' := by
  have HB := Aside0.mk (Below.refl w.heap.size w)
  have H : (if 0 ≤ (mn (a0.size : Int) 200) then (if (mn (a0.size : Int) 200) ≤ (a0.size : Int) then (if 0 ≤ (mn (a1.size : Int) 200) then (if (mn (a1.size : Int) 200) ≤ (a1.size : Int) then (if (wrap64 (((a0.extract 0 ((mn (a0.size : Int) 200) : Int).toNat).size : Int) + 1)) = 0 then (none) else ((names_Attr.f k (a0.extract 0 ((mn (a0.size : Int) 200) : Int).toNat)).bind fun t364 => (if t364 = true then ((names_Attr.f k (a1.extract 0 ((mn (a1.size : Int) 200) : Int).toNat)).bind fun t365 => (if t365 = true then (if (a0.extract 0 ((mn (a0.size : Int) 200) : Int).toNat).size + (a1.extract 0 ((mn (a1.size : Int) 200) : Int).toNat).size ≤ 9223372036854775807 then ((names_Attr.f k ((a0.extract 0 ((mn (a0.size : Int) 200) : Int).toNat) ++ (a1.extract 0 ((mn (a1.size : Int) 200) : Int).toNat))).bind fun t366 => (if t366 = true then ((names_Right.f k (a0.extract 0 ((mn (a0.size : Int) 200) : Int).toNat)).bind fun t367 => (if t367 = true then ((names_Attr.f k (a1.extract 0 ((mn (a1.size : Int) 200) : Int).toNat)).bind fun t368 => (if t368 = true then ((names_Right.f k ((a0.extract 0 ((mn (a0.size : Int) 200) : Int).toNat) ++ (a1.extract 0 ((mn (a1.size : Int) 200) : Int).toNat))).bind fun t369 => (boltinglaw05_NamesJoin.j0 k (a0.extract 0 ((mn (a0.size : Int) 200) : Int).toNat) (Int.tmod (Go.bits .and .i64 a2 65535) (wrap64 (((a0.extract 0 ((mn (a0.size : Int) 200) : Int).toNat).size : Int) + 1))) (!t369))) else (boltinglaw05_NamesJoin.j0 k (a0.extract 0 ((mn (a0.size : Int) 200) : Int).toNat) (Int.tmod (Go.bits .and .i64 a2 65535) (wrap64 (((a0.extract 0 ((mn (a0.size : Int) 200) : Int).toNat).size : Int) + 1))) false))) else (boltinglaw05_NamesJoin.j0 k (a0.extract 0 ((mn (a0.size : Int) 200) : Int).toNat) (Int.tmod (Go.bits .and .i64 a2 65535) (wrap64 (((a0.extract 0 ((mn (a0.size : Int) 200) : Int).toNat).size : Int) + 1))) false))) else (boltinglaw05_NamesJoin.j0 k (a0.extract 0 ((mn (a0.size : Int) 200) : Int).toNat) (Int.tmod (Go.bits .and .i64 a2 65535) (wrap64 (((a0.extract 0 ((mn (a0.size : Int) 200) : Int).toNat).size : Int) + 1))) true))) else (none)) else ((names_Right.f k (a0.extract 0 ((mn (a0.size : Int) 200) : Int).toNat)).bind fun t370 => (if t370 = true then ((names_Attr.f k (a1.extract 0 ((mn (a1.size : Int) 200) : Int).toNat)).bind fun t371 => (if t371 = true then (if (a0.extract 0 ((mn (a0.size : Int) 200) : Int).toNat).size + (a1.extract 0 ((mn (a1.size : Int) 200) : Int).toNat).size ≤ 9223372036854775807 then ((names_Right.f k ((a0.extract 0 ((mn (a0.size : Int) 200) : Int).toNat) ++ (a1.extract 0 ((mn (a1.size : Int) 200) : Int).toNat))).bind fun t372 => (boltinglaw05_NamesJoin.j0 k (a0.extract 0 ((mn (a0.size : Int) 200) : Int).toNat) (Int.tmod (Go.bits .and .i64 a2 65535) (wrap64 (((a0.extract 0 ((mn (a0.size : Int) 200) : Int).toNat).size : Int) + 1))) (!t372))) else (none)) else (boltinglaw05_NamesJoin.j0 k (a0.extract 0 ((mn (a0.size : Int) 200) : Int).toNat) (Int.tmod (Go.bits .and .i64 a2 65535) (wrap64 (((a0.extract 0 ((mn (a0.size : Int) 200) : Int).toNat).size : Int) + 1))) false))) else (boltinglaw05_NamesJoin.j0 k (a0.extract 0 ((mn (a0.size : Int) 200) : Int).toNat) (Int.tmod (Go.bits .and .i64 a2 65535) (wrap64 (((a0.extract 0 ((mn (a0.size : Int) 200) : Int).toNat).size : Int) + 1))) false))))) else ((names_Right.f k (a0.extract 0 ((mn (a0.size : Int) 200) : Int).toNat)).bind fun t373 => (if t373 = true then ((names_Attr.f k (a1.extract 0 ((mn (a1.size : Int) 200) : Int).toNat)).bind fun t374 => (if t374 = true then (if (a0.extract 0 ((mn (a0.size : Int) 200) : Int).toNat).size + (a1.extract 0 ((mn (a1.size : Int) 200) : Int).toNat).size ≤ 9223372036854775807 then ((names_Right.f k ((a0.extract 0 ((mn (a0.size : Int) 200) : Int).toNat) ++ (a1.extract 0 ((mn (a1.size : Int) 200) : Int).toNat))).bind fun t375 => (boltinglaw05_NamesJoin.j0 k (a0.extract 0 ((mn (a0.size : Int) 200) : Int).toNat) (Int.tmod (Go.bits .and .i64 a2 65535) (wrap64 (((a0.extract 0 ((mn (a0.size : Int) 200) : Int).toNat).size : Int) + 1))) (!t375))) else (none)) else (boltinglaw05_NamesJoin.j0 k (a0.extract 0 ((mn (a0.size : Int) 200) : Int).toNat) (Int.tmod (Go.bits .and .i64 a2 65535) (wrap64 (((a0.extract 0 ((mn (a0.size : Int) 200) : Int).toNat).size : Int) + 1))) false))) else (boltinglaw05_NamesJoin.j0 k (a0.extract 0 ((mn (a0.size : Int) 200) : Int).toNat) (Int.tmod (Go.bits .and .i64 a2 65535) (wrap64 (((a0.extract 0 ((mn (a0.size : Int) 200) : Int).toNat).size : Int) + 1))) false)))))) else (none)) else (none)) else (none)) else (none)) = some r := h
  clear h
  obtain ⟨ji4, hji4⟩ : ∃ j_ : Int, (mn (a0.size : Int) 200) = j_ := ⟨_, rfl⟩
  replace H : (if 0 ≤ (ji4) then (if (ji4) ≤ (a0.size : Int) then (if 0 ≤ (mn (a1.size : Int) 200) then (if (mn (a1.size : Int) 200) ≤ (a1.size : Int) then (if (wrap64 (((a0.extract 0 ((ji4) : Int).toNat).size : Int) + 1)) = 0 then (none) else ((names_Attr.f k (a0.extract 0 ((ji4) : Int).toNat)).bind fun t364 => (if t364 = true then ((names_Attr.f k (a1.extract 0 ((mn (a1.size : Int) 200) : Int).toNat)).bind fun t365 => (if t365 = true then (if (a0.extract 0 ((ji4) : Int).toNat).size + (a1.extract 0 ((mn (a1.size : Int) 200) : Int).toNat).size ≤ 9223372036854775807 then ((names_Attr.f k ((a0.extract 0 ((ji4) : Int).toNat) ++ (a1.extract 0 ((mn (a1.size : Int) 200) : Int).toNat))).bind fun t366 => (if t366 = true then ((names_Right.f k (a0.extract 0 ((ji4) : Int).toNat)).bind fun t367 => (if t367 = true then ((names_Attr.f k (a1.extract 0 ((mn (a1.size : Int) 200) : Int).toNat)).bind fun t368 => (if t368 = true then ((names_Right.f k ((a0.extract 0 ((ji4) : Int).toNat) ++ (a1.extract 0 ((mn (a1.size : Int) 200) : Int).toNat))).bind fun t369 => (boltinglaw05_NamesJoin.j0 k (a0.extract 0 ((ji4) : Int).toNat) (Int.tmod (Go.bits .and .i64 a2 65535) (wrap64 (((a0.extract 0 ((ji4) : Int).toNat).size : Int) + 1))) (!t369))) else (boltinglaw05_NamesJoin.j0 k (a0.extract 0 ((ji4) : Int).toNat) (Int.tmod (Go.bits .and .i64 a2 65535) (wrap64 (((a0.extract 0 ((ji4) : Int).toNat).size : Int) + 1))) false))) else (boltinglaw05_NamesJoin.j0 k (a0.extract 0 ((ji4) : Int).toNat) (Int.tmod (Go.bits .and .i64 a2 65535) (wrap64 (((a0.extract 0 ((ji4) : Int).toNat).size : Int) + 1))) false))) else (boltinglaw05_NamesJoin.j0 k (a0.extract 0 ((ji4) : Int).toNat) (Int.tmod (Go.bits .and .i64 a2 65535) (wrap64 (((a0.extract 0 ((ji4) : Int).toNat).size : Int) + 1))) true))) else (none)) else ((names_Right.f k (a0.extract 0 ((ji4) : Int).toNat)).bind fun t370 => (if t370 = true then ((names_Attr.f k (a1.extract 0 ((mn (a1.size : Int) 200) : Int).toNat)).bind fun t371 => (if t371 = true then (if (a0.extract 0 ((ji4) : Int).toNat).size + (a1.extract 0 ((mn (a1.size : Int) 200) : Int).toNat).size ≤ 9223372036854775807 then ((names_Right.f k ((a0.extract 0 ((ji4) : Int).toNat) ++ (a1.extract 0 ((mn (a1.size : Int) 200) : Int).toNat))).bind fun t372 => (boltinglaw05_NamesJoin.j0 k (a0.extract 0 ((ji4) : Int).toNat) (Int.tmod (Go.bits .and .i64 a2 65535) (wrap64 (((a0.extract 0 ((ji4) : Int).toNat).size : Int) + 1))) (!t372))) else (none)) else (boltinglaw05_NamesJoin.j0 k (a0.extract 0 ((ji4) : Int).toNat) (Int.tmod (Go.bits .and .i64 a2 65535) (wrap64 (((a0.extract 0 ((ji4) : Int).toNat).size : Int) + 1))) false))) else (boltinglaw05_NamesJoin.j0 k (a0.extract 0 ((ji4) : Int).toNat) (Int.tmod (Go.bits .and .i64 a2 65535) (wrap64 (((a0.extract 0 ((ji4) : Int).toNat).size : Int) + 1))) false))))) else ((names_Right.f k (a0.extract 0 ((ji4) : Int).toNat)).bind fun t373 => (if t373 = true then ((names_Attr.f k (a1.extract 0 ((mn (a1.size : Int) 200) : Int).toNat)).bind fun t374 => (if t374 = true then (if (a0.extract 0 ((ji4) : Int).toNat).size + (a1.extract 0 ((mn (a1.size : Int) 200) : Int).toNat).size ≤ 9223372036854775807 then ((names_Right.f k ((a0.extract 0 ((ji4) : Int).toNat) ++ (a1.extract 0 ((mn (a1.size : Int) 200) : Int).toNat))).bind fun t375 => (boltinglaw05_NamesJoin.j0 k (a0.extract 0 ((ji4) : Int).toNat) (Int.tmod (Go.bits .and .i64 a2 65535) (wrap64 (((a0.extract 0 ((ji4) : Int).toNat).size : Int) + 1))) (!t375))) else (none)) else (boltinglaw05_NamesJoin.j0 k (a0.extract 0 ((ji4) : Int).toNat) (Int.tmod (Go.bits .and .i64 a2 65535) (wrap64 (((a0.extract 0 ((ji4) : Int).toNat).size : Int) + 1))) false))) else (boltinglaw05_NamesJoin.j0 k (a0.extract 0 ((ji4) : Int).toNat) (Int.tmod (Go.bits .and .i64 a2 65535) (wrap64 (((a0.extract 0 ((ji4) : Int).toNat).size : Int) + 1))) false)))))) else (none)) else (none)) else (none)) else (none)) = some r := by first | (rw [hji4] at H; exact H) | (simp only [hji4] at H ⊢; exact H)
  (try (have hji4h : ji4 ≤ 200 := by (rw [← hji4]; unfold mn; (repeat' split) <;> omega)))
  (try (have hji4g : ji4 ≤ 64 := by omega))
  (try (have hji4l : 0 ≤ ji4 := by (rw [← hji4]; unfold mn; (repeat' split) <;> omega)))
  (try (have hji4m : 0 ≤ ji4 := by omega))
  have hji4_ : (if 200 < (a0.size : Int) then 200 else (a0.size : Int)) = ji4 := hji4
  by_cases c5 : 0 ≤ (ji4)
  · rw [if_pos c5] at H
    have c5b0 := eq_true c5
    have c5b1 : decide (0 ≤ (ji4)) = true := decide_eq_true c5
    clear c5
    by_cases c6 : (ji4) ≤ (a0.size : Int)
    · rw [if_pos c6] at H
      have c6b0 := eq_true c6
      have c6b1 : decide ((ji4) ≤ (a0.size : Int)) = true := decide_eq_true c6
      clear c6
      obtain ⟨ji7, hji7⟩ : ∃ j_ : Int, (mn (a1.size : Int) 200) = j_ := ⟨_, rfl⟩
      replace H : (if 0 ≤ (ji7) then (if (ji7) ≤ (a1.size : Int) then (if (wrap64 (((a0.extract 0 ((ji4) : Int).toNat).size : Int) + 1)) = 0 then (none) else ((names_Attr.f k (a0.extract 0 ((ji4) : Int).toNat)).bind fun t364 => (if t364 = true then ((names_Attr.f k (a1.extract 0 ((ji7) : Int).toNat)).bind fun t365 => (if t365 = true then (if (a0.extract 0 ((ji4) : Int).toNat).size + (a1.extract 0 ((ji7) : Int).toNat).size ≤ 9223372036854775807 then ((names_Attr.f k ((a0.extract 0 ((ji4) : Int).toNat) ++ (a1.extract 0 ((ji7) : Int).toNat))).bind fun t366 => (if t366 = true then ((names_Right.f k (a0.extract 0 ((ji4) : Int).toNat)).bind fun t367 => (if t367 = true then ((names_Attr.f k (a1.extract 0 ((ji7) : Int).toNat)).bind fun t368 => (if t368 = true then ((names_Right.f k ((a0.extract 0 ((ji4) : Int).toNat) ++ (a1.extract 0 ((ji7) : Int).toNat))).bind fun t369 => (boltinglaw05_NamesJoin.j0 k (a0.extract 0 ((ji4) : Int).toNat) (Int.tmod (Go.bits .and .i64 a2 65535) (wrap64 (((a0.extract 0 ((ji4) : Int).toNat).size : Int) + 1))) (!t369))) else (boltinglaw05_NamesJoin.j0 k (a0.extract 0 ((ji4) : Int).toNat) (Int.tmod (Go.bits .and .i64 a2 65535) (wrap64 (((a0.extract 0 ((ji4) : Int).toNat).size : Int) + 1))) false))) else (boltinglaw05_NamesJoin.j0 k (a0.extract 0 ((ji4) : Int).toNat) (Int.tmod (Go.bits .and .i64 a2 65535) (wrap64 (((a0.extract 0 ((ji4) : Int).toNat).size : Int) + 1))) false))) else (boltinglaw05_NamesJoin.j0 k (a0.extract 0 ((ji4) : Int).toNat) (Int.tmod (Go.bits .and .i64 a2 65535) (wrap64 (((a0.extract 0 ((ji4) : Int).toNat).size : Int) + 1))) true))) else (none)) else ((names_Right.f k (a0.extract 0 ((ji4) : Int).toNat)).bind fun t370 => (if t370 = true then ((names_Attr.f k (a1.extract 0 ((ji7) : Int).toNat)).bind fun t371 => (if t371 = true then (if (a0.extract 0 ((ji4) : Int).toNat).size + (a1.extract 0 ((ji7) : Int).toNat).size ≤ 9223372036854775807 then ((names_Right.f k ((a0.extract 0 ((ji4) : Int).toNat) ++ (a1.extract 0 ((ji7) : Int).toNat))).bind fun t372 => (boltinglaw05_NamesJoin.j0 k (a0.extract 0 ((ji4) : Int).toNat) (Int.tmod (Go.bits .and .i64 a2 65535) (wrap64 (((a0.extract 0 ((ji4) : Int).toNat).size : Int) + 1))) (!t372))) else (none)) else (boltinglaw05_NamesJoin.j0 k (a0.extract 0 ((ji4) : Int).toNat) (Int.tmod (Go.bits .and .i64 a2 65535) (wrap64 (((a0.extract 0 ((ji4) : Int).toNat).size : Int) + 1))) false))) else (boltinglaw05_NamesJoin.j0 k (a0.extract 0 ((ji4) : Int).toNat) (Int.tmod (Go.bits .and .i64 a2 65535) (wrap64 (((a0.extract 0 ((ji4) : Int).toNat).size : Int) + 1))) false))))) else ((names_Right.f k (a0.extract 0 ((ji4) : Int).toNat)).bind fun t373 => (if t373 = true then ((names_Attr.f k (a1.extract 0 ((ji7) : Int).toNat)).bind fun t374 => (if t374 = true then (if (a0.extract 0 ((ji4) : Int).toNat).size + (a1.extract 0 ((ji7) : Int).toNat).size ≤ 9223372036854775807 then ((names_Right.f k ((a0.extract 0 ((ji4) : Int).toNat) ++ (a1.extract 0 ((ji7) : Int).toNat))).bind fun t375 => (boltinglaw05_NamesJoin.j0 k (a0.extract 0 ((ji4) : Int).toNat) (Int.tmod (Go.bits .and .i64 a2 65535) (wrap64 (((a0.extract 0 ((ji4) : Int).toNat).size : Int) + 1))) (!t375))) else (none)) else (boltinglaw05_NamesJoin.j0 k (a0.extract 0 ((ji4) : Int).toNat) (Int.tmod (Go.bits .and .i64 a2 65535) (wrap64 (((a0.extract 0 ((ji4) : Int).toNat).size : Int) + 1))) false))) else (boltinglaw05_NamesJoin.j0 k (a0.extract 0 ((ji4) : Int).toNat) (Int.tmod (Go.bits .and .i64 a2 65535) (wrap64 (((a0.extract 0 ((ji4) : Int).toNat).size : Int) + 1))) false)))))) else (none)) else (none)) = some r := by first | (rw [hji7] at H; exact H) | (simp only [hji7] at H ⊢; exact H)
      (try (have hji7h : ji7 ≤ 200 := by (rw [← hji7]; unfold mn; (repeat' split) <;> omega)))
      (try (have hji7g : ji7 ≤ 64 := by omega))
      (try (have hji7l : 0 ≤ ji7 := by (rw [← hji7]; unfold mn; (repeat' split) <;> omega)))
      (try (have hji7m : 0 ≤ ji7 := by omega))
      have hji7_ : (if 200 < (a1.size : Int) then 200 else (a1.size : Int)) = ji7 := hji7
      by_cases c8 : 0 ≤ (ji7)
      · rw [if_pos c8] at H
        have c8b0 := eq_true c8
        have c8b1 : decide (0 ≤ (ji7)) = true := decide_eq_true c8
        clear c8
        by_cases c9 : (ji7) ≤ (a1.size : Int)
        · rw [if_pos c9] at H
          have c9b0 := eq_true c9
          have c9b1 : decide ((ji7) ≤ (a1.size : Int)) = true := decide_eq_true c9
          clear c9
          by_cases c10 : (wrap64 (((a0.extract 0 ((ji4) : Int).toNat).size : Int) + 1)) = 0
          · rw [if_pos c10] at H
            exact absurd H (by simp)
          · rw [if_neg c10] at H
            have c10b0 : ((wrap64 (((a0.extract 0 ((ji4) : Int).toNat).size : Int) + 1)) == 0) = false := beq_eq_false_iff_ne.mpr c10
            have c10b1 : ((wrap64 (((a0.extract 0 ((ji4) : Int).toNat).size : Int) + 1)) != 0) = true := bne_iff_ne.mpr c10
            have HC11 := Aside0.mk H
            clear H
            go_enter Try.func7, Try.ntmps7
            go_upto_region 4 with (fail)
            obtain ⟨sx, hsx⟩ : ∃ sx : ByteArray, (a0.extract 0 ((ji4) : Int).toNat) = sx := ⟨_, rfl⟩
            obtain ⟨sy, hsy⟩ : ∃ sy : ByteArray, (a1.extract 0 ((ji7) : Int).toNat) = sy := ⟨_, rfl⟩
            obtain ⟨kc, hkc⟩ : ∃ kc : Int, (Int.tmod (Go.bits .and .i64 a2 65535) (wrap64 ((sx.size : Int) + 1))) = kc := ⟨_, rfl⟩
            have hkx : (Go.bits .and .i64 a2 65535).tmod (max ji4 0 + 1) = kc := by
              have e0 : (sx.size : Int) = ji4 := by have c_ := of_eq_true c6b0; rw [← hsx, ByteArray.size_extract]; omega
              have e1 : wrap64 ((sx.size : Int) + 1) = max ji4 0 + 1 := by rw [e0, show wrap64 (ji4 + 1) = ji4 + 1 from by unfold wrap64; omega]; omega
              rw [← hkc, e1]
            rw [hsx, hsy, hkc] at HC11
            rw [hkx, hsx, hsy]
            rw [hsx] at c10 c10b0 c10b1
            go_cut [51] (fun v51 wc => ∃ (kq : Nat) (x51_10 : Bool), v51 = .bool x51_10 ∧ Aside0 (boltinglaw05_NamesJoin.j0 kq sx kc x51_10 = some r) ∧ Aside0 (kq ≤ k) ∧ Aside0 (Below w.heap.size w wc))
            case first =>
              have H := HC11.out
              clear HC11
              replace H := Option.bind_eq_some_iff.mp H
              obtain ⟨t364, A120, H⟩ := H
              replace H : (if t364 = true then ((names_Attr.f k sy).bind fun t365 => (if t365 = true then (if sx.size + sy.size ≤ 9223372036854775807 then ((names_Attr.f k (sx ++ sy)).bind fun t366 => (if t366 = true then ((names_Right.f k sx).bind fun t367 => (if t367 = true then ((names_Attr.f k sy).bind fun t368 => (if t368 = true then ((names_Right.f k (sx ++ sy)).bind fun t369 => (boltinglaw05_NamesJoin.j0 k sx kc (!t369))) else (boltinglaw05_NamesJoin.j0 k sx kc false))) else (boltinglaw05_NamesJoin.j0 k sx kc false))) else (boltinglaw05_NamesJoin.j0 k sx kc true))) else (none)) else ((names_Right.f k sx).bind fun t370 => (if t370 = true then ((names_Attr.f k sy).bind fun t371 => (if t371 = true then (if sx.size + sy.size ≤ 9223372036854775807 then ((names_Right.f k (sx ++ sy)).bind fun t372 => (boltinglaw05_NamesJoin.j0 k sx kc (!t372))) else (none)) else (boltinglaw05_NamesJoin.j0 k sx kc false))) else (boltinglaw05_NamesJoin.j0 k sx kc false))))) else ((names_Right.f k sx).bind fun t373 => (if t373 = true then ((names_Attr.f k sy).bind fun t374 => (if t374 = true then (if sx.size + sy.size ≤ 9223372036854775807 then ((names_Right.f k (sx ++ sy)).bind fun t375 => (boltinglaw05_NamesJoin.j0 k sx kc (!t375))) else (none)) else (boltinglaw05_NamesJoin.j0 k sx kc false))) else (boltinglaw05_NamesJoin.j0 k sx kc false)))) = some r := H
              have A12 := Aside0.mk A120
              clear A120
              by_cases c13 : t364 = true
              · subst c13
                have H1 : ((names_Attr.f k sy).bind fun t365 => (if t365 = true then (if sx.size + sy.size ≤ 9223372036854775807 then ((names_Attr.f k (sx ++ sy)).bind fun t366 => (if t366 = true then ((names_Right.f k sx).bind fun t367 => (if t367 = true then ((names_Attr.f k sy).bind fun t368 => (if t368 = true then ((names_Right.f k (sx ++ sy)).bind fun t369 => (boltinglaw05_NamesJoin.j0 k sx kc (!t369))) else (boltinglaw05_NamesJoin.j0 k sx kc false))) else (boltinglaw05_NamesJoin.j0 k sx kc false))) else (boltinglaw05_NamesJoin.j0 k sx kc true))) else (none)) else ((names_Right.f k sx).bind fun t370 => (if t370 = true then ((names_Attr.f k sy).bind fun t371 => (if t371 = true then (if sx.size + sy.size ≤ 9223372036854775807 then ((names_Right.f k (sx ++ sy)).bind fun t372 => (boltinglaw05_NamesJoin.j0 k sx kc (!t372))) else (none)) else (boltinglaw05_NamesJoin.j0 k sx kc false))) else (boltinglaw05_NamesJoin.j0 k sx kc false))))) = some r := by rw [if_pos rfl] at H; exact H
                clear H
                have H := H1
                clear H1
                replace H := Option.bind_eq_some_iff.mp H
                obtain ⟨t365, A140, H⟩ := H
                replace H : (if t365 = true then (if sx.size + sy.size ≤ 9223372036854775807 then ((names_Attr.f k (sx ++ sy)).bind fun t366 => (if t366 = true then ((names_Right.f k sx).bind fun t367 => (if t367 = true then ((names_Attr.f k sy).bind fun t368 => (if t368 = true then ((names_Right.f k (sx ++ sy)).bind fun t369 => (boltinglaw05_NamesJoin.j0 k sx kc (!t369))) else (boltinglaw05_NamesJoin.j0 k sx kc false))) else (boltinglaw05_NamesJoin.j0 k sx kc false))) else (boltinglaw05_NamesJoin.j0 k sx kc true))) else (none)) else ((names_Right.f k sx).bind fun t370 => (if t370 = true then ((names_Attr.f k sy).bind fun t371 => (if t371 = true then (if sx.size + sy.size ≤ 9223372036854775807 then ((names_Right.f k (sx ++ sy)).bind fun t372 => (boltinglaw05_NamesJoin.j0 k sx kc (!t372))) else (none)) else (boltinglaw05_NamesJoin.j0 k sx kc false))) else (boltinglaw05_NamesJoin.j0 k sx kc false)))) = some r := H
                have A14 := Aside0.mk A140
                clear A140
                by_cases c15 : t365 = true
                · subst c15
                  have H1 : (if sx.size + sy.size ≤ 9223372036854775807 then ((names_Attr.f k (sx ++ sy)).bind fun t366 => (if t366 = true then ((names_Right.f k sx).bind fun t367 => (if t367 = true then ((names_Attr.f k sy).bind fun t368 => (if t368 = true then ((names_Right.f k (sx ++ sy)).bind fun t369 => (boltinglaw05_NamesJoin.j0 k sx kc (!t369))) else (boltinglaw05_NamesJoin.j0 k sx kc false))) else (boltinglaw05_NamesJoin.j0 k sx kc false))) else (boltinglaw05_NamesJoin.j0 k sx kc true))) else (none)) = some r := by rw [if_pos rfl] at H; exact H
                  clear H
                  have H := H1
                  clear H1
                  by_cases c16 : sx.size + sy.size ≤ 9223372036854775807
                  · rw [if_pos c16] at H
                    have c16b0 := eq_true c16
                    have c16b1 : decide (sx.size + sy.size ≤ 9223372036854775807) = true := decide_eq_true c16
                    try have c16b2 : (9223372036854775807 < sx.size + sy.size) = False := eq_false (Nat.not_lt.2 c16)
                    replace H := Option.bind_eq_some_iff.mp H
                    obtain ⟨t366, A170, H⟩ := H
                    replace H : (if t366 = true then ((names_Right.f k sx).bind fun t367 => (if t367 = true then ((names_Attr.f k sy).bind fun t368 => (if t368 = true then ((names_Right.f k (sx ++ sy)).bind fun t369 => (boltinglaw05_NamesJoin.j0 k sx kc (!t369))) else (boltinglaw05_NamesJoin.j0 k sx kc false))) else (boltinglaw05_NamesJoin.j0 k sx kc false))) else (boltinglaw05_NamesJoin.j0 k sx kc true)) = some r := H
                    have A17 := Aside0.mk A170
                    clear A170
                    by_cases c18 : t366 = true
                    · subst c18
                      have H1 : ((names_Right.f k sx).bind fun t367 => (if t367 = true then ((names_Attr.f k sy).bind fun t368 => (if t368 = true then ((names_Right.f k (sx ++ sy)).bind fun t369 => (boltinglaw05_NamesJoin.j0 k sx kc (!t369))) else (boltinglaw05_NamesJoin.j0 k sx kc false))) else (boltinglaw05_NamesJoin.j0 k sx kc false))) = some r := by rw [if_pos rfl] at H; exact H
                      clear H
                      have H := H1
                      clear H1
                      replace H := Option.bind_eq_some_iff.mp H
                      obtain ⟨t367, A190, H⟩ := H
                      replace H : (if t367 = true then ((names_Attr.f k sy).bind fun t368 => (if t368 = true then ((names_Right.f k (sx ++ sy)).bind fun t369 => (boltinglaw05_NamesJoin.j0 k sx kc (!t369))) else (boltinglaw05_NamesJoin.j0 k sx kc false))) else (boltinglaw05_NamesJoin.j0 k sx kc false)) = some r := H
                      have A19 := Aside0.mk A190
                      clear A190
                      by_cases c20 : t367 = true
                      · subst c20
                        have H1 : ((names_Attr.f k sy).bind fun t368 => (if t368 = true then ((names_Right.f k (sx ++ sy)).bind fun t369 => (boltinglaw05_NamesJoin.j0 k sx kc (!t369))) else (boltinglaw05_NamesJoin.j0 k sx kc false))) = some r := by rw [if_pos rfl] at H; exact H
                        clear H
                        have H := H1
                        clear H1
                        replace H := Option.bind_eq_some_iff.mp H
                        obtain ⟨t368, A210, H⟩ := H
                        replace H : (if t368 = true then ((names_Right.f k (sx ++ sy)).bind fun t369 => (boltinglaw05_NamesJoin.j0 k sx kc (!t369))) else (boltinglaw05_NamesJoin.j0 k sx kc false)) = some r := H
                        have A21 := Aside0.mk A210
                        clear A210
                        by_cases c22 : t368 = true
                        · subst c22
                          have H1 : ((names_Right.f k (sx ++ sy)).bind fun t369 => (boltinglaw05_NamesJoin.j0 k sx kc (!t369))) = some r := by rw [if_pos rfl] at H; exact H
                          clear H
                          have H := H1
                          clear H1
                          replace H := Option.bind_eq_some_iff.mp H
                          obtain ⟨t369, A230, H⟩ := H
                          replace H : (boltinglaw05_NamesJoin.j0 k sx kc (!t369)) = some r := H
                          have A23 := Aside0.mk A230
                          clear A230
                          have H' := Aside0.mk H
                          clear H
                          go_wp2_with (first | ((with_reducible refine gate_callee (f := 30) rfl ?_); refine goesL_ (some 25) rfl rfl Try.func30 (by kernel_rfl) rfl #[.string sx] rfl (by (try simp only [List.map_toArray, List.map_cons, List.map_nil]); first | done | (simp only [hji4]; rfl) | rfl | (simp only [List.length_drop, List.length_take]; rfl)) ?_; (with_reducible refine (names_Attr.calls k sx true _ A12.out).mono ?_); rintro e w' ⟨rfl, ⟨nd, rfl⟩⟩; refine ⟨_, rfl, ?_⟩) | (go_at_call 30; (with_reducible refine (names_Attr.calls k sy true _ A14.out).mono ?_); rintro e w' ⟨rfl, ⟨nd, rfl⟩⟩) | (go_at_call 30; (with_reducible refine (names_Attr.calls k (sx ++ sy) true _ A17.out).mono ?_); rintro e w' ⟨rfl, ⟨nd, rfl⟩⟩) | (go_at_call 28; (with_reducible refine (names_Right.calls k sx true _ A19.out).mono ?_); rintro e w' ⟨rfl, ⟨nd, rfl⟩⟩) | (go_at_call 30; (with_reducible refine (names_Attr.calls k sy true _ A21.out).mono ?_); rintro e w' ⟨rfl, ⟨nd, rfl⟩⟩) | (go_at_call 28; (with_reducible refine (names_Right.calls k (sx ++ sy) t369 _ A23.out).mono ?_); rintro e w' ⟨rfl, ⟨nd, rfl⟩⟩))
                          go_meet
                          case rel => exact ⟨_, (!t369), (by first | rfl | (simp; done) | (congr 1; first | (with_reducible assumption) | (symm; with_reducible assumption)) | (simp [*]; done) | (simp only [ne_nil_empty]; done) | (rw [ne_nil_empty]; rfl)), H', ⟨by first | omega | exact Nat.le_refl _⟩, ⟨by repeat (first | (with_reducible first | exact HB.out | apply below_alloc | apply pw_below_drewN | apply below_drew1) | exact HB.out)⟩⟩
                        · replace c22 := Bool.eq_false_iff.mpr c22
                          subst c22
                          cases A14.out.symm.trans A21.out
                      · replace c20 := Bool.eq_false_iff.mpr c20
                        subst c20
                        have H1 : (boltinglaw05_NamesJoin.j0 k sx kc false) = some r := by rw [if_neg (show ¬ (false = true) by decide)] at H; exact H
                        clear H
                        have H := H1
                        clear H1
                        have H' := Aside0.mk H
                        clear H
                        go_wp2_with (first | ((with_reducible refine gate_callee (f := 30) rfl ?_); refine goesL_ (some 25) rfl rfl Try.func30 (by kernel_rfl) rfl #[.string sx] rfl (by (try simp only [List.map_toArray, List.map_cons, List.map_nil]); first | done | (simp only [hji4]; rfl) | rfl | (simp only [List.length_drop, List.length_take]; rfl)) ?_; (with_reducible refine (names_Attr.calls k sx true _ A12.out).mono ?_); rintro e w' ⟨rfl, ⟨nd, rfl⟩⟩; refine ⟨_, rfl, ?_⟩) | (go_at_call 30; (with_reducible refine (names_Attr.calls k sy true _ A14.out).mono ?_); rintro e w' ⟨rfl, ⟨nd, rfl⟩⟩) | (go_at_call 30; (with_reducible refine (names_Attr.calls k (sx ++ sy) true _ A17.out).mono ?_); rintro e w' ⟨rfl, ⟨nd, rfl⟩⟩) | (go_at_call 28; (with_reducible refine (names_Right.calls k sx false _ A19.out).mono ?_); rintro e w' ⟨rfl, ⟨nd, rfl⟩⟩))
                        go_meet
                        case rel => exact ⟨_, (false), (by first | rfl | (simp; done) | (congr 1; first | (with_reducible assumption) | (symm; with_reducible assumption)) | (simp [*]; done) | (simp only [ne_nil_empty]; done) | (rw [ne_nil_empty]; rfl)), H', ⟨by first | omega | exact Nat.le_refl _⟩, ⟨by repeat (first | (with_reducible first | exact HB.out | apply below_alloc | apply pw_below_drewN | apply below_drew1) | exact HB.out)⟩⟩
                    · replace c18 := Bool.eq_false_iff.mpr c18
                      subst c18
                      have H1 : (boltinglaw05_NamesJoin.j0 k sx kc true) = some r := by rw [if_neg (show ¬ (false = true) by decide)] at H; exact H
                      clear H
                      have H := H1
                      clear H1
                      have H' := Aside0.mk H
                      clear H
                      go_wp2_with (first | ((with_reducible refine gate_callee (f := 30) rfl ?_); refine goesL_ (some 25) rfl rfl Try.func30 (by kernel_rfl) rfl #[.string sx] rfl (by (try simp only [List.map_toArray, List.map_cons, List.map_nil]); first | done | (simp only [hji4]; rfl) | rfl | (simp only [List.length_drop, List.length_take]; rfl)) ?_; (with_reducible refine (names_Attr.calls k sx true _ A12.out).mono ?_); rintro e w' ⟨rfl, ⟨nd, rfl⟩⟩; refine ⟨_, rfl, ?_⟩) | (go_at_call 30; (with_reducible refine (names_Attr.calls k sy true _ A14.out).mono ?_); rintro e w' ⟨rfl, ⟨nd, rfl⟩⟩) | (go_at_call 30; (with_reducible refine (names_Attr.calls k (sx ++ sy) false _ A17.out).mono ?_); rintro e w' ⟨rfl, ⟨nd, rfl⟩⟩))
                      go_meet
                      case rel => exact ⟨_, (true), (by first | rfl | (simp; done) | (congr 1; first | (with_reducible assumption) | (symm; with_reducible assumption)) | (simp [*]; done) | (simp only [ne_nil_empty]; done) | (rw [ne_nil_empty]; rfl)), H', ⟨by first | omega | exact Nat.le_refl _⟩, ⟨by repeat (first | (with_reducible first | exact HB.out | apply below_alloc | apply pw_below_drewN | apply below_drew1) | exact HB.out)⟩⟩
                  · rw [if_neg c16] at H
                    exact absurd H (by simp)
                · replace c15 := Bool.eq_false_iff.mpr c15
                  subst c15
                  have H1 : ((names_Right.f k sx).bind fun t370 => (if t370 = true then ((names_Attr.f k sy).bind fun t371 => (if t371 = true then (if sx.size + sy.size ≤ 9223372036854775807 then ((names_Right.f k (sx ++ sy)).bind fun t372 => (boltinglaw05_NamesJoin.j0 k sx kc (!t372))) else (none)) else (boltinglaw05_NamesJoin.j0 k sx kc false))) else (boltinglaw05_NamesJoin.j0 k sx kc false))) = some r := by rw [if_neg (show ¬ (false = true) by decide)] at H; exact H
                  clear H
                  have H := H1
                  clear H1
                  replace H := Option.bind_eq_some_iff.mp H
                  obtain ⟨t370, A240, H⟩ := H
                  replace H : (if t370 = true then ((names_Attr.f k sy).bind fun t371 => (if t371 = true then (if sx.size + sy.size ≤ 9223372036854775807 then ((names_Right.f k (sx ++ sy)).bind fun t372 => (boltinglaw05_NamesJoin.j0 k sx kc (!t372))) else (none)) else (boltinglaw05_NamesJoin.j0 k sx kc false))) else (boltinglaw05_NamesJoin.j0 k sx kc false)) = some r := H
                  have A24 := Aside0.mk A240
                  clear A240
                  by_cases c25 : t370 = true
                  · subst c25
                    have H1 : ((names_Attr.f k sy).bind fun t371 => (if t371 = true then (if sx.size + sy.size ≤ 9223372036854775807 then ((names_Right.f k (sx ++ sy)).bind fun t372 => (boltinglaw05_NamesJoin.j0 k sx kc (!t372))) else (none)) else (boltinglaw05_NamesJoin.j0 k sx kc false))) = some r := by rw [if_pos rfl] at H; exact H
                    clear H
                    have H := H1
                    clear H1
                    replace H := Option.bind_eq_some_iff.mp H
                    obtain ⟨t371, A260, H⟩ := H
                    replace H : (if t371 = true then (if sx.size + sy.size ≤ 9223372036854775807 then ((names_Right.f k (sx ++ sy)).bind fun t372 => (boltinglaw05_NamesJoin.j0 k sx kc (!t372))) else (none)) else (boltinglaw05_NamesJoin.j0 k sx kc false)) = some r := H
                    have A26 := Aside0.mk A260
                    clear A260
                    by_cases c27 : t371 = true
                    · subst c27
                      cases A14.out.symm.trans A26.out
                    · replace c27 := Bool.eq_false_iff.mpr c27
                      subst c27
                      have H1 : (boltinglaw05_NamesJoin.j0 k sx kc false) = some r := by rw [if_neg (show ¬ (false = true) by decide)] at H; exact H
                      clear H
                      have H := H1
                      clear H1
                      have H' := Aside0.mk H
                      clear H
                      go_wp2_with (first | ((with_reducible refine gate_callee (f := 30) rfl ?_); refine goesL_ (some 25) rfl rfl Try.func30 (by kernel_rfl) rfl #[.string sx] rfl (by (try simp only [List.map_toArray, List.map_cons, List.map_nil]); first | done | (simp only [hji4]; rfl) | rfl | (simp only [List.length_drop, List.length_take]; rfl)) ?_; (with_reducible refine (names_Attr.calls k sx true _ A12.out).mono ?_); rintro e w' ⟨rfl, ⟨nd, rfl⟩⟩; refine ⟨_, rfl, ?_⟩) | (go_at_call 30; (with_reducible refine (names_Attr.calls k sy false _ A14.out).mono ?_); rintro e w' ⟨rfl, ⟨nd, rfl⟩⟩) | (go_at_call 28; (with_reducible refine (names_Right.calls k sx true _ A24.out).mono ?_); rintro e w' ⟨rfl, ⟨nd, rfl⟩⟩) | (go_at_call 30; (with_reducible refine (names_Attr.calls k sy false _ A26.out).mono ?_); rintro e w' ⟨rfl, ⟨nd, rfl⟩⟩))
                      go_meet
                      case rel => exact ⟨_, (false), (by first | rfl | (simp; done) | (congr 1; first | (with_reducible assumption) | (symm; with_reducible assumption)) | (simp [*]; done) | (simp only [ne_nil_empty]; done) | (rw [ne_nil_empty]; rfl)), H', ⟨by first | omega | exact Nat.le_refl _⟩, ⟨by repeat (first | (with_reducible first | exact HB.out | apply below_alloc | apply pw_below_drewN | apply below_drew1) | exact HB.out)⟩⟩
                  · replace c25 := Bool.eq_false_iff.mpr c25
                    subst c25
                    have H1 : (boltinglaw05_NamesJoin.j0 k sx kc false) = some r := by rw [if_neg (show ¬ (false = true) by decide)] at H; exact H
                    clear H
                    have H := H1
                    clear H1
                    have H' := Aside0.mk H
                    clear H
                    go_wp2_with (first | ((with_reducible refine gate_callee (f := 30) rfl ?_); refine goesL_ (some 25) rfl rfl Try.func30 (by kernel_rfl) rfl #[.string sx] rfl (by (try simp only [List.map_toArray, List.map_cons, List.map_nil]); first | done | (simp only [hji4]; rfl) | rfl | (simp only [List.length_drop, List.length_take]; rfl)) ?_; (with_reducible refine (names_Attr.calls k sx true _ A12.out).mono ?_); rintro e w' ⟨rfl, ⟨nd, rfl⟩⟩; refine ⟨_, rfl, ?_⟩) | (go_at_call 30; (with_reducible refine (names_Attr.calls k sy false _ A14.out).mono ?_); rintro e w' ⟨rfl, ⟨nd, rfl⟩⟩) | (go_at_call 28; (with_reducible refine (names_Right.calls k sx false _ A24.out).mono ?_); rintro e w' ⟨rfl, ⟨nd, rfl⟩⟩))
                    go_meet
                    case rel => exact ⟨_, (false), (by first | rfl | (simp; done) | (congr 1; first | (with_reducible assumption) | (symm; with_reducible assumption)) | (simp [*]; done) | (simp only [ne_nil_empty]; done) | (rw [ne_nil_empty]; rfl)), H', ⟨by first | omega | exact Nat.le_refl _⟩, ⟨by repeat (first | (with_reducible first | exact HB.out | apply below_alloc | apply pw_below_drewN | apply below_drew1) | exact HB.out)⟩⟩
              · replace c13 := Bool.eq_false_iff.mpr c13
                subst c13
                have H1 : ((names_Right.f k sx).bind fun t373 => (if t373 = true then ((names_Attr.f k sy).bind fun t374 => (if t374 = true then (if sx.size + sy.size ≤ 9223372036854775807 then ((names_Right.f k (sx ++ sy)).bind fun t375 => (boltinglaw05_NamesJoin.j0 k sx kc (!t375))) else (none)) else (boltinglaw05_NamesJoin.j0 k sx kc false))) else (boltinglaw05_NamesJoin.j0 k sx kc false))) = some r := by rw [if_neg (show ¬ (false = true) by decide)] at H; exact H
                clear H
                have H := H1
                clear H1
                replace H := Option.bind_eq_some_iff.mp H
                obtain ⟨t373, A300, H⟩ := H
                replace H : (if t373 = true then ((names_Attr.f k sy).bind fun t374 => (if t374 = true then (if sx.size + sy.size ≤ 9223372036854775807 then ((names_Right.f k (sx ++ sy)).bind fun t375 => (boltinglaw05_NamesJoin.j0 k sx kc (!t375))) else (none)) else (boltinglaw05_NamesJoin.j0 k sx kc false))) else (boltinglaw05_NamesJoin.j0 k sx kc false)) = some r := H
                have A30 := Aside0.mk A300
                clear A300
                by_cases c31 : t373 = true
                · subst c31
                  have H1 : ((names_Attr.f k sy).bind fun t374 => (if t374 = true then (if sx.size + sy.size ≤ 9223372036854775807 then ((names_Right.f k (sx ++ sy)).bind fun t375 => (boltinglaw05_NamesJoin.j0 k sx kc (!t375))) else (none)) else (boltinglaw05_NamesJoin.j0 k sx kc false))) = some r := by rw [if_pos rfl] at H; exact H
                  clear H
                  have H := H1
                  clear H1
                  replace H := Option.bind_eq_some_iff.mp H
                  obtain ⟨t374, A320, H⟩ := H
                  replace H : (if t374 = true then (if sx.size + sy.size ≤ 9223372036854775807 then ((names_Right.f k (sx ++ sy)).bind fun t375 => (boltinglaw05_NamesJoin.j0 k sx kc (!t375))) else (none)) else (boltinglaw05_NamesJoin.j0 k sx kc false)) = some r := H
                  have A32 := Aside0.mk A320
                  clear A320
                  by_cases c33 : t374 = true
                  · subst c33
                    have H1 : (if sx.size + sy.size ≤ 9223372036854775807 then ((names_Right.f k (sx ++ sy)).bind fun t375 => (boltinglaw05_NamesJoin.j0 k sx kc (!t375))) else (none)) = some r := by rw [if_pos rfl] at H; exact H
                    clear H
                    have H := H1
                    clear H1
                    by_cases c34 : sx.size + sy.size ≤ 9223372036854775807
                    · rw [if_pos c34] at H
                      have c34b0 := eq_true c34
                      have c34b1 : decide (sx.size + sy.size ≤ 9223372036854775807) = true := decide_eq_true c34
                      try have c34b2 : (9223372036854775807 < sx.size + sy.size) = False := eq_false (Nat.not_lt.2 c34)
                      replace H := Option.bind_eq_some_iff.mp H
                      obtain ⟨t375, A350, H⟩ := H
                      replace H : (boltinglaw05_NamesJoin.j0 k sx kc (!t375)) = some r := H
                      have A35 := Aside0.mk A350
                      clear A350
                      have H' := Aside0.mk H
                      clear H
                      go_wp2_with (first | ((with_reducible refine gate_callee (f := 30) rfl ?_); refine goesL_ (some 25) rfl rfl Try.func30 (by kernel_rfl) rfl #[.string sx] rfl (by (try simp only [List.map_toArray, List.map_cons, List.map_nil]); first | done | (simp only [hji4]; rfl) | rfl | (simp only [List.length_drop, List.length_take]; rfl)) ?_; (with_reducible refine (names_Attr.calls k sx false _ A12.out).mono ?_); rintro e w' ⟨rfl, ⟨nd, rfl⟩⟩; refine ⟨_, rfl, ?_⟩) | (go_at_call 28; (with_reducible refine (names_Right.calls k sx true _ A30.out).mono ?_); rintro e w' ⟨rfl, ⟨nd, rfl⟩⟩) | (go_at_call 30; (with_reducible refine (names_Attr.calls k sy true _ A32.out).mono ?_); rintro e w' ⟨rfl, ⟨nd, rfl⟩⟩) | (go_at_call 28; (with_reducible refine (names_Right.calls k (sx ++ sy) t375 _ A35.out).mono ?_); rintro e w' ⟨rfl, ⟨nd, rfl⟩⟩))
                      go_meet
                      case rel => exact ⟨_, (!t375), (by first | rfl | (simp; done) | (congr 1; first | (with_reducible assumption) | (symm; with_reducible assumption)) | (simp [*]; done) | (simp only [ne_nil_empty]; done) | (rw [ne_nil_empty]; rfl)), H', ⟨by first | omega | exact Nat.le_refl _⟩, ⟨by repeat (first | (with_reducible first | exact HB.out | apply below_alloc | apply pw_below_drewN | apply below_drew1) | exact HB.out)⟩⟩
                    · rw [if_neg c34] at H
                      exact absurd H (by simp)
                  · replace c33 := Bool.eq_false_iff.mpr c33
                    subst c33
                    have H1 : (boltinglaw05_NamesJoin.j0 k sx kc false) = some r := by rw [if_neg (show ¬ (false = true) by decide)] at H; exact H
                    clear H
                    have H := H1
                    clear H1
                    have H' := Aside0.mk H
                    clear H
                    go_wp2_with (first | ((with_reducible refine gate_callee (f := 30) rfl ?_); refine goesL_ (some 25) rfl rfl Try.func30 (by kernel_rfl) rfl #[.string sx] rfl (by (try simp only [List.map_toArray, List.map_cons, List.map_nil]); first | done | (simp only [hji4]; rfl) | rfl | (simp only [List.length_drop, List.length_take]; rfl)) ?_; (with_reducible refine (names_Attr.calls k sx false _ A12.out).mono ?_); rintro e w' ⟨rfl, ⟨nd, rfl⟩⟩; refine ⟨_, rfl, ?_⟩) | (go_at_call 28; (with_reducible refine (names_Right.calls k sx true _ A30.out).mono ?_); rintro e w' ⟨rfl, ⟨nd, rfl⟩⟩) | (go_at_call 30; (with_reducible refine (names_Attr.calls k sy false _ A32.out).mono ?_); rintro e w' ⟨rfl, ⟨nd, rfl⟩⟩))
                    go_meet
                    case rel => exact ⟨_, (false), (by first | rfl | (simp; done) | (congr 1; first | (with_reducible assumption) | (symm; with_reducible assumption)) | (simp [*]; done) | (simp only [ne_nil_empty]; done) | (rw [ne_nil_empty]; rfl)), H', ⟨by first | omega | exact Nat.le_refl _⟩, ⟨by repeat (first | (with_reducible first | exact HB.out | apply below_alloc | apply pw_below_drewN | apply below_drew1) | exact HB.out)⟩⟩
                · replace c31 := Bool.eq_false_iff.mpr c31
                  subst c31
                  have H1 : (boltinglaw05_NamesJoin.j0 k sx kc false) = some r := by rw [if_neg (show ¬ (false = true) by decide)] at H; exact H
                  clear H
                  have H := H1
                  clear H1
                  have H' := Aside0.mk H
                  clear H
                  go_wp2_with (first | ((with_reducible refine gate_callee (f := 30) rfl ?_); refine goesL_ (some 25) rfl rfl Try.func30 (by kernel_rfl) rfl #[.string sx] rfl (by (try simp only [List.map_toArray, List.map_cons, List.map_nil]); first | done | (simp only [hji4]; rfl) | rfl | (simp only [List.length_drop, List.length_take]; rfl)) ?_; (with_reducible refine (names_Attr.calls k sx false _ A12.out).mono ?_); rintro e w' ⟨rfl, ⟨nd, rfl⟩⟩; refine ⟨_, rfl, ?_⟩) | (go_at_call 28; (with_reducible refine (names_Right.calls k sx false _ A30.out).mono ?_); rintro e w' ⟨rfl, ⟨nd, rfl⟩⟩))
                  go_meet
                  case rel => exact ⟨_, (false), (by first | rfl | (simp; done) | (congr 1; first | (with_reducible assumption) | (symm; with_reducible assumption)) | (simp [*]; done) | (simp only [ne_nil_empty]; done) | (rw [ne_nil_empty]; rfl)), H', ⟨by first | omega | exact Nat.le_refl _⟩, ⟨by repeat (first | (with_reducible first | exact HB.out | apply below_alloc | apply pw_below_drewN | apply below_drew1) | exact HB.out)⟩⟩
            case rest =>
              clear HC11
              try clear c1
              try clear c2
              try clear p2
              try clear c3
              try clear c5
              try clear c5b0
              try clear c5b1
              try clear c6
              try clear c6b0
              try clear c6b1
              try clear p6
              try clear c7
              try clear c8
              try clear c8b0
              try clear c8b1
              try clear c9
              try clear c9b0
              try clear c9b1
              try clear c10
              try clear c10b0
              try clear c10b1
              try clear c13
              try clear c15
              try clear c16
              try clear c16b0
              try clear c16b1
              try clear c16b2
              try clear c18
              try clear c20
              try clear c22
              try clear c25
              try clear c27
              try clear c28
              try clear c28b0
              try clear c28b1
              try clear c28b2
              try clear c30
              try clear c31
              try clear c33
              try clear c34
              try clear c34b0
              try clear c34b1
              try clear c34b2
              obtain ⟨kq, x51_10, rfl, HA, HJ10, HB⟩ := hcut
              cases kq with
              | zero => exact absurd HA.out (by simp [boltinglaw05_NamesJoin.j0])
              | succ kj10 =>
                have H := HA.out
                clear HA
                simp only [boltinglaw05_NamesJoin.j0] at H
                by_cases c36 : x51_10 = true
                · subst c36
                  have H1 : (some false) = some r := by rw [if_pos rfl] at H; exact H
                  clear H
                  have H := H1
                  clear H1
                  obtain rfl := Option.some.inj H
                  go_wp2
                  go_ret
                  exact ⟨by first | rfl | (simp [errW_none, errW_some] <;> rfl) | (simp only [← hji4, ← hji7]; first | rfl | (simp [errW_none, errW_some] <;> rfl)) | (simp [*, errW_none, errW_some] <;> rfl), by repeat (first | (with_reducible first | exact HB.out | apply below_alloc | apply pw_below_drewN | apply below_drew1) | exact HB.out)⟩
                · replace c36 := Bool.eq_false_iff.mpr c36
                  subst c36
                  have H1 : ((names_Right.f kj10 sx).bind fun t376 => (if t376 = true then (if kc = 0 then ((names_Attr.f kj10 sx).bind fun t377 => (if t377 = true then ((boltinglaw05_fixed.f kj10).bind fun t378 => (some t378)) else ((boltinglaw05_fixed.f kj10).bind fun t379 => (some t379)))) else (if 0 ≤ kc then (if kc ≤ (sx.size : Int) then ((names_Right.f kj10 (sx.extract 0 (kc : Int).toNat)).bind fun t380 => (if t380 = true then ((names_Attr.f kj10 sx).bind fun t381 => (if t381 = true then ((names_Attr.f kj10 (sx.extract 0 (kc : Int).toNat)).bind fun t382 => (if t382 = true then ((boltinglaw05_fixed.f kj10).bind fun t383 => (some t383)) else (some false))) else ((boltinglaw05_fixed.f kj10).bind fun t384 => (some t384)))) else (some false))) else (none)) else (none))) else ((names_Attr.f kj10 sx).bind fun t385 => (if t385 = true then (if kc = 0 then ((boltinglaw05_fixed.f kj10).bind fun t386 => (some t386)) else (if 0 ≤ kc then (if kc ≤ (sx.size : Int) then ((names_Attr.f kj10 (sx.extract 0 (kc : Int).toNat)).bind fun t387 => (if t387 = true then ((boltinglaw05_fixed.f kj10).bind fun t388 => (some t388)) else (some false))) else (none)) else (none))) else ((boltinglaw05_fixed.f kj10).bind fun t389 => (some t389)))))) = some r := by rw [if_neg (show ¬ (false = true) by decide)] at H; exact H
                  clear H
                  have H := H1
                  clear H1
                  replace H := Option.bind_eq_some_iff.mp H
                  obtain ⟨t376, A370, H⟩ := H
                  replace H : (if t376 = true then (if kc = 0 then ((names_Attr.f kj10 sx).bind fun t377 => (if t377 = true then ((boltinglaw05_fixed.f kj10).bind fun t378 => (some t378)) else ((boltinglaw05_fixed.f kj10).bind fun t379 => (some t379)))) else (if 0 ≤ kc then (if kc ≤ (sx.size : Int) then ((names_Right.f kj10 (sx.extract 0 (kc : Int).toNat)).bind fun t380 => (if t380 = true then ((names_Attr.f kj10 sx).bind fun t381 => (if t381 = true then ((names_Attr.f kj10 (sx.extract 0 (kc : Int).toNat)).bind fun t382 => (if t382 = true then ((boltinglaw05_fixed.f kj10).bind fun t383 => (some t383)) else (some false))) else ((boltinglaw05_fixed.f kj10).bind fun t384 => (some t384)))) else (some false))) else (none)) else (none))) else ((names_Attr.f kj10 sx).bind fun t385 => (if t385 = true then (if kc = 0 then ((boltinglaw05_fixed.f kj10).bind fun t386 => (some t386)) else (if 0 ≤ kc then (if kc ≤ (sx.size : Int) then ((names_Attr.f kj10 (sx.extract 0 (kc : Int).toNat)).bind fun t387 => (if t387 = true then ((boltinglaw05_fixed.f kj10).bind fun t388 => (some t388)) else (some false))) else (none)) else (none))) else ((boltinglaw05_fixed.f kj10).bind fun t389 => (some t389))))) = some r := H
                  have A37 := Aside0.mk A370
                  clear A370
                  by_cases c38 : t376 = true
                  · subst c38
                    have H1 : (if kc = 0 then ((names_Attr.f kj10 sx).bind fun t377 => (if t377 = true then ((boltinglaw05_fixed.f kj10).bind fun t378 => (some t378)) else ((boltinglaw05_fixed.f kj10).bind fun t379 => (some t379)))) else (if 0 ≤ kc then (if kc ≤ (sx.size : Int) then ((names_Right.f kj10 (sx.extract 0 (kc : Int).toNat)).bind fun t380 => (if t380 = true then ((names_Attr.f kj10 sx).bind fun t381 => (if t381 = true then ((names_Attr.f kj10 (sx.extract 0 (kc : Int).toNat)).bind fun t382 => (if t382 = true then ((boltinglaw05_fixed.f kj10).bind fun t383 => (some t383)) else (some false))) else ((boltinglaw05_fixed.f kj10).bind fun t384 => (some t384)))) else (some false))) else (none)) else (none))) = some r := by rw [if_pos rfl] at H; exact H
                    clear H
                    have H := H1
                    clear H1
                    by_cases c39 : kc = 0
                    · rw [if_pos c39] at H
                      have c39b0 : (kc == 0) = true := beq_iff_eq.mpr c39
                      have c39b1 : (kc != 0) = false := bne_eq_false_iff_eq.mpr c39
                      clear c39
                      replace H := Option.bind_eq_some_iff.mp H
                      obtain ⟨t377, A400, H⟩ := H
                      replace H : (if t377 = true then ((boltinglaw05_fixed.f kj10).bind fun t378 => (some t378)) else ((boltinglaw05_fixed.f kj10).bind fun t379 => (some t379))) = some r := H
                      have A40 := Aside0.mk A400
                      clear A400
                      by_cases c41 : t377 = true
                      · subst c41
                        have H1 : ((boltinglaw05_fixed.f kj10).bind fun t378 => (some t378)) = some r := by rw [if_pos rfl] at H; exact H
                        clear H
                        have H := H1
                        clear H1
                        replace H := Option.bind_eq_some_iff.mp H
                        obtain ⟨t378, A420, H⟩ := H
                        replace H : (some t378) = some r := H
                        have A42 := Aside0.mk A420
                        clear A420
                        obtain rfl := Option.some.inj H
                        go_wp2_with (first | ((with_reducible refine gate_callee (f := 28) rfl ?_); refine goesL_ (some 53) rfl rfl Try.func28 (by kernel_rfl) rfl #[.string sx] rfl (by (try simp only [List.map_toArray, List.map_cons, List.map_nil]); first | done | (simp only [hji4]; rfl) | rfl | (simp only [List.length_drop, List.length_take]; rfl)) ?_; (with_reducible refine (names_Right.calls kj10 sx true _ A37.out).mono ?_); rintro e w' ⟨rfl, ⟨nd, rfl⟩⟩; refine ⟨_, rfl, ?_⟩) | (go_at_call 30; (with_reducible refine (names_Attr.calls kj10 sx true _ A40.out).mono ?_); rintro e w' ⟨rfl, ⟨nd, rfl⟩⟩) | (go_at_call 10; (with_reducible refine (boltinglaw05_fixed.calls kj10  t378 _ A42.out).mono ?_); rintro e w43 ⟨rfl, hb⟩; have n0_ := Aside0.mk (below_step (by repeat (first | (with_reducible first | exact HB.out | apply below_alloc | apply pw_below_drewN | apply below_drew1) | exact HB.out)) hb); clear HB; have HB := n0_; clear n0_; (try clear hb); (try clear hb2); (try clear hk); (try clear hi)))
                        go_ret
                        exact ⟨by first | rfl | (simp [errW_none, errW_some] <;> rfl) | (simp only [← hji4, ← hji7]; first | rfl | (simp [errW_none, errW_some] <;> rfl)) | (simp [*, errW_none, errW_some] <;> rfl), by repeat (first | (with_reducible first | exact HB.out | apply below_alloc | apply pw_below_drewN | apply below_drew1) | exact HB.out)⟩
                      · replace c41 := Bool.eq_false_iff.mpr c41
                        subst c41
                        have H1 : ((boltinglaw05_fixed.f kj10).bind fun t379 => (some t379)) = some r := by rw [if_neg (show ¬ (false = true) by decide)] at H; exact H
                        clear H
                        have H := H1
                        clear H1
                        replace H := Option.bind_eq_some_iff.mp H
                        obtain ⟨t379, A440, H⟩ := H
                        replace H : (some t379) = some r := H
                        have A44 := Aside0.mk A440
                        clear A440
                        obtain rfl := Option.some.inj H
                        go_wp2_with (first | ((with_reducible refine gate_callee (f := 28) rfl ?_); refine goesL_ (some 53) rfl rfl Try.func28 (by kernel_rfl) rfl #[.string sx] rfl (by (try simp only [List.map_toArray, List.map_cons, List.map_nil]); first | done | (simp only [hji4]; rfl) | rfl | (simp only [List.length_drop, List.length_take]; rfl)) ?_; (with_reducible refine (names_Right.calls kj10 sx true _ A37.out).mono ?_); rintro e w' ⟨rfl, ⟨nd, rfl⟩⟩; refine ⟨_, rfl, ?_⟩) | (go_at_call 30; (with_reducible refine (names_Attr.calls kj10 sx false _ A40.out).mono ?_); rintro e w' ⟨rfl, ⟨nd, rfl⟩⟩) | (go_at_call 10; (with_reducible refine (boltinglaw05_fixed.calls kj10  t379 _ A44.out).mono ?_); rintro e w45 ⟨rfl, hb⟩; have n0_ := Aside0.mk (below_step (by repeat (first | (with_reducible first | exact HB.out | apply below_alloc | apply pw_below_drewN | apply below_drew1) | exact HB.out)) hb); clear HB; have HB := n0_; clear n0_; (try clear hb); (try clear hb2); (try clear hk); (try clear hi)))
                        go_ret
                        exact ⟨by first | rfl | (simp [errW_none, errW_some] <;> rfl) | (simp only [← hji4, ← hji7]; first | rfl | (simp [errW_none, errW_some] <;> rfl)) | (simp [*, errW_none, errW_some] <;> rfl), by repeat (first | (with_reducible first | exact HB.out | apply below_alloc | apply pw_below_drewN | apply below_drew1) | exact HB.out)⟩
                    · rw [if_neg c39] at H
                      have c39b0 : (kc == 0) = false := beq_eq_false_iff_ne.mpr c39
                      have c39b1 : (kc != 0) = true := bne_iff_ne.mpr c39
                      obtain ⟨ji46, hji46⟩ : ∃ j_ : Int, kc = j_ := ⟨_, rfl⟩
                      replace H : (if 0 ≤ (ji46) then (if (ji46) ≤ (sx.size : Int) then ((names_Right.f kj10 (sx.extract 0 ((ji46) : Int).toNat)).bind fun t380 => (if t380 = true then ((names_Attr.f kj10 sx).bind fun t381 => (if t381 = true then ((names_Attr.f kj10 (sx.extract 0 ((ji46) : Int).toNat)).bind fun t382 => (if t382 = true then ((boltinglaw05_fixed.f kj10).bind fun t383 => (some t383)) else (some false))) else ((boltinglaw05_fixed.f kj10).bind fun t384 => (some t384)))) else (some false))) else (none)) else (none)) = some r := by first | (rw [hji46] at H; exact H) | (simp only [hji46] at H ⊢; exact H)
                      (try rw [hji46] at c39b0)
                      (try rw [hji46] at c39b1)
                      (try rw [hji46] at A37)
                      by_cases c47 : 0 ≤ (ji46)
                      · rw [if_pos c47] at H
                        have c47b0 := eq_true c47
                        have c47b1 : decide (0 ≤ (ji46)) = true := decide_eq_true c47
                        clear c47
                        by_cases c48 : (ji46) ≤ (sx.size : Int)
                        · rw [if_pos c48] at H
                          have c48b0 := eq_true c48
                          have c48b1 : decide ((ji46) ≤ (sx.size : Int)) = true := decide_eq_true c48
                          clear c48
                          replace H := Option.bind_eq_some_iff.mp H
                          obtain ⟨t380, A490, H⟩ := H
                          replace H : (if t380 = true then ((names_Attr.f kj10 sx).bind fun t381 => (if t381 = true then ((names_Attr.f kj10 (sx.extract 0 ((ji46) : Int).toNat)).bind fun t382 => (if t382 = true then ((boltinglaw05_fixed.f kj10).bind fun t383 => (some t383)) else (some false))) else ((boltinglaw05_fixed.f kj10).bind fun t384 => (some t384)))) else (some false)) = some r := H
                          have A49 := Aside0.mk A490
                          clear A490
                          by_cases c50 : t380 = true
                          · subst c50
                            have H1 : ((names_Attr.f kj10 sx).bind fun t381 => (if t381 = true then ((names_Attr.f kj10 (sx.extract 0 ((ji46) : Int).toNat)).bind fun t382 => (if t382 = true then ((boltinglaw05_fixed.f kj10).bind fun t383 => (some t383)) else (some false))) else ((boltinglaw05_fixed.f kj10).bind fun t384 => (some t384)))) = some r := by rw [if_pos rfl] at H; exact H
                            clear H
                            have H := H1
                            clear H1
                            replace H := Option.bind_eq_some_iff.mp H
                            obtain ⟨t381, A510, H⟩ := H
                            replace H : (if t381 = true then ((names_Attr.f kj10 (sx.extract 0 ((ji46) : Int).toNat)).bind fun t382 => (if t382 = true then ((boltinglaw05_fixed.f kj10).bind fun t383 => (some t383)) else (some false))) else ((boltinglaw05_fixed.f kj10).bind fun t384 => (some t384))) = some r := H
                            have A51 := Aside0.mk A510
                            clear A510
                            by_cases c52 : t381 = true
                            · subst c52
                              have H1 : ((names_Attr.f kj10 (sx.extract 0 ((ji46) : Int).toNat)).bind fun t382 => (if t382 = true then ((boltinglaw05_fixed.f kj10).bind fun t383 => (some t383)) else (some false))) = some r := by rw [if_pos rfl] at H; exact H
                              clear H
                              have H := H1
                              clear H1
                              have c53b0 := eq_true (of_decide_eq_true (by first | (with_reducible assumption) | assumption) : 0 ≤ (ji46))
                              have c54b0 := eq_true (of_decide_eq_true (by first | (with_reducible assumption) | assumption) : (ji46) ≤ (sx.size : Int))
                              replace H := Option.bind_eq_some_iff.mp H
                              obtain ⟨t382, A550, H⟩ := H
                              replace H : (if t382 = true then ((boltinglaw05_fixed.f kj10).bind fun t383 => (some t383)) else (some false)) = some r := H
                              have A55 := Aside0.mk A550
                              clear A550
                              by_cases c56 : t382 = true
                              · subst c56
                                have H1 : ((boltinglaw05_fixed.f kj10).bind fun t383 => (some t383)) = some r := by rw [if_pos rfl] at H; exact H
                                clear H
                                have H := H1
                                clear H1
                                replace H := Option.bind_eq_some_iff.mp H
                                obtain ⟨t383, A570, H⟩ := H
                                replace H : (some t383) = some r := H
                                have A57 := Aside0.mk A570
                                clear A570
                                obtain rfl := Option.some.inj H
                                go_wp2_with (first | ((with_reducible refine gate_callee (f := 28) rfl ?_); refine goesL_ (some 53) rfl rfl Try.func28 (by kernel_rfl) rfl #[.string sx] rfl (by (try simp only [List.map_toArray, List.map_cons, List.map_nil]); first | done | (simp only [hji4]; rfl) | rfl | (simp only [List.length_drop, List.length_take]; rfl)) ?_; (with_reducible refine (names_Right.calls kj10 sx true _ A37.out).mono ?_); rintro e w' ⟨rfl, ⟨nd, rfl⟩⟩; refine ⟨_, rfl, ?_⟩) | (go_at_call 28; (with_reducible refine (names_Right.calls kj10 (sx.extract 0 ((ji46) : Int).toNat) true _ A49.out).mono ?_); rintro e w' ⟨rfl, ⟨nd, rfl⟩⟩) | (go_at_call 30; (with_reducible refine (names_Attr.calls kj10 sx true _ A51.out).mono ?_); rintro e w' ⟨rfl, ⟨nd, rfl⟩⟩) | (go_at_call 30; (with_reducible refine (names_Attr.calls kj10 (sx.extract 0 ((ji46) : Int).toNat) true _ A55.out).mono ?_); rintro e w' ⟨rfl, ⟨nd, rfl⟩⟩) | (go_at_call 10; (with_reducible refine (boltinglaw05_fixed.calls kj10  t383 _ A57.out).mono ?_); rintro e w58 ⟨rfl, hb⟩; have n0_ := Aside0.mk (below_step (by repeat (first | (with_reducible first | exact HB.out | apply below_alloc | apply pw_below_drewN | apply below_drew1) | exact HB.out)) hb); clear HB; have HB := n0_; clear n0_; (try clear hb); (try clear hb2); (try clear hk); (try clear hi)))
                                go_ret
                                exact ⟨by first | rfl | (simp [errW_none, errW_some] <;> rfl) | (simp only [← hji4, ← hji7, ← hji46]; first | rfl | (simp [errW_none, errW_some] <;> rfl)) | (simp [*, errW_none, errW_some] <;> rfl), by repeat (first | (with_reducible first | exact HB.out | apply below_alloc | apply pw_below_drewN | apply below_drew1) | exact HB.out)⟩
                              · replace c56 := Bool.eq_false_iff.mpr c56
                                subst c56
                                have H1 : (some false) = some r := by rw [if_neg (show ¬ (false = true) by decide)] at H; exact H
                                clear H
                                have H := H1
                                clear H1
                                obtain rfl := Option.some.inj H
                                go_wp2_with (first | ((with_reducible refine gate_callee (f := 28) rfl ?_); refine goesL_ (some 53) rfl rfl Try.func28 (by kernel_rfl) rfl #[.string sx] rfl (by (try simp only [List.map_toArray, List.map_cons, List.map_nil]); first | done | (simp only [hji4]; rfl) | rfl | (simp only [List.length_drop, List.length_take]; rfl)) ?_; (with_reducible refine (names_Right.calls kj10 sx true _ A37.out).mono ?_); rintro e w' ⟨rfl, ⟨nd, rfl⟩⟩; refine ⟨_, rfl, ?_⟩) | (go_at_call 28; (with_reducible refine (names_Right.calls kj10 (sx.extract 0 ((ji46) : Int).toNat) true _ A49.out).mono ?_); rintro e w' ⟨rfl, ⟨nd, rfl⟩⟩) | (go_at_call 30; (with_reducible refine (names_Attr.calls kj10 sx true _ A51.out).mono ?_); rintro e w' ⟨rfl, ⟨nd, rfl⟩⟩) | (go_at_call 30; (with_reducible refine (names_Attr.calls kj10 (sx.extract 0 ((ji46) : Int).toNat) false _ A55.out).mono ?_); rintro e w' ⟨rfl, ⟨nd, rfl⟩⟩))
                                go_ret
                                exact ⟨by first | rfl | (simp [errW_none, errW_some] <;> rfl) | (simp only [← hji4, ← hji7, ← hji46]; first | rfl | (simp [errW_none, errW_some] <;> rfl)) | (simp [*, errW_none, errW_some] <;> rfl), by repeat (first | (with_reducible first | exact HB.out | apply below_alloc | apply pw_below_drewN | apply below_drew1) | exact HB.out)⟩
                            · replace c52 := Bool.eq_false_iff.mpr c52
                              subst c52
                              have H1 : ((boltinglaw05_fixed.f kj10).bind fun t384 => (some t384)) = some r := by rw [if_neg (show ¬ (false = true) by decide)] at H; exact H
                              clear H
                              have H := H1
                              clear H1
                              replace H := Option.bind_eq_some_iff.mp H
                              obtain ⟨t384, A590, H⟩ := H
                              replace H : (some t384) = some r := H
                              have A59 := Aside0.mk A590
                              clear A590
                              obtain rfl := Option.some.inj H
                              go_wp2_with (first | ((with_reducible refine gate_callee (f := 28) rfl ?_); refine goesL_ (some 53) rfl rfl Try.func28 (by kernel_rfl) rfl #[.string sx] rfl (by (try simp only [List.map_toArray, List.map_cons, List.map_nil]); first | done | (simp only [hji4]; rfl) | rfl | (simp only [List.length_drop, List.length_take]; rfl)) ?_; (with_reducible refine (names_Right.calls kj10 sx true _ A37.out).mono ?_); rintro e w' ⟨rfl, ⟨nd, rfl⟩⟩; refine ⟨_, rfl, ?_⟩) | (go_at_call 28; (with_reducible refine (names_Right.calls kj10 (sx.extract 0 ((ji46) : Int).toNat) true _ A49.out).mono ?_); rintro e w' ⟨rfl, ⟨nd, rfl⟩⟩) | (go_at_call 30; (with_reducible refine (names_Attr.calls kj10 sx false _ A51.out).mono ?_); rintro e w' ⟨rfl, ⟨nd, rfl⟩⟩) | (go_at_call 10; (with_reducible refine (boltinglaw05_fixed.calls kj10  t384 _ A59.out).mono ?_); rintro e w60 ⟨rfl, hb⟩; have n0_ := Aside0.mk (below_step (by repeat (first | (with_reducible first | exact HB.out | apply below_alloc | apply pw_below_drewN | apply below_drew1) | exact HB.out)) hb); clear HB; have HB := n0_; clear n0_; (try clear hb); (try clear hb2); (try clear hk); (try clear hi)))
                              go_ret
                              exact ⟨by first | rfl | (simp [errW_none, errW_some] <;> rfl) | (simp only [← hji4, ← hji7, ← hji46]; first | rfl | (simp [errW_none, errW_some] <;> rfl)) | (simp [*, errW_none, errW_some] <;> rfl), by repeat (first | (with_reducible first | exact HB.out | apply below_alloc | apply pw_below_drewN | apply below_drew1) | exact HB.out)⟩
                          · replace c50 := Bool.eq_false_iff.mpr c50
                            subst c50
                            have H1 : (some false) = some r := by rw [if_neg (show ¬ (false = true) by decide)] at H; exact H
                            clear H
                            have H := H1
                            clear H1
                            obtain rfl := Option.some.inj H
                            go_wp2_with (first | ((with_reducible refine gate_callee (f := 28) rfl ?_); refine goesL_ (some 53) rfl rfl Try.func28 (by kernel_rfl) rfl #[.string sx] rfl (by (try simp only [List.map_toArray, List.map_cons, List.map_nil]); first | done | (simp only [hji4]; rfl) | rfl | (simp only [List.length_drop, List.length_take]; rfl)) ?_; (with_reducible refine (names_Right.calls kj10 sx true _ A37.out).mono ?_); rintro e w' ⟨rfl, ⟨nd, rfl⟩⟩; refine ⟨_, rfl, ?_⟩) | (go_at_call 28; (with_reducible refine (names_Right.calls kj10 (sx.extract 0 ((ji46) : Int).toNat) false _ A49.out).mono ?_); rintro e w' ⟨rfl, ⟨nd, rfl⟩⟩))
                            go_ret
                            exact ⟨by first | rfl | (simp [errW_none, errW_some] <;> rfl) | (simp only [← hji4, ← hji7, ← hji46]; first | rfl | (simp [errW_none, errW_some] <;> rfl)) | (simp [*, errW_none, errW_some] <;> rfl), by repeat (first | (with_reducible first | exact HB.out | apply below_alloc | apply pw_below_drewN | apply below_drew1) | exact HB.out)⟩
                        · rw [if_neg c48] at H
                          exact absurd H (by simp)
                      · rw [if_neg c47] at H
                        exact absurd H (by simp)
                  · replace c38 := Bool.eq_false_iff.mpr c38
                    subst c38
                    have H1 : ((names_Attr.f kj10 sx).bind fun t385 => (if t385 = true then (if kc = 0 then ((boltinglaw05_fixed.f kj10).bind fun t386 => (some t386)) else (if 0 ≤ kc then (if kc ≤ (sx.size : Int) then ((names_Attr.f kj10 (sx.extract 0 (kc : Int).toNat)).bind fun t387 => (if t387 = true then ((boltinglaw05_fixed.f kj10).bind fun t388 => (some t388)) else (some false))) else (none)) else (none))) else ((boltinglaw05_fixed.f kj10).bind fun t389 => (some t389)))) = some r := by rw [if_neg (show ¬ (false = true) by decide)] at H; exact H
                    clear H
                    have H := H1
                    clear H1
                    replace H := Option.bind_eq_some_iff.mp H
                    obtain ⟨t385, A610, H⟩ := H
                    replace H : (if t385 = true then (if kc = 0 then ((boltinglaw05_fixed.f kj10).bind fun t386 => (some t386)) else (if 0 ≤ kc then (if kc ≤ (sx.size : Int) then ((names_Attr.f kj10 (sx.extract 0 (kc : Int).toNat)).bind fun t387 => (if t387 = true then ((boltinglaw05_fixed.f kj10).bind fun t388 => (some t388)) else (some false))) else (none)) else (none))) else ((boltinglaw05_fixed.f kj10).bind fun t389 => (some t389))) = some r := H
                    have A61 := Aside0.mk A610
                    clear A610
                    by_cases c62 : t385 = true
                    · subst c62
                      have H1 : (if kc = 0 then ((boltinglaw05_fixed.f kj10).bind fun t386 => (some t386)) else (if 0 ≤ kc then (if kc ≤ (sx.size : Int) then ((names_Attr.f kj10 (sx.extract 0 (kc : Int).toNat)).bind fun t387 => (if t387 = true then ((boltinglaw05_fixed.f kj10).bind fun t388 => (some t388)) else (some false))) else (none)) else (none))) = some r := by rw [if_pos rfl] at H; exact H
                      clear H
                      have H := H1
                      clear H1
                      by_cases c63 : kc = 0
                      · rw [if_pos c63] at H
                        have c63b0 : (kc == 0) = true := beq_iff_eq.mpr c63
                        have c63b1 : (kc != 0) = false := bne_eq_false_iff_eq.mpr c63
                        clear c63
                        replace H := Option.bind_eq_some_iff.mp H
                        obtain ⟨t386, A640, H⟩ := H
                        replace H : (some t386) = some r := H
                        have A64 := Aside0.mk A640
                        clear A640
                        obtain rfl := Option.some.inj H
                        go_wp2_with (first | ((with_reducible refine gate_callee (f := 28) rfl ?_); refine goesL_ (some 53) rfl rfl Try.func28 (by kernel_rfl) rfl #[.string sx] rfl (by (try simp only [List.map_toArray, List.map_cons, List.map_nil]); first | done | (simp only [hji4]; rfl) | rfl | (simp only [List.length_drop, List.length_take]; rfl)) ?_; (with_reducible refine (names_Right.calls kj10 sx false _ A37.out).mono ?_); rintro e w' ⟨rfl, ⟨nd, rfl⟩⟩; refine ⟨_, rfl, ?_⟩) | (go_at_call 30; (with_reducible refine (names_Attr.calls kj10 sx true _ A61.out).mono ?_); rintro e w' ⟨rfl, ⟨nd, rfl⟩⟩) | (go_at_call 10; (with_reducible refine (boltinglaw05_fixed.calls kj10  t386 _ A64.out).mono ?_); rintro e w65 ⟨rfl, hb⟩; have n0_ := Aside0.mk (below_step (by repeat (first | (with_reducible first | exact HB.out | apply below_alloc | apply pw_below_drewN | apply below_drew1) | exact HB.out)) hb); clear HB; have HB := n0_; clear n0_; (try clear hb); (try clear hb2); (try clear hk); (try clear hi)))
                        go_ret
                        exact ⟨by first | rfl | (simp [errW_none, errW_some] <;> rfl) | (simp only [← hji4, ← hji7]; first | rfl | (simp [errW_none, errW_some] <;> rfl)) | (simp [*, errW_none, errW_some] <;> rfl), by repeat (first | (with_reducible first | exact HB.out | apply below_alloc | apply pw_below_drewN | apply below_drew1) | exact HB.out)⟩
                      · rw [if_neg c63] at H
                        have c63b0 : (kc == 0) = false := beq_eq_false_iff_ne.mpr c63
                        have c63b1 : (kc != 0) = true := bne_iff_ne.mpr c63
                        obtain ⟨ji66, hji66⟩ : ∃ j_ : Int, kc = j_ := ⟨_, rfl⟩
                        replace H : (if 0 ≤ (ji66) then (if (ji66) ≤ (sx.size : Int) then ((names_Attr.f kj10 (sx.extract 0 ((ji66) : Int).toNat)).bind fun t387 => (if t387 = true then ((boltinglaw05_fixed.f kj10).bind fun t388 => (some t388)) else (some false))) else (none)) else (none)) = some r := by first | (rw [hji66] at H; exact H) | (simp only [hji66] at H ⊢; exact H)
                        (try rw [hji66] at c63b0)
                        (try rw [hji66] at c63b1)
                        (try rw [hji66] at A37)
                        (try rw [hji66] at A61)
                        by_cases c67 : 0 ≤ (ji66)
                        · rw [if_pos c67] at H
                          have c67b0 := eq_true c67
                          have c67b1 : decide (0 ≤ (ji66)) = true := decide_eq_true c67
                          clear c67
                          by_cases c68 : (ji66) ≤ (sx.size : Int)
                          · rw [if_pos c68] at H
                            have c68b0 := eq_true c68
                            have c68b1 : decide ((ji66) ≤ (sx.size : Int)) = true := decide_eq_true c68
                            clear c68
                            replace H := Option.bind_eq_some_iff.mp H
                            obtain ⟨t387, A690, H⟩ := H
                            replace H : (if t387 = true then ((boltinglaw05_fixed.f kj10).bind fun t388 => (some t388)) else (some false)) = some r := H
                            have A69 := Aside0.mk A690
                            clear A690
                            by_cases c70 : t387 = true
                            · subst c70
                              have H1 : ((boltinglaw05_fixed.f kj10).bind fun t388 => (some t388)) = some r := by rw [if_pos rfl] at H; exact H
                              clear H
                              have H := H1
                              clear H1
                              replace H := Option.bind_eq_some_iff.mp H
                              obtain ⟨t388, A710, H⟩ := H
                              replace H : (some t388) = some r := H
                              have A71 := Aside0.mk A710
                              clear A710
                              obtain rfl := Option.some.inj H
                              go_wp2_with (first | ((with_reducible refine gate_callee (f := 28) rfl ?_); refine goesL_ (some 53) rfl rfl Try.func28 (by kernel_rfl) rfl #[.string sx] rfl (by (try simp only [List.map_toArray, List.map_cons, List.map_nil]); first | done | (simp only [hji4]; rfl) | rfl | (simp only [List.length_drop, List.length_take]; rfl)) ?_; (with_reducible refine (names_Right.calls kj10 sx false _ A37.out).mono ?_); rintro e w' ⟨rfl, ⟨nd, rfl⟩⟩; refine ⟨_, rfl, ?_⟩) | (go_at_call 30; (with_reducible refine (names_Attr.calls kj10 sx true _ A61.out).mono ?_); rintro e w' ⟨rfl, ⟨nd, rfl⟩⟩) | (go_at_call 30; (with_reducible refine (names_Attr.calls kj10 (sx.extract 0 ((ji66) : Int).toNat) true _ A69.out).mono ?_); rintro e w' ⟨rfl, ⟨nd, rfl⟩⟩) | (go_at_call 10; (with_reducible refine (boltinglaw05_fixed.calls kj10  t388 _ A71.out).mono ?_); rintro e w72 ⟨rfl, hb⟩; have n0_ := Aside0.mk (below_step (by repeat (first | (with_reducible first | exact HB.out | apply below_alloc | apply pw_below_drewN | apply below_drew1) | exact HB.out)) hb); clear HB; have HB := n0_; clear n0_; (try clear hb); (try clear hb2); (try clear hk); (try clear hi)))
                              go_ret
                              exact ⟨by first | rfl | (simp [errW_none, errW_some] <;> rfl) | (simp only [← hji4, ← hji7, ← hji66]; first | rfl | (simp [errW_none, errW_some] <;> rfl)) | (simp [*, errW_none, errW_some] <;> rfl), by repeat (first | (with_reducible first | exact HB.out | apply below_alloc | apply pw_below_drewN | apply below_drew1) | exact HB.out)⟩
                            · replace c70 := Bool.eq_false_iff.mpr c70
                              subst c70
                              have H1 : (some false) = some r := by rw [if_neg (show ¬ (false = true) by decide)] at H; exact H
                              clear H
                              have H := H1
                              clear H1
                              obtain rfl := Option.some.inj H
                              go_wp2_with (first | ((with_reducible refine gate_callee (f := 28) rfl ?_); refine goesL_ (some 53) rfl rfl Try.func28 (by kernel_rfl) rfl #[.string sx] rfl (by (try simp only [List.map_toArray, List.map_cons, List.map_nil]); first | done | (simp only [hji4]; rfl) | rfl | (simp only [List.length_drop, List.length_take]; rfl)) ?_; (with_reducible refine (names_Right.calls kj10 sx false _ A37.out).mono ?_); rintro e w' ⟨rfl, ⟨nd, rfl⟩⟩; refine ⟨_, rfl, ?_⟩) | (go_at_call 30; (with_reducible refine (names_Attr.calls kj10 sx true _ A61.out).mono ?_); rintro e w' ⟨rfl, ⟨nd, rfl⟩⟩) | (go_at_call 30; (with_reducible refine (names_Attr.calls kj10 (sx.extract 0 ((ji66) : Int).toNat) false _ A69.out).mono ?_); rintro e w' ⟨rfl, ⟨nd, rfl⟩⟩))
                              go_ret
                              exact ⟨by first | rfl | (simp [errW_none, errW_some] <;> rfl) | (simp only [← hji4, ← hji7, ← hji66]; first | rfl | (simp [errW_none, errW_some] <;> rfl)) | (simp [*, errW_none, errW_some] <;> rfl), by repeat (first | (with_reducible first | exact HB.out | apply below_alloc | apply pw_below_drewN | apply below_drew1) | exact HB.out)⟩
                          · rw [if_neg c68] at H
                            exact absurd H (by simp)
                        · rw [if_neg c67] at H
                          exact absurd H (by simp)
                    · replace c62 := Bool.eq_false_iff.mpr c62
                      subst c62
                      have H1 : ((boltinglaw05_fixed.f kj10).bind fun t389 => (some t389)) = some r := by rw [if_neg (show ¬ (false = true) by decide)] at H; exact H
                      clear H
                      have H := H1
                      clear H1
                      replace H := Option.bind_eq_some_iff.mp H
                      obtain ⟨t389, A730, H⟩ := H
                      replace H : (some t389) = some r := H
                      have A73 := Aside0.mk A730
                      clear A730
                      obtain rfl := Option.some.inj H
                      go_wp2_with (first | ((with_reducible refine gate_callee (f := 28) rfl ?_); refine goesL_ (some 53) rfl rfl Try.func28 (by kernel_rfl) rfl #[.string sx] rfl (by (try simp only [List.map_toArray, List.map_cons, List.map_nil]); first | done | (simp only [hji4]; rfl) | rfl | (simp only [List.length_drop, List.length_take]; rfl)) ?_; (with_reducible refine (names_Right.calls kj10 sx false _ A37.out).mono ?_); rintro e w' ⟨rfl, ⟨nd, rfl⟩⟩; refine ⟨_, rfl, ?_⟩) | (go_at_call 30; (with_reducible refine (names_Attr.calls kj10 sx false _ A61.out).mono ?_); rintro e w' ⟨rfl, ⟨nd, rfl⟩⟩) | (go_at_call 10; (with_reducible refine (boltinglaw05_fixed.calls kj10  t389 _ A73.out).mono ?_); rintro e w74 ⟨rfl, hb⟩; have n0_ := Aside0.mk (below_step (by repeat (first | (with_reducible first | exact HB.out | apply below_alloc | apply pw_below_drewN | apply below_drew1) | exact HB.out)) hb); clear HB; have HB := n0_; clear n0_; (try clear hb); (try clear hb2); (try clear hk); (try clear hi)))
                      go_ret
                      exact ⟨by first | rfl | (simp [errW_none, errW_some] <;> rfl) | (simp only [← hji4, ← hji7]; first | rfl | (simp [errW_none, errW_some] <;> rfl)) | (simp [*, errW_none, errW_some] <;> rfl), by repeat (first | (with_reducible first | exact HB.out | apply below_alloc | apply pw_below_drewN | apply below_drew1) | exact HB.out)⟩
        · rw [if_neg c9] at H
          exact absurd H (by simp)
      · rw [if_neg c8] at H
        exact absurd H (by simp)
    · rw [if_neg c6] at H
      exact absurd H (by simp)
  · rw [if_neg c5] at H
    exact absurd H (by simp)

/-- THE ONE PURE STATEMENT of boltinglaw05_NamesJoin: yours. -/
def boltinglaw05_NamesJoin.Pure : Prop := ∀ (a0 : ByteArray) (a1 : ByteArray) (a2 : Int), a0.size ≤ 140737488351232 → a1.size ≤ 140737488351232 → (Lit.int .i64 a2).wf = true → ∃ k, boltinglaw05_NamesJoin.f k a0 a1 a2 = some true
theorem boltinglaw05_NamesJoin.walk (P : boltinglaw05_NamesJoin.Pure) (a0 : ByteArray) (a1 : ByteArray) (a2 : Int) (w : World) (w0 : a0.size ≤ 140737488351232) (w1 : a1.size ≤ 140737488351232) (w2 : (Lit.int .i64 a2).wf = true) :
    Calls Try.prog 7 #[.string a0, .string a1, .int .i64 a2] w fun e w' => e = .returned (.bool true) ∧ Below w.heap.size w w' := by
  obtain ⟨k, h⟩ := P a0 a1 a2 w0 w1 w2
  refine (boltinglaw05_NamesJoin.calls k a0 a1 a2 true w h).mono ?_
  rintro e w' ⟨rfl, hd⟩
  exact ⟨rfl, hd⟩

end Go.Proofs.Ytacffcdjgjiemaa.QA
