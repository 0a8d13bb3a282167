-- Written by a program of this claim's own (wip/gen/gen.py), out of the translation; an ordinary proof text.
import Derived.Test.YtllggaogjcknoaaQAx0
import Derived.Test.YtllggaogjcknoaaQAx2
import Derived.Test.YtllggaogjcknoaaQAx5
import Derived.Test.YtllggaogjcknoaaQAx8
import Derived.Test.YtllggaogjcknoaaQAx9
import Derived.Test.YtllggaogjcknoaaQAx10
import Derived.Test.YtllggaogjcknoaaQAx11
import Derived.Test.YtllggaogjcknoaaQAx12
import Derived.Test.YtllggaogjcknoaaQAx20
namespace Go.Proofs.Ytllggaogjcknoaa.QA
open Go.RowKit Go.Proofs.YtllggaogjcknoaaW.PrintWords Go.Proofs.YtllggaogjcknoaaW.PrintLast Go.Proofs.YtllggaogjcknoaaW.PrintMore
attribute [local go_sem] max2_int min2_int max_two min_two max_three min_three max_four min_four   -- for this text's walks alone
set_option linter.unusedVariables false
set_option linter.unusedSimpArgs false

/-! ### boltinglaw04_RowsPuts: function 5 -/
mutual
def boltinglaw04_RowsPuts.j0 : Nat → List (S43) → List (S43) → List (S43) → List (S43) → List (S43) → List (S43) → Int → List (S43) → Bool → List (S43) → List (S43) → Int → Int → Option (Bool)
 | 0, _, _, _, _, _, _, _, _, _, _, _, _, _ => none
 | k + 1, x3, x4, x5, x6, x7, x11, x12, x13, x93, x506000, x506001, x506002, x506003 => if x93 = true then (some false) else (if x12 = 0 then ((boltingref04_End.f k x3 x506002).bind fun t537 => (if 0 ≤ x506002 then (if x506002 ≤ t537 then (if t537 ≤ (x3.length : Int) then (if x506002 < (x3.length : Int) then ((boltingref04_Moved.f k ((x3.take (t537 : Int).toNat).drop (x506002 : Int).toNat) (wrap64 (-((rd_T43 x3 x506002).f0)))).bind fun t544 => ((boltingref04_Same.f x11 t544).bind fun t547 => (if t547 = true then (if x506002 ≤ (x3.length : Int) then ((boltingref04_End.f k x3 x506002).bind fun t553 => (if 0 ≤ t553 then (if t553 ≤ (x3.length : Int) then ((boltingref04_Join.f k (x3.take (x506002 : Int).toNat) (x3.drop (t553 : Int).toNat)).bind fun t559 => ((boltingref04_Same.f x13 t559).bind fun t562 => (boltinglaw04_RowsPuts.j1 k x3 x4 x5 x6 x7 (!t562)))) else (none)) else (none))) else (none)) else (boltinglaw04_RowsPuts.j1 k x3 x4 x5 x6 x7 true)))) else (none)) else (none)) else (none)) else (none))) else (boltinglaw04_RowsPuts.j1 k x3 x4 x5 x6 x7 false))
def boltinglaw04_RowsPuts.j1 : Nat → List (S43) → List (S43) → List (S43) → List (S43) → List (S43) → Bool → Option (Bool)
 | 0, _, _, _, _, _, _ => none
 | k + 1, x3, x4, x5, x6, x7, x132 => if x132 = true then (some false) else (boltinglaw04_RowsPuts.l0 k x3 x4 x5 x6 (x7.map fun x => x.f4.length) 0)
def boltinglaw04_RowsPuts.l0 : Nat → List (S43) → List (S43) → List (S43) → List (S43) → List Nat → Int → Option (Bool)
 | 0, _, _, _, _, _, _ => none
 | k + 1, x3, x4, x5, x6, x7, x15 => if x15 < (x7.length : Int) then (if 0 ≤ x15 then (boltinglaw04_RowsPuts.l1 k x3 x4 x5 x6 x7 x15 0) else (none)) else ((boltingref04_Same.f x3 x5).bind fun t563 => (if t563 = true then ((boltingref04_Same.f x4 x6).bind fun t564 => (if t564 = true then ((boltinglaw04_fixed.f k).bind fun t565 => (some t565)) else (some false))) else (some false)))
def boltinglaw04_RowsPuts.l1 : Nat → List (S43) → List (S43) → List (S43) → List (S43) → List Nat → Int → Int → Option (Bool)
 | 0, _, _, _, _, _, _, _ => none
 | k + 1, x3, x4, x5, x6, x7, x15, x16 => if 0 ≤ x15 then (if x15 < (x7.length : Int) then (if x16 < ((x7.getD x15.toNat 0 : Nat) : Int) then (boltinglaw04_RowsPuts.l1 k x3 x4 x5 x6 x7 x15 (wrap64 (x16 + 1))) else (boltinglaw04_RowsPuts.l0 k x3 x4 x5 x6 x7 (wrap64 (x15 + 1)))) else (none)) else (none)
end
def boltinglaw04_RowsPuts.f (k : Nat) (l0_0 : List (S43)) (l0_1 : List (S43)) (a0_2 : Int) (a0_3 : Int) : Option (Bool) := (boltinglaw04_bound.f k l0_0).bind fun t506 => ((boltinglaw04_bound.f k l0_1).bind fun t509 => ((boltingref04_Check.f k t506).bind fun t512 => (if t512 = 0 then ((boltingref04_Moved.f k t506 0).bind fun t514 => ((boltingref04_Moved.f k t509 0).bind fun t517 => ((rows_Put.f k t506 a0_2 a0_3 t509).bind fun bt520 => ((boltingref04_Put.f k t506 a0_2 a0_3 t509).bind fun bt524 => ((rows_Take.f k t506 a0_2).bind fun bt528 => ((rows_Drop.f k t506 a0_2).bind fun bt532 => (if bt520.2 = bt524.2 then ((boltingref04_Same.f bt520.1 bt524.1).bind fun t536 => (if t536 = true then (if bt528.2 = bt532.2 then (if a0_2 ≥ 0 then (boltinglaw04_RowsPuts.j0 k t506 t509 t514 t517 bt520.1 bt528.1 bt528.2 bt532.1 ((bt528.2 == 0) != (decide (a0_2 < (t506.length : Int)))) l0_0 l0_1 a0_2 a0_3) else (boltinglaw04_RowsPuts.j0 k t506 t509 t514 t517 bt520.1 bt528.1 bt528.2 bt532.1 ((bt528.2 == 0) != false) l0_0 l0_1 a0_2 a0_3)) else (boltinglaw04_RowsPuts.j0 k t506 t509 t514 t517 bt520.1 bt528.1 bt528.2 bt532.1 true l0_0 l0_1 a0_2 a0_3)) else (boltinglaw04_RowsPuts.j0 k t506 t509 t514 t517 bt520.1 bt528.1 bt528.2 bt532.1 true l0_0 l0_1 a0_2 a0_3))) else (boltinglaw04_RowsPuts.j0 k t506 t509 t514 t517 bt520.1 bt528.1 bt528.2 bt532.1 true l0_0 l0_1 a0_2 a0_3)))))))) else ((boltinglaw04_fixed.f k).bind fun t513 => (some t513)))))
theorem boltinglaw04_RowsPuts.mono_l : ∀ k, (∀ y0 y1 y2 y3 y4 y5 y6 y7 y8 y9 y10 y11 y12, LeO (boltinglaw04_RowsPuts.j0 k y0 y1 y2 y3 y4 y5 y6 y7 y8 y9 y10 y11 y12) (boltinglaw04_RowsPuts.j0 (k + 1) y0 y1 y2 y3 y4 y5 y6 y7 y8 y9 y10 y11 y12)) ∧ (∀ y0 y1 y2 y3 y4 y5, LeO (boltinglaw04_RowsPuts.j1 k y0 y1 y2 y3 y4 y5) (boltinglaw04_RowsPuts.j1 (k + 1) y0 y1 y2 y3 y4 y5)) ∧ (∀ y0 y1 y2 y3 y4 y5, LeO (boltinglaw04_RowsPuts.l0 k y0 y1 y2 y3 y4 y5) (boltinglaw04_RowsPuts.l0 (k + 1) y0 y1 y2 y3 y4 y5)) ∧ (∀ y0 y1 y2 y3 y4 y5 y6, LeO (boltinglaw04_RowsPuts.l1 k y0 y1 y2 y3 y4 y5 y6) (boltinglaw04_RowsPuts.l1 (k + 1) y0 y1 y2 y3 y4 y5 y6))
 | 0 => ⟨fun _ _ _ _ _ _ _ _ _ _ _ _ _ r h => by simp [boltinglaw04_RowsPuts.j0] at h, fun _ _ _ _ _ _ r h => by simp [boltinglaw04_RowsPuts.j1] at h, fun _ _ _ _ _ _ r h => by simp [boltinglaw04_RowsPuts.l0] at h, fun _ _ _ _ _ _ _ r h => by simp [boltinglaw04_RowsPuts.l1] at h⟩
 | k + 1 => by
  obtain ⟨ih0, ih1, ih2, ih3⟩ := boltinglaw04_RowsPuts.mono_l k
  refine ⟨?_, ?_, ?_, ?_⟩
  ·intro y0 y1 y2 y3 y4 y5 y6 y7 y8 y9 y10 y11 y12
   unfold boltinglaw04_RowsPuts.j0
   repeat' first
   | (with_reducible exact ih0 _ _ _ _ _ _ _ _ _ _ _ _ _)
   | (with_reducible exact ih1 _ _ _ _ _ _)
   | (with_reducible exact ih2 _ _ _ _ _ _)
   | (with_reducible exact ih3 _ _ _ _ _ _ _)
   | (with_reducible exact boltinglaw04_bound.mono _ _)
   | (with_reducible exact boltinglaw04_fixed.mono _)
   | (with_reducible exact boltingref04_Check.mono _ _)
   | (with_reducible exact boltingref04_End.mono _ _ _)
   | (with_reducible exact boltingref04_Join.mono _ _ _)
   | (with_reducible exact boltingref04_Moved.mono _ _ _)
   | (with_reducible exact boltingref04_Put.mono _ _ _ _ _)
   | (with_reducible exact rows_Drop.mono _ _ _)
   | (with_reducible exact rows_Put.mono _ _ _ _ _)
   | (with_reducible exact rows_Take.mono _ _ _)
   | (with_reducible exact LeO.refl _)
   | (with_reducible exact LeO.none _)
   | (with_reducible refine LeO.ite ?_ ?_)
   | (with_reducible refine LeO.bind ?_ (fun _ => ?_))
   | exact ih0 _ _ _ _ _ _ _ _ _ _ _ _ _
   | exact ih1 _ _ _ _ _ _
   | exact ih2 _ _ _ _ _ _
   | exact ih3 _ _ _ _ _ _ _
   | exact boltinglaw04_bound.mono _ _
   | exact boltinglaw04_fixed.mono _
   | exact boltingref04_Check.mono _ _
   | exact boltingref04_End.mono _ _ _
   | exact boltingref04_Join.mono _ _ _
   | exact boltingref04_Moved.mono _ _ _
   | exact boltingref04_Put.mono _ _ _ _ _
   | exact rows_Drop.mono _ _ _
   | exact rows_Put.mono _ _ _ _ _
   | exact rows_Take.mono _ _ _
   | exact LeO.none _
   | refine LeO.ite ?_ ?_
   | refine LeO.bind ?_ (fun _ => ?_)
  ·intro y0 y1 y2 y3 y4 y5
   unfold boltinglaw04_RowsPuts.j1
   repeat' first
   | (with_reducible exact ih0 _ _ _ _ _ _ _ _ _ _ _ _ _)
   | (with_reducible exact ih1 _ _ _ _ _ _)
   | (with_reducible exact ih2 _ _ _ _ _ _)
   | (with_reducible exact ih3 _ _ _ _ _ _ _)
   | (with_reducible exact boltinglaw04_bound.mono _ _)
   | (with_reducible exact boltinglaw04_fixed.mono _)
   | (with_reducible exact boltingref04_Check.mono _ _)
   | (with_reducible exact boltingref04_End.mono _ _ _)
   | (with_reducible exact boltingref04_Join.mono _ _ _)
   | (with_reducible exact boltingref04_Moved.mono _ _ _)
   | (with_reducible exact boltingref04_Put.mono _ _ _ _ _)
   | (with_reducible exact rows_Drop.mono _ _ _)
   | (with_reducible exact rows_Put.mono _ _ _ _ _)
   | (with_reducible exact rows_Take.mono _ _ _)
   | (with_reducible exact LeO.refl _)
   | (with_reducible exact LeO.none _)
   | (with_reducible refine LeO.ite ?_ ?_)
   | (with_reducible refine LeO.bind ?_ (fun _ => ?_))
   | exact ih0 _ _ _ _ _ _ _ _ _ _ _ _ _
   | exact ih1 _ _ _ _ _ _
   | exact ih2 _ _ _ _ _ _
   | exact ih3 _ _ _ _ _ _ _
   | exact boltinglaw04_bound.mono _ _
   | exact boltinglaw04_fixed.mono _
   | exact boltingref04_Check.mono _ _
   | exact boltingref04_End.mono _ _ _
   | exact boltingref04_Join.mono _ _ _
   | exact boltingref04_Moved.mono _ _ _
   | exact boltingref04_Put.mono _ _ _ _ _
   | exact rows_Drop.mono _ _ _
   | exact rows_Put.mono _ _ _ _ _
   | exact rows_Take.mono _ _ _
   | exact LeO.none _
   | refine LeO.ite ?_ ?_
   | refine LeO.bind ?_ (fun _ => ?_)
  ·intro y0 y1 y2 y3 y4 y5
   unfold boltinglaw04_RowsPuts.l0
   repeat' first
   | (with_reducible exact ih0 _ _ _ _ _ _ _ _ _ _ _ _ _)
   | (with_reducible exact ih1 _ _ _ _ _ _)
   | (with_reducible exact ih2 _ _ _ _ _ _)
   | (with_reducible exact ih3 _ _ _ _ _ _ _)
   | (with_reducible exact boltinglaw04_bound.mono _ _)
   | (with_reducible exact boltinglaw04_fixed.mono _)
   | (with_reducible exact boltingref04_Check.mono _ _)
   | (with_reducible exact boltingref04_End.mono _ _ _)
   | (with_reducible exact boltingref04_Join.mono _ _ _)
   | (with_reducible exact boltingref04_Moved.mono _ _ _)
   | (with_reducible exact boltingref04_Put.mono _ _ _ _ _)
   | (with_reducible exact rows_Drop.mono _ _ _)
   | (with_reducible exact rows_Put.mono _ _ _ _ _)
   | (with_reducible exact rows_Take.mono _ _ _)
   | (with_reducible exact LeO.refl _)
   | (with_reducible exact LeO.none _)
   | (with_reducible refine LeO.ite ?_ ?_)
   | (with_reducible refine LeO.bind ?_ (fun _ => ?_))
   | exact ih0 _ _ _ _ _ _ _ _ _ _ _ _ _
   | exact ih1 _ _ _ _ _ _
   | exact ih2 _ _ _ _ _ _
   | exact ih3 _ _ _ _ _ _ _
   | exact boltinglaw04_bound.mono _ _
   | exact boltinglaw04_fixed.mono _
   | exact boltingref04_Check.mono _ _
   | exact boltingref04_End.mono _ _ _
   | exact boltingref04_Join.mono _ _ _
   | exact boltingref04_Moved.mono _ _ _
   | exact boltingref04_Put.mono _ _ _ _ _
   | exact rows_Drop.mono _ _ _
   | exact rows_Put.mono _ _ _ _ _
   | exact rows_Take.mono _ _ _
   | exact LeO.none _
   | refine LeO.ite ?_ ?_
   | refine LeO.bind ?_ (fun _ => ?_)
  ·intro y0 y1 y2 y3 y4 y5 y6
   unfold boltinglaw04_RowsPuts.l1
   repeat' first
   | (with_reducible exact ih0 _ _ _ _ _ _ _ _ _ _ _ _ _)
   | (with_reducible exact ih1 _ _ _ _ _ _)
   | (with_reducible exact ih2 _ _ _ _ _ _)
   | (with_reducible exact ih3 _ _ _ _ _ _ _)
   | (with_reducible exact boltinglaw04_bound.mono _ _)
   | (with_reducible exact boltinglaw04_fixed.mono _)
   | (with_reducible exact boltingref04_Check.mono _ _)
   | (with_reducible exact boltingref04_End.mono _ _ _)
   | (with_reducible exact boltingref04_Join.mono _ _ _)
   | (with_reducible exact boltingref04_Moved.mono _ _ _)
   | (with_reducible exact boltingref04_Put.mono _ _ _ _ _)
   | (with_reducible exact rows_Drop.mono _ _ _)
   | (with_reducible exact rows_Put.mono _ _ _ _ _)
   | (with_reducible exact rows_Take.mono _ _ _)
   | (with_reducible exact LeO.refl _)
   | (with_reducible exact LeO.none _)
   | (with_reducible refine LeO.ite ?_ ?_)
   | (with_reducible refine LeO.bind ?_ (fun _ => ?_))
   | exact ih0 _ _ _ _ _ _ _ _ _ _ _ _ _
   | exact ih1 _ _ _ _ _ _
   | exact ih2 _ _ _ _ _ _
   | exact ih3 _ _ _ _ _ _ _
   | exact boltinglaw04_bound.mono _ _
   | exact boltinglaw04_fixed.mono _
   | exact boltingref04_Check.mono _ _
   | exact boltingref04_End.mono _ _ _
   | exact boltingref04_Join.mono _ _ _
   | exact boltingref04_Moved.mono _ _ _
   | exact boltingref04_Put.mono _ _ _ _ _
   | exact rows_Drop.mono _ _ _
   | exact rows_Put.mono _ _ _ _ _
   | exact rows_Take.mono _ _ _
   | exact LeO.none _
   | refine LeO.ite ?_ ?_
   | refine LeO.bind ?_ (fun _ => ?_)
theorem boltinglaw04_RowsPuts.mono : ∀ a0 a1 a2 a3 k, LeO (boltinglaw04_RowsPuts.f k a0 a1 a2 a3) (boltinglaw04_RowsPuts.f (k + 1) a0 a1 a2 a3) := by
 intro a0 a1 a2 a3 k
 obtain ⟨ih0, ih1, ih2, ih3⟩ := boltinglaw04_RowsPuts.mono_l k
 unfold boltinglaw04_RowsPuts.f
 repeat' first
   | (with_reducible exact ih0 _ _ _ _ _ _ _ _ _ _ _ _ _)
   | (with_reducible exact ih1 _ _ _ _ _ _)
   | (with_reducible exact ih2 _ _ _ _ _ _)
   | (with_reducible exact ih3 _ _ _ _ _ _ _)
   | (with_reducible exact boltinglaw04_bound.mono _ _)
   | (with_reducible exact boltinglaw04_fixed.mono _)
   | (with_reducible exact boltingref04_Check.mono _ _)
   | (with_reducible exact boltingref04_End.mono _ _ _)
   | (with_reducible exact boltingref04_Join.mono _ _ _)
   | (with_reducible exact boltingref04_Moved.mono _ _ _)
   | (with_reducible exact boltingref04_Put.mono _ _ _ _ _)
   | (with_reducible exact rows_Drop.mono _ _ _)
   | (with_reducible exact rows_Put.mono _ _ _ _ _)
   | (with_reducible exact rows_Take.mono _ _ _)
   | (with_reducible exact LeO.refl _)
   | (with_reducible exact LeO.none _)
   | (with_reducible refine LeO.ite ?_ ?_)
   | (with_reducible refine LeO.bind ?_ (fun _ => ?_))
   | exact ih0 _ _ _ _ _ _ _ _ _ _ _ _ _
   | exact ih1 _ _ _ _ _ _
   | exact ih2 _ _ _ _ _ _
   | exact ih3 _ _ _ _ _ _ _
   | exact boltinglaw04_bound.mono _ _
   | exact boltinglaw04_fixed.mono _
   | exact boltingref04_Check.mono _ _
   | exact boltingref04_End.mono _ _ _
   | exact boltingref04_Join.mono _ _ _
   | exact boltingref04_Moved.mono _ _ _
   | exact boltingref04_Put.mono _ _ _ _ _
   | exact rows_Drop.mono _ _ _
   | exact rows_Put.mono _ _ _ _ _
   | exact rows_Take.mono _ _ _
   | exact LeO.none _
   | refine LeO.ite ?_ ?_
   | refine LeO.bind ?_ (fun _ => ?_)
def boltinglaw04_RowsPuts.T1 : Bool × List (List Nat × List Nat) := (true, [([], []), ([0], [0]), ([1], [1]), ([], []), ([3], [3]), ([4, 2], [4]), ([2, 5, 0, 1, 2], [2]), ([5, 6, 0, 1, 2, 3, 4, 5, 6], [5])])
def boltinglaw04_RowsPuts.B1 : List Nat := [0, 1, 3, 0, 8, 31, 63, 127]
theorem boltinglaw04_RowsPuts.tab1 : rtab .any (opsOf Try.f5 1) = boltinglaw04_RowsPuts.T1 := by kernel_rfl
theorem boltinglaw04_RowsPuts.bits1 : waitsOk boltinglaw04_RowsPuts.T1.2 boltinglaw04_RowsPuts.B1 = true := by kernel_rfl
def boltinglaw04_RowsPuts.T11 : Bool × List (List Nat × List Nat) := (true, [([], []), ([0], [0]), ([1], [1]), ([2], [2]), ([2], [2]), ([2], [2]), ([5, 2], [2, 5]), ([2], [2]), ([2], [2]), ([8, 2], [2, 8]), ([7, 9, 2, 2], [2, 7, 9]), ([4, 6, 10, 2], [2, 4, 6, 10]), ([2], [2]), ([2], [2]), ([13, 2], [2, 13]), ([12, 14, 2], [2, 12, 14]), ([15, 2], [2, 15]), ([16, 2], [2, 16]), ([17, 2], [2, 17]), ([11, 18, 10, 2], [2, 11, 18]), ([3, 19, 19, 2], [2, 3, 19]), ([20, 2], [2, 20]), ([21, 20, 2], [2, 21]), ([22], [22]), ([22], [22]), ([22], [22]), ([25, 22], [22, 25]), ([24, 26, 22], [22, 24, 26]), ([22], [22]), ([22], [22]), ([22], [22]), ([30, 22], [22, 30]), ([29, 31, 22, 22], [22, 29, 31]), ([28, 32, 22], [22, 28, 32]), ([27, 33, 32, 22], [22, 27, 33]), ([23, 34, 34, 22], [22, 23, 34]), ([35, 22], [22, 35]), ([22, 36, 2], [2, 22, 36]), ([2, 37], [2, 37])])
def boltinglaw04_RowsPuts.B11 : List Nat := [0, 1, 3, 7, 7, 7, 39, 7, 7, 263, 903, 2039, 7, 7, 8199, 28679, 61447, 126983, 258055, 524279, 1048575, 2097151, 4194303, 8388607, 8388607, 8388607, 41943039, 125829119, 8388607, 8388607, 8388607, 1082130431, 3766484991, 8329887743, 17171480575, 34359738367, 68719476735, 137438953471, 274877906943]
theorem boltinglaw04_RowsPuts.tab11 : rtab .any (opsOf Try.f5 11) = boltinglaw04_RowsPuts.T11 := by kernel_rfl
theorem boltinglaw04_RowsPuts.bits11 : waitsOk boltinglaw04_RowsPuts.T11.2 boltinglaw04_RowsPuts.B11 = true := by kernel_rfl
theorem atP {W w1 : World} {v : Value} {xs : List S43} (ho : Kd.N kT43 43 w1 W.heap.size (fun k_ => W.heap.size ≤ k_) v xs) (hb : Below W.heap.size W w1) : ∃ wP : World, Aside0 (wP = W) ∧ Aside0 (Kd.N kT43 43 w1 wP.heap.size (fun k_ => wP.heap.size ≤ k_) v xs) ∧ Aside0 (Below wP.heap.size wP w1) := ⟨W, ⟨rfl⟩, ⟨ho⟩, ⟨hb⟩⟩
theorem lens_set (l : List S43) (i : Nat) (x : S43) (h : ∀ (hi : i < l.length), x.f4.length = l[i].f4.length) : (l.set i x).map (fun x => x.f4.length) = l.map fun x => x.f4.length := by
  apply List.ext_getElem
  · simp
  · intro j h1 h2
    simp only [List.length_map] at h2
    rw [List.getElem_map, List.getElem_map, List.getElem_set]
    split
    · rename_i e; subst e; exact h h2
    · rfl
theorem lens_at (l : List S43) (i : Int) (h0 : 0 ≤ i) (h : i < (l.length : Int)) : (l.map fun x => x.f4.length).getD i.toNat 0 = (rd_T43 l i).f4.length := by
  obtain ⟨n, rfl⟩ : ∃ n : Nat, i = (n : Int) := ⟨i.toNat, by omega⟩
  have hn : n < l.length := by omega
  rw [rd_T43_at l n hn]
  simp [List.getD_eq_getElem?_getD, hn]
theorem lens_put (l : List S43) (i a b : Int) (c e : ByteArray) (h0 : 0 ≤ i) (h : i < (l.length : Int)) : (l.set i.toNat (⟨a, b, c, e, (rd_T43 l i).f4⟩ : S43)).map (fun x => x.f4.length) = l.map fun x => x.f4.length := by
  refine lens_set l _ _ fun hi => ?_
  obtain ⟨n, rfl⟩ : ∃ n : Nat, i = (n : Int) := ⟨i.toNat, by omega⟩
  rw [rd_T43_at l n (by omega)]
  rfl
section
variable {α : Type} {d : Kd α} {e : Nat} {w W w1 wP : World} {base n : Nat} {ok : Nat → Prop} {v : Value} {xs : List α}
theorem atN (E : Aside0 (wP = W)) (h : Aside0 (Kd.N d e w base ok v xs)) (t : Kd.N d e w base ok v xs → Kd.N d e W base ok v xs := by intro h_; (with_reducible repeat (first | apply Kd.N_alloc | apply Kd.N_drewN | apply Kd.N_drew)); exact h_) : Aside0 (Kd.N d e wP base ok v xs) := ⟨by rw [E.out]; exact t h.out⟩
theorem atK {g : Nat} {o : Obj} (E : Aside0 (wP = W)) (h : Aside0 (w.heap[g]? = some o)) (t : w.heap[g]? = some o → W.heap[g]? = some o := by intro h_; (with_reducible repeat (first | refine blk_drewN ?_ _ | refine blk_drew ?_ | refine blk_alloc ?_ _)); exact h_) : Aside0 (wP.heap[g]? = some o) := ⟨by rw [E.out]; exact t h.out⟩
theorem atB (E : Aside0 (wP = W)) (h : Aside0 (Below w.heap.size w w1)) (t : Below w.heap.size w w1 → Below w.heap.size w W := by intro h_; repeat (first | (with_reducible first | exact h_ | apply below_alloc | apply pw_below_drewN | apply below_drew1) | exact h_)) : Aside0 (w.heap.size ≤ wP.heap.size) := ⟨by rw [E.out]; exact below_size (t h.out)⟩
end
theorem add_block (a : Addr) (n : Nat) : (a.add n).block = a.block := by unfold Addr.add; split <;> rfl
theorem ge606_max {W : World} {ok : Nat → Prop} {A : Option Addr} {n : Nat} {ys : List S46} (h : Kd.F k46 W ok A n ys) : n ≤ 9223372036854775807 := (Kd.F_now h).2.1
set_option maxHeartbeats 8000000 in
set_option maxRecDepth 100000 in
theorem boltinglaw04_RowsPuts.calls (k : Nat) (A0_0 : Option Addr) (c0_0 : Nat) (l0_0 : List (S43)) (A0_1 : Option Addr) (c0_1 : Nat) (l0_1 : List (S43)) (a0_2 : Int) (a0_3 : Int) (r : Bool) (w : World) (hr0_0 : Kd.C k43 w A0_0 l0_0.length l0_0) (hc0_0 : l0_0.length ≤ c0_0) (hr0_1 : Kd.C k43 w A0_1 l0_1.length l0_1) (hc0_1 : l0_1.length ≤ c0_1) (h : boltinglaw04_RowsPuts.f k l0_0 l0_1 a0_2 a0_3 = some r) :
  Calls Try.prog 5 #[.agg #[.slice A0_0 l0_0.length c0_0, .slice A0_1 l0_1.length c0_1, .int .i64 a0_2, .int .i64 a0_3]] w fun e w' => e = .returned (.bool r) ∧ Below w.heap.size w w' := by
 have hu37 := Try.underlying37
 have HR0_0 := Aside0.mk hr0_0
 have HC0_0 := Aside0.mk hc0_0
 clear hr0_0 hc0_0
 have HR0_1 := Aside0.mk hr0_1
 have HC0_1 := Aside0.mk hc0_1
 clear hr0_1 hc0_1
 have HB := Aside0.mk (Below.refl w.heap.size w)
 have H : ((boltinglaw04_bound.f k l0_0).bind fun t506 => ((boltinglaw04_bound.f k l0_1).bind fun t509 => ((boltingref04_Check.f k t506).bind fun t512 => (if t512 = 0 then ((boltingref04_Moved.f k t506 0).bind fun t514 => ((boltingref04_Moved.f k t509 0).bind fun t517 => ((rows_Put.f k t506 a0_2 a0_3 t509).bind fun bt520 => ((boltingref04_Put.f k t506 a0_2 a0_3 t509).bind fun bt524 => ((rows_Take.f k t506 a0_2).bind fun bt528 => ((rows_Drop.f k t506 a0_2).bind fun bt532 => (if bt520.2 = bt524.2 then ((boltingref04_Same.f bt520.1 bt524.1).bind fun t536 => (if t536 = true then (if bt528.2 = bt532.2 then (if a0_2 ≥ 0 then (boltinglaw04_RowsPuts.j0 k t506 t509 t514 t517 bt520.1 bt528.1 bt528.2 bt532.1 ((bt528.2 == 0) != (decide (a0_2 < (t506.length : Int)))) l0_0 l0_1 a0_2 a0_3) else (boltinglaw04_RowsPuts.j0 k t506 t509 t514 t517 bt520.1 bt528.1 bt528.2 bt532.1 ((bt528.2 == 0) != false) l0_0 l0_1 a0_2 a0_3)) else (boltinglaw04_RowsPuts.j0 k t506 t509 t514 t517 bt520.1 bt528.1 bt528.2 bt532.1 true l0_0 l0_1 a0_2 a0_3)) else (boltinglaw04_RowsPuts.j0 k t506 t509 t514 t517 bt520.1 bt528.1 bt528.2 bt532.1 true l0_0 l0_1 a0_2 a0_3))) else (boltinglaw04_RowsPuts.j0 k t506 t509 t514 t517 bt520.1 bt528.1 bt528.2 bt532.1 true l0_0 l0_1 a0_2 a0_3)))))))) else ((boltinglaw04_fixed.f k).bind fun t513 => (some t513)))))) = some r := h
 clear h
 replace H := Option.bind_eq_some_iff.mp H
 obtain ⟨t506, A20, H⟩ := H
 replace H : ((boltinglaw04_bound.f k l0_1).bind fun t509 => ((boltingref04_Check.f k t506).bind fun t512 => (if t512 = 0 then ((boltingref04_Moved.f k t506 0).bind fun t514 => ((boltingref04_Moved.f k t509 0).bind fun t517 => ((rows_Put.f k t506 a0_2 a0_3 t509).bind fun bt520 => ((boltingref04_Put.f k t506 a0_2 a0_3 t509).bind fun bt524 => ((rows_Take.f k t506 a0_2).bind fun bt528 => ((rows_Drop.f k t506 a0_2).bind fun bt532 => (if bt520.2 = bt524.2 then ((boltingref04_Same.f bt520.1 bt524.1).bind fun t536 => (if t536 = true then (if bt528.2 = bt532.2 then (if a0_2 ≥ 0 then (boltinglaw04_RowsPuts.j0 k t506 t509 t514 t517 bt520.1 bt528.1 bt528.2 bt532.1 ((bt528.2 == 0) != (decide (a0_2 < (t506.length : Int)))) l0_0 l0_1 a0_2 a0_3) else (boltinglaw04_RowsPuts.j0 k t506 t509 t514 t517 bt520.1 bt528.1 bt528.2 bt532.1 ((bt528.2 == 0) != false) l0_0 l0_1 a0_2 a0_3)) else (boltinglaw04_RowsPuts.j0 k t506 t509 t514 t517 bt520.1 bt528.1 bt528.2 bt532.1 true l0_0 l0_1 a0_2 a0_3)) else (boltinglaw04_RowsPuts.j0 k t506 t509 t514 t517 bt520.1 bt528.1 bt528.2 bt532.1 true l0_0 l0_1 a0_2 a0_3))) else (boltinglaw04_RowsPuts.j0 k t506 t509 t514 t517 bt520.1 bt528.1 bt528.2 bt532.1 true l0_0 l0_1 a0_2 a0_3)))))))) else ((boltinglaw04_fixed.f k).bind fun t513 => (some t513))))) = some r := H
 have A2 := Aside0.mk A20
 clear A20
 replace H := Option.bind_eq_some_iff.mp H
 obtain ⟨t509, A30, H⟩ := H
 replace H : ((boltingref04_Check.f k t506).bind fun t512 => (if t512 = 0 then ((boltingref04_Moved.f k t506 0).bind fun t514 => ((boltingref04_Moved.f k t509 0).bind fun t517 => ((rows_Put.f k t506 a0_2 a0_3 t509).bind fun bt520 => ((boltingref04_Put.f k t506 a0_2 a0_3 t509).bind fun bt524 => ((rows_Take.f k t506 a0_2).bind fun bt528 => ((rows_Drop.f k t506 a0_2).bind fun bt532 => (if bt520.2 = bt524.2 then ((boltingref04_Same.f bt520.1 bt524.1).bind fun t536 => (if t536 = true then (if bt528.2 = bt532.2 then (if a0_2 ≥ 0 then (boltinglaw04_RowsPuts.j0 k t506 t509 t514 t517 bt520.1 bt528.1 bt528.2 bt532.1 ((bt528.2 == 0) != (decide (a0_2 < (t506.length : Int)))) l0_0 l0_1 a0_2 a0_3) else (boltinglaw04_RowsPuts.j0 k t506 t509 t514 t517 bt520.1 bt528.1 bt528.2 bt532.1 ((bt528.2 == 0) != false) l0_0 l0_1 a0_2 a0_3)) else (boltinglaw04_RowsPuts.j0 k t506 t509 t514 t517 bt520.1 bt528.1 bt528.2 bt532.1 true l0_0 l0_1 a0_2 a0_3)) else (boltinglaw04_RowsPuts.j0 k t506 t509 t514 t517 bt520.1 bt528.1 bt528.2 bt532.1 true l0_0 l0_1 a0_2 a0_3))) else (boltinglaw04_RowsPuts.j0 k t506 t509 t514 t517 bt520.1 bt528.1 bt528.2 bt532.1 true l0_0 l0_1 a0_2 a0_3)))))))) else ((boltinglaw04_fixed.f k).bind fun t513 => (some t513)))) = some r := H
 have A3 := Aside0.mk A30
 clear A30
 replace H := Option.bind_eq_some_iff.mp H
 obtain ⟨t512, A40, H⟩ := H
 replace H : (if t512 = 0 then ((boltingref04_Moved.f k t506 0).bind fun t514 => ((boltingref04_Moved.f k t509 0).bind fun t517 => ((rows_Put.f k t506 a0_2 a0_3 t509).bind fun bt520 => ((boltingref04_Put.f k t506 a0_2 a0_3 t509).bind fun bt524 => ((rows_Take.f k t506 a0_2).bind fun bt528 => ((rows_Drop.f k t506 a0_2).bind fun bt532 => (if bt520.2 = bt524.2 then ((boltingref04_Same.f bt520.1 bt524.1).bind fun t536 => (if t536 = true then (if bt528.2 = bt532.2 then (if a0_2 ≥ 0 then (boltinglaw04_RowsPuts.j0 k t506 t509 t514 t517 bt520.1 bt528.1 bt528.2 bt532.1 ((bt528.2 == 0) != (decide (a0_2 < (t506.length : Int)))) l0_0 l0_1 a0_2 a0_3) else (boltinglaw04_RowsPuts.j0 k t506 t509 t514 t517 bt520.1 bt528.1 bt528.2 bt532.1 ((bt528.2 == 0) != false) l0_0 l0_1 a0_2 a0_3)) else (boltinglaw04_RowsPuts.j0 k t506 t509 t514 t517 bt520.1 bt528.1 bt528.2 bt532.1 true l0_0 l0_1 a0_2 a0_3)) else (boltinglaw04_RowsPuts.j0 k t506 t509 t514 t517 bt520.1 bt528.1 bt528.2 bt532.1 true l0_0 l0_1 a0_2 a0_3))) else (boltinglaw04_RowsPuts.j0 k t506 t509 t514 t517 bt520.1 bt528.1 bt528.2 bt532.1 true l0_0 l0_1 a0_2 a0_3)))))))) else ((boltinglaw04_fixed.f k).bind fun t513 => (some t513))) = some r := H
 have A4 := Aside0.mk A40
 clear A40
 by_cases c5 : t512 = 0
 ·rw [if_pos c5] at H
  have c5b0 : (t512 == 0) = true := beq_iff_eq.mpr c5
  have c5b1 : (t512 != 0) = false := bne_eq_false_iff_eq.mpr c5
  clear c5
  replace H := Option.bind_eq_some_iff.mp H
  obtain ⟨t514, A60, H⟩ := H
  replace H : ((boltingref04_Moved.f k t509 0).bind fun t517 => ((rows_Put.f k t506 a0_2 a0_3 t509).bind fun bt520 => ((boltingref04_Put.f k t506 a0_2 a0_3 t509).bind fun bt524 => ((rows_Take.f k t506 a0_2).bind fun bt528 => ((rows_Drop.f k t506 a0_2).bind fun bt532 => (if bt520.2 = bt524.2 then ((boltingref04_Same.f bt520.1 bt524.1).bind fun t536 => (if t536 = true then (if bt528.2 = bt532.2 then (if a0_2 ≥ 0 then (boltinglaw04_RowsPuts.j0 k t506 t509 t514 t517 bt520.1 bt528.1 bt528.2 bt532.1 ((bt528.2 == 0) != (decide (a0_2 < (t506.length : Int)))) l0_0 l0_1 a0_2 a0_3) else (boltinglaw04_RowsPuts.j0 k t506 t509 t514 t517 bt520.1 bt528.1 bt528.2 bt532.1 ((bt528.2 == 0) != false) l0_0 l0_1 a0_2 a0_3)) else (boltinglaw04_RowsPuts.j0 k t506 t509 t514 t517 bt520.1 bt528.1 bt528.2 bt532.1 true l0_0 l0_1 a0_2 a0_3)) else (boltinglaw04_RowsPuts.j0 k t506 t509 t514 t517 bt520.1 bt528.1 bt528.2 bt532.1 true l0_0 l0_1 a0_2 a0_3))) else (boltinglaw04_RowsPuts.j0 k t506 t509 t514 t517 bt520.1 bt528.1 bt528.2 bt532.1 true l0_0 l0_1 a0_2 a0_3))))))) = some r := H
  have A6 := Aside0.mk A60
  clear A60
  replace H := Option.bind_eq_some_iff.mp H
  obtain ⟨t517, A70, H⟩ := H
  replace H : ((rows_Put.f k t506 a0_2 a0_3 t509).bind fun bt520 => ((boltingref04_Put.f k t506 a0_2 a0_3 t509).bind fun bt524 => ((rows_Take.f k t506 a0_2).bind fun bt528 => ((rows_Drop.f k t506 a0_2).bind fun bt532 => (if bt520.2 = bt524.2 then ((boltingref04_Same.f bt520.1 bt524.1).bind fun t536 => (if t536 = true then (if bt528.2 = bt532.2 then (if a0_2 ≥ 0 then (boltinglaw04_RowsPuts.j0 k t506 t509 t514 t517 bt520.1 bt528.1 bt528.2 bt532.1 ((bt528.2 == 0) != (decide (a0_2 < (t506.length : Int)))) l0_0 l0_1 a0_2 a0_3) else (boltinglaw04_RowsPuts.j0 k t506 t509 t514 t517 bt520.1 bt528.1 bt528.2 bt532.1 ((bt528.2 == 0) != false) l0_0 l0_1 a0_2 a0_3)) else (boltinglaw04_RowsPuts.j0 k t506 t509 t514 t517 bt520.1 bt528.1 bt528.2 bt532.1 true l0_0 l0_1 a0_2 a0_3)) else (boltinglaw04_RowsPuts.j0 k t506 t509 t514 t517 bt520.1 bt528.1 bt528.2 bt532.1 true l0_0 l0_1 a0_2 a0_3))) else (boltinglaw04_RowsPuts.j0 k t506 t509 t514 t517 bt520.1 bt528.1 bt528.2 bt532.1 true l0_0 l0_1 a0_2 a0_3)))))) = some r := H
  have A7 := Aside0.mk A70
  clear A70
  replace H := Option.bind_eq_some_iff.mp H
  obtain ⟨⟨t520, t523⟩, A80, H⟩ := H
  replace H : ((boltingref04_Put.f k t506 a0_2 a0_3 t509).bind fun bt524 => ((rows_Take.f k t506 a0_2).bind fun bt528 => ((rows_Drop.f k t506 a0_2).bind fun bt532 => (if t523 = bt524.2 then ((boltingref04_Same.f t520 bt524.1).bind fun t536 => (if t536 = true then (if bt528.2 = bt532.2 then (if a0_2 ≥ 0 then (boltinglaw04_RowsPuts.j0 k t506 t509 t514 t517 t520 bt528.1 bt528.2 bt532.1 ((bt528.2 == 0) != (decide (a0_2 < (t506.length : Int)))) l0_0 l0_1 a0_2 a0_3) else (boltinglaw04_RowsPuts.j0 k t506 t509 t514 t517 t520 bt528.1 bt528.2 bt532.1 ((bt528.2 == 0) != false) l0_0 l0_1 a0_2 a0_3)) else (boltinglaw04_RowsPuts.j0 k t506 t509 t514 t517 t520 bt528.1 bt528.2 bt532.1 true l0_0 l0_1 a0_2 a0_3)) else (boltinglaw04_RowsPuts.j0 k t506 t509 t514 t517 t520 bt528.1 bt528.2 bt532.1 true l0_0 l0_1 a0_2 a0_3))) else (boltinglaw04_RowsPuts.j0 k t506 t509 t514 t517 t520 bt528.1 bt528.2 bt532.1 true l0_0 l0_1 a0_2 a0_3))))) = some r := H
  have A8 := Aside0.mk A80
  clear A80
  replace H := Option.bind_eq_some_iff.mp H
  obtain ⟨⟨t524, t527⟩, A90, H⟩ := H
  replace H : ((rows_Take.f k t506 a0_2).bind fun bt528 => ((rows_Drop.f k t506 a0_2).bind fun bt532 => (if t523 = t527 then ((boltingref04_Same.f t520 t524).bind fun t536 => (if t536 = true then (if bt528.2 = bt532.2 then (if a0_2 ≥ 0 then (boltinglaw04_RowsPuts.j0 k t506 t509 t514 t517 t520 bt528.1 bt528.2 bt532.1 ((bt528.2 == 0) != (decide (a0_2 < (t506.length : Int)))) l0_0 l0_1 a0_2 a0_3) else (boltinglaw04_RowsPuts.j0 k t506 t509 t514 t517 t520 bt528.1 bt528.2 bt532.1 ((bt528.2 == 0) != false) l0_0 l0_1 a0_2 a0_3)) else (boltinglaw04_RowsPuts.j0 k t506 t509 t514 t517 t520 bt528.1 bt528.2 bt532.1 true l0_0 l0_1 a0_2 a0_3)) else (boltinglaw04_RowsPuts.j0 k t506 t509 t514 t517 t520 bt528.1 bt528.2 bt532.1 true l0_0 l0_1 a0_2 a0_3))) else (boltinglaw04_RowsPuts.j0 k t506 t509 t514 t517 t520 bt528.1 bt528.2 bt532.1 true l0_0 l0_1 a0_2 a0_3)))) = some r := H
  have A9 := Aside0.mk A90
  clear A90
  replace H := Option.bind_eq_some_iff.mp H
  obtain ⟨⟨t528, t529⟩, A100, H⟩ := H
  replace H : ((rows_Drop.f k t506 a0_2).bind fun bt532 => (if t523 = t527 then ((boltingref04_Same.f t520 t524).bind fun t536 => (if t536 = true then (if t529 = bt532.2 then (if a0_2 ≥ 0 then (boltinglaw04_RowsPuts.j0 k t506 t509 t514 t517 t520 t528 t529 bt532.1 ((t529 == 0) != (decide (a0_2 < (t506.length : Int)))) l0_0 l0_1 a0_2 a0_3) else (boltinglaw04_RowsPuts.j0 k t506 t509 t514 t517 t520 t528 t529 bt532.1 ((t529 == 0) != false) l0_0 l0_1 a0_2 a0_3)) else (boltinglaw04_RowsPuts.j0 k t506 t509 t514 t517 t520 t528 t529 bt532.1 true l0_0 l0_1 a0_2 a0_3)) else (boltinglaw04_RowsPuts.j0 k t506 t509 t514 t517 t520 t528 t529 bt532.1 true l0_0 l0_1 a0_2 a0_3))) else (boltinglaw04_RowsPuts.j0 k t506 t509 t514 t517 t520 t528 t529 bt532.1 true l0_0 l0_1 a0_2 a0_3))) = some r := H
  have A10 := Aside0.mk A100
  clear A100
  replace H := Option.bind_eq_some_iff.mp H
  obtain ⟨⟨t532, t535⟩, A110, H⟩ := H
  replace H : (if t523 = t527 then ((boltingref04_Same.f t520 t524).bind fun t536 => (if t536 = true then (if t529 = t535 then (if a0_2 ≥ 0 then (boltinglaw04_RowsPuts.j0 k t506 t509 t514 t517 t520 t528 t529 t532 ((t529 == 0) != (decide (a0_2 < (t506.length : Int)))) l0_0 l0_1 a0_2 a0_3) else (boltinglaw04_RowsPuts.j0 k t506 t509 t514 t517 t520 t528 t529 t532 ((t529 == 0) != false) l0_0 l0_1 a0_2 a0_3)) else (boltinglaw04_RowsPuts.j0 k t506 t509 t514 t517 t520 t528 t529 t532 true l0_0 l0_1 a0_2 a0_3)) else (boltinglaw04_RowsPuts.j0 k t506 t509 t514 t517 t520 t528 t529 t532 true l0_0 l0_1 a0_2 a0_3))) else (boltinglaw04_RowsPuts.j0 k t506 t509 t514 t517 t520 t528 t529 t532 true l0_0 l0_1 a0_2 a0_3)) = some r := H
  have A11 := Aside0.mk A110
  clear A110
  have HC12 := Aside0.mk H
  clear H
  go_enter Try.func5, Try.ntmps5
  try go_wp2_with (first | ((with_reducible refine gate_dst (N := 1) rfl ?_); (try (refine gate_guard (by rfl) ?_; dsimp only)); refine box_event ?hg (N := 1) ?hd (cs := #[.slice A0_0 l0_0.length c0_0, .slice A0_1 l0_1.length c0_1, .int .i64 a0_2, .int .i64 a0_3]) (t := 37) ?hr ?_; (case hd => rfl); (case hg => rfl); (case hr => first | (go_simp; done) | (go_simp; rfl)); intro gb505 hg w13 hbox hb; have n0_ := Aside0.mk (below_step (aB HB) hb); have n1_ := Aside0.mk (hbox); have n2_ := Aside0.mk ((by rw [hg]; exact (below_size (aB HB)) : w.heap.size ≤ gb505)); have n3_ := Aside0.mk ((by rw [hg]; exact (below_size (aB HB)) : w.heap.size ≤ gb505)); clear HB; have HB := n0_; have BK505 := n1_; have GW505 := n2_; have GE505 := n3_; clear n0_ n1_ n2_ n3_; clear hb hbox hg))
  have n0_ := Aside0.mk (blk_drew BK505.out)
  have n1_ := Aside0.mk (below_drew1 HB.out)
  clear BK505
  clear HB
  have BK505 := n0_
  have HB := n1_
  clear n0_ n1_
  refine start_ (n := 8) (S := fun w' => w'.cell? ⟨gb505, 0, none⟩ = some (.slice A0_0 l0_0.length c0_0) ∧ w'.cell? ⟨gb505, 1, none⟩ = some (.slice A0_1 l0_1.length c0_1) ∧ w'.cell? ⟨gb505, 2, none⟩ = some (.int .i64 a0_2) ∧ w'.cell? ⟨gb505, 3, none⟩ = some (.int .i64 a0_3)) (ds := []) #[Z, Z, Z, Z, Z, Z, Z, Z] (by kernel_rfl) rfl rfl ⟨(blk_cell BK505.out 0).trans rfl, (blk_cell BK505.out 1).trans rfl, (blk_cell BK505.out 2).trans rfl, (blk_cell BK505.out 3).trans rfl⟩ (fun hHeld => ?_); refine with_tabW boltinglaw04_RowsPuts.tab1 boltinglaw04_RowsPuts.bits1 (fun HT_ HW_ => ?_)
  generalize w13.drew = w14 at BK505 HB hHeld ⊢
  refine pA 0 17 #[Y, Z, Z, Z, Z, Z, Z, Z] HT_ ?_
  refine pA 3 20 #[Y, Z, Z, Y, Z, Z, Z, Z] HT_ ?_
  refine take_ (i := 1) (N := some 18) (v := ?_) (a' := ?_) #[Y, Y, Z, Y, Z, Z, Z, Z] rfl rfl (take_ofW HT_.out HW_.out (by kernel_rfl)) (fun _ _ _ h => h) (Or.inl ⟨by rfl, ?_⟩) hHeld ?_ ?_
  rotate_left
  ·rintro w' ⟨s0, s1, s2, s3⟩
   go_simp
   with_reducible rfl
  rotate_left
  ·simp only [Act.put, List.setIfInBounds_toArray, List.set_cons_zero, List.set_cons_succ, i64_w, i32_w]
   rfl
  refine take_ (i := 4) (N := some 21) (v := ?_) (a' := ?_) #[Y, Y, Z, Y, Y, Z, Z, Z] rfl rfl (take_ofW HT_.out HW_.out (by kernel_rfl)) (fun _ _ _ h => h) (Or.inl ⟨by rfl, ?_⟩) hHeld ?_ ?_
  rotate_left
  ·rintro w' ⟨s0, s1, s2, s3⟩
   go_simp
   with_reducible rfl
  rotate_left
  ·simp only [Act.put, List.setIfInBounds_toArray, List.set_cons_zero, List.set_cons_succ, i64_w, i32_w]
   rfl
  refine one_ (i := 2) (N := some 19) #[Y, Y, Y, Y, Y, Z, Z, Z] rfl rfl (one_of HT_.out (by kernel_rfl)) (by decide) (fun K hK => ?_)
  refine goes_ Try.func11 (by kernel_rfl) rfl #[.slice A0_0 l0_0.length c0_0] (by rfl) rfl rfl (by (try simp only [List.map_toArray, List.map_cons, List.map_nil]); first | done | rfl | (simp only [List.length_drop, List.length_take]; rfl)) ?_
  with_reducible refine (boltinglaw04_bound.calls k (fun k_ => k_ < w.heap.size) _ _ l0_0 t506 _ ?side1 A2.out).mono ?_
  (case side1 => exact Kd.V_mk HC0_0.out (Kd.F_below (Kd.C_F k43_heap HR0_0.out) (by repeat (first | (with_reducible first | exact HB.out | apply below_alloc | apply pw_below_drewN | apply below_drew1 | refine below_set ?_ GE505.out) | exact HB.out))))
  rintro e w15 ⟨v507, rfl, ho0, hb⟩
  refine ⟨_, rfl, ?_⟩
  have n0_ := Aside0.mk (Kd.N_lower (Kd.N_mono (ok' := fun k_ => k_ ≠ gb505) ho0 (fun k_ hk_ => Or.elim hk_ (fun hs_ => fun e_ => Nat.not_le.2 hs_ (by rw [e_]; exact GW505.out)) (fun hn_ => (Kd.freshB (g := gb505) (o := .cells #[.slice A0_0 l0_0.length c0_0, .slice A0_1 l0_1.length c0_1, .int .i64 a0_2, .int .i64 a0_3] 37 (0, 0)) (aK BK505) k_ hn_)))) (below_size (by repeat (first | (with_reducible first | exact HB.out | apply below_alloc | apply pw_below_drewN | apply below_drew1 | refine below_set ?_ GE505.out) | exact HB.out))))
  have n1_ := Aside0.mk (blk_below (g := gb505) (o := .cells #[.slice A0_0 l0_0.length c0_0, .slice A0_1 l0_1.length c0_1, .int .i64 a0_2, .int .i64 a0_3] 37 (0, 0)) (aK BK505) hb)
  have n2_ := Aside0.mk (below_step (by repeat (first | (with_reducible first | exact HB.out | apply below_alloc | apply pw_below_drewN | apply below_drew1 | refine below_set ?_ GE505.out) | exact HB.out)) hb)
  clear BK505
  clear HB
  have HO508 := n0_
  have BK505 := n1_
  have HB := n2_
  clear n0_ n1_ n2_
  (try clear hb)
  (try clear hb2)
  (try clear hk)
  (try clear hi)
  (try clear ho0)
  refine hK.out _ _ ⟨(blk_cell BK505.out 0).trans rfl, (blk_cell BK505.out 1).trans rfl, (blk_cell BK505.out 2).trans rfl, (blk_cell BK505.out 3).trans rfl⟩ (fun hHeld => ?_)
  clear hK K
  refine norm_ (a' := ?_) ?_ ?_
  rotate_left
  ·show Act.put _ (some 19) _ = _
   simp only [Act.put, List.setIfInBounds_toArray, List.set_cons_zero, List.set_cons_succ, i64_w, i32_w]
   rfl
  refine one_ (i := 5) (N := some 22) #[Y, Y, Y, Y, Y, Y, Z, Z] rfl rfl (one_of HT_.out (by kernel_rfl)) (by decide) (fun K hK => ?_)
  refine goes_ Try.func11 (by kernel_rfl) rfl #[.slice A0_1 l0_1.length c0_1] (by rfl) rfl rfl (by (try simp only [List.map_toArray, List.map_cons, List.map_nil]); first | done | rfl | (simp only [List.length_drop, List.length_take]; rfl)) ?_
  with_reducible refine (boltinglaw04_bound.calls k (fun k_ => k_ < w.heap.size) _ _ l0_1 t509 _ ?side1 A3.out).mono ?_
  (case side1 => exact Kd.V_mk HC0_1.out (Kd.F_below (Kd.C_F k43_heap HR0_1.out) (by repeat (first | (with_reducible first | exact HB.out | apply below_alloc | apply pw_below_drewN | apply below_drew1 | refine below_set ?_ GE505.out) | exact HB.out))))
  rintro e w16 ⟨v510, rfl, ho0, hb⟩
  refine ⟨_, rfl, ?_⟩
  have n0_ := Aside0.mk (Kd.N_elder' (aN HO508) (aS ho0) hb)
  have n1_ := Aside0.mk (Kd.N_lower (Kd.N_mono (ok' := fun k_ => some k_ ≠ (v507 : Value).ownBlock ∧ k_ ≠ gb505) ho0 (fun k_ hk_ => ⟨Or.elim hk_ (fun hs_ => fun e_ => Nat.not_le.2 hs_ (Kd.N_base HO508.out k_ e_.symm)) (fun hn_ => (Kd.fresh' (Kd.N_lt (aN HO508)) k_ hn_)), Or.elim hk_ (fun hs_ => fun e_ => Nat.not_le.2 hs_ (by rw [e_]; exact GW505.out)) (fun hn_ => (Kd.freshB (g := gb505) (o := .cells #[.slice A0_0 l0_0.length c0_0, .slice A0_1 l0_1.length c0_1, .int .i64 a0_2, .int .i64 a0_3] 37 (0, 0)) (aK BK505) k_ hn_))⟩)) (below_size (by repeat (first | (with_reducible first | exact HB.out | apply below_alloc | apply pw_below_drewN | apply below_drew1 | refine below_set ?_ GE505.out) | exact HB.out))))
  have n2_ := Aside0.mk (blk_below (g := gb505) (o := .cells #[.slice A0_0 l0_0.length c0_0, .slice A0_1 l0_1.length c0_1, .int .i64 a0_2, .int .i64 a0_3] 37 (0, 0)) (aK BK505) hb)
  have n3_ := Aside0.mk (below_step (by repeat (first | (with_reducible first | exact HB.out | apply below_alloc | apply pw_below_drewN | apply below_drew1 | refine below_set ?_ GE505.out) | exact HB.out)) hb)
  clear HO508
  clear BK505
  clear HB
  have HO508 := n0_
  have HO511 := n1_
  have BK505 := n2_
  have HB := n3_
  clear n0_ n1_ n2_ n3_
  (try clear hb)
  (try clear hb2)
  (try clear hk)
  (try clear hi)
  (try clear ho0)
  refine hK.out _ _ ⟨(blk_cell BK505.out 0).trans rfl, (blk_cell BK505.out 1).trans rfl, (blk_cell BK505.out 2).trans rfl, (blk_cell BK505.out 3).trans rfl⟩ (fun hHeld => ?_)
  clear hK K
  refine norm_ (a' := ?_) ?_ ?_
  rotate_left
  ·show Act.put _ (some 22) _ = _
   simp only [Act.put, List.setIfInBounds_toArray, List.set_cons_zero, List.set_cons_succ, i64_w, i32_w]
   rfl
  refine pA 6 3 #[Y, Y, Y, Y, Y, Y, Y, Z] HT_ ?_
  refine pA 7 4 #[Y, Y, Y, Y, Y, Y, Y, Y] HT_ ?_
  refine done_ (done_of HT_.out (by kernel_rfl)) ?_
  obtain ⟨Ao17, co17, eo17⟩ := Kd.N_slice HO508.out
  subst eo17
  go_upto_region 9 with (first | ((with_reducible refine gate_callee (f := 14) rfl ?_); refine goesL_ (some 24) rfl rfl Try.func14 (by kernel_rfl) rfl #[.slice Ao17 t506.length co17] rfl (by (try simp only [List.map_toArray, List.map_cons, List.map_nil]); first | done | rfl | (simp only [List.length_drop, List.length_take]; rfl)) ?_; (with_reducible refine (boltingref04_Check.calls k _ _ t506 t512 _ ?side1 ?side2 A4.out).mono ?_); (case side1 => exact aC (Kd.N_reads' HO508.out).2.2); (case side2 => exact (Kd.N_reads' HO508.out).2.1); rintro e w18 ⟨rfl, hb⟩; refine ⟨_, rfl, ?_⟩; have n0_ := Aside0.mk (Kd.N_below (aN HO508) hb); have n1_ := Aside0.mk (Kd.N_below (aN HO511) hb); have n2_ := Aside0.mk (blk_below (g := gb505) (o := .cells #[.slice A0_0 l0_0.length c0_0, .slice A0_1 l0_1.length c0_1, .int .i64 a0_2, .int .i64 a0_3] 37 (0, 0)) (aK BK505) hb); have n3_ := Aside0.mk (below_step (by repeat (first | (with_reducible first | exact HB.out | apply below_alloc | apply pw_below_drewN | apply below_drew1 | refine below_set ?_ GE505.out) | exact HB.out)) hb); clear HO508; clear HO511; clear BK505; clear HB; have HO508 := n0_; have HO511 := n1_; have BK505 := n2_; have HB := n3_; clear n0_ n1_ n2_ n3_; (try clear hb); (try clear hb2); (try clear hk); (try clear hi)) | ((with_reducible refine gate_callee (f := 17) rfl ?_); refine goesL_ (some 28) rfl rfl Try.func17 (by kernel_rfl) rfl #[.slice Ao17 t506.length co17, .int .i64 0] rfl (by (try simp only [List.map_toArray, List.map_cons, List.map_nil]); first | done | rfl | (simp only [List.length_drop, List.length_take]; rfl)) ?_; (with_reducible refine (boltingref04_Moved.calls k _ _ t506 0 t514 _ ?side1 ?side2 A6.out).mono ?_); (case side1 => exact aC (Kd.N_reads' HO508.out).2.2); (case side2 => exact (Kd.N_reads' HO508.out).2.1); rintro e w19 ⟨v515, rfl, ho0, hb⟩; refine ⟨_, rfl, ?_⟩; have n0_ := Aside0.mk (Kd.N_elder' (aN HO508) (aS ho0) hb); have n1_ := Aside0.mk (Kd.N_elder' (aN HO511) (aS ho0) hb); have n2_ := Aside0.mk (Kd.N_lower (Kd.N_mono (ok' := fun k_ => some k_ ≠ (.slice Ao17 t506.length co17 : Value).ownBlock ∧ some k_ ≠ (v510 : Value).ownBlock ∧ k_ ≠ gb505) (Kd.S_N (Kd.S_bound ho0)) (fun k_ hk_ => ⟨(Kd.fresh' (Kd.N_lt (aN HO508)) k_ hk_.2.1), (Kd.fresh' (Kd.N_lt (aN HO511)) k_ hk_.2.1), (Kd.freshB (g := gb505) (o := .cells #[.slice A0_0 l0_0.length c0_0, .slice A0_1 l0_1.length c0_1, .int .i64 a0_2, .int .i64 a0_3] 37 (0, 0)) (aK BK505) k_ hk_.2.1)⟩)) (below_size (by repeat (first | (with_reducible first | exact HB.out | apply below_alloc | apply pw_below_drewN | apply below_drew1 | refine below_set ?_ GE505.out) | exact HB.out)))); have n3_ := Aside0.mk (blk_below (g := gb505) (o := .cells #[.slice A0_0 l0_0.length c0_0, .slice A0_1 l0_1.length c0_1, .int .i64 a0_2, .int .i64 a0_3] 37 (0, 0)) (aK BK505) hb); have n4_ := Aside0.mk (below_step (by repeat (first | (with_reducible first | exact HB.out | apply below_alloc | apply pw_below_drewN | apply below_drew1 | refine below_set ?_ GE505.out) | exact HB.out)) hb); clear HO508; clear HO511; clear BK505; clear HB; have HO508 := n0_; have HO511 := n1_; have HO516 := n2_; have BK505 := n3_; have HB := n4_; clear n0_ n1_ n2_ n3_ n4_; (try clear hb); (try clear hb2); (try clear hk); (try clear hi); (try clear ho0); obtain ⟨Ao20, co20, eo20⟩ := Kd.N_slice HO511.out; subst eo20) | ((with_reducible refine gate_callee (f := 17) rfl ?_); refine goesL_ (some 30) rfl rfl Try.func17 (by kernel_rfl) rfl #[.slice Ao20 t509.length co20, .int .i64 0] rfl (by (try simp only [List.map_toArray, List.map_cons, List.map_nil]); first | done | rfl | (simp only [List.length_drop, List.length_take]; rfl)) ?_; (with_reducible refine (boltingref04_Moved.calls k _ _ t509 0 t517 _ ?side1 ?side2 A7.out).mono ?_); (case side1 => exact aC (Kd.N_reads' HO511.out).2.2); (case side2 => exact (Kd.N_reads' HO511.out).2.1); rintro e w21 ⟨v518, rfl, ho0, hb⟩; refine ⟨_, rfl, ?_⟩; have n0_ := Aside0.mk (Kd.N_elder' (aN HO508) (aS ho0) hb); have n1_ := Aside0.mk (Kd.N_elder' (aN HO511) (aS ho0) hb); have n2_ := Aside0.mk (Kd.N_elder' (aN HO516) (aS ho0) hb); have n3_ := Aside0.mk (Kd.N_lower (Kd.N_mono (ok' := fun k_ => some k_ ≠ (.slice Ao17 t506.length co17 : Value).ownBlock ∧ some k_ ≠ (.slice Ao20 t509.length co20 : Value).ownBlock ∧ some k_ ≠ (v515 : Value).ownBlock ∧ k_ ≠ gb505) (Kd.S_N (Kd.S_bound ho0)) (fun k_ hk_ => ⟨(Kd.fresh' (Kd.N_lt (aN HO508)) k_ hk_.2.1), (Kd.fresh' (Kd.N_lt (aN HO511)) k_ hk_.2.1), (Kd.fresh' (Kd.N_lt (aN HO516)) k_ hk_.2.1), (Kd.freshB (g := gb505) (o := .cells #[.slice A0_0 l0_0.length c0_0, .slice A0_1 l0_1.length c0_1, .int .i64 a0_2, .int .i64 a0_3] 37 (0, 0)) (aK BK505) k_ hk_.2.1)⟩)) (below_size (by repeat (first | (with_reducible first | exact HB.out | apply below_alloc | apply pw_below_drewN | apply below_drew1 | refine below_set ?_ GE505.out) | exact HB.out)))); have n4_ := Aside0.mk (blk_below (g := gb505) (o := .cells #[.slice A0_0 l0_0.length c0_0, .slice A0_1 l0_1.length c0_1, .int .i64 a0_2, .int .i64 a0_3] 37 (0, 0)) (aK BK505) hb); have n5_ := Aside0.mk (below_step (by repeat (first | (with_reducible first | exact HB.out | apply below_alloc | apply pw_below_drewN | apply below_drew1 | refine below_set ?_ GE505.out) | exact HB.out)) hb); clear HO508; clear HO511; clear HO516; clear BK505; clear HB; have HO508 := n0_; have HO511 := n1_; have HO516 := n2_; have HO519 := n3_; have BK505 := n4_; have HB := n5_; clear n0_ n1_ n2_ n3_ n4_ n5_; (try clear hb); (try clear hb2); (try clear hk); (try clear hi); (try clear ho0); have hcz22_0 : w21.cell? ⟨gb505, 0, none⟩ = some (.slice A0_0 l0_0.length c0_0) := (blk_cell BK505.out 0).trans rfl; have hcz22_1 : w21.cell? ⟨gb505, 1, none⟩ = some (.slice A0_1 l0_1.length c0_1) := (blk_cell BK505.out 1).trans rfl; have hcz22_2 : w21.cell? ⟨gb505, 2, none⟩ = some (.int .i64 a0_2) := (blk_cell BK505.out 2).trans rfl; have hcz22_3 : w21.cell? ⟨gb505, 3, none⟩ = some (.int .i64 a0_3) := (blk_cell BK505.out 3).trans rfl; have hfz22_0 := blk_frozen BK505.out 0; have hfz22_1 := blk_frozen BK505.out 1; have hfz22_2 := blk_frozen BK505.out 2; have hfz22_3 := blk_frozen BK505.out 3) | ((with_reducible refine gate_callee (f := 28) rfl ?_); refine goesL_ (some 38) rfl rfl Try.func28 (by kernel_rfl) rfl #[.slice Ao17 t506.length co17, .int .i64 a0_2, .int .i64 a0_3, .slice Ao20 t509.length co20] rfl (by (try simp only [List.map_toArray, List.map_cons, List.map_nil]); first | done | rfl | (simp only [List.length_drop, List.length_take]; rfl)) ?_; (with_reducible refine (rows_Put.callsT k _ _ t506 a0_2 a0_3 _ _ t509 t520 t523 _ ?side1 ?side2 ?side3 ?side4 A8.out).mono ?_); (case side1 => exact aC (Kd.N_reads' HO508.out).2.2); (case side2 => exact (Kd.N_reads' HO508.out).2.1); (case side3 => exact aC (Kd.N_reads' HO511.out).2.2); (case side4 => exact (Kd.N_reads' HO511.out).2.1); rintro e w23 ⟨v521, rfl, ho0, hb⟩; obtain ⟨wP, EP, HAP, HBP⟩ := atP ho0 hb; have HN3 := atN EP HO508; have HN4 := atN EP HO511; have HN5 := atN EP HO516; have HN6 := atN EP HO519; have BKP := atK EP BK505; have HWP := atB EP HB; clear EP; replace ho0 := nT ho0; refine ⟨_, rfl, ?_⟩; have n0_ := Aside0.mk (Kd.N_elder' (aN HO508) (aS ho0) hb); have n1_ := Aside0.mk (Kd.N_elder' (aN HO511) (aS ho0) hb); have n2_ := Aside0.mk (Kd.N_elder' (aN HO516) (aS ho0) hb); have n3_ := Aside0.mk (Kd.N_elder' (aN HO519) (aS ho0) hb); have n4_ := Aside0.mk (Kd.N_lower (Kd.N_mono (ok' := fun k_ => some k_ ≠ (.slice Ao17 t506.length co17 : Value).ownBlock ∧ some k_ ≠ (.slice Ao20 t509.length co20 : Value).ownBlock ∧ some k_ ≠ (v515 : Value).ownBlock ∧ some k_ ≠ (v518 : Value).ownBlock ∧ k_ ≠ gb505) ho0 (fun k_ hk_ => ⟨(Kd.fresh' (Kd.N_lt (aN HO508)) k_ hk_), (Kd.fresh' (Kd.N_lt (aN HO511)) k_ hk_), (Kd.fresh' (Kd.N_lt (aN HO516)) k_ hk_), (Kd.fresh' (Kd.N_lt (aN HO519)) k_ hk_), (Kd.freshB (g := gb505) (o := .cells #[.slice A0_0 l0_0.length c0_0, .slice A0_1 l0_1.length c0_1, .int .i64 a0_2, .int .i64 a0_3] 37 (0, 0)) (aK BK505) k_ hk_)⟩)) (below_size (by repeat (first | (with_reducible first | exact HB.out | apply below_alloc | apply pw_below_drewN | apply below_drew1 | refine below_set ?_ GE505.out) | exact HB.out)))); have n5_ := Aside0.mk (blk_below (g := gb505) (o := .cells #[.slice A0_0 l0_0.length c0_0, .slice A0_1 l0_1.length c0_1, .int .i64 a0_2, .int .i64 a0_3] 37 (0, 0)) (aK BK505) hb); have n6_ := Aside0.mk (below_step (by repeat (first | (with_reducible first | exact HB.out | apply below_alloc | apply pw_below_drewN | apply below_drew1 | refine below_set ?_ GE505.out) | exact HB.out)) hb); clear HO508; clear HO511; clear HO516; clear HO519; clear BK505; clear HB; have HO508 := n0_; have HO511 := n1_; have HO516 := n2_; have HO519 := n3_; have HO522 := n4_; have BK505 := n5_; have HB := n6_; clear n0_ n1_ n2_ n3_ n4_ n5_ n6_; (try clear hb); (try clear hb2); (try clear hk); (try clear hi); (try clear ho0); have hcz24_0 : w23.cell? ⟨gb505, 0, none⟩ = some (.slice A0_0 l0_0.length c0_0) := (blk_cell BK505.out 0).trans rfl; have hcz24_1 : w23.cell? ⟨gb505, 1, none⟩ = some (.slice A0_1 l0_1.length c0_1) := (blk_cell BK505.out 1).trans rfl; have hcz24_2 : w23.cell? ⟨gb505, 2, none⟩ = some (.int .i64 a0_2) := (blk_cell BK505.out 2).trans rfl; have hcz24_3 : w23.cell? ⟨gb505, 3, none⟩ = some (.int .i64 a0_3) := (blk_cell BK505.out 3).trans rfl; have hfz24_0 := blk_frozen BK505.out 0; have hfz24_1 := blk_frozen BK505.out 1; have hfz24_2 := blk_frozen BK505.out 2; have hfz24_3 := blk_frozen BK505.out 3) | ((with_reducible refine gate_callee (f := 29) rfl ?_); refine goesL_ (some 48) rfl rfl Try.func29 (by kernel_rfl) rfl #[.slice Ao17 t506.length co17, .int .i64 a0_2, .int .i64 a0_3, .slice Ao20 t509.length co20] rfl (by (try simp only [List.map_toArray, List.map_cons, List.map_nil]); first | done | rfl | (simp only [List.length_drop, List.length_take]; rfl)) ?_; (with_reducible refine (boltingref04_Put.calls k _ _ t506 a0_2 a0_3 _ _ t509 t524 t527 _ ?side1 ?side2 ?side3 ?side4 A9.out).mono ?_); (case side1 => exact aC (Kd.N_reads' HO508.out).2.2); (case side2 => exact (Kd.N_reads' HO508.out).2.1); (case side3 => exact aC (Kd.N_reads' HO511.out).2.2); (case side4 => exact (Kd.N_reads' HO511.out).2.1); rintro e w25 ⟨v525, rfl, ho0, hb⟩; refine ⟨_, rfl, ?_⟩; have n0_ := Aside0.mk (Kd.N_elder' (aN HO508) (aS ho0) hb); have n1_ := Aside0.mk (Kd.N_elder' (aN HO511) (aS ho0) hb); have n2_ := Aside0.mk (Kd.N_elder' (aN HO516) (aS ho0) hb); have n3_ := Aside0.mk (Kd.N_elder' (aN HO519) (aS ho0) hb); have n4_ := Aside0.mk (Kd.N_elder' (aN HO522) (aS ho0) hb); have n5_ := Aside0.mk (Kd.N_lower (Kd.N_mono (ok' := fun k_ => some k_ ≠ (.slice Ao17 t506.length co17 : Value).ownBlock ∧ some k_ ≠ (.slice Ao20 t509.length co20 : Value).ownBlock ∧ some k_ ≠ (v515 : Value).ownBlock ∧ some k_ ≠ (v518 : Value).ownBlock ∧ some k_ ≠ (v521 : Value).ownBlock ∧ k_ ≠ gb505) ho0 (fun k_ hk_ => ⟨(Kd.fresh' (Kd.N_lt (aN HO508)) k_ hk_), (Kd.fresh' (Kd.N_lt (aN HO511)) k_ hk_), (Kd.fresh' (Kd.N_lt (aN HO516)) k_ hk_), (Kd.fresh' (Kd.N_lt (aN HO519)) k_ hk_), (Kd.fresh' (Kd.N_lt (aN HO522)) k_ hk_), (Kd.freshB (g := gb505) (o := .cells #[.slice A0_0 l0_0.length c0_0, .slice A0_1 l0_1.length c0_1, .int .i64 a0_2, .int .i64 a0_3] 37 (0, 0)) (aK BK505) k_ hk_)⟩)) (below_size (by repeat (first | (with_reducible first | exact HB.out | apply below_alloc | apply pw_below_drewN | apply below_drew1 | refine below_set ?_ GE505.out) | exact HB.out)))); have n6_ := Aside0.mk (blk_below (g := gb505) (o := .cells #[.slice A0_0 l0_0.length c0_0, .slice A0_1 l0_1.length c0_1, .int .i64 a0_2, .int .i64 a0_3] 37 (0, 0)) (aK BK505) hb); have n7_ := Aside0.mk (below_step (by repeat (first | (with_reducible first | exact HB.out | apply below_alloc | apply pw_below_drewN | apply below_drew1 | refine below_set ?_ GE505.out) | exact HB.out)) hb); have PB_ := Aside0.mk (below_step (aB HBP) hb); have PA_ := Aside0.mk (Kd.N_below (aN HAP) hb); clear HO508; clear HO511; clear HO516; clear HO519; clear HO522; clear BK505; clear HB; have HO508 := n0_; have HO511 := n1_; have HO516 := n2_; have HO519 := n3_; have HO522 := n4_; have HO526 := n5_; have BK505 := n6_; have HB := n7_; clear HBP HAP; have HBP := PB_; have HAP := PA_; clear PB_ PA_; clear n0_ n1_ n2_ n3_ n4_ n5_ n6_ n7_; (try clear hb); (try clear hb2); (try clear hk); (try clear hi); (try clear ho0); have hcz26_0 : w25.cell? ⟨gb505, 0, none⟩ = some (.slice A0_0 l0_0.length c0_0) := (blk_cell BK505.out 0).trans rfl; have hcz26_1 : w25.cell? ⟨gb505, 1, none⟩ = some (.slice A0_1 l0_1.length c0_1) := (blk_cell BK505.out 1).trans rfl; have hcz26_2 : w25.cell? ⟨gb505, 2, none⟩ = some (.int .i64 a0_2) := (blk_cell BK505.out 2).trans rfl; have hcz26_3 : w25.cell? ⟨gb505, 3, none⟩ = some (.int .i64 a0_3) := (blk_cell BK505.out 3).trans rfl; have hfz26_0 := blk_frozen BK505.out 0; have hfz26_1 := blk_frozen BK505.out 1; have hfz26_2 := blk_frozen BK505.out 2; have hfz26_3 := blk_frozen BK505.out 3) | ((with_reducible refine gate_callee (f := 30) rfl ?_); refine goesL_ (some 55) rfl rfl Try.func30 (by kernel_rfl) rfl #[.slice Ao17 t506.length co17, .int .i64 a0_2] rfl (by (try simp only [List.map_toArray, List.map_cons, List.map_nil]); first | done | rfl | (simp only [List.length_drop, List.length_take]; rfl)) ?_; (with_reducible refine (rows_Take.calls k _ _ t506 a0_2 t528 t529 _ ?side1 ?side2 A10.out).mono ?_); (case side1 => exact aC (Kd.N_reads' HO508.out).2.2); (case side2 => exact (Kd.N_reads' HO508.out).2.1); rintro e w27 ⟨v530, rfl, ho0, hb⟩; refine ⟨_, rfl, ?_⟩; have n0_ := Aside0.mk (Kd.N_elder' (aN HO508) (aS ho0) hb); have n1_ := Aside0.mk (Kd.N_elder' (aN HO511) (aS ho0) hb); have n2_ := Aside0.mk (Kd.N_elder' (aN HO516) (aS ho0) hb); have n3_ := Aside0.mk (Kd.N_elder' (aN HO519) (aS ho0) hb); have n4_ := Aside0.mk (Kd.N_elder' (aN HO522) (aS ho0) hb); have n5_ := Aside0.mk (Kd.N_elder' (aN HO526) (aS ho0) hb); have n6_ := Aside0.mk (Kd.N_lower (Kd.N_mono (ok' := fun k_ => some k_ ≠ (.slice Ao17 t506.length co17 : Value).ownBlock ∧ some k_ ≠ (.slice Ao20 t509.length co20 : Value).ownBlock ∧ some k_ ≠ (v515 : Value).ownBlock ∧ some k_ ≠ (v518 : Value).ownBlock ∧ some k_ ≠ (v521 : Value).ownBlock ∧ some k_ ≠ (v525 : Value).ownBlock ∧ k_ ≠ gb505) (Kd.S_N (Kd.S_bound ho0)) (fun k_ hk_ => ⟨(Kd.fresh' (Kd.N_lt (aN HO508)) k_ hk_.2.1), (Kd.fresh' (Kd.N_lt (aN HO511)) k_ hk_.2.1), (Kd.fresh' (Kd.N_lt (aN HO516)) k_ hk_.2.1), (Kd.fresh' (Kd.N_lt (aN HO519)) k_ hk_.2.1), (Kd.fresh' (Kd.N_lt (aN HO522)) k_ hk_.2.1), (Kd.fresh' (Kd.N_lt (aN HO526)) k_ hk_.2.1), (Kd.freshB (g := gb505) (o := .cells #[.slice A0_0 l0_0.length c0_0, .slice A0_1 l0_1.length c0_1, .int .i64 a0_2, .int .i64 a0_3] 37 (0, 0)) (aK BK505) k_ hk_.2.1)⟩)) (below_size (by repeat (first | (with_reducible first | exact HB.out | apply below_alloc | apply pw_below_drewN | apply below_drew1 | refine below_set ?_ GE505.out) | exact HB.out)))); have n7_ := Aside0.mk (blk_below (g := gb505) (o := .cells #[.slice A0_0 l0_0.length c0_0, .slice A0_1 l0_1.length c0_1, .int .i64 a0_2, .int .i64 a0_3] 37 (0, 0)) (aK BK505) hb); have n8_ := Aside0.mk (below_step (by repeat (first | (with_reducible first | exact HB.out | apply below_alloc | apply pw_below_drewN | apply below_drew1 | refine below_set ?_ GE505.out) | exact HB.out)) hb); have PB_ := Aside0.mk (below_step (aB HBP) hb); have PA_ := Aside0.mk (Kd.N_below (aN HAP) hb); clear HO508; clear HO511; clear HO516; clear HO519; clear HO522; clear HO526; clear BK505; clear HB; have HO508 := n0_; have HO511 := n1_; have HO516 := n2_; have HO519 := n3_; have HO522 := n4_; have HO526 := n5_; have HO531 := n6_; have BK505 := n7_; have HB := n8_; clear HBP HAP; have HBP := PB_; have HAP := PA_; clear PB_ PA_; clear n0_ n1_ n2_ n3_ n4_ n5_ n6_ n7_ n8_; (try clear hb); (try clear hb2); (try clear hk); (try clear hi); (try clear ho0); have hcz28_0 : w27.cell? ⟨gb505, 0, none⟩ = some (.slice A0_0 l0_0.length c0_0) := (blk_cell BK505.out 0).trans rfl; have hcz28_1 : w27.cell? ⟨gb505, 1, none⟩ = some (.slice A0_1 l0_1.length c0_1) := (blk_cell BK505.out 1).trans rfl; have hcz28_2 : w27.cell? ⟨gb505, 2, none⟩ = some (.int .i64 a0_2) := (blk_cell BK505.out 2).trans rfl; have hcz28_3 : w27.cell? ⟨gb505, 3, none⟩ = some (.int .i64 a0_3) := (blk_cell BK505.out 3).trans rfl; have hfz28_0 := blk_frozen BK505.out 0; have hfz28_1 := blk_frozen BK505.out 1; have hfz28_2 := blk_frozen BK505.out 2; have hfz28_3 := blk_frozen BK505.out 3) | ((with_reducible refine gate_callee (f := 31) rfl ?_); refine goesL_ (some 62) rfl rfl Try.func31 (by kernel_rfl) rfl #[.slice Ao17 t506.length co17, .int .i64 a0_2] rfl (by (try simp only [List.map_toArray, List.map_cons, List.map_nil]); first | done | rfl | (simp only [List.length_drop, List.length_take]; rfl)) ?_; (with_reducible refine (rows_Drop.calls k _ _ t506 a0_2 t532 t535 _ ?side1 ?side2 A11.out).mono ?_); (case side1 => exact aC (Kd.N_reads' HO508.out).2.2); (case side2 => exact (Kd.N_reads' HO508.out).2.1); rintro e w29 ⟨v533, rfl, ho0, hb⟩; refine ⟨_, rfl, ?_⟩; have n0_ := Aside0.mk (Kd.N_elder' (aN HO508) (aS ho0) hb); have n1_ := Aside0.mk (Kd.N_elder' (aN HO511) (aS ho0) hb); have n2_ := Aside0.mk (Kd.N_elder' (aN HO516) (aS ho0) hb); have n3_ := Aside0.mk (Kd.N_elder' (aN HO519) (aS ho0) hb); have n4_ := Aside0.mk (Kd.N_elder' (aN HO522) (aS ho0) hb); have n5_ := Aside0.mk (Kd.N_elder' (aN HO526) (aS ho0) hb); have n6_ := Aside0.mk (Kd.N_elder' (aN HO531) (aS ho0) hb); have n7_ := Aside0.mk (Kd.N_lower (Kd.N_mono (ok' := fun k_ => some k_ ≠ (.slice Ao17 t506.length co17 : Value).ownBlock ∧ some k_ ≠ (.slice Ao20 t509.length co20 : Value).ownBlock ∧ some k_ ≠ (v515 : Value).ownBlock ∧ some k_ ≠ (v518 : Value).ownBlock ∧ some k_ ≠ (v521 : Value).ownBlock ∧ some k_ ≠ (v525 : Value).ownBlock ∧ some k_ ≠ (v530 : Value).ownBlock ∧ k_ ≠ gb505) ho0 (fun k_ hk_ => ⟨(Kd.fresh' (Kd.N_lt (aN HO508)) k_ hk_), (Kd.fresh' (Kd.N_lt (aN HO511)) k_ hk_), (Kd.fresh' (Kd.N_lt (aN HO516)) k_ hk_), (Kd.fresh' (Kd.N_lt (aN HO519)) k_ hk_), (Kd.fresh' (Kd.N_lt (aN HO522)) k_ hk_), (Kd.fresh' (Kd.N_lt (aN HO526)) k_ hk_), (Kd.fresh' (Kd.N_lt (aN HO531)) k_ hk_), (Kd.freshB (g := gb505) (o := .cells #[.slice A0_0 l0_0.length c0_0, .slice A0_1 l0_1.length c0_1, .int .i64 a0_2, .int .i64 a0_3] 37 (0, 0)) (aK BK505) k_ hk_)⟩)) (below_size (by repeat (first | (with_reducible first | exact HB.out | apply below_alloc | apply pw_below_drewN | apply below_drew1 | refine below_set ?_ GE505.out) | exact HB.out)))); have n8_ := Aside0.mk (blk_below (g := gb505) (o := .cells #[.slice A0_0 l0_0.length c0_0, .slice A0_1 l0_1.length c0_1, .int .i64 a0_2, .int .i64 a0_3] 37 (0, 0)) (aK BK505) hb); have n9_ := Aside0.mk (below_step (by repeat (first | (with_reducible first | exact HB.out | apply below_alloc | apply pw_below_drewN | apply below_drew1 | refine below_set ?_ GE505.out) | exact HB.out)) hb); have PB_ := Aside0.mk (below_step (aB HBP) hb); have PA_ := Aside0.mk (Kd.N_below (aN HAP) hb); clear HO508; clear HO511; clear HO516; clear HO519; clear HO522; clear HO526; clear HO531; clear BK505; clear HB; have HO508 := n0_; have HO511 := n1_; have HO516 := n2_; have HO519 := n3_; have HO522 := n4_; have HO526 := n5_; have HO531 := n6_; have HO534 := n7_; have BK505 := n8_; have HB := n9_; clear HBP HAP; have HBP := PB_; have HAP := PA_; clear PB_ PA_; clear n0_ n1_ n2_ n3_ n4_ n5_ n6_ n7_ n8_ n9_; (try clear hb); (try clear hb2); (try clear hk); (try clear hi); (try clear ho0)))
  (try simp only [Act.put, List.setIfInBounds_toArray, List.set_cons_zero, List.set_cons_succ])
  go_cut [93] (fun v93 wc => ∃ (kq : Nat) (x93_11 : Bool), v93 = .bool x93_11 ∧ Aside0 (boltinglaw04_RowsPuts.j0 kq t506 t509 t514 t517 t520 t528 t529 t532 x93_11 l0_0 l0_1 a0_2 a0_3 = some r) ∧ Aside0 (kq ≤ k) ∧ Aside0 (Kd.N k43 43 wc w.heap.size (fun k_ => some k_ ≠ ((.slice Ao20 t509.length co20) : Value).ownBlock ∧ some k_ ≠ (v515 : Value).ownBlock ∧ some k_ ≠ (v518 : Value).ownBlock ∧ some k_ ≠ (v521 : Value).ownBlock ∧ some k_ ≠ (v530 : Value).ownBlock ∧ some k_ ≠ (v533 : Value).ownBlock ∧ k_ ≠ gb505) (.slice Ao17 t506.length co17) t506) ∧ Aside0 (Kd.N k43 43 wc w.heap.size (fun k_ => some k_ ≠ ((.slice Ao17 t506.length co17) : Value).ownBlock ∧ some k_ ≠ (v515 : Value).ownBlock ∧ some k_ ≠ (v518 : Value).ownBlock ∧ some k_ ≠ (v521 : Value).ownBlock ∧ some k_ ≠ (v530 : Value).ownBlock ∧ some k_ ≠ (v533 : Value).ownBlock ∧ k_ ≠ gb505) (.slice Ao20 t509.length co20) t509) ∧ Aside0 (Kd.N k43 43 wc w.heap.size (fun k_ => some k_ ≠ ((.slice Ao17 t506.length co17) : Value).ownBlock ∧ some k_ ≠ ((.slice Ao20 t509.length co20) : Value).ownBlock ∧ some k_ ≠ (v518 : Value).ownBlock ∧ some k_ ≠ (v521 : Value).ownBlock ∧ some k_ ≠ (v530 : Value).ownBlock ∧ some k_ ≠ (v533 : Value).ownBlock ∧ k_ ≠ gb505) v515 t514) ∧ Aside0 (Kd.N k43 43 wc w.heap.size (fun k_ => some k_ ≠ ((.slice Ao17 t506.length co17) : Value).ownBlock ∧ some k_ ≠ ((.slice Ao20 t509.length co20) : Value).ownBlock ∧ some k_ ≠ (v515 : Value).ownBlock ∧ some k_ ≠ (v521 : Value).ownBlock ∧ some k_ ≠ (v530 : Value).ownBlock ∧ some k_ ≠ (v533 : Value).ownBlock ∧ k_ ≠ gb505) v518 t517) ∧ Aside0 (Kd.N k43 43 wc w.heap.size (fun k_ => some k_ ≠ ((.slice Ao17 t506.length co17) : Value).ownBlock ∧ some k_ ≠ ((.slice Ao20 t509.length co20) : Value).ownBlock ∧ some k_ ≠ (v515 : Value).ownBlock ∧ some k_ ≠ (v518 : Value).ownBlock ∧ some k_ ≠ (v530 : Value).ownBlock ∧ some k_ ≠ (v533 : Value).ownBlock ∧ k_ ≠ gb505) v521 t520) ∧ Aside0 (Kd.N k43 43 wc w.heap.size (fun k_ => some k_ ≠ ((.slice Ao17 t506.length co17) : Value).ownBlock ∧ some k_ ≠ ((.slice Ao20 t509.length co20) : Value).ownBlock ∧ some k_ ≠ (v515 : Value).ownBlock ∧ some k_ ≠ (v518 : Value).ownBlock ∧ some k_ ≠ (v521 : Value).ownBlock ∧ some k_ ≠ (v533 : Value).ownBlock ∧ k_ ≠ gb505) v530 t528) ∧ Aside0 (Kd.N k43 43 wc w.heap.size (fun k_ => some k_ ≠ ((.slice Ao17 t506.length co17) : Value).ownBlock ∧ some k_ ≠ ((.slice Ao20 t509.length co20) : Value).ownBlock ∧ some k_ ≠ (v515 : Value).ownBlock ∧ some k_ ≠ (v518 : Value).ownBlock ∧ some k_ ≠ (v521 : Value).ownBlock ∧ some k_ ≠ (v530 : Value).ownBlock ∧ k_ ≠ gb505) v533 t532) ∧ Aside0 (wc.heap[gb505]? = some (.cells #[(.slice A0_0 l0_0.length c0_0), (.slice A0_1 l0_1.length c0_1), .int .i64 a0_2, .int .i64 a0_3] 37 (0, 0))) ∧ Aside0 (Below w.heap.size w wc) ∧ Aside0 (Below wP.heap.size wP wc) ∧ Aside0 (Kd.N kT43 43 wc wP.heap.size (fun k_ => wP.heap.size ≤ k_) v521 t520))
  case first =>
   have H := HC12.out
   clear HC12
   by_cases c30 : t523 = t527
   ·rw [if_pos c30] at H
    have c30b0 : (t523 == t527) = true := beq_iff_eq.mpr c30
    have c30b1 : (t523 != t527) = false := bne_eq_false_iff_eq.mpr c30
    clear c30
    (first | rw [c30b0] | (simp only [i64_w, i32_w]; rw [c30b0]) | skip)
    replace H := Option.bind_eq_some_iff.mp H
    obtain ⟨t536, A310, H⟩ := H
    replace H : (if t536 = true then (if t529 = t535 then (if a0_2 ≥ 0 then (boltinglaw04_RowsPuts.j0 k t506 t509 t514 t517 t520 t528 t529 t532 ((t529 == 0) != (decide (a0_2 < (t506.length : Int)))) l0_0 l0_1 a0_2 a0_3) else (boltinglaw04_RowsPuts.j0 k t506 t509 t514 t517 t520 t528 t529 t532 ((t529 == 0) != false) l0_0 l0_1 a0_2 a0_3)) else (boltinglaw04_RowsPuts.j0 k t506 t509 t514 t517 t520 t528 t529 t532 true l0_0 l0_1 a0_2 a0_3)) else (boltinglaw04_RowsPuts.j0 k t506 t509 t514 t517 t520 t528 t529 t532 true l0_0 l0_1 a0_2 a0_3)) = some r := H
    have A31 := Aside0.mk A310
    clear A310
    by_cases c32 : t536 = true
    ·subst c32
     have H1 : (if t529 = t535 then (if a0_2 ≥ 0 then (boltinglaw04_RowsPuts.j0 k t506 t509 t514 t517 t520 t528 t529 t532 ((t529 == 0) != (decide (a0_2 < (t506.length : Int)))) l0_0 l0_1 a0_2 a0_3) else (boltinglaw04_RowsPuts.j0 k t506 t509 t514 t517 t520 t528 t529 t532 ((t529 == 0) != false) l0_0 l0_1 a0_2 a0_3)) else (boltinglaw04_RowsPuts.j0 k t506 t509 t514 t517 t520 t528 t529 t532 true l0_0 l0_1 a0_2 a0_3)) = some r := by rw [if_pos rfl] at H; exact H
     clear H
     have H := H1
     clear H1
     by_cases c33 : t529 = t535
     ·rw [if_pos c33] at H
      have c33b0 : (t529 == t535) = true := beq_iff_eq.mpr c33
      have c33b1 : (t529 != t535) = false := bne_eq_false_iff_eq.mpr c33
      clear c33
      by_cases c34 : a0_2 ≥ 0
      ·rw [if_pos c34] at H
       have c34b0 : decide (0 ≤ a0_2) = true := decide_eq_true c34
       clear c34
       have H' := Aside0.mk H
       clear H
       obtain ⟨Ao35, co35, eo35⟩ := Kd.N_slice HO522.out
       subst eo35
       obtain ⟨Ao36, co36, eo36⟩ := Kd.N_slice HO526.out
       subst eo36
       go_wp2_with (first | (go_at_call 16; (with_reducible refine (boltingref04_Same.calls _ _ t520 _ _ t524 true _ ?side1 ?side2 ?side3 ?side4 A31.out).mono ?_); (case side1 => exact aC (Kd.N_reads' HO522.out).2.2); (case side2 => exact (Kd.N_reads' HO522.out).2.1); (case side3 => exact aC (Kd.N_reads' HO526.out).2.2); (case side4 => exact (Kd.N_reads' HO526.out).2.1); rintro e w37 ⟨rfl, hb⟩; have n0_ := Aside0.mk (Kd.N_below (aN HO508) hb); have n1_ := Aside0.mk (Kd.N_below (aN HO511) hb); have n2_ := Aside0.mk (Kd.N_below (aN HO516) hb); have n3_ := Aside0.mk (Kd.N_below (aN HO519) hb); have n4_ := Aside0.mk (Kd.N_below (aN HO522) hb); have n5_ := Aside0.mk (Kd.N_below (aN HO526) hb); have n6_ := Aside0.mk (Kd.N_below (aN HO531) hb); have n7_ := Aside0.mk (Kd.N_below (aN HO534) hb); have n8_ := Aside0.mk (blk_below (g := gb505) (o := .cells #[.slice A0_0 l0_0.length c0_0, .slice A0_1 l0_1.length c0_1, .int .i64 a0_2, .int .i64 a0_3] 37 (0, 0)) (aK BK505) hb); have n9_ := Aside0.mk (below_step (by repeat (first | (with_reducible first | exact HB.out | apply below_alloc | apply pw_below_drewN | apply below_drew1 | refine below_set ?_ GE505.out) | exact HB.out)) hb); have PB_ := Aside0.mk (below_step (aB HBP) hb); have PA_ := Aside0.mk (Kd.N_below (aN HAP) hb); clear HO508; clear HO511; clear HO516; clear HO519; clear HO522; clear HO526; clear HO531; clear HO534; clear BK505; clear HB; have HO508 := n0_; have HO511 := n1_; have HO516 := n2_; have HO519 := n3_; have HO522 := n4_; have HO526 := n5_; have HO531 := n6_; have HO534 := n7_; have BK505 := n8_; have HB := n9_; clear HBP HAP; have HBP := PB_; have HAP := PA_; clear PB_ PA_; clear n0_ n1_ n2_ n3_ n4_ n5_ n6_ n7_ n8_ n9_; (try clear hb); (try clear hb2); (try clear hk); (try clear hi); have hcz38_0 : w37.cell? ⟨gb505, 0, none⟩ = some (.slice A0_0 l0_0.length c0_0) := (blk_cell BK505.out 0).trans rfl; have hcz38_1 : w37.cell? ⟨gb505, 1, none⟩ = some (.slice A0_1 l0_1.length c0_1) := (blk_cell BK505.out 1).trans rfl; have hcz38_2 : w37.cell? ⟨gb505, 2, none⟩ = some (.int .i64 a0_2) := (blk_cell BK505.out 2).trans rfl; have hcz38_3 : w37.cell? ⟨gb505, 3, none⟩ = some (.int .i64 a0_3) := (blk_cell BK505.out 3).trans rfl; have hfz38_0 := blk_frozen BK505.out 0; have hfz38_1 := blk_frozen BK505.out 1; have hfz38_2 := blk_frozen BK505.out 2; have hfz38_3 := blk_frozen BK505.out 3))
       go_meet
       case rel => exact ⟨_, (((t529 == 0) != (decide (a0_2 < (t506.length : Int))))), aE, H', ⟨by first | omega | exact Nat.le_refl _⟩, ⟨by (with_reducible repeat (first | apply Kd.N_alloc | apply Kd.N_drewN | apply Kd.N_drew)); exact Kd.N_mono HO508.out (fun _ hk => ⟨hk.1.1.1.1.1.1.2, ⟨hk.1.1.1.1.1.2, ⟨hk.1.1.1.1.2, ⟨hk.1.1.1.2, ⟨hk.1.2, ⟨hk.2, hk.1.1.1.1.1.1.1⟩⟩⟩⟩⟩⟩)⟩, ⟨by (with_reducible repeat (first | apply Kd.N_alloc | apply Kd.N_drewN | apply Kd.N_drew)); exact Kd.N_mono HO511.out (fun _ hk => ⟨hk.1.1.1.1.1.1.1, ⟨hk.1.1.1.1.1.2, ⟨hk.1.1.1.1.2, ⟨hk.1.1.1.2, ⟨hk.1.2, ⟨hk.2, hk.1.1.1.1.1.1.2⟩⟩⟩⟩⟩⟩)⟩, ⟨by (with_reducible repeat (first | apply Kd.N_alloc | apply Kd.N_drewN | apply Kd.N_drew)); exact Kd.N_mono HO516.out (fun _ hk => ⟨hk.1.1.1.1.1.1, ⟨hk.1.1.1.1.1.2.1, ⟨hk.1.1.1.1.2, ⟨hk.1.1.1.2, ⟨hk.1.2, ⟨hk.2, hk.1.1.1.1.1.2.2⟩⟩⟩⟩⟩⟩)⟩, ⟨by (with_reducible repeat (first | apply Kd.N_alloc | apply Kd.N_drewN | apply Kd.N_drew)); exact Kd.N_mono HO519.out (fun _ hk => ⟨hk.1.1.1.1.1, ⟨hk.1.1.1.1.2.1, ⟨hk.1.1.1.1.2.2.1, ⟨hk.1.1.1.2, ⟨hk.1.2, ⟨hk.2, hk.1.1.1.1.2.2.2⟩⟩⟩⟩⟩⟩)⟩, ⟨by (with_reducible repeat (first | apply Kd.N_alloc | apply Kd.N_drewN | apply Kd.N_drew)); exact Kd.N_mono HO522.out (fun _ hk => ⟨hk.1.1.1.1, ⟨hk.1.1.1.2.1, ⟨hk.1.1.1.2.2.1, ⟨hk.1.1.1.2.2.2.1, ⟨hk.1.2, ⟨hk.2, hk.1.1.1.2.2.2.2⟩⟩⟩⟩⟩⟩)⟩, ⟨by (with_reducible repeat (first | apply Kd.N_alloc | apply Kd.N_drewN | apply Kd.N_drew)); exact Kd.N_mono HO531.out (fun _ hk => ⟨hk.1.1, ⟨hk.1.2.1, ⟨hk.1.2.2.1, ⟨hk.1.2.2.2.1, ⟨hk.1.2.2.2.2.1, ⟨hk.2, hk.1.2.2.2.2.2.2⟩⟩⟩⟩⟩⟩)⟩, ⟨by (with_reducible repeat (first | apply Kd.N_alloc | apply Kd.N_drewN | apply Kd.N_drew)); exact Kd.N_mono HO534.out (fun _ hk => ⟨hk.1, ⟨hk.2.1, ⟨hk.2.2.1, ⟨hk.2.2.2.1, ⟨hk.2.2.2.2.1, ⟨hk.2.2.2.2.2.2.1, hk.2.2.2.2.2.2.2⟩⟩⟩⟩⟩⟩)⟩, ⟨aK BK505⟩, ⟨by repeat (first | (with_reducible first | exact HB.out | apply below_alloc | apply pw_below_drewN | apply below_drew1 | refine below_set ?_ GE505.out) | exact HB.out)⟩, ⟨aB HBP⟩, ⟨aN HAP⟩⟩
      ·rw [if_neg c34] at H
       have c34b0 : decide (0 ≤ a0_2) = false := decide_eq_false c34
       clear c34
       have H' := Aside0.mk H
       clear H
       obtain ⟨Ao39, co39, eo39⟩ := Kd.N_slice HO522.out
       subst eo39
       obtain ⟨Ao40, co40, eo40⟩ := Kd.N_slice HO526.out
       subst eo40
       go_wp2_with (first | (go_at_call 16; (with_reducible refine (boltingref04_Same.calls _ _ t520 _ _ t524 true _ ?side1 ?side2 ?side3 ?side4 A31.out).mono ?_); (case side1 => exact aC (Kd.N_reads' HO522.out).2.2); (case side2 => exact (Kd.N_reads' HO522.out).2.1); (case side3 => exact aC (Kd.N_reads' HO526.out).2.2); (case side4 => exact (Kd.N_reads' HO526.out).2.1); rintro e w41 ⟨rfl, hb⟩; have n0_ := Aside0.mk (Kd.N_below (aN HO508) hb); have n1_ := Aside0.mk (Kd.N_below (aN HO511) hb); have n2_ := Aside0.mk (Kd.N_below (aN HO516) hb); have n3_ := Aside0.mk (Kd.N_below (aN HO519) hb); have n4_ := Aside0.mk (Kd.N_below (aN HO522) hb); have n5_ := Aside0.mk (Kd.N_below (aN HO526) hb); have n6_ := Aside0.mk (Kd.N_below (aN HO531) hb); have n7_ := Aside0.mk (Kd.N_below (aN HO534) hb); have n8_ := Aside0.mk (blk_below (g := gb505) (o := .cells #[.slice A0_0 l0_0.length c0_0, .slice A0_1 l0_1.length c0_1, .int .i64 a0_2, .int .i64 a0_3] 37 (0, 0)) (aK BK505) hb); have n9_ := Aside0.mk (below_step (by repeat (first | (with_reducible first | exact HB.out | apply below_alloc | apply pw_below_drewN | apply below_drew1 | refine below_set ?_ GE505.out) | exact HB.out)) hb); have PB_ := Aside0.mk (below_step (aB HBP) hb); have PA_ := Aside0.mk (Kd.N_below (aN HAP) hb); clear HO508; clear HO511; clear HO516; clear HO519; clear HO522; clear HO526; clear HO531; clear HO534; clear BK505; clear HB; have HO508 := n0_; have HO511 := n1_; have HO516 := n2_; have HO519 := n3_; have HO522 := n4_; have HO526 := n5_; have HO531 := n6_; have HO534 := n7_; have BK505 := n8_; have HB := n9_; clear HBP HAP; have HBP := PB_; have HAP := PA_; clear PB_ PA_; clear n0_ n1_ n2_ n3_ n4_ n5_ n6_ n7_ n8_ n9_; (try clear hb); (try clear hb2); (try clear hk); (try clear hi); have hcz42_0 : w41.cell? ⟨gb505, 0, none⟩ = some (.slice A0_0 l0_0.length c0_0) := (blk_cell BK505.out 0).trans rfl; have hcz42_1 : w41.cell? ⟨gb505, 1, none⟩ = some (.slice A0_1 l0_1.length c0_1) := (blk_cell BK505.out 1).trans rfl; have hcz42_2 : w41.cell? ⟨gb505, 2, none⟩ = some (.int .i64 a0_2) := (blk_cell BK505.out 2).trans rfl; have hcz42_3 : w41.cell? ⟨gb505, 3, none⟩ = some (.int .i64 a0_3) := (blk_cell BK505.out 3).trans rfl; have hfz42_0 := blk_frozen BK505.out 0; have hfz42_1 := blk_frozen BK505.out 1; have hfz42_2 := blk_frozen BK505.out 2; have hfz42_3 := blk_frozen BK505.out 3))
       go_meet
       case rel => exact ⟨_, (((t529 == 0) != false)), aE, H', ⟨by first | omega | exact Nat.le_refl _⟩, ⟨by (with_reducible repeat (first | apply Kd.N_alloc | apply Kd.N_drewN | apply Kd.N_drew)); exact Kd.N_mono HO508.out (fun _ hk => ⟨hk.1.1.1.1.1.1.2, ⟨hk.1.1.1.1.1.2, ⟨hk.1.1.1.1.2, ⟨hk.1.1.1.2, ⟨hk.1.2, ⟨hk.2, hk.1.1.1.1.1.1.1⟩⟩⟩⟩⟩⟩)⟩, ⟨by (with_reducible repeat (first | apply Kd.N_alloc | apply Kd.N_drewN | apply Kd.N_drew)); exact Kd.N_mono HO511.out (fun _ hk => ⟨hk.1.1.1.1.1.1.1, ⟨hk.1.1.1.1.1.2, ⟨hk.1.1.1.1.2, ⟨hk.1.1.1.2, ⟨hk.1.2, ⟨hk.2, hk.1.1.1.1.1.1.2⟩⟩⟩⟩⟩⟩)⟩, ⟨by (with_reducible repeat (first | apply Kd.N_alloc | apply Kd.N_drewN | apply Kd.N_drew)); exact Kd.N_mono HO516.out (fun _ hk => ⟨hk.1.1.1.1.1.1, ⟨hk.1.1.1.1.1.2.1, ⟨hk.1.1.1.1.2, ⟨hk.1.1.1.2, ⟨hk.1.2, ⟨hk.2, hk.1.1.1.1.1.2.2⟩⟩⟩⟩⟩⟩)⟩, ⟨by (with_reducible repeat (first | apply Kd.N_alloc | apply Kd.N_drewN | apply Kd.N_drew)); exact Kd.N_mono HO519.out (fun _ hk => ⟨hk.1.1.1.1.1, ⟨hk.1.1.1.1.2.1, ⟨hk.1.1.1.1.2.2.1, ⟨hk.1.1.1.2, ⟨hk.1.2, ⟨hk.2, hk.1.1.1.1.2.2.2⟩⟩⟩⟩⟩⟩)⟩, ⟨by (with_reducible repeat (first | apply Kd.N_alloc | apply Kd.N_drewN | apply Kd.N_drew)); exact Kd.N_mono HO522.out (fun _ hk => ⟨hk.1.1.1.1, ⟨hk.1.1.1.2.1, ⟨hk.1.1.1.2.2.1, ⟨hk.1.1.1.2.2.2.1, ⟨hk.1.2, ⟨hk.2, hk.1.1.1.2.2.2.2⟩⟩⟩⟩⟩⟩)⟩, ⟨by (with_reducible repeat (first | apply Kd.N_alloc | apply Kd.N_drewN | apply Kd.N_drew)); exact Kd.N_mono HO531.out (fun _ hk => ⟨hk.1.1, ⟨hk.1.2.1, ⟨hk.1.2.2.1, ⟨hk.1.2.2.2.1, ⟨hk.1.2.2.2.2.1, ⟨hk.2, hk.1.2.2.2.2.2.2⟩⟩⟩⟩⟩⟩)⟩, ⟨by (with_reducible repeat (first | apply Kd.N_alloc | apply Kd.N_drewN | apply Kd.N_drew)); exact Kd.N_mono HO534.out (fun _ hk => ⟨hk.1, ⟨hk.2.1, ⟨hk.2.2.1, ⟨hk.2.2.2.1, ⟨hk.2.2.2.2.1, ⟨hk.2.2.2.2.2.2.1, hk.2.2.2.2.2.2.2⟩⟩⟩⟩⟩⟩)⟩, ⟨aK BK505⟩, ⟨by repeat (first | (with_reducible first | exact HB.out | apply below_alloc | apply pw_below_drewN | apply below_drew1 | refine below_set ?_ GE505.out) | exact HB.out)⟩, ⟨aB HBP⟩, ⟨aN HAP⟩⟩
     ·rw [if_neg c33] at H
      have c33b0 : (t529 == t535) = false := beq_eq_false_iff_ne.mpr c33
      have c33b1 : (t529 != t535) = true := bne_iff_ne.mpr c33
      have H' := Aside0.mk H
      clear H
      obtain ⟨Ao43, co43, eo43⟩ := Kd.N_slice HO522.out
      subst eo43
      obtain ⟨Ao44, co44, eo44⟩ := Kd.N_slice HO526.out
      subst eo44
      go_wp2_with (first | (go_at_call 16; (with_reducible refine (boltingref04_Same.calls _ _ t520 _ _ t524 true _ ?side1 ?side2 ?side3 ?side4 A31.out).mono ?_); (case side1 => exact aC (Kd.N_reads' HO522.out).2.2); (case side2 => exact (Kd.N_reads' HO522.out).2.1); (case side3 => exact aC (Kd.N_reads' HO526.out).2.2); (case side4 => exact (Kd.N_reads' HO526.out).2.1); rintro e w45 ⟨rfl, hb⟩; have n0_ := Aside0.mk (Kd.N_below (aN HO508) hb); have n1_ := Aside0.mk (Kd.N_below (aN HO511) hb); have n2_ := Aside0.mk (Kd.N_below (aN HO516) hb); have n3_ := Aside0.mk (Kd.N_below (aN HO519) hb); have n4_ := Aside0.mk (Kd.N_below (aN HO522) hb); have n5_ := Aside0.mk (Kd.N_below (aN HO526) hb); have n6_ := Aside0.mk (Kd.N_below (aN HO531) hb); have n7_ := Aside0.mk (Kd.N_below (aN HO534) hb); have n8_ := Aside0.mk (blk_below (g := gb505) (o := .cells #[.slice A0_0 l0_0.length c0_0, .slice A0_1 l0_1.length c0_1, .int .i64 a0_2, .int .i64 a0_3] 37 (0, 0)) (aK BK505) hb); have n9_ := Aside0.mk (below_step (by repeat (first | (with_reducible first | exact HB.out | apply below_alloc | apply pw_below_drewN | apply below_drew1 | refine below_set ?_ GE505.out) | exact HB.out)) hb); have PB_ := Aside0.mk (below_step (aB HBP) hb); have PA_ := Aside0.mk (Kd.N_below (aN HAP) hb); clear HO508; clear HO511; clear HO516; clear HO519; clear HO522; clear HO526; clear HO531; clear HO534; clear BK505; clear HB; have HO508 := n0_; have HO511 := n1_; have HO516 := n2_; have HO519 := n3_; have HO522 := n4_; have HO526 := n5_; have HO531 := n6_; have HO534 := n7_; have BK505 := n8_; have HB := n9_; clear HBP HAP; have HBP := PB_; have HAP := PA_; clear PB_ PA_; clear n0_ n1_ n2_ n3_ n4_ n5_ n6_ n7_ n8_ n9_; (try clear hb); (try clear hb2); (try clear hk); (try clear hi)))
      go_meet
      case rel => exact ⟨_, (true), aE, H', ⟨by first | omega | exact Nat.le_refl _⟩, ⟨by (with_reducible repeat (first | apply Kd.N_alloc | apply Kd.N_drewN | apply Kd.N_drew)); exact Kd.N_mono HO508.out (fun _ hk => ⟨hk.1.1.1.1.1.1.2, ⟨hk.1.1.1.1.1.2, ⟨hk.1.1.1.1.2, ⟨hk.1.1.1.2, ⟨hk.1.2, ⟨hk.2, hk.1.1.1.1.1.1.1⟩⟩⟩⟩⟩⟩)⟩, ⟨by (with_reducible repeat (first | apply Kd.N_alloc | apply Kd.N_drewN | apply Kd.N_drew)); exact Kd.N_mono HO511.out (fun _ hk => ⟨hk.1.1.1.1.1.1.1, ⟨hk.1.1.1.1.1.2, ⟨hk.1.1.1.1.2, ⟨hk.1.1.1.2, ⟨hk.1.2, ⟨hk.2, hk.1.1.1.1.1.1.2⟩⟩⟩⟩⟩⟩)⟩, ⟨by (with_reducible repeat (first | apply Kd.N_alloc | apply Kd.N_drewN | apply Kd.N_drew)); exact Kd.N_mono HO516.out (fun _ hk => ⟨hk.1.1.1.1.1.1, ⟨hk.1.1.1.1.1.2.1, ⟨hk.1.1.1.1.2, ⟨hk.1.1.1.2, ⟨hk.1.2, ⟨hk.2, hk.1.1.1.1.1.2.2⟩⟩⟩⟩⟩⟩)⟩, ⟨by (with_reducible repeat (first | apply Kd.N_alloc | apply Kd.N_drewN | apply Kd.N_drew)); exact Kd.N_mono HO519.out (fun _ hk => ⟨hk.1.1.1.1.1, ⟨hk.1.1.1.1.2.1, ⟨hk.1.1.1.1.2.2.1, ⟨hk.1.1.1.2, ⟨hk.1.2, ⟨hk.2, hk.1.1.1.1.2.2.2⟩⟩⟩⟩⟩⟩)⟩, ⟨by (with_reducible repeat (first | apply Kd.N_alloc | apply Kd.N_drewN | apply Kd.N_drew)); exact Kd.N_mono HO522.out (fun _ hk => ⟨hk.1.1.1.1, ⟨hk.1.1.1.2.1, ⟨hk.1.1.1.2.2.1, ⟨hk.1.1.1.2.2.2.1, ⟨hk.1.2, ⟨hk.2, hk.1.1.1.2.2.2.2⟩⟩⟩⟩⟩⟩)⟩, ⟨by (with_reducible repeat (first | apply Kd.N_alloc | apply Kd.N_drewN | apply Kd.N_drew)); exact Kd.N_mono HO531.out (fun _ hk => ⟨hk.1.1, ⟨hk.1.2.1, ⟨hk.1.2.2.1, ⟨hk.1.2.2.2.1, ⟨hk.1.2.2.2.2.1, ⟨hk.2, hk.1.2.2.2.2.2.2⟩⟩⟩⟩⟩⟩)⟩, ⟨by (with_reducible repeat (first | apply Kd.N_alloc | apply Kd.N_drewN | apply Kd.N_drew)); exact Kd.N_mono HO534.out (fun _ hk => ⟨hk.1, ⟨hk.2.1, ⟨hk.2.2.1, ⟨hk.2.2.2.1, ⟨hk.2.2.2.2.1, ⟨hk.2.2.2.2.2.2.1, hk.2.2.2.2.2.2.2⟩⟩⟩⟩⟩⟩)⟩, ⟨aK BK505⟩, ⟨by repeat (first | (with_reducible first | exact HB.out | apply below_alloc | apply pw_below_drewN | apply below_drew1 | refine below_set ?_ GE505.out) | exact HB.out)⟩, ⟨aB HBP⟩, ⟨aN HAP⟩⟩
    ·replace c32 := Bool.eq_false_iff.mpr c32
     subst c32
     have H1 : (boltinglaw04_RowsPuts.j0 k t506 t509 t514 t517 t520 t528 t529 t532 true l0_0 l0_1 a0_2 a0_3) = some r := by rw [if_neg (show ¬ (false = true) by decide)] at H; exact H
     clear H
     have H := H1
     clear H1
     have H' := Aside0.mk H
     clear H
     obtain ⟨Ao46, co46, eo46⟩ := Kd.N_slice HO522.out
     subst eo46
     obtain ⟨Ao47, co47, eo47⟩ := Kd.N_slice HO526.out
     subst eo47
     go_wp2_with (first | (go_at_call 16; (with_reducible refine (boltingref04_Same.calls _ _ t520 _ _ t524 false _ ?side1 ?side2 ?side3 ?side4 A31.out).mono ?_); (case side1 => exact aC (Kd.N_reads' HO522.out).2.2); (case side2 => exact (Kd.N_reads' HO522.out).2.1); (case side3 => exact aC (Kd.N_reads' HO526.out).2.2); (case side4 => exact (Kd.N_reads' HO526.out).2.1); rintro e w48 ⟨rfl, hb⟩; have n0_ := Aside0.mk (Kd.N_below (aN HO508) hb); have n1_ := Aside0.mk (Kd.N_below (aN HO511) hb); have n2_ := Aside0.mk (Kd.N_below (aN HO516) hb); have n3_ := Aside0.mk (Kd.N_below (aN HO519) hb); have n4_ := Aside0.mk (Kd.N_below (aN HO522) hb); have n5_ := Aside0.mk (Kd.N_below (aN HO526) hb); have n6_ := Aside0.mk (Kd.N_below (aN HO531) hb); have n7_ := Aside0.mk (Kd.N_below (aN HO534) hb); have n8_ := Aside0.mk (blk_below (g := gb505) (o := .cells #[.slice A0_0 l0_0.length c0_0, .slice A0_1 l0_1.length c0_1, .int .i64 a0_2, .int .i64 a0_3] 37 (0, 0)) (aK BK505) hb); have n9_ := Aside0.mk (below_step (by repeat (first | (with_reducible first | exact HB.out | apply below_alloc | apply pw_below_drewN | apply below_drew1 | refine below_set ?_ GE505.out) | exact HB.out)) hb); have PB_ := Aside0.mk (below_step (aB HBP) hb); have PA_ := Aside0.mk (Kd.N_below (aN HAP) hb); clear HO508; clear HO511; clear HO516; clear HO519; clear HO522; clear HO526; clear HO531; clear HO534; clear BK505; clear HB; have HO508 := n0_; have HO511 := n1_; have HO516 := n2_; have HO519 := n3_; have HO522 := n4_; have HO526 := n5_; have HO531 := n6_; have HO534 := n7_; have BK505 := n8_; have HB := n9_; clear HBP HAP; have HBP := PB_; have HAP := PA_; clear PB_ PA_; clear n0_ n1_ n2_ n3_ n4_ n5_ n6_ n7_ n8_ n9_; (try clear hb); (try clear hb2); (try clear hk); (try clear hi)))
     go_meet
     case rel => exact ⟨_, (true), aE, H', ⟨by first | omega | exact Nat.le_refl _⟩, ⟨by (with_reducible repeat (first | apply Kd.N_alloc | apply Kd.N_drewN | apply Kd.N_drew)); exact Kd.N_mono HO508.out (fun _ hk => ⟨hk.1.1.1.1.1.1.2, ⟨hk.1.1.1.1.1.2, ⟨hk.1.1.1.1.2, ⟨hk.1.1.1.2, ⟨hk.1.2, ⟨hk.2, hk.1.1.1.1.1.1.1⟩⟩⟩⟩⟩⟩)⟩, ⟨by (with_reducible repeat (first | apply Kd.N_alloc | apply Kd.N_drewN | apply Kd.N_drew)); exact Kd.N_mono HO511.out (fun _ hk => ⟨hk.1.1.1.1.1.1.1, ⟨hk.1.1.1.1.1.2, ⟨hk.1.1.1.1.2, ⟨hk.1.1.1.2, ⟨hk.1.2, ⟨hk.2, hk.1.1.1.1.1.1.2⟩⟩⟩⟩⟩⟩)⟩, ⟨by (with_reducible repeat (first | apply Kd.N_alloc | apply Kd.N_drewN | apply Kd.N_drew)); exact Kd.N_mono HO516.out (fun _ hk => ⟨hk.1.1.1.1.1.1, ⟨hk.1.1.1.1.1.2.1, ⟨hk.1.1.1.1.2, ⟨hk.1.1.1.2, ⟨hk.1.2, ⟨hk.2, hk.1.1.1.1.1.2.2⟩⟩⟩⟩⟩⟩)⟩, ⟨by (with_reducible repeat (first | apply Kd.N_alloc | apply Kd.N_drewN | apply Kd.N_drew)); exact Kd.N_mono HO519.out (fun _ hk => ⟨hk.1.1.1.1.1, ⟨hk.1.1.1.1.2.1, ⟨hk.1.1.1.1.2.2.1, ⟨hk.1.1.1.2, ⟨hk.1.2, ⟨hk.2, hk.1.1.1.1.2.2.2⟩⟩⟩⟩⟩⟩)⟩, ⟨by (with_reducible repeat (first | apply Kd.N_alloc | apply Kd.N_drewN | apply Kd.N_drew)); exact Kd.N_mono HO522.out (fun _ hk => ⟨hk.1.1.1.1, ⟨hk.1.1.1.2.1, ⟨hk.1.1.1.2.2.1, ⟨hk.1.1.1.2.2.2.1, ⟨hk.1.2, ⟨hk.2, hk.1.1.1.2.2.2.2⟩⟩⟩⟩⟩⟩)⟩, ⟨by (with_reducible repeat (first | apply Kd.N_alloc | apply Kd.N_drewN | apply Kd.N_drew)); exact Kd.N_mono HO531.out (fun _ hk => ⟨hk.1.1, ⟨hk.1.2.1, ⟨hk.1.2.2.1, ⟨hk.1.2.2.2.1, ⟨hk.1.2.2.2.2.1, ⟨hk.2, hk.1.2.2.2.2.2.2⟩⟩⟩⟩⟩⟩)⟩, ⟨by (with_reducible repeat (first | apply Kd.N_alloc | apply Kd.N_drewN | apply Kd.N_drew)); exact Kd.N_mono HO534.out (fun _ hk => ⟨hk.1, ⟨hk.2.1, ⟨hk.2.2.1, ⟨hk.2.2.2.1, ⟨hk.2.2.2.2.1, ⟨hk.2.2.2.2.2.2.1, hk.2.2.2.2.2.2.2⟩⟩⟩⟩⟩⟩)⟩, ⟨aK BK505⟩, ⟨by repeat (first | (with_reducible first | exact HB.out | apply below_alloc | apply pw_below_drewN | apply below_drew1 | refine below_set ?_ GE505.out) | exact HB.out)⟩, ⟨aB HBP⟩, ⟨aN HAP⟩⟩
   ·rw [if_neg c30] at H
    have c30b0 : (t523 == t527) = false := beq_eq_false_iff_ne.mpr c30
    have c30b1 : (t523 != t527) = true := bne_iff_ne.mpr c30
    (first | rw [c30b0] | (simp only [i64_w, i32_w]; rw [c30b0]) | skip)
    have H' := Aside0.mk H
    clear H
    go_wp2
    go_meet
    case rel => exact ⟨_, (true), aE, H', ⟨by first | omega | exact Nat.le_refl _⟩, ⟨by (with_reducible repeat (first | apply Kd.N_alloc | apply Kd.N_drewN | apply Kd.N_drew)); exact Kd.N_mono HO508.out (fun _ hk => ⟨hk.1.1.1.1.1.1.2, ⟨hk.1.1.1.1.1.2, ⟨hk.1.1.1.1.2, ⟨hk.1.1.1.2, ⟨hk.1.2, ⟨hk.2, hk.1.1.1.1.1.1.1⟩⟩⟩⟩⟩⟩)⟩, ⟨by (with_reducible repeat (first | apply Kd.N_alloc | apply Kd.N_drewN | apply Kd.N_drew)); exact Kd.N_mono HO511.out (fun _ hk => ⟨hk.1.1.1.1.1.1.1, ⟨hk.1.1.1.1.1.2, ⟨hk.1.1.1.1.2, ⟨hk.1.1.1.2, ⟨hk.1.2, ⟨hk.2, hk.1.1.1.1.1.1.2⟩⟩⟩⟩⟩⟩)⟩, ⟨by (with_reducible repeat (first | apply Kd.N_alloc | apply Kd.N_drewN | apply Kd.N_drew)); exact Kd.N_mono HO516.out (fun _ hk => ⟨hk.1.1.1.1.1.1, ⟨hk.1.1.1.1.1.2.1, ⟨hk.1.1.1.1.2, ⟨hk.1.1.1.2, ⟨hk.1.2, ⟨hk.2, hk.1.1.1.1.1.2.2⟩⟩⟩⟩⟩⟩)⟩, ⟨by (with_reducible repeat (first | apply Kd.N_alloc | apply Kd.N_drewN | apply Kd.N_drew)); exact Kd.N_mono HO519.out (fun _ hk => ⟨hk.1.1.1.1.1, ⟨hk.1.1.1.1.2.1, ⟨hk.1.1.1.1.2.2.1, ⟨hk.1.1.1.2, ⟨hk.1.2, ⟨hk.2, hk.1.1.1.1.2.2.2⟩⟩⟩⟩⟩⟩)⟩, ⟨by (with_reducible repeat (first | apply Kd.N_alloc | apply Kd.N_drewN | apply Kd.N_drew)); exact Kd.N_mono HO522.out (fun _ hk => ⟨hk.1.1.1.1, ⟨hk.1.1.1.2.1, ⟨hk.1.1.1.2.2.1, ⟨hk.1.1.1.2.2.2.1, ⟨hk.1.2, ⟨hk.2, hk.1.1.1.2.2.2.2⟩⟩⟩⟩⟩⟩)⟩, ⟨by (with_reducible repeat (first | apply Kd.N_alloc | apply Kd.N_drewN | apply Kd.N_drew)); exact Kd.N_mono HO531.out (fun _ hk => ⟨hk.1.1, ⟨hk.1.2.1, ⟨hk.1.2.2.1, ⟨hk.1.2.2.2.1, ⟨hk.1.2.2.2.2.1, ⟨hk.2, hk.1.2.2.2.2.2.2⟩⟩⟩⟩⟩⟩)⟩, ⟨by (with_reducible repeat (first | apply Kd.N_alloc | apply Kd.N_drewN | apply Kd.N_drew)); exact Kd.N_mono HO534.out (fun _ hk => ⟨hk.1, ⟨hk.2.1, ⟨hk.2.2.1, ⟨hk.2.2.2.1, ⟨hk.2.2.2.2.1, ⟨hk.2.2.2.2.2.2.1, hk.2.2.2.2.2.2.2⟩⟩⟩⟩⟩⟩)⟩, ⟨aK BK505⟩, ⟨by repeat (first | (with_reducible first | exact HB.out | apply below_alloc | apply pw_below_drewN | apply below_drew1 | refine below_set ?_ GE505.out) | exact HB.out)⟩, ⟨aB HBP⟩, ⟨aN HAP⟩⟩
  case rest =>
   clear HC12
   try clear c1
   try clear c2
   try clear p2
   try clear c3
   try clear c5
   try clear c5b0
   try clear c5b1
   try clear c11
   try clear c14
   try clear c17
   try clear c28
   try clear c29
   try clear c30
   try clear c30b0
   try clear c30b1
   try clear c31
   try clear c32
   try clear c33
   try clear c33b0
   try clear c33b1
   try clear c34
   try clear c34b0
   try clear hcz22_0
   try clear hcz22_1
   try clear hcz22_2
   try clear hcz22_3
   try clear hcz24_0
   try clear hcz24_1
   try clear hcz24_2
   try clear hcz24_3
   try clear hcz26_0
   try clear hcz26_1
   try clear hcz26_2
   try clear hcz26_3
   try clear hcz28_0
   try clear hcz28_1
   try clear hcz28_2
   try clear hcz28_3
   try clear hcz38_0
   try clear hcz38_1
   try clear hcz38_2
   try clear hcz38_3
   try clear hcz42_0
   try clear hcz42_1
   try clear hcz42_2
   try clear hcz42_3
   try clear hfz22_0
   try clear hfz22_1
   try clear hfz22_2
   try clear hfz22_3
   try clear hfz24_0
   try clear hfz24_1
   try clear hfz24_2
   try clear hfz24_3
   try clear hfz26_0
   try clear hfz26_1
   try clear hfz26_2
   try clear hfz26_3
   try clear hfz28_0
   try clear hfz28_1
   try clear hfz28_2
   try clear hfz28_3
   try clear hfz38_0
   try clear hfz38_1
   try clear hfz38_2
   try clear hfz38_3
   try clear hfz42_0
   try clear hfz42_1
   try clear hfz42_2
   try clear hfz42_3
   obtain ⟨kq, x93_11, rfl, HA, HJ11, HO_3, HO_4, HO_5, HO_6, HO_7, HO_11, HO_13, BK505, HB, HBP, HAP⟩ := hcut
   cases kq with
   | zero => exact absurd HA.out (by simp [boltinglaw04_RowsPuts.j0])
   | succ kj11 =>
    have H := HA.out
    clear HA
    simp only [boltinglaw04_RowsPuts.j0] at H
    by_cases c49 : x93_11 = true
    ·subst c49
     have H1 : (some false) = some r := by rw [if_pos rfl] at H; exact H
     clear H
     have H := H1
     clear H1
     obtain rfl := Option.some.inj H
     go_wp2
     go_ret
     exact ⟨by first | rfl | (simp [errW_none, errW_some] <;> rfl) | (simp [*, errW_none, errW_some] <;> rfl), by repeat (first | (with_reducible first | exact HB.out | apply below_alloc | apply pw_below_drewN | apply below_drew1 | refine below_set ?_ GE505.out) | exact HB.out)⟩
    ·replace c49 := Bool.eq_false_iff.mpr c49
     subst c49
     have H1 : (if t529 = 0 then ((boltingref04_End.f kj11 t506 a0_2).bind fun t537 => (if 0 ≤ a0_2 then (if a0_2 ≤ t537 then (if t537 ≤ (t506.length : Int) then (if a0_2 < (t506.length : Int) then ((boltingref04_Moved.f kj11 ((t506.take (t537 : Int).toNat).drop (a0_2 : Int).toNat) (wrap64 (-((rd_T43 t506 a0_2).f0)))).bind fun t544 => ((boltingref04_Same.f t528 t544).bind fun t547 => (if t547 = true then (if a0_2 ≤ (t506.length : Int) then ((boltingref04_End.f kj11 t506 a0_2).bind fun t553 => (if 0 ≤ t553 then (if t553 ≤ (t506.length : Int) then ((boltingref04_Join.f kj11 (t506.take (a0_2 : Int).toNat) (t506.drop (t553 : Int).toNat)).bind fun t559 => ((boltingref04_Same.f t532 t559).bind fun t562 => (boltinglaw04_RowsPuts.j1 kj11 t506 t509 t514 t517 t520 (!t562)))) else (none)) else (none))) else (none)) else (boltinglaw04_RowsPuts.j1 kj11 t506 t509 t514 t517 t520 true)))) else (none)) else (none)) else (none)) else (none))) else (boltinglaw04_RowsPuts.j1 kj11 t506 t509 t514 t517 t520 false)) = some r := by rw [if_neg (show ¬ (false = true) by decide)] at H; exact H
     clear H
     have H := H1
     clear H1
     have HC50 := Aside0.mk H
     clear H
     go_upto_region 11 with (fail)
     go_cut [132] (fun v132 wc => ∃ (kq : Nat) (x132_49 : Bool), v132 = .bool x132_49 ∧ Aside0 (boltinglaw04_RowsPuts.j1 kq t506 t509 t514 t517 t520 x132_49 = some r) ∧ Aside0 (kq ≤ kj11) ∧ Aside0 (Kd.N k43 43 wc w.heap.size (fun k_ => some k_ ≠ ((.slice Ao20 t509.length co20) : Value).ownBlock ∧ some k_ ≠ (v515 : Value).ownBlock ∧ some k_ ≠ (v518 : Value).ownBlock ∧ some k_ ≠ (v521 : Value).ownBlock ∧ k_ ≠ gb505) (.slice Ao17 t506.length co17) t506) ∧ Aside0 (Kd.N k43 43 wc w.heap.size (fun k_ => some k_ ≠ ((.slice Ao17 t506.length co17) : Value).ownBlock ∧ some k_ ≠ (v515 : Value).ownBlock ∧ some k_ ≠ (v518 : Value).ownBlock ∧ some k_ ≠ (v521 : Value).ownBlock ∧ k_ ≠ gb505) (.slice Ao20 t509.length co20) t509) ∧ Aside0 (Kd.N k43 43 wc w.heap.size (fun k_ => some k_ ≠ ((.slice Ao17 t506.length co17) : Value).ownBlock ∧ some k_ ≠ ((.slice Ao20 t509.length co20) : Value).ownBlock ∧ some k_ ≠ (v518 : Value).ownBlock ∧ some k_ ≠ (v521 : Value).ownBlock ∧ k_ ≠ gb505) v515 t514) ∧ Aside0 (Kd.N k43 43 wc w.heap.size (fun k_ => some k_ ≠ ((.slice Ao17 t506.length co17) : Value).ownBlock ∧ some k_ ≠ ((.slice Ao20 t509.length co20) : Value).ownBlock ∧ some k_ ≠ (v515 : Value).ownBlock ∧ some k_ ≠ (v521 : Value).ownBlock ∧ k_ ≠ gb505) v518 t517) ∧ Aside0 (Kd.N k43 43 wc w.heap.size (fun k_ => some k_ ≠ ((.slice Ao17 t506.length co17) : Value).ownBlock ∧ some k_ ≠ ((.slice Ao20 t509.length co20) : Value).ownBlock ∧ some k_ ≠ (v515 : Value).ownBlock ∧ some k_ ≠ (v518 : Value).ownBlock ∧ k_ ≠ gb505) v521 t520) ∧ Aside0 (wc.heap[gb505]? = some (.cells #[(.slice A0_0 l0_0.length c0_0), (.slice A0_1 l0_1.length c0_1), .int .i64 a0_2, .int .i64 a0_3] 37 (0, 0))) ∧ Aside0 (Below w.heap.size w wc) ∧ Aside0 (Below wP.heap.size wP wc) ∧ Aside0 (Kd.N kT43 43 wc wP.heap.size (fun k_ => wP.heap.size ≤ k_) v521 t520))
     case first =>
      have H := HC50.out
      clear HC50
      by_cases c51 : t529 = 0
      ·rw [if_pos c51] at H
       have c51b0 : (t529 == 0) = true := beq_iff_eq.mpr c51
       have c51b1 : (t529 != 0) = false := bne_eq_false_iff_eq.mpr c51
       clear c51
       (first | rw [c51b0] | (simp only [i64_w, i32_w]; rw [c51b0]) | skip)
       replace H := Option.bind_eq_some_iff.mp H
       obtain ⟨t537, A520, H⟩ := H
       replace H : (if 0 ≤ a0_2 then (if a0_2 ≤ t537 then (if t537 ≤ (t506.length : Int) then (if a0_2 < (t506.length : Int) then ((boltingref04_Moved.f kj11 ((t506.take (t537 : Int).toNat).drop (a0_2 : Int).toNat) (wrap64 (-((rd_T43 t506 a0_2).f0)))).bind fun t544 => ((boltingref04_Same.f t528 t544).bind fun t547 => (if t547 = true then (if a0_2 ≤ (t506.length : Int) then ((boltingref04_End.f kj11 t506 a0_2).bind fun t553 => (if 0 ≤ t553 then (if t553 ≤ (t506.length : Int) then ((boltingref04_Join.f kj11 (t506.take (a0_2 : Int).toNat) (t506.drop (t553 : Int).toNat)).bind fun t559 => ((boltingref04_Same.f t532 t559).bind fun t562 => (boltinglaw04_RowsPuts.j1 kj11 t506 t509 t514 t517 t520 (!t562)))) else (none)) else (none))) else (none)) else (boltinglaw04_RowsPuts.j1 kj11 t506 t509 t514 t517 t520 true)))) else (none)) else (none)) else (none)) else (none)) = some r := H
       have A52 := Aside0.mk A520
       clear A520
       by_cases c53 : 0 ≤ a0_2
       ·rw [if_pos c53] at H
        have c53b0 := eq_true c53
        have c53b1 : decide (0 ≤ a0_2) = true := decide_eq_true c53
        clear c53
        by_cases c54 : a0_2 ≤ t537
        ·rw [if_pos c54] at H
         have c54b0 := eq_true c54
         have c54b1 : decide (a0_2 ≤ t537) = true := decide_eq_true c54
         clear c54
         by_cases c55 : t537 ≤ (t506.length : Int)
         ·rw [if_pos c55] at H
          have c55b0 := eq_true c55
          have c55b1 : decide (t537 ≤ (t506.length : Int)) = true := decide_eq_true c55
          clear c55
          obtain ⟨y538, hy538⟩ : ∃ y_ : List (S43), y_ = ((t506.take (t537 : Int).toNat).drop (a0_2 : Int).toNat) := ⟨_, rfl⟩
          replace H : (if a0_2 < (t506.length : Int) then ((boltingref04_Moved.f kj11 y538 (wrap64 (-((rd_T43 t506 a0_2).f0)))).bind fun t544 => ((boltingref04_Same.f t528 t544).bind fun t547 => (if t547 = true then (if a0_2 ≤ (t506.length : Int) then ((boltingref04_End.f kj11 t506 a0_2).bind fun t553 => (if 0 ≤ t553 then (if t553 ≤ (t506.length : Int) then ((boltingref04_Join.f kj11 (t506.take (a0_2 : Int).toNat) (t506.drop (t553 : Int).toNat)).bind fun t559 => ((boltingref04_Same.f t532 t559).bind fun t562 => (boltinglaw04_RowsPuts.j1 kj11 t506 t509 t514 t517 t520 (!t562)))) else (none)) else (none))) else (none)) else (boltinglaw04_RowsPuts.j1 kj11 t506 t509 t514 t517 t520 true)))) else (none)) = some r := by first | (rw [hy538]; with_reducible exact H) | (have H2_ := (Option.bind_some _ _).symm.trans H; rw [hy538]; with_reducible exact H2_) | (have H2_ := (Option.bind_some _ _).symm.trans H; with_reducible exact H2_) | with_reducible exact H | (rw [hy538]; exact H) | exact H
          have Ny538 := Aside0.mk hy538
          clear hy538
          by_cases c56 : a0_2 < (t506.length : Int)
          ·rw [if_pos c56] at H
           have c56b0 : decide (a0_2 < (t506.length : Int)) = true := decide_eq_true c56
           clear c56
           replace H := Option.bind_eq_some_iff.mp H
           obtain ⟨t544, A570, H⟩ := H
           replace H : ((boltingref04_Same.f t528 t544).bind fun t547 => (if t547 = true then (if a0_2 ≤ (t506.length : Int) then ((boltingref04_End.f kj11 t506 a0_2).bind fun t553 => (if 0 ≤ t553 then (if t553 ≤ (t506.length : Int) then ((boltingref04_Join.f kj11 (t506.take (a0_2 : Int).toNat) (t506.drop (t553 : Int).toNat)).bind fun t559 => ((boltingref04_Same.f t532 t559).bind fun t562 => (boltinglaw04_RowsPuts.j1 kj11 t506 t509 t514 t517 t520 (!t562)))) else (none)) else (none))) else (none)) else (boltinglaw04_RowsPuts.j1 kj11 t506 t509 t514 t517 t520 true))) = some r := H
           have A57 := Aside0.mk A570
           clear A570
           replace H := Option.bind_eq_some_iff.mp H
           obtain ⟨t547, A580, H⟩ := H
           replace H : (if t547 = true then (if a0_2 ≤ (t506.length : Int) then ((boltingref04_End.f kj11 t506 a0_2).bind fun t553 => (if 0 ≤ t553 then (if t553 ≤ (t506.length : Int) then ((boltingref04_Join.f kj11 (t506.take (a0_2 : Int).toNat) (t506.drop (t553 : Int).toNat)).bind fun t559 => ((boltingref04_Same.f t532 t559).bind fun t562 => (boltinglaw04_RowsPuts.j1 kj11 t506 t509 t514 t517 t520 (!t562)))) else (none)) else (none))) else (none)) else (boltinglaw04_RowsPuts.j1 kj11 t506 t509 t514 t517 t520 true)) = some r := H
           have A58 := Aside0.mk A580
           clear A580
           by_cases c59 : t547 = true
           ·subst c59
            have H1 : (if a0_2 ≤ (t506.length : Int) then ((boltingref04_End.f kj11 t506 a0_2).bind fun t553 => (if 0 ≤ t553 then (if t553 ≤ (t506.length : Int) then ((boltingref04_Join.f kj11 (t506.take (a0_2 : Int).toNat) (t506.drop (t553 : Int).toNat)).bind fun t559 => ((boltingref04_Same.f t532 t559).bind fun t562 => (boltinglaw04_RowsPuts.j1 kj11 t506 t509 t514 t517 t520 (!t562)))) else (none)) else (none))) else (none)) = some r := by rw [if_pos rfl] at H; exact H
            clear H
            have H := H1
            clear H1
            have c60b0 := eq_true (of_decide_eq_true aA : 0 ≤ a0_2)
            by_cases c61 : a0_2 ≤ (t506.length : Int)
            ·rw [if_pos c61] at H
             have c61b0 := eq_true c61
             have c61b1 : decide (a0_2 ≤ (t506.length : Int)) = true := decide_eq_true c61
             clear c61
             obtain ⟨y548, hy548⟩ : ∃ y_ : List (S43), y_ = (t506.take (a0_2 : Int).toNat) := ⟨_, rfl⟩
             replace H : ((boltingref04_End.f kj11 t506 a0_2).bind fun t553 => (if 0 ≤ t553 then (if t553 ≤ (t506.length : Int) then ((boltingref04_Join.f kj11 y548 (t506.drop (t553 : Int).toNat)).bind fun t559 => ((boltingref04_Same.f t532 t559).bind fun t562 => (boltinglaw04_RowsPuts.j1 kj11 t506 t509 t514 t517 t520 (!t562)))) else (none)) else (none))) = some r := by first | (rw [hy548]; with_reducible exact H) | (have H2_ := (Option.bind_some _ _).symm.trans H; rw [hy548]; with_reducible exact H2_) | (have H2_ := (Option.bind_some _ _).symm.trans H; with_reducible exact H2_) | with_reducible exact H | (rw [hy548]; exact H) | exact H
             have Ny548 := Aside0.mk hy548
             clear hy548
             replace H := Option.bind_eq_some_iff.mp H
             obtain ⟨t553, A620, H⟩ := H
             replace H : (if 0 ≤ t553 then (if t553 ≤ (t506.length : Int) then ((boltingref04_Join.f kj11 y548 (t506.drop (t553 : Int).toNat)).bind fun t559 => ((boltingref04_Same.f t532 t559).bind fun t562 => (boltinglaw04_RowsPuts.j1 kj11 t506 t509 t514 t517 t520 (!t562)))) else (none)) else (none)) = some r := H
             have A62 := Aside0.mk A620
             clear A620
             by_cases c63 : 0 ≤ t553
             ·rw [if_pos c63] at H
              have c63b0 := eq_true c63
              have c63b1 : decide (0 ≤ t553) = true := decide_eq_true c63
              clear c63
              by_cases c64 : t553 ≤ (t506.length : Int)
              ·rw [if_pos c64] at H
               have c64b0 := eq_true c64
               have c64b1 : decide (t553 ≤ (t506.length : Int)) = true := decide_eq_true c64
               clear c64
               obtain ⟨y554, hy554⟩ : ∃ y_ : List (S43), y_ = (t506.drop (t553 : Int).toNat) := ⟨_, rfl⟩
               replace H : ((boltingref04_Join.f kj11 y548 y554).bind fun t559 => ((boltingref04_Same.f t532 t559).bind fun t562 => (boltinglaw04_RowsPuts.j1 kj11 t506 t509 t514 t517 t520 (!t562)))) = some r := by first | (rw [hy554]; with_reducible exact H) | (have H2_ := (Option.bind_some _ _).symm.trans H; rw [hy554]; with_reducible exact H2_) | (have H2_ := (Option.bind_some _ _).symm.trans H; with_reducible exact H2_) | with_reducible exact H | (rw [hy554]; exact H) | exact H
               have Ny554 := Aside0.mk hy554
               clear hy554
               replace H := Option.bind_eq_some_iff.mp H
               obtain ⟨t559, A650, H⟩ := H
               replace H : ((boltingref04_Same.f t532 t559).bind fun t562 => (boltinglaw04_RowsPuts.j1 kj11 t506 t509 t514 t517 t520 (!t562))) = some r := H
               have A65 := Aside0.mk A650
               clear A650
               replace H := Option.bind_eq_some_iff.mp H
               obtain ⟨t562, A660, H⟩ := H
               replace H : (boltinglaw04_RowsPuts.j1 kj11 t506 t509 t514 t517 t520 (!t562)) = some r := H
               have A66 := Aside0.mk A660
               clear A660
               have H' := Aside0.mk H
               clear H
               try go_wp2
               have n0_ := Aside0.mk (Kd.N_drew HO_3.out)
               have n1_ := Aside0.mk (Kd.N_drew HO_4.out)
               have n2_ := Aside0.mk (Kd.N_drew HO_5.out)
               have n3_ := Aside0.mk (Kd.N_drew HO_6.out)
               have n4_ := Aside0.mk (Kd.N_drew HO_7.out)
               have n5_ := Aside0.mk (Kd.N_drew HO_11.out)
               have n6_ := Aside0.mk (Kd.N_drew HO_13.out)
               have n7_ := Aside0.mk (blk_drew BK505.out)
               have n8_ := Aside0.mk (below_drew1 HB.out); have PB_ := Aside0.mk (below_drew1 HBP.out); have PA_ := Aside0.mk (Kd.N_drew HAP.out)
               clear HO_3
               clear HO_4
               clear HO_5
               clear HO_6
               clear HO_7
               clear HO_11
               clear HO_13
               clear BK505
               clear HB
               have HO_3 := n0_
               have HO_4 := n1_
               have HO_5 := n2_
               have HO_6 := n3_
               have HO_7 := n4_
               have HO_11 := n5_
               have HO_13 := n6_
               have BK505 := n7_
               have HB := n8_; clear HBP HAP; have HBP := PB_; have HAP := PA_; clear PB_ PA_
               clear n0_ n1_ n2_ n3_ n4_ n5_ n6_ n7_ n8_
               have p543 : 0 ≤ (a0_2 : Int) := of_decide_eq_true aA
               have q543 : a0_2 < (t506.length : Int) := of_decide_eq_true aA
               obtain ⟨ad543, A543_4, c543_4, e543, hx543_0, hx543_1, hx543_2, hx543_3, hx543_4, hl543_4, hi543_4⟩ := at_T43 (Kd.N_reads' HO_3.out).2.2 a0_2 p543 q543
               cases e543
               obtain ⟨ce543, hce543, hMe543, hcc543⟩ := Kd.N_get HO_3.out z43 a0_2 p543 (by first | exact q543 | exact of_decide_eq_true aA | (have e_ := (Kd.N_reads' HO_3.out).1; omega))
               obtain ⟨ua543_4, uc543_4, rfl, ul543_4, ge543_4⟩ := k43_openF hMe543
               have hv543_4 := hcc543 4 _ rfl
               rw [add_field _ _ 4 (by omega)] at hv543_4
               replace hv543_4 := Option.some.inj (hv543_4.symm.trans hx543_4)
               injection hv543_4 with hva_ hvn_ hvc_
               rw [hva_] at ge543_4
               rw [hvc_] at ul543_4
               clear hva_ hvn_ hvc_ ge543_4 ul543_4
               clear hcc543 hce543
               have HC543_4 := Aside0.mk hl543_4
               clear hi543_4 hl543_4
               replace p543 := eq_true p543
               replace q543 := eq_true q543
               refine start_ (n := 39) (S := fun w' => w'.cell? ⟨gb505, 0, none⟩ = some (.slice A0_0 l0_0.length c0_0) ∧ w'.cell? ⟨gb505, 1, none⟩ = some (.slice A0_1 l0_1.length c0_1) ∧ w'.cell? ⟨gb505, 2, none⟩ = some (.int .i64 a0_2) ∧ w'.cell? ⟨gb505, 3, none⟩ = some (.int .i64 a0_3) ∧ w'.cell? (ad543.add ((a0_2).toNat * 5)) = some (.int .i64 ((rd_T43 t506 a0_2).f0)) ∧ w'.cell? ⟨(ad543.add ((a0_2).toNat * 5)).block, (ad543.add ((a0_2).toNat * 5)).off + 1, none⟩ = some (.int .i64 ((rd_T43 t506 a0_2).f1)) ∧ w'.cell? ⟨(ad543.add ((a0_2).toNat * 5)).block, (ad543.add ((a0_2).toNat * 5)).off + 2, none⟩ = some (.string ((rd_T43 t506 a0_2).f2)) ∧ w'.cell? ⟨(ad543.add ((a0_2).toNat * 5)).block, (ad543.add ((a0_2).toNat * 5)).off + 3, none⟩ = some (.string ((rd_T43 t506 a0_2).f3)) ∧ w'.cell? ⟨(ad543.add ((a0_2).toNat * 5)).block, (ad543.add ((a0_2).toNat * 5)).off + 4, none⟩ = some (.slice A543_4 ((rd_T43 t506 a0_2).f4).length c543_4)) (ds := []) #[Z, Z, Z, Z, Z, Z, Z, Z, Z, Z, Z, Z, Z, Z, Z, Z, Z, Z, Z, Z, Z, Z, Z, Z, Z, Z, Z, Z, Z, Z, Z, Z, Z, Z, Z, Z, Z, Z, Z] (by kernel_rfl) rfl rfl ⟨(blk_cell BK505.out 0).trans rfl, (blk_cell BK505.out 1).trans rfl, (blk_cell BK505.out 2).trans rfl, (blk_cell BK505.out 3).trans rfl, hx543_0, hx543_1, hx543_2, hx543_3, hx543_4⟩ (fun hHeld => ?_); refine with_tabW boltinglaw04_RowsPuts.tab11 boltinglaw04_RowsPuts.bits11 (fun HT_ HW_ => ?_)
               generalize wc.drew = w67 at HO_3 HO_4 HO_5 HO_6 HO_7 HO_11 HO_13 BK505 HB HBP HAP hx543_0 hx543_1 hx543_2 hx543_3 hx543_4 hHeld ⊢
               refine pA 0 94 #[Y, Z, Z, Z, Z, Z, Z, Z, Z, Z, Z, Z, Z, Z, Z, Z, Z, Z, Z, Z, Z, Z, Z, Z, Z, Z, Z, Z, Z, Z, Z, Z, Z, Z, Z, Z, Z, Z, Z] HT_ ?_
               refine pA 1 95 #[Y, Y, Z, Z, Z, Z, Z, Z, Z, Z, Z, Z, Z, Z, Z, Z, Z, Z, Z, Z, Z, Z, Z, Z, Z, Z, Z, Z, Z, Z, Z, Z, Z, Z, Z, Z, Z, Z, Z] HT_ ?_
               refine pA 2 96 #[Y, Y, Y, Z, Z, Z, Z, Z, Z, Z, Z, Z, Z, Z, Z, Z, Z, Z, Z, Z, Z, Z, Z, Z, Z, Z, Z, Z, Z, Z, Z, Z, Z, Z, Z, Z, Z, Z, Z] HT_ ?_
               refine pA 3 97 #[Y, Y, Y, Y, Z, Z, Z, Z, Z, Z, Z, Z, Z, Z, Z, Z, Z, Z, Z, Z, Z, Z, Z, Z, Z, Z, Z, Z, Z, Z, Z, Z, Z, Z, Z, Z, Z, Z, Z] HT_ ?_
               refine pA 4 98 #[Y, Y, Y, Y, Y, Z, Z, Z, Z, Z, Z, Z, Z, Z, Z, Z, Z, Z, Z, Z, Z, Z, Z, Z, Z, Z, Z, Z, Z, Z, Z, Z, Z, Z, Z, Z, Z, Z, Z] HT_ ?_
               refine pA 5 99 #[Y, Y, Y, Y, Y, Y, Z, Z, Z, Z, Z, Z, Z, Z, Z, Z, Z, Z, Z, Z, Z, Z, Z, Z, Z, Z, Z, Z, Z, Z, Z, Z, Z, Z, Z, Z, Z, Z, Z] HT_ ?_
               refine pA 7 101 #[Y, Y, Y, Y, Y, Y, Z, Y, Z, Z, Z, Z, Z, Z, Z, Z, Z, Z, Z, Z, Z, Z, Z, Z, Z, Z, Z, Z, Z, Z, Z, Z, Z, Z, Z, Z, Z, Z, Z] HT_ ?_
               refine pA 8 102 #[Y, Y, Y, Y, Y, Y, Z, Y, Y, Z, Z, Z, Z, Z, Z, Z, Z, Z, Z, Z, Z, Z, Z, Z, Z, Z, Z, Z, Z, Z, Z, Z, Z, Z, Z, Z, Z, Z, Z] HT_ ?_
               refine pA 12 106 #[Y, Y, Y, Y, Y, Y, Z, Y, Y, Z, Z, Z, Y, Z, Z, Z, Z, Z, Z, Z, Z, Z, Z, Z, Z, Z, Z, Z, Z, Z, Z, Z, Z, Z, Z, Z, Z, Z, Z] HT_ ?_
               refine pA 13 107 #[Y, Y, Y, Y, Y, Y, Z, Y, Y, Z, Z, Z, Y, Y, Z, Z, Z, Z, Z, Z, Z, Z, Z, Z, Z, Z, Z, Z, Z, Z, Z, Z, Z, Z, Z, Z, Z, Z, Z] HT_ ?_
               refine take_ (i := 6) (N := some 100) (v := ?_) (a' := ?_) #[Y, Y, Y, Y, Y, Y, Y, Y, Y, Z, Z, Z, Y, Y, Z, Z, Z, Z, Z, Z, Z, Z, Z, Z, Z, Z, Z, Z, Z, Z, Z, Z, Z, Z, Z, Z, Z, Z, Z] rfl rfl (take_ofW HT_.out HW_.out (by kernel_rfl)) (fun _ _ _ h => h) (Or.inl ⟨by rfl, ?_⟩) hHeld ?_ ?_
               rotate_left
               ·rintro w' ⟨s0, s1, s2, s3, s4, s5, s6, s7, s8⟩
                go_simp
                with_reducible rfl
               rotate_left
               ·simp only [Act.put, List.setIfInBounds_toArray, List.set_cons_zero, List.set_cons_succ, i64_w, i32_w]
                rfl
               refine take_ (i := 9) (N := some 103) (v := ?_) (a' := ?_) #[Y, Y, Y, Y, Y, Y, Y, Y, Y, Y, Z, Z, Y, Y, Z, Z, Z, Z, Z, Z, Z, Z, Z, Z, Z, Z, Z, Z, Z, Z, Z, Z, Z, Z, Z, Z, Z, Z, Z] rfl rfl (take_ofW HT_.out HW_.out (by kernel_rfl)) (fun _ _ _ h => h) (Or.inl ⟨by rfl, ?_⟩) hHeld ?_ ?_
               rotate_left
               ·rintro w' ⟨s0, s1, s2, s3, s4, s5, s6, s7, s8⟩
                go_simp
                with_reducible rfl
               rotate_left
               ·simp only [Act.put, List.setIfInBounds_toArray, List.set_cons_zero, List.set_cons_succ, i64_w, i32_w]
                rfl
               refine take_ (i := 14) (N := some 108) (v := ?_) (a' := ?_) #[Y, Y, Y, Y, Y, Y, Y, Y, Y, Y, Z, Z, Y, Y, Y, Z, Z, Z, Z, Z, Z, Z, Z, Z, Z, Z, Z, Z, Z, Z, Z, Z, Z, Z, Z, Z, Z, Z, Z] rfl rfl (take_ofW HT_.out HW_.out (by kernel_rfl)) (fun _ _ _ h => h) (Or.inl ⟨by rfl, ?_⟩) hHeld ?_ ?_
               rotate_left
               ·rintro w' ⟨s0, s1, s2, s3, s4, s5, s6, s7, s8⟩
                go_simp
                with_reducible rfl
               rotate_left
               ·simp only [Act.put, List.setIfInBounds_toArray, List.set_cons_zero, List.set_cons_succ, i64_w, i32_w]
                rfl
               refine pA 15 109 #[Y, Y, Y, Y, Y, Y, Y, Y, Y, Y, Z, Z, Y, Y, Y, Y, Z, Z, Z, Z, Z, Z, Z, Z, Z, Z, Z, Z, Z, Z, Z, Z, Z, Z, Z, Z, Z, Z, Z] HT_ ?_
               refine pA 16 110 #[Y, Y, Y, Y, Y, Y, Y, Y, Y, Y, Z, Z, Y, Y, Y, Y, Y, Z, Z, Z, Z, Z, Z, Z, Z, Z, Z, Z, Z, Z, Z, Z, Z, Z, Z, Z, Z, Z, Z] HT_ ?_
               refine take_ (i := 17) (N := some 111) (v := ?_) (a' := ?_) #[Y, Y, Y, Y, Y, Y, Y, Y, Y, Y, Z, Z, Y, Y, Y, Y, Y, Y, Z, Z, Z, Z, Z, Z, Z, Z, Z, Z, Z, Z, Z, Z, Z, Z, Z, Z, Z, Z, Z] rfl rfl (take_ofW HT_.out HW_.out (by kernel_rfl)) (fun _ _ _ h => h) (Or.inl ⟨by rfl, ?_⟩) hHeld ?_ ?_
               rotate_left
               ·rintro w' ⟨s0, s1, s2, s3, s4, s5, s6, s7, s8⟩
                go_simp
                with_reducible rfl
               rotate_left
               ·simp only [Act.put, List.setIfInBounds_toArray, List.set_cons_zero, List.set_cons_succ, i64_w, i32_w]
                rfl
               refine pA 18 112 #[Y, Y, Y, Y, Y, Y, Y, Y, Y, Y, Z, Z, Y, Y, Y, Y, Y, Y, Y, Z, Z, Z, Z, Z, Z, Z, Z, Z, Z, Z, Z, Z, Z, Z, Z, Z, Z, Z, Z] HT_ ?_
               refine one_ (i := 10) (N := some 104) #[Y, Y, Y, Y, Y, Y, Y, Y, Y, Y, Y, Z, Y, Y, Y, Y, Y, Y, Y, Z, Z, Z, Z, Z, Z, Z, Z, Z, Z, Z, Z, Z, Z, Z, Z, Z, Z, Z, Z] rfl rfl (one_of HT_.out (by kernel_rfl)) (by decide) (fun K hK => ?_)
               refine goes_ Try.func20 (by kernel_rfl) rfl #[.slice (some ad543) t506.length co17, .int .i64 a0_2] (by rfl) rfl rfl (by (try simp only [List.map_toArray, List.map_cons, List.map_nil]); first | done | rfl | (simp only [List.length_drop, List.length_take]; rfl)) ?_
               with_reducible refine (boltingref04_End.calls kj11 _ _ t506 a0_2 t537 _ ?side1 ?side2 A52.out).mono ?_
               (case side1 => exact aC (Kd.N_reads' HO_3.out).2.2)
               (case side2 => exact (Kd.N_reads' HO_3.out).2.1)
               rintro e w' ⟨rfl, ⟨nd, rfl⟩⟩
               refine ⟨_, rfl, ?_⟩
               have q68 : (t537 : Int) ≤ ((t506.length : Int) : Int) := of_decide_eq_true aA
               obtain ⟨i068, hi068, _, hsz68, _⟩ := info_parts info43
               have hroom68 : t506.length ≤ co17 := (Kd.N_reads' HO_3.out).2.1
               have hC68 : Kd.F k43 _ _ (some ad543) t506.length t506 := (Kd.V_at (base := w.heap.size) (Kd.N_V HO_3.out)).2.2
               have ql68 : (a0_2 : Int) ≤ (t537 : Int) := of_decide_eq_true aA
               have q068 : (0 : Int) ≤ (a0_2 : Int) := of_decide_eq_true aA
               have hcut68 := cut_mid (P := Try.prog) 22 43 .i64 .i64 Try.underlying22 hi068 5 hsz68 (some ad543) t506.length co17 a0_2 t537 q068 ql68 q68 hroom68
               have hr68 := Kd.F_mid (lo := (a0_2 : Int).toNat) (hi := (t537 : Int).toNat) (c := co17) hC68 (by omega) (by omega) hroom68
               obtain ⟨A68, hA68⟩ : ∃ A1, A1 = (if co17 = (a0_2 : Int).toNat then (some ad543) else ((some ad543) : Option Addr).map (·.add ((a0_2 : Int).toNat * 5))) := ⟨_, rfl⟩
               obtain ⟨c68, hc68⟩ : ∃ c1, c1 = co17 - (a0_2 : Int).toNat := ⟨_, rfl⟩
               have hy68 : y538.length = (t537 : Int).toNat - (a0_2 : Int).toNat := (by rw [Ny538.out, List.length_drop, List.length_take] <;> omega)
               rw [show ((t506).take (t537 : Int).toNat).drop (a0_2 : Int).toNat = y538 from Ny538.out.symm] at hr68
               replace hr68 : Kd.F k43 _ _ A68 y538.length y538 := (by rw [hA68]; exact hr68)
               rw [← hy68, ← hA68, ← hc68] at hcut68
               have HO542 := Aside0.mk (show Kd.V k43 43 _ w.heap.size _ (.slice A68 y538.length c68) y538 from Kd.V_mk (by rw [hy68, hc68]; exact Nat.sub_le_sub_right (Nat.le_trans (by omega) hroom68) _) hr68)
               have HC542 := Aside0.mk (show y538.length ≤ c68 from by rw [hy68, hc68]; exact Nat.sub_le_sub_right (Nat.le_trans (by omega) hroom68) _)
               clear hr68 hC68 hroom68 hi068 hsz68 hc68
               have KY68 := Aside0.mk hy68
               have KA68 := Aside0.mk hA68
               clear hy68 hA68
               replace q68 := eq_true q68
               refine hK.out _ _ ⟨(blk_cell BK505.out 0).trans rfl, (blk_cell BK505.out 1).trans rfl, (blk_cell BK505.out 2).trans rfl, (blk_cell BK505.out 3).trans rfl, hHeld.2.2.2.2.1, hHeld.2.2.2.2.2.1, hHeld.2.2.2.2.2.2.1, hHeld.2.2.2.2.2.2.2.1, hHeld.2.2.2.2.2.2.2.2⟩ (fun hHeld => ?_)
               clear hK K
               refine norm_ (a' := ?_) ?_ ?_
               rotate_left
               ·show Act.put _ (some 104) _ = _
                simp only [Act.put, List.setIfInBounds_toArray, List.set_cons_zero, List.set_cons_succ, i64_w, i32_w]
                rfl
               refine pA 11 105 #[Y, Y, Y, Y, Y, Y, Y, Y, Y, Y, Y, Y, Y, Y, Y, Y, Y, Y, Y, Z, Z, Z, Z, Z, Z, Z, Z, Z, Z, Z, Z, Z, Z, Z, Z, Z, Z, Z, Z] HT_ ?_
               refine one_ (i := 19) (N := some 113) #[Y, Y, Y, Y, Y, Y, Y, Y, Y, Y, Y, Y, Y, Y, Y, Y, Y, Y, Y, Y, Z, Z, Z, Z, Z, Z, Z, Z, Z, Z, Z, Z, Z, Z, Z, Z, Z, Z, Z] rfl rfl (one_of HT_.out (by kernel_rfl)) (by decide) (fun K hK => ?_)
               refine goes_ Try.func17 (by kernel_rfl) rfl #[.slice A68 y538.length c68, .int .i64 (wrap64 (-((rd_T43 t506 a0_2).f0)))] (by rfl) rfl rfl (by (try simp only [List.map_toArray, List.map_cons, List.map_nil]); first | done | rfl | (simp only [List.length_drop, List.length_take]; rfl)) ?_
               with_reducible refine (boltingref04_Moved.calls kj11 _ _ y538 (wrap64 (-((rd_T43 t506 a0_2).f0))) t544 _ ?side1 ?side2 A57.out).mono ?_
               (case side1 => exact aC (Kd.V_reads' HO542.out).2.2)
               (case side2 => exact (Kd.V_reads' HO542.out).2.1)
               rintro e w69 ⟨v545, rfl, ho0, hb⟩
               have HS4_ := (hb.cell (World.block_lt_of_cell? _ _ (hHeld.2.2.2.2.1))).trans (hHeld.2.2.2.2.1)
               have HS5_ := (hb.cell (World.block_lt_of_cell? _ _ (hHeld.2.2.2.2.2.1))).trans (hHeld.2.2.2.2.2.1)
               have HS6_ := (hb.cell (World.block_lt_of_cell? _ _ (hHeld.2.2.2.2.2.2.1))).trans (hHeld.2.2.2.2.2.2.1)
               have HS7_ := (hb.cell (World.block_lt_of_cell? _ _ (hHeld.2.2.2.2.2.2.2.1))).trans (hHeld.2.2.2.2.2.2.2.1)
               have HS8_ := (hb.cell (World.block_lt_of_cell? _ _ (hHeld.2.2.2.2.2.2.2.2))).trans (hHeld.2.2.2.2.2.2.2.2)
               refine ⟨_, rfl, ?_⟩
               have n0_ := Aside0.mk (Kd.N_elder' (aN HO_3) (aS ho0) hb)
               have n1_ := Aside0.mk (Kd.N_elder' (aN HO_4) (aS ho0) hb)
               have n2_ := Aside0.mk (Kd.N_elder' (aN HO_5) (aS ho0) hb)
               have n3_ := Aside0.mk (Kd.N_elder' (aN HO_6) (aS ho0) hb)
               have n4_ := Aside0.mk (Kd.N_elder' (aN HO_7) (aS ho0) hb)
               have n5_ := Aside0.mk (Kd.N_elder' (aN HO_11) (aS ho0) hb)
               have n6_ := Aside0.mk (Kd.N_elder' (aN HO_13) (aS ho0) hb)
               have n8_ := Aside0.mk (Kd.V_elder' (aV HO542) (aS ho0) hb)
               have n9_ := Aside0.mk (Kd.N_lower (Kd.N_mono (ok' := fun k_ => some k_ ≠ (.slice (some ad543) t506.length co17 : Value).ownBlock ∧ some k_ ≠ (.slice Ao20 t509.length co20 : Value).ownBlock ∧ some k_ ≠ (v515 : Value).ownBlock ∧ some k_ ≠ (v518 : Value).ownBlock ∧ some k_ ≠ (v521 : Value).ownBlock ∧ some k_ ≠ (v530 : Value).ownBlock ∧ some k_ ≠ (v533 : Value).ownBlock ∧ k_ ≠ gb505) (Kd.S_N (Kd.S_bound ho0)) (fun k_ hk_ => ⟨(Kd.fresh' (Kd.N_lt (aN HO_3)) k_ hk_.2.1), (Kd.fresh' (Kd.N_lt (aN HO_4)) k_ hk_.2.1), (Kd.fresh' (Kd.N_lt (aN HO_5)) k_ hk_.2.1), (Kd.fresh' (Kd.N_lt (aN HO_6)) k_ hk_.2.1), (Kd.fresh' (Kd.N_lt (aN HO_7)) k_ hk_.2.1), (Kd.fresh' (Kd.N_lt (aN HO_11)) k_ hk_.2.1), (Kd.fresh' (Kd.N_lt (aN HO_13)) k_ hk_.2.1), (Kd.freshB (g := gb505) (o := .cells #[.slice A0_0 l0_0.length c0_0, .slice A0_1 l0_1.length c0_1, .int .i64 a0_2, .int .i64 a0_3] 37 (0, 0)) (aK BK505) k_ hk_.2.1)⟩)) (below_size (by repeat (first | (with_reducible first | exact HB.out | apply below_alloc | apply pw_below_drewN | apply below_drew1 | refine below_set ?_ GE505.out) | exact HB.out))))
               have n10_ := Aside0.mk (blk_below (g := gb505) (o := .cells #[.slice A0_0 l0_0.length c0_0, .slice A0_1 l0_1.length c0_1, .int .i64 a0_2, .int .i64 a0_3] 37 (0, 0)) (aK BK505) hb)
               have n12_ := Aside0.mk (below_step (by repeat (first | (with_reducible first | exact HB.out | apply below_alloc | apply pw_below_drewN | apply below_drew1 | refine below_set ?_ GE505.out) | exact HB.out)) hb); have PB_ := Aside0.mk (below_step (aB HBP) hb); have PA_ := Aside0.mk (Kd.N_below (aN HAP) hb)
               clear HO_3
               clear HO_4
               clear HO_5
               clear HO_6
               clear HO_7
               clear HO_11
               clear HO_13
               clear HO542
               clear BK505
               clear HB
               have HO_3 := n0_
               have HO_4 := n1_
               have HO_5 := n2_
               have HO_6 := n3_
               have HO_7 := n4_
               have HO_11 := n5_
               have HO_13 := n6_
               have HO542 := n8_
               have HO546 := n9_
               have BK505 := n10_
               have HB := n12_; clear HBP HAP; have HBP := PB_; have HAP := PA_; clear PB_ PA_
               clear n0_ n1_ n2_ n3_ n4_ n5_ n6_ n8_ n9_ n10_ n12_
               (try clear hb)
               (try clear hb2)
               (try clear hk)
               (try clear hi)
               (try clear ho0)
               obtain ⟨Ao70, co70, eo70⟩ := Kd.N_slice HO_11.out
               (first | subst eo70 | (injection eo70 with f1_ f2_ f3_; have f4_ := f1_.symm; have f5_ := f3_.symm; clear f1_ f2_ f3_; subst f4_; subst f5_))
               obtain ⟨Ao71, co71, eo71⟩ := Kd.N_slice HO546.out
               (first | subst eo71 | (injection eo71 with f1_ f2_ f3_; have f4_ := f1_.symm; have f5_ := f3_.symm; clear f1_ f2_ f3_; subst f4_; subst f5_))
               refine hK.out _ _ ⟨(blk_cell BK505.out 0).trans rfl, (blk_cell BK505.out 1).trans rfl, (blk_cell BK505.out 2).trans rfl, (blk_cell BK505.out 3).trans rfl, HS4_, HS5_, HS6_, HS7_, HS8_⟩ (fun hHeld => ?_)
               clear hK K
               refine norm_ (a' := ?_) ?_ ?_
               rotate_left
               ·show Act.put _ (some 113) _ = _
                simp only [Act.put, List.setIfInBounds_toArray, List.set_cons_zero, List.set_cons_succ, i64_w, i32_w]
                rfl
               refine one_ (i := 20) (N := some 114) #[Y, Y, Y, Y, Y, Y, Y, Y, Y, Y, Y, Y, Y, Y, Y, Y, Y, Y, Y, Y, Y, Z, Z, Z, Z, Z, Z, Z, Z, Z, Z, Z, Z, Z, Z, Z, Z, Z, Z] rfl rfl (one_of HT_.out (by kernel_rfl)) (by decide) (fun K hK => ?_)
               refine goes_ Try.func16 (by kernel_rfl) rfl #[.slice Ao70 t528.length co70, .slice Ao71 t544.length co71] (by rfl) rfl rfl (by (try simp only [List.map_toArray, List.map_cons, List.map_nil]); first | done | rfl | (simp only [List.length_drop, List.length_take]; rfl)) ?_
               with_reducible refine (boltingref04_Same.calls _ _ t528 _ _ t544 true _ ?side1 ?side2 ?side3 ?side4 A58.out).mono ?_
               (case side1 => exact aC (Kd.N_reads' HO_11.out).2.2)
               (case side2 => exact (Kd.N_reads' HO_11.out).2.1)
               (case side3 => exact aC (Kd.N_reads' HO546.out).2.2)
               (case side4 => exact (Kd.N_reads' HO546.out).2.1)
               rintro e w72 ⟨rfl, hb⟩
               have HS4_ := (hb.cell (World.block_lt_of_cell? _ _ (hHeld.2.2.2.2.1))).trans (hHeld.2.2.2.2.1)
               have HS5_ := (hb.cell (World.block_lt_of_cell? _ _ (hHeld.2.2.2.2.2.1))).trans (hHeld.2.2.2.2.2.1)
               have HS6_ := (hb.cell (World.block_lt_of_cell? _ _ (hHeld.2.2.2.2.2.2.1))).trans (hHeld.2.2.2.2.2.2.1)
               have HS7_ := (hb.cell (World.block_lt_of_cell? _ _ (hHeld.2.2.2.2.2.2.2.1))).trans (hHeld.2.2.2.2.2.2.2.1)
               have HS8_ := (hb.cell (World.block_lt_of_cell? _ _ (hHeld.2.2.2.2.2.2.2.2))).trans (hHeld.2.2.2.2.2.2.2.2)
               refine ⟨_, rfl, ?_⟩
               have n0_ := Aside0.mk (Kd.N_below (aN HO_3) hb)
               have n1_ := Aside0.mk (Kd.N_below (aN HO_4) hb)
               have n2_ := Aside0.mk (Kd.N_below (aN HO_5) hb)
               have n3_ := Aside0.mk (Kd.N_below (aN HO_6) hb)
               have n4_ := Aside0.mk (Kd.N_below (aN HO_7) hb)
               have n5_ := Aside0.mk (Kd.N_below (aN HO_11) hb)
               have n6_ := Aside0.mk (Kd.N_below (aN HO_13) hb)
               have n8_ := Aside0.mk (Kd.V_below (aV HO542) hb)
               have n9_ := Aside0.mk (Kd.N_below (aN HO546) hb)
               have n10_ := Aside0.mk (blk_below (g := gb505) (o := .cells #[.slice A0_0 l0_0.length c0_0, .slice A0_1 l0_1.length c0_1, .int .i64 a0_2, .int .i64 a0_3] 37 (0, 0)) (aK BK505) hb)
               have n12_ := Aside0.mk (below_step (by repeat (first | (with_reducible first | exact HB.out | apply below_alloc | apply pw_below_drewN | apply below_drew1 | refine below_set ?_ GE505.out) | exact HB.out)) hb); have PB_ := Aside0.mk (below_step (aB HBP) hb); have PA_ := Aside0.mk (Kd.N_below (aN HAP) hb)
               clear HO_3
               clear HO_4
               clear HO_5
               clear HO_6
               clear HO_7
               clear HO_11
               clear HO_13
               clear HO542
               clear HO546
               clear BK505
               clear HB
               have HO_3 := n0_
               have HO_4 := n1_
               have HO_5 := n2_
               have HO_6 := n3_
               have HO_7 := n4_
               have HO_11 := n5_
               have HO_13 := n6_
               have HO542 := n8_
               have HO546 := n9_
               have BK505 := n10_
               have HB := n12_; clear HBP HAP; have HBP := PB_; have HAP := PA_; clear PB_ PA_
               clear n0_ n1_ n2_ n3_ n4_ n5_ n6_ n8_ n9_ n10_ n12_
               (try clear hb)
               (try clear hb2)
               (try clear hk)
               (try clear hi)
               have q73 : (a0_2 : Int) ≤ ((t506.length : Int) : Int) := of_decide_eq_true aA
               obtain ⟨i073, hi073, _, hsz73, _⟩ := info_parts info43
               have hroom73 : t506.length ≤ co17 := (Kd.N_reads' HO_3.out).2.1
               have hC73 : Kd.F k43 _ _ (some ad543) t506.length t506 := (Kd.V_at (base := w.heap.size) (Kd.N_V HO_3.out)).2.2
               have hcut73 := cut_to (P := Try.prog) 22 43 .i64 Try.underlying22 hi073 (some ad543) t506.length co17 a0_2 (of_decide_eq_true aA) q73 hroom73
               have hr73 := Kd.F_take (m := (a0_2 : Int).toNat) hC73 (by omega)
               have hy73 : y548.length = (a0_2 : Int).toNat := (by rw [Ny548.out, List.length_take]; omega)
               rw [← Ny548.out] at hr73
               rw [← hy73] at hcut73
               have HO552 := Aside0.mk (show Kd.V k43 43 _ w.heap.size _ (.slice (some ad543) y548.length co17) y548 from Kd.V_mk (by omega) hr73)
               have HC552 := Aside0.mk (show y548.length ≤ co17 from by omega)
               clear hr73 hC73 hroom73 hi073 hsz73
               have KY73 := Aside0.mk hy73
               clear hy73
               replace q73 := eq_true q73
               refine hK.out _ _ ⟨(blk_cell BK505.out 0).trans rfl, (blk_cell BK505.out 1).trans rfl, (blk_cell BK505.out 2).trans rfl, (blk_cell BK505.out 3).trans rfl, HS4_, HS5_, HS6_, HS7_, HS8_⟩ (fun hHeld => ?_)
               clear hK K
               refine norm_ (a' := ?_) ?_ ?_
               rotate_left
               ·show Act.put _ (some 114) _ = _
                simp only [Act.put, List.setIfInBounds_toArray, List.set_cons_zero, List.set_cons_succ, i64_w, i32_w]
                rfl
               refine pA 21 115 #[Y, Y, Y, Y, Y, Y, Y, Y, Y, Y, Y, Y, Y, Y, Y, Y, Y, Y, Y, Y, Y, Y, Z, Z, Z, Z, Z, Z, Z, Z, Z, Z, Z, Z, Z, Z, Z, Z, Z] HT_ ?_
               refine pA 22 116 #[Y, Y, Y, Y, Y, Y, Y, Y, Y, Y, Y, Y, Y, Y, Y, Y, Y, Y, Y, Y, Y, Y, Y, Z, Z, Z, Z, Z, Z, Z, Z, Z, Z, Z, Z, Z, Z, Z, Z] HT_ ?_
               refine pA 23 117 #[Y, Y, Y, Y, Y, Y, Y, Y, Y, Y, Y, Y, Y, Y, Y, Y, Y, Y, Y, Y, Y, Y, Y, Y, Z, Z, Z, Z, Z, Z, Z, Z, Z, Z, Z, Z, Z, Z, Z] HT_ ?_
               refine pA 24 118 #[Y, Y, Y, Y, Y, Y, Y, Y, Y, Y, Y, Y, Y, Y, Y, Y, Y, Y, Y, Y, Y, Y, Y, Y, Y, Z, Z, Z, Z, Z, Z, Z, Z, Z, Z, Z, Z, Z, Z] HT_ ?_
               refine pA 25 119 #[Y, Y, Y, Y, Y, Y, Y, Y, Y, Y, Y, Y, Y, Y, Y, Y, Y, Y, Y, Y, Y, Y, Y, Y, Y, Y, Z, Z, Z, Z, Z, Z, Z, Z, Z, Z, Z, Z, Z] HT_ ?_
               refine pA 28 122 #[Y, Y, Y, Y, Y, Y, Y, Y, Y, Y, Y, Y, Y, Y, Y, Y, Y, Y, Y, Y, Y, Y, Y, Y, Y, Y, Z, Z, Y, Z, Z, Z, Z, Z, Z, Z, Z, Z, Z] HT_ ?_
               refine pA 29 123 #[Y, Y, Y, Y, Y, Y, Y, Y, Y, Y, Y, Y, Y, Y, Y, Y, Y, Y, Y, Y, Y, Y, Y, Y, Y, Y, Z, Z, Y, Y, Z, Z, Z, Z, Z, Z, Z, Z, Z] HT_ ?_
               refine pA 30 124 #[Y, Y, Y, Y, Y, Y, Y, Y, Y, Y, Y, Y, Y, Y, Y, Y, Y, Y, Y, Y, Y, Y, Y, Y, Y, Y, Z, Z, Y, Y, Y, Z, Z, Z, Z, Z, Z, Z, Z] HT_ ?_
               refine take_ (i := 26) (N := some 120) (v := ?_) (a' := ?_) #[Y, Y, Y, Y, Y, Y, Y, Y, Y, Y, Y, Y, Y, Y, Y, Y, Y, Y, Y, Y, Y, Y, Y, Y, Y, Y, Y, Z, Y, Y, Y, Z, Z, Z, Z, Z, Z, Z, Z] rfl rfl (take_ofW HT_.out HW_.out (by kernel_rfl)) (fun _ _ _ h => h) (Or.inl ⟨by rfl, ?_⟩) hHeld ?_ ?_
               rotate_left
               ·rintro w' ⟨s0, s1, s2, s3, s4, s5, s6, s7, s8⟩
                go_simp
                with_reducible rfl
               rotate_left
               ·simp only [Act.put, List.setIfInBounds_toArray, List.set_cons_zero, List.set_cons_succ, i64_w, i32_w]
                rfl
               refine pA 27 121 #[Y, Y, Y, Y, Y, Y, Y, Y, Y, Y, Y, Y, Y, Y, Y, Y, Y, Y, Y, Y, Y, Y, Y, Y, Y, Y, Y, Y, Y, Y, Y, Z, Z, Z, Z, Z, Z, Z, Z] HT_ ?_
               refine take_ (i := 31) (N := some 125) (v := ?_) (a' := ?_) #[Y, Y, Y, Y, Y, Y, Y, Y, Y, Y, Y, Y, Y, Y, Y, Y, Y, Y, Y, Y, Y, Y, Y, Y, Y, Y, Y, Y, Y, Y, Y, Y, Z, Z, Z, Z, Z, Z, Z] rfl rfl (take_ofW HT_.out HW_.out (by kernel_rfl)) (fun _ _ _ h => h) (Or.inl ⟨by rfl, ?_⟩) hHeld ?_ ?_
               rotate_left
               ·rintro w' ⟨s0, s1, s2, s3, s4, s5, s6, s7, s8⟩
                go_simp
                with_reducible rfl
               rotate_left
               ·simp only [Act.put, List.setIfInBounds_toArray, List.set_cons_zero, List.set_cons_succ, i64_w, i32_w]
                rfl
               refine one_ (i := 32) (N := some 126) #[Y, Y, Y, Y, Y, Y, Y, Y, Y, Y, Y, Y, Y, Y, Y, Y, Y, Y, Y, Y, Y, Y, Y, Y, Y, Y, Y, Y, Y, Y, Y, Y, Y, Z, Z, Z, Z, Z, Z] rfl rfl (one_of HT_.out (by kernel_rfl)) (by decide) (fun K hK => ?_)
               refine goes_ Try.func20 (by kernel_rfl) rfl #[.slice (some ad543) t506.length co17, .int .i64 a0_2] (by rfl) rfl rfl (by (try simp only [List.map_toArray, List.map_cons, List.map_nil]); first | done | rfl | (simp only [List.length_drop, List.length_take]; rfl)) ?_
               with_reducible refine (boltingref04_End.calls kj11 _ _ t506 a0_2 t553 _ ?side1 ?side2 A62.out).mono ?_
               (case side1 => exact aC (Kd.N_reads' HO_3.out).2.2)
               (case side2 => exact (Kd.N_reads' HO_3.out).2.1)
               rintro e w' ⟨rfl, ⟨nd, rfl⟩⟩
               refine ⟨_, rfl, ?_⟩
               have q74 : (t553 : Int) ≤ ((t506.length : Int) : Int) := of_decide_eq_true aA
               obtain ⟨i074, hi074, _, hsz74, _⟩ := info_parts info43
               have hroom74 : t506.length ≤ co17 := (Kd.N_reads' HO_3.out).2.1
               have hC74 : Kd.F k43 _ _ (some ad543) t506.length t506 := (Kd.V_at (base := w.heap.size) (Kd.N_V HO_3.out)).2.2
               have q074 : (0 : Int) ≤ (t553 : Int) := of_decide_eq_true aA
               have hcut74 := cut_from (P := Try.prog) 22 43 .i64 Try.underlying22 hi074 5 hsz74 (some ad543) t506.length co17 t553 q074 q74
               have hr74 := Kd.F_cut (m := (t553 : Int).toNat) (c := co17) hC74 (by omega) hroom74
               obtain ⟨A74, hA74⟩ : ∃ A1, A1 = (if co17 = (t553 : Int).toNat then (some ad543) else ((some ad543) : Option Addr).map (·.add ((t553 : Int).toNat * 5))) := ⟨_, rfl⟩
               obtain ⟨c74, hc74⟩ : ∃ c1, c1 = co17 - (t553 : Int).toNat := ⟨_, rfl⟩
               have hy74 : y554.length = t506.length - (t553 : Int).toNat := (by rw [Ny554.out, List.length_drop] <;> omega)
               rw [show (t506).drop (t553 : Int).toNat = y554 from Ny554.out.symm] at hr74
               replace hr74 : Kd.F k43 _ _ A74 y554.length y554 := (by rw [hA74]; exact hr74)
               rw [← hy74, ← hA74, ← hc74] at hcut74
               have HO558 := Aside0.mk (show Kd.V k43 43 _ w.heap.size _ (.slice A74 y554.length c74) y554 from Kd.V_mk (by rw [hy74, hc74]; exact Nat.sub_le_sub_right hroom74 _) hr74)
               have HC558 := Aside0.mk (show y554.length ≤ c74 from by rw [hy74, hc74]; exact Nat.sub_le_sub_right hroom74 _)
               clear hr74 hC74 hroom74 hi074 hsz74 hc74
               have KY74 := Aside0.mk hy74
               have KA74 := Aside0.mk hA74
               clear hy74 hA74
               replace q74 := eq_true q74
               refine hK.out _ _ ⟨(blk_cell BK505.out 0).trans rfl, (blk_cell BK505.out 1).trans rfl, (blk_cell BK505.out 2).trans rfl, (blk_cell BK505.out 3).trans rfl, hHeld.2.2.2.2.1, hHeld.2.2.2.2.2.1, hHeld.2.2.2.2.2.2.1, hHeld.2.2.2.2.2.2.2.1, hHeld.2.2.2.2.2.2.2.2⟩ (fun hHeld => ?_)
               clear hK K
               refine norm_ (a' := ?_) ?_ ?_
               rotate_left
               ·show Act.put _ (some 126) _ = _
                simp only [Act.put, List.setIfInBounds_toArray, List.set_cons_zero, List.set_cons_succ, i64_w, i32_w]
                rfl
               refine pA 33 127 #[Y, Y, Y, Y, Y, Y, Y, Y, Y, Y, Y, Y, Y, Y, Y, Y, Y, Y, Y, Y, Y, Y, Y, Y, Y, Y, Y, Y, Y, Y, Y, Y, Y, Y, Z, Z, Z, Z, Z] HT_ ?_
               refine one_ (i := 34) (N := some 128) #[Y, Y, Y, Y, Y, Y, Y, Y, Y, Y, Y, Y, Y, Y, Y, Y, Y, Y, Y, Y, Y, Y, Y, Y, Y, Y, Y, Y, Y, Y, Y, Y, Y, Y, Y, Z, Z, Z, Z] rfl rfl (one_of HT_.out (by kernel_rfl)) (by decide) (fun K hK => ?_)
               refine goes_ Try.func32 (by kernel_rfl) rfl #[.slice (some ad543) y548.length co17, .slice A74 y554.length c74] (by rfl) rfl rfl (by (try simp only [List.map_toArray, List.map_cons, List.map_nil]); first | done | rfl | (simp only [List.length_drop, List.length_take]; rfl)) ?_
               with_reducible refine (boltingref04_Join.calls kj11 _ _ y548 _ _ y554 t559 _ ?side1 ?side2 ?side3 ?side4 A65.out).mono ?_
               (case side1 => exact aC (Kd.V_reads' HO552.out).2.2)
               (case side2 => exact (Kd.V_reads' HO552.out).2.1)
               (case side3 => exact aC (Kd.V_reads' HO558.out).2.2)
               (case side4 => exact (Kd.V_reads' HO558.out).2.1)
               rintro e w75 ⟨v560, rfl, ho0, hb⟩
               have HS4_ := (hb.cell (World.block_lt_of_cell? _ _ (hHeld.2.2.2.2.1))).trans (hHeld.2.2.2.2.1)
               have HS5_ := (hb.cell (World.block_lt_of_cell? _ _ (hHeld.2.2.2.2.2.1))).trans (hHeld.2.2.2.2.2.1)
               have HS6_ := (hb.cell (World.block_lt_of_cell? _ _ (hHeld.2.2.2.2.2.2.1))).trans (hHeld.2.2.2.2.2.2.1)
               have HS7_ := (hb.cell (World.block_lt_of_cell? _ _ (hHeld.2.2.2.2.2.2.2.1))).trans (hHeld.2.2.2.2.2.2.2.1)
               have HS8_ := (hb.cell (World.block_lt_of_cell? _ _ (hHeld.2.2.2.2.2.2.2.2))).trans (hHeld.2.2.2.2.2.2.2.2)
               refine ⟨_, rfl, ?_⟩
               have n0_ := Aside0.mk (Kd.N_elder' (aN HO_3) (aS ho0) hb)
               have n1_ := Aside0.mk (Kd.N_elder' (aN HO_4) (aS ho0) hb)
               have n2_ := Aside0.mk (Kd.N_elder' (aN HO_5) (aS ho0) hb)
               have n3_ := Aside0.mk (Kd.N_elder' (aN HO_6) (aS ho0) hb)
               have n4_ := Aside0.mk (Kd.N_elder' (aN HO_7) (aS ho0) hb)
               have n5_ := Aside0.mk (Kd.N_elder' (aN HO_11) (aS ho0) hb)
               have n6_ := Aside0.mk (Kd.N_elder' (aN HO_13) (aS ho0) hb)
               have n8_ := Aside0.mk (Kd.V_elder' (aV HO542) (aS ho0) hb)
               have n9_ := Aside0.mk (Kd.N_elder' (aN HO546) (aS ho0) hb)
               have n10_ := Aside0.mk (Kd.V_elder' (aV HO552) (aS ho0) hb)
               have n11_ := Aside0.mk (Kd.V_elder' (aV HO558) (aS ho0) hb)
               have n12_ := Aside0.mk (Kd.N_lower (Kd.N_mono (ok' := fun k_ => some k_ ≠ (.slice (some ad543) t506.length co17 : Value).ownBlock ∧ some k_ ≠ (.slice Ao20 t509.length co20 : Value).ownBlock ∧ some k_ ≠ (v515 : Value).ownBlock ∧ some k_ ≠ (v518 : Value).ownBlock ∧ some k_ ≠ (v521 : Value).ownBlock ∧ some k_ ≠ (.slice Ao70 t528.length co70 : Value).ownBlock ∧ some k_ ≠ (v533 : Value).ownBlock ∧ some k_ ≠ (.slice Ao71 t544.length co71 : Value).ownBlock ∧ k_ ≠ gb505) ho0 (fun k_ hk_ => ⟨(Kd.fresh' (Kd.N_lt (aN HO_3)) k_ hk_), (Kd.fresh' (Kd.N_lt (aN HO_4)) k_ hk_), (Kd.fresh' (Kd.N_lt (aN HO_5)) k_ hk_), (Kd.fresh' (Kd.N_lt (aN HO_6)) k_ hk_), (Kd.fresh' (Kd.N_lt (aN HO_7)) k_ hk_), (Kd.fresh' (Kd.N_lt (aN HO_11)) k_ hk_), (Kd.fresh' (Kd.N_lt (aN HO_13)) k_ hk_), (Kd.fresh' (Kd.N_lt (aN HO546)) k_ hk_), (Kd.freshB (g := gb505) (o := .cells #[.slice A0_0 l0_0.length c0_0, .slice A0_1 l0_1.length c0_1, .int .i64 a0_2, .int .i64 a0_3] 37 (0, 0)) (aK BK505) k_ hk_)⟩)) (below_size (by repeat (first | (with_reducible first | exact HB.out | apply below_alloc | apply pw_below_drewN | apply below_drew1 | refine below_set ?_ GE505.out) | exact HB.out))))
               have n13_ := Aside0.mk (blk_below (g := gb505) (o := .cells #[.slice A0_0 l0_0.length c0_0, .slice A0_1 l0_1.length c0_1, .int .i64 a0_2, .int .i64 a0_3] 37 (0, 0)) (aK BK505) hb)
               have n15_ := Aside0.mk (below_step (by repeat (first | (with_reducible first | exact HB.out | apply below_alloc | apply pw_below_drewN | apply below_drew1 | refine below_set ?_ GE505.out) | exact HB.out)) hb); have PB_ := Aside0.mk (below_step (aB HBP) hb); have PA_ := Aside0.mk (Kd.N_below (aN HAP) hb)
               clear HO_3
               clear HO_4
               clear HO_5
               clear HO_6
               clear HO_7
               clear HO_11
               clear HO_13
               clear HO542
               clear HO546
               clear HO552
               clear HO558
               clear BK505
               clear HB
               have HO_3 := n0_
               have HO_4 := n1_
               have HO_5 := n2_
               have HO_6 := n3_
               have HO_7 := n4_
               have HO_11 := n5_
               have HO_13 := n6_
               have HO542 := n8_
               have HO546 := n9_
               have HO552 := n10_
               have HO558 := n11_
               have HO561 := n12_
               have BK505 := n13_
               have HB := n15_; clear HBP HAP; have HBP := PB_; have HAP := PA_; clear PB_ PA_
               clear n0_ n1_ n2_ n3_ n4_ n5_ n6_ n8_ n9_ n10_ n11_ n12_ n13_ n15_
               (try clear hb)
               (try clear hb2)
               (try clear hk)
               (try clear hi)
               (try clear ho0)
               obtain ⟨Ao76, co76, eo76⟩ := Kd.N_slice HO_13.out
               (first | subst eo76 | (injection eo76 with f1_ f2_ f3_; have f4_ := f1_.symm; have f5_ := f3_.symm; clear f1_ f2_ f3_; subst f4_; subst f5_))
               obtain ⟨Ao77, co77, eo77⟩ := Kd.N_slice HO561.out
               (first | subst eo77 | (injection eo77 with f1_ f2_ f3_; have f4_ := f1_.symm; have f5_ := f3_.symm; clear f1_ f2_ f3_; subst f4_; subst f5_))
               refine hK.out _ _ ⟨(blk_cell BK505.out 0).trans rfl, (blk_cell BK505.out 1).trans rfl, (blk_cell BK505.out 2).trans rfl, (blk_cell BK505.out 3).trans rfl, HS4_, HS5_, HS6_, HS7_, HS8_⟩ (fun hHeld => ?_)
               clear hK K
               refine norm_ (a' := ?_) ?_ ?_
               rotate_left
               ·show Act.put _ (some 128) _ = _
                simp only [Act.put, List.setIfInBounds_toArray, List.set_cons_zero, List.set_cons_succ, i64_w, i32_w]
                rfl
               refine one_ (i := 35) (N := some 129) #[Y, Y, Y, Y, Y, Y, Y, Y, Y, Y, Y, Y, Y, Y, Y, Y, Y, Y, Y, Y, Y, Y, Y, Y, Y, Y, Y, Y, Y, Y, Y, Y, Y, Y, Y, Y, Z, Z, Z] rfl rfl (one_of HT_.out (by kernel_rfl)) (by decide) (fun K hK => ?_)
               refine goes_ Try.func16 (by kernel_rfl) rfl #[.slice Ao76 t532.length co76, .slice Ao77 t559.length co77] (by rfl) rfl rfl (by (try simp only [List.map_toArray, List.map_cons, List.map_nil]); first | done | rfl | (simp only [List.length_drop, List.length_take]; rfl)) ?_
               with_reducible refine (boltingref04_Same.calls _ _ t532 _ _ t559 t562 _ ?side1 ?side2 ?side3 ?side4 A66.out).mono ?_
               (case side1 => exact aC (Kd.N_reads' HO_13.out).2.2)
               (case side2 => exact (Kd.N_reads' HO_13.out).2.1)
               (case side3 => exact aC (Kd.N_reads' HO561.out).2.2)
               (case side4 => exact (Kd.N_reads' HO561.out).2.1)
               rintro e w78 ⟨rfl, hb⟩
               have HS4_ := (hb.cell (World.block_lt_of_cell? _ _ (hHeld.2.2.2.2.1))).trans (hHeld.2.2.2.2.1)
               have HS5_ := (hb.cell (World.block_lt_of_cell? _ _ (hHeld.2.2.2.2.2.1))).trans (hHeld.2.2.2.2.2.1)
               have HS6_ := (hb.cell (World.block_lt_of_cell? _ _ (hHeld.2.2.2.2.2.2.1))).trans (hHeld.2.2.2.2.2.2.1)
               have HS7_ := (hb.cell (World.block_lt_of_cell? _ _ (hHeld.2.2.2.2.2.2.2.1))).trans (hHeld.2.2.2.2.2.2.2.1)
               have HS8_ := (hb.cell (World.block_lt_of_cell? _ _ (hHeld.2.2.2.2.2.2.2.2))).trans (hHeld.2.2.2.2.2.2.2.2)
               refine ⟨_, rfl, ?_⟩
               have n0_ := Aside0.mk (Kd.N_below (aN HO_3) hb)
               have n1_ := Aside0.mk (Kd.N_below (aN HO_4) hb)
               have n2_ := Aside0.mk (Kd.N_below (aN HO_5) hb)
               have n3_ := Aside0.mk (Kd.N_below (aN HO_6) hb)
               have n4_ := Aside0.mk (Kd.N_below (aN HO_7) hb)
               have n5_ := Aside0.mk (Kd.N_below (aN HO_11) hb)
               have n6_ := Aside0.mk (Kd.N_below (aN HO_13) hb)
               have n8_ := Aside0.mk (Kd.V_below (aV HO542) hb)
               have n9_ := Aside0.mk (Kd.N_below (aN HO546) hb)
               have n10_ := Aside0.mk (Kd.V_below (aV HO552) hb)
               have n11_ := Aside0.mk (Kd.V_below (aV HO558) hb)
               have n12_ := Aside0.mk (Kd.N_below (aN HO561) hb)
               have n13_ := Aside0.mk (blk_below (g := gb505) (o := .cells #[.slice A0_0 l0_0.length c0_0, .slice A0_1 l0_1.length c0_1, .int .i64 a0_2, .int .i64 a0_3] 37 (0, 0)) (aK BK505) hb)
               have n15_ := Aside0.mk (below_step (by repeat (first | (with_reducible first | exact HB.out | apply below_alloc | apply pw_below_drewN | apply below_drew1 | refine below_set ?_ GE505.out) | exact HB.out)) hb); have PB_ := Aside0.mk (below_step (aB HBP) hb); have PA_ := Aside0.mk (Kd.N_below (aN HAP) hb)
               clear HO_3
               clear HO_4
               clear HO_5
               clear HO_6
               clear HO_7
               clear HO_11
               clear HO_13
               clear HO542
               clear HO546
               clear HO552
               clear HO558
               clear HO561
               clear BK505
               clear HB
               have HO_3 := n0_
               have HO_4 := n1_
               have HO_5 := n2_
               have HO_6 := n3_
               have HO_7 := n4_
               have HO_11 := n5_
               have HO_13 := n6_
               have HO542 := n8_
               have HO546 := n9_
               have HO552 := n10_
               have HO558 := n11_
               have HO561 := n12_
               have BK505 := n13_
               have HB := n15_; clear HBP HAP; have HBP := PB_; have HAP := PA_; clear PB_ PA_
               clear n0_ n1_ n2_ n3_ n4_ n5_ n6_ n8_ n9_ n10_ n11_ n12_ n13_ n15_
               (try clear hb)
               (try clear hb2)
               (try clear hk)
               (try clear hi)
               refine hK.out _ _ ⟨(blk_cell BK505.out 0).trans rfl, (blk_cell BK505.out 1).trans rfl, (blk_cell BK505.out 2).trans rfl, (blk_cell BK505.out 3).trans rfl, HS4_, HS5_, HS6_, HS7_, HS8_⟩ (fun hHeld => ?_)
               clear hK K
               refine norm_ (a' := ?_) ?_ ?_
               rotate_left
               ·show Act.put _ (some 129) _ = _
                simp only [Act.put, List.setIfInBounds_toArray, List.set_cons_zero, List.set_cons_succ, i64_w, i32_w]
                rfl
               refine pA 36 130 #[Y, Y, Y, Y, Y, Y, Y, Y, Y, Y, Y, Y, Y, Y, Y, Y, Y, Y, Y, Y, Y, Y, Y, Y, Y, Y, Y, Y, Y, Y, Y, Y, Y, Y, Y, Y, Y, Z, Z] HT_ ?_
               refine pA 37 131 #[Y, Y, Y, Y, Y, Y, Y, Y, Y, Y, Y, Y, Y, Y, Y, Y, Y, Y, Y, Y, Y, Y, Y, Y, Y, Y, Y, Y, Y, Y, Y, Y, Y, Y, Y, Y, Y, Y, Z] HT_ ?_
               refine pA 38 132 #[Y, Y, Y, Y, Y, Y, Y, Y, Y, Y, Y, Y, Y, Y, Y, Y, Y, Y, Y, Y, Y, Y, Y, Y, Y, Y, Y, Y, Y, Y, Y, Y, Y, Y, Y, Y, Y, Y, Y] HT_ ?_
               refine done_ (done_of HT_.out (by kernel_rfl)) ?_
               try go_wp2
               go_meet
               case rel => exact ⟨_, (!t562), aE, H', ⟨by have := HJ11.out; first | omega | exact Nat.le_refl _⟩, ⟨by (with_reducible repeat (first | apply Kd.N_alloc | apply Kd.N_drewN | apply Kd.N_drew)); exact Kd.N_mono HO_3.out (fun _ hk => ⟨hk.1.1.1, ⟨hk.1.1.2.1, ⟨hk.1.1.2.2.1, ⟨hk.1.1.2.2.2.1, hk.1.1.2.2.2.2.2.2⟩⟩⟩⟩)⟩, ⟨by (with_reducible repeat (first | apply Kd.N_alloc | apply Kd.N_drewN | apply Kd.N_drew)); exact Kd.N_mono HO_4.out (fun _ hk => ⟨hk.1.1.1, ⟨hk.1.1.2.1, ⟨hk.1.1.2.2.1, ⟨hk.1.1.2.2.2.1, hk.1.1.2.2.2.2.2.2⟩⟩⟩⟩)⟩, ⟨by (with_reducible repeat (first | apply Kd.N_alloc | apply Kd.N_drewN | apply Kd.N_drew)); exact Kd.N_mono HO_5.out (fun _ hk => ⟨hk.1.1.1, ⟨hk.1.1.2.1, ⟨hk.1.1.2.2.1, ⟨hk.1.1.2.2.2.1, hk.1.1.2.2.2.2.2.2⟩⟩⟩⟩)⟩, ⟨by (with_reducible repeat (first | apply Kd.N_alloc | apply Kd.N_drewN | apply Kd.N_drew)); exact Kd.N_mono HO_6.out (fun _ hk => ⟨hk.1.1.1, ⟨hk.1.1.2.1, ⟨hk.1.1.2.2.1, ⟨hk.1.1.2.2.2.1, hk.1.1.2.2.2.2.2.2⟩⟩⟩⟩)⟩, ⟨by (with_reducible repeat (first | apply Kd.N_alloc | apply Kd.N_drewN | apply Kd.N_drew)); exact Kd.N_mono HO_7.out (fun _ hk => ⟨hk.1.1.1, ⟨hk.1.1.2.1, ⟨hk.1.1.2.2.1, ⟨hk.1.1.2.2.2.1, hk.1.1.2.2.2.2.2.2⟩⟩⟩⟩)⟩, ⟨aK BK505⟩, ⟨by repeat (first | (with_reducible first | exact HB.out | apply below_alloc | apply pw_below_drewN | apply below_drew1 | refine below_set ?_ GE505.out) | exact HB.out)⟩, ⟨aB HBP⟩, ⟨aN HAP⟩⟩
              ·rw [if_neg c64] at H
               exact absurd H (by simp)
             ·rw [if_neg c63] at H
              exact absurd H (by simp)
            ·rw [if_neg c61] at H
             exact absurd H (by simp)
           ·replace c59 := Bool.eq_false_iff.mpr c59
            subst c59
            have H1 : (boltinglaw04_RowsPuts.j1 kj11 t506 t509 t514 t517 t520 true) = some r := by rw [if_neg (show ¬ (false = true) by decide)] at H; exact H
            clear H
            have H := H1
            clear H1
            have H' := Aside0.mk H
            clear H
            try go_wp2
            have n0_ := Aside0.mk (Kd.N_drew HO_3.out)
            have n1_ := Aside0.mk (Kd.N_drew HO_4.out)
            have n2_ := Aside0.mk (Kd.N_drew HO_5.out)
            have n3_ := Aside0.mk (Kd.N_drew HO_6.out)
            have n4_ := Aside0.mk (Kd.N_drew HO_7.out)
            have n5_ := Aside0.mk (Kd.N_drew HO_11.out)
            have n6_ := Aside0.mk (Kd.N_drew HO_13.out)
            have n7_ := Aside0.mk (blk_drew BK505.out)
            have n8_ := Aside0.mk (below_drew1 HB.out); have PB_ := Aside0.mk (below_drew1 HBP.out); have PA_ := Aside0.mk (Kd.N_drew HAP.out)
            clear HO_3
            clear HO_4
            clear HO_5
            clear HO_6
            clear HO_7
            clear HO_11
            clear HO_13
            clear BK505
            clear HB
            have HO_3 := n0_
            have HO_4 := n1_
            have HO_5 := n2_
            have HO_6 := n3_
            have HO_7 := n4_
            have HO_11 := n5_
            have HO_13 := n6_
            have BK505 := n7_
            have HB := n8_; clear HBP HAP; have HBP := PB_; have HAP := PA_; clear PB_ PA_
            clear n0_ n1_ n2_ n3_ n4_ n5_ n6_ n7_ n8_
            have p543 : 0 ≤ (a0_2 : Int) := of_decide_eq_true aA
            have q543 : a0_2 < (t506.length : Int) := of_decide_eq_true aA
            obtain ⟨ad543, A543_4, c543_4, e543, hx543_0, hx543_1, hx543_2, hx543_3, hx543_4, hl543_4, hi543_4⟩ := at_T43 (Kd.N_reads' HO_3.out).2.2 a0_2 p543 q543
            cases e543
            obtain ⟨ce543, hce543, hMe543, hcc543⟩ := Kd.N_get HO_3.out z43 a0_2 p543 (by first | exact q543 | exact of_decide_eq_true aA | (have e_ := (Kd.N_reads' HO_3.out).1; omega))
            obtain ⟨ua543_4, uc543_4, rfl, ul543_4, ge543_4⟩ := k43_openF hMe543
            have hv543_4 := hcc543 4 _ rfl
            rw [add_field _ _ 4 (by omega)] at hv543_4
            replace hv543_4 := Option.some.inj (hv543_4.symm.trans hx543_4)
            injection hv543_4 with hva_ hvn_ hvc_
            rw [hva_] at ge543_4
            rw [hvc_] at ul543_4
            clear hva_ hvn_ hvc_ ge543_4 ul543_4
            clear hcc543 hce543
            have HC543_4 := Aside0.mk hl543_4
            clear hi543_4 hl543_4
            replace p543 := eq_true p543
            replace q543 := eq_true q543
            refine start_ (n := 39) (S := fun w' => w'.cell? ⟨gb505, 0, none⟩ = some (.slice A0_0 l0_0.length c0_0) ∧ w'.cell? ⟨gb505, 1, none⟩ = some (.slice A0_1 l0_1.length c0_1) ∧ w'.cell? ⟨gb505, 2, none⟩ = some (.int .i64 a0_2) ∧ w'.cell? ⟨gb505, 3, none⟩ = some (.int .i64 a0_3) ∧ w'.cell? (ad543.add ((a0_2).toNat * 5)) = some (.int .i64 ((rd_T43 t506 a0_2).f0)) ∧ w'.cell? ⟨(ad543.add ((a0_2).toNat * 5)).block, (ad543.add ((a0_2).toNat * 5)).off + 1, none⟩ = some (.int .i64 ((rd_T43 t506 a0_2).f1)) ∧ w'.cell? ⟨(ad543.add ((a0_2).toNat * 5)).block, (ad543.add ((a0_2).toNat * 5)).off + 2, none⟩ = some (.string ((rd_T43 t506 a0_2).f2)) ∧ w'.cell? ⟨(ad543.add ((a0_2).toNat * 5)).block, (ad543.add ((a0_2).toNat * 5)).off + 3, none⟩ = some (.string ((rd_T43 t506 a0_2).f3)) ∧ w'.cell? ⟨(ad543.add ((a0_2).toNat * 5)).block, (ad543.add ((a0_2).toNat * 5)).off + 4, none⟩ = some (.slice A543_4 ((rd_T43 t506 a0_2).f4).length c543_4)) (ds := []) #[Z, Z, Z, Z, Z, Z, Z, Z, Z, Z, Z, Z, Z, Z, Z, Z, Z, Z, Z, Z, Z, Z, Z, Z, Z, Z, Z, Z, Z, Z, Z, Z, Z, Z, Z, Z, Z, Z, Z] (by kernel_rfl) rfl rfl ⟨(blk_cell BK505.out 0).trans rfl, (blk_cell BK505.out 1).trans rfl, (blk_cell BK505.out 2).trans rfl, (blk_cell BK505.out 3).trans rfl, hx543_0, hx543_1, hx543_2, hx543_3, hx543_4⟩ (fun hHeld => ?_); refine with_tabW boltinglaw04_RowsPuts.tab11 boltinglaw04_RowsPuts.bits11 (fun HT_ HW_ => ?_)
            generalize wc.drew = w79 at HO_3 HO_4 HO_5 HO_6 HO_7 HO_11 HO_13 BK505 HB HBP HAP hx543_0 hx543_1 hx543_2 hx543_3 hx543_4 hHeld ⊢
            refine pA 0 94 #[Y, Z, Z, Z, Z, Z, Z, Z, Z, Z, Z, Z, Z, Z, Z, Z, Z, Z, Z, Z, Z, Z, Z, Z, Z, Z, Z, Z, Z, Z, Z, Z, Z, Z, Z, Z, Z, Z, Z] HT_ ?_
            refine pA 1 95 #[Y, Y, Z, Z, Z, Z, Z, Z, Z, Z, Z, Z, Z, Z, Z, Z, Z, Z, Z, Z, Z, Z, Z, Z, Z, Z, Z, Z, Z, Z, Z, Z, Z, Z, Z, Z, Z, Z, Z] HT_ ?_
            refine pA 2 96 #[Y, Y, Y, Z, Z, Z, Z, Z, Z, Z, Z, Z, Z, Z, Z, Z, Z, Z, Z, Z, Z, Z, Z, Z, Z, Z, Z, Z, Z, Z, Z, Z, Z, Z, Z, Z, Z, Z, Z] HT_ ?_
            refine pA 3 97 #[Y, Y, Y, Y, Z, Z, Z, Z, Z, Z, Z, Z, Z, Z, Z, Z, Z, Z, Z, Z, Z, Z, Z, Z, Z, Z, Z, Z, Z, Z, Z, Z, Z, Z, Z, Z, Z, Z, Z] HT_ ?_
            refine pA 4 98 #[Y, Y, Y, Y, Y, Z, Z, Z, Z, Z, Z, Z, Z, Z, Z, Z, Z, Z, Z, Z, Z, Z, Z, Z, Z, Z, Z, Z, Z, Z, Z, Z, Z, Z, Z, Z, Z, Z, Z] HT_ ?_
            refine pA 5 99 #[Y, Y, Y, Y, Y, Y, Z, Z, Z, Z, Z, Z, Z, Z, Z, Z, Z, Z, Z, Z, Z, Z, Z, Z, Z, Z, Z, Z, Z, Z, Z, Z, Z, Z, Z, Z, Z, Z, Z] HT_ ?_
            refine pA 7 101 #[Y, Y, Y, Y, Y, Y, Z, Y, Z, Z, Z, Z, Z, Z, Z, Z, Z, Z, Z, Z, Z, Z, Z, Z, Z, Z, Z, Z, Z, Z, Z, Z, Z, Z, Z, Z, Z, Z, Z] HT_ ?_
            refine pA 8 102 #[Y, Y, Y, Y, Y, Y, Z, Y, Y, Z, Z, Z, Z, Z, Z, Z, Z, Z, Z, Z, Z, Z, Z, Z, Z, Z, Z, Z, Z, Z, Z, Z, Z, Z, Z, Z, Z, Z, Z] HT_ ?_
            refine pA 12 106 #[Y, Y, Y, Y, Y, Y, Z, Y, Y, Z, Z, Z, Y, Z, Z, Z, Z, Z, Z, Z, Z, Z, Z, Z, Z, Z, Z, Z, Z, Z, Z, Z, Z, Z, Z, Z, Z, Z, Z] HT_ ?_
            refine pA 13 107 #[Y, Y, Y, Y, Y, Y, Z, Y, Y, Z, Z, Z, Y, Y, Z, Z, Z, Z, Z, Z, Z, Z, Z, Z, Z, Z, Z, Z, Z, Z, Z, Z, Z, Z, Z, Z, Z, Z, Z] HT_ ?_
            refine take_ (i := 6) (N := some 100) (v := ?_) (a' := ?_) #[Y, Y, Y, Y, Y, Y, Y, Y, Y, Z, Z, Z, Y, Y, Z, Z, Z, Z, Z, Z, Z, Z, Z, Z, Z, Z, Z, Z, Z, Z, Z, Z, Z, Z, Z, Z, Z, Z, Z] rfl rfl (take_ofW HT_.out HW_.out (by kernel_rfl)) (fun _ _ _ h => h) (Or.inl ⟨by rfl, ?_⟩) hHeld ?_ ?_
            rotate_left
            ·rintro w' ⟨s0, s1, s2, s3, s4, s5, s6, s7, s8⟩
             go_simp
             with_reducible rfl
            rotate_left
            ·simp only [Act.put, List.setIfInBounds_toArray, List.set_cons_zero, List.set_cons_succ, i64_w, i32_w]
             rfl
            refine take_ (i := 9) (N := some 103) (v := ?_) (a' := ?_) #[Y, Y, Y, Y, Y, Y, Y, Y, Y, Y, Z, Z, Y, Y, Z, Z, Z, Z, Z, Z, Z, Z, Z, Z, Z, Z, Z, Z, Z, Z, Z, Z, Z, Z, Z, Z, Z, Z, Z] rfl rfl (take_ofW HT_.out HW_.out (by kernel_rfl)) (fun _ _ _ h => h) (Or.inl ⟨by rfl, ?_⟩) hHeld ?_ ?_
            rotate_left
            ·rintro w' ⟨s0, s1, s2, s3, s4, s5, s6, s7, s8⟩
             go_simp
             with_reducible rfl
            rotate_left
            ·simp only [Act.put, List.setIfInBounds_toArray, List.set_cons_zero, List.set_cons_succ, i64_w, i32_w]
             rfl
            refine take_ (i := 14) (N := some 108) (v := ?_) (a' := ?_) #[Y, Y, Y, Y, Y, Y, Y, Y, Y, Y, Z, Z, Y, Y, Y, Z, Z, Z, Z, Z, Z, Z, Z, Z, Z, Z, Z, Z, Z, Z, Z, Z, Z, Z, Z, Z, Z, Z, Z] rfl rfl (take_ofW HT_.out HW_.out (by kernel_rfl)) (fun _ _ _ h => h) (Or.inl ⟨by rfl, ?_⟩) hHeld ?_ ?_
            rotate_left
            ·rintro w' ⟨s0, s1, s2, s3, s4, s5, s6, s7, s8⟩
             go_simp
             with_reducible rfl
            rotate_left
            ·simp only [Act.put, List.setIfInBounds_toArray, List.set_cons_zero, List.set_cons_succ, i64_w, i32_w]
             rfl
            refine pA 15 109 #[Y, Y, Y, Y, Y, Y, Y, Y, Y, Y, Z, Z, Y, Y, Y, Y, Z, Z, Z, Z, Z, Z, Z, Z, Z, Z, Z, Z, Z, Z, Z, Z, Z, Z, Z, Z, Z, Z, Z] HT_ ?_
            refine pA 16 110 #[Y, Y, Y, Y, Y, Y, Y, Y, Y, Y, Z, Z, Y, Y, Y, Y, Y, Z, Z, Z, Z, Z, Z, Z, Z, Z, Z, Z, Z, Z, Z, Z, Z, Z, Z, Z, Z, Z, Z] HT_ ?_
            refine take_ (i := 17) (N := some 111) (v := ?_) (a' := ?_) #[Y, Y, Y, Y, Y, Y, Y, Y, Y, Y, Z, Z, Y, Y, Y, Y, Y, Y, Z, Z, Z, Z, Z, Z, Z, Z, Z, Z, Z, Z, Z, Z, Z, Z, Z, Z, Z, Z, Z] rfl rfl (take_ofW HT_.out HW_.out (by kernel_rfl)) (fun _ _ _ h => h) (Or.inl ⟨by rfl, ?_⟩) hHeld ?_ ?_
            rotate_left
            ·rintro w' ⟨s0, s1, s2, s3, s4, s5, s6, s7, s8⟩
             go_simp
             with_reducible rfl
            rotate_left
            ·simp only [Act.put, List.setIfInBounds_toArray, List.set_cons_zero, List.set_cons_succ, i64_w, i32_w]
             rfl
            refine pA 18 112 #[Y, Y, Y, Y, Y, Y, Y, Y, Y, Y, Z, Z, Y, Y, Y, Y, Y, Y, Y, Z, Z, Z, Z, Z, Z, Z, Z, Z, Z, Z, Z, Z, Z, Z, Z, Z, Z, Z, Z] HT_ ?_
            refine one_ (i := 10) (N := some 104) #[Y, Y, Y, Y, Y, Y, Y, Y, Y, Y, Y, Z, Y, Y, Y, Y, Y, Y, Y, Z, Z, Z, Z, Z, Z, Z, Z, Z, Z, Z, Z, Z, Z, Z, Z, Z, Z, Z, Z] rfl rfl (one_of HT_.out (by kernel_rfl)) (by decide) (fun K hK => ?_)
            refine goes_ Try.func20 (by kernel_rfl) rfl #[.slice (some ad543) t506.length co17, .int .i64 a0_2] (by rfl) rfl rfl (by (try simp only [List.map_toArray, List.map_cons, List.map_nil]); first | done | rfl | (simp only [List.length_drop, List.length_take]; rfl)) ?_
            with_reducible refine (boltingref04_End.calls kj11 _ _ t506 a0_2 t537 _ ?side1 ?side2 A52.out).mono ?_
            (case side1 => exact aC (Kd.N_reads' HO_3.out).2.2)
            (case side2 => exact (Kd.N_reads' HO_3.out).2.1)
            rintro e w' ⟨rfl, ⟨nd, rfl⟩⟩
            refine ⟨_, rfl, ?_⟩
            have q80 : (t537 : Int) ≤ ((t506.length : Int) : Int) := of_decide_eq_true aA
            obtain ⟨i080, hi080, _, hsz80, _⟩ := info_parts info43
            have hroom80 : t506.length ≤ co17 := (Kd.N_reads' HO_3.out).2.1
            have hC80 : Kd.F k43 _ _ (some ad543) t506.length t506 := (Kd.V_at (base := w.heap.size) (Kd.N_V HO_3.out)).2.2
            have ql80 : (a0_2 : Int) ≤ (t537 : Int) := of_decide_eq_true aA
            have q080 : (0 : Int) ≤ (a0_2 : Int) := of_decide_eq_true aA
            have hcut80 := cut_mid (P := Try.prog) 22 43 .i64 .i64 Try.underlying22 hi080 5 hsz80 (some ad543) t506.length co17 a0_2 t537 q080 ql80 q80 hroom80
            have hr80 := Kd.F_mid (lo := (a0_2 : Int).toNat) (hi := (t537 : Int).toNat) (c := co17) hC80 (by omega) (by omega) hroom80
            obtain ⟨A80, hA80⟩ : ∃ A1, A1 = (if co17 = (a0_2 : Int).toNat then (some ad543) else ((some ad543) : Option Addr).map (·.add ((a0_2 : Int).toNat * 5))) := ⟨_, rfl⟩
            obtain ⟨c80, hc80⟩ : ∃ c1, c1 = co17 - (a0_2 : Int).toNat := ⟨_, rfl⟩
            have hy80 : y538.length = (t537 : Int).toNat - (a0_2 : Int).toNat := (by rw [Ny538.out, List.length_drop, List.length_take] <;> omega)
            rw [show ((t506).take (t537 : Int).toNat).drop (a0_2 : Int).toNat = y538 from Ny538.out.symm] at hr80
            replace hr80 : Kd.F k43 _ _ A80 y538.length y538 := (by rw [hA80]; exact hr80)
            rw [← hy80, ← hA80, ← hc80] at hcut80
            have HO542 := Aside0.mk (show Kd.V k43 43 _ w.heap.size _ (.slice A80 y538.length c80) y538 from Kd.V_mk (by rw [hy80, hc80]; exact Nat.sub_le_sub_right (Nat.le_trans (by omega) hroom80) _) hr80)
            have HC542 := Aside0.mk (show y538.length ≤ c80 from by rw [hy80, hc80]; exact Nat.sub_le_sub_right (Nat.le_trans (by omega) hroom80) _)
            clear hr80 hC80 hroom80 hi080 hsz80 hc80
            have KY80 := Aside0.mk hy80
            have KA80 := Aside0.mk hA80
            clear hy80 hA80
            replace q80 := eq_true q80
            refine hK.out _ _ ⟨(blk_cell BK505.out 0).trans rfl, (blk_cell BK505.out 1).trans rfl, (blk_cell BK505.out 2).trans rfl, (blk_cell BK505.out 3).trans rfl, hHeld.2.2.2.2.1, hHeld.2.2.2.2.2.1, hHeld.2.2.2.2.2.2.1, hHeld.2.2.2.2.2.2.2.1, hHeld.2.2.2.2.2.2.2.2⟩ (fun hHeld => ?_)
            clear hK K
            refine norm_ (a' := ?_) ?_ ?_
            rotate_left
            ·show Act.put _ (some 104) _ = _
             simp only [Act.put, List.setIfInBounds_toArray, List.set_cons_zero, List.set_cons_succ, i64_w, i32_w]
             rfl
            refine pA 11 105 #[Y, Y, Y, Y, Y, Y, Y, Y, Y, Y, Y, Y, Y, Y, Y, Y, Y, Y, Y, Z, Z, Z, Z, Z, Z, Z, Z, Z, Z, Z, Z, Z, Z, Z, Z, Z, Z, Z, Z] HT_ ?_
            refine one_ (i := 19) (N := some 113) #[Y, Y, Y, Y, Y, Y, Y, Y, Y, Y, Y, Y, Y, Y, Y, Y, Y, Y, Y, Y, Z, Z, Z, Z, Z, Z, Z, Z, Z, Z, Z, Z, Z, Z, Z, Z, Z, Z, Z] rfl rfl (one_of HT_.out (by kernel_rfl)) (by decide) (fun K hK => ?_)
            refine goes_ Try.func17 (by kernel_rfl) rfl #[.slice A80 y538.length c80, .int .i64 (wrap64 (-((rd_T43 t506 a0_2).f0)))] (by rfl) rfl rfl (by (try simp only [List.map_toArray, List.map_cons, List.map_nil]); first | done | rfl | (simp only [List.length_drop, List.length_take]; rfl)) ?_
            with_reducible refine (boltingref04_Moved.calls kj11 _ _ y538 (wrap64 (-((rd_T43 t506 a0_2).f0))) t544 _ ?side1 ?side2 A57.out).mono ?_
            (case side1 => exact aC (Kd.V_reads' HO542.out).2.2)
            (case side2 => exact (Kd.V_reads' HO542.out).2.1)
            rintro e w81 ⟨v545, rfl, ho0, hb⟩
            have HS4_ := (hb.cell (World.block_lt_of_cell? _ _ (hHeld.2.2.2.2.1))).trans (hHeld.2.2.2.2.1)
            have HS5_ := (hb.cell (World.block_lt_of_cell? _ _ (hHeld.2.2.2.2.2.1))).trans (hHeld.2.2.2.2.2.1)
            have HS6_ := (hb.cell (World.block_lt_of_cell? _ _ (hHeld.2.2.2.2.2.2.1))).trans (hHeld.2.2.2.2.2.2.1)
            have HS7_ := (hb.cell (World.block_lt_of_cell? _ _ (hHeld.2.2.2.2.2.2.2.1))).trans (hHeld.2.2.2.2.2.2.2.1)
            have HS8_ := (hb.cell (World.block_lt_of_cell? _ _ (hHeld.2.2.2.2.2.2.2.2))).trans (hHeld.2.2.2.2.2.2.2.2)
            refine ⟨_, rfl, ?_⟩
            have n0_ := Aside0.mk (Kd.N_elder' (aN HO_3) (aS ho0) hb)
            have n1_ := Aside0.mk (Kd.N_elder' (aN HO_4) (aS ho0) hb)
            have n2_ := Aside0.mk (Kd.N_elder' (aN HO_5) (aS ho0) hb)
            have n3_ := Aside0.mk (Kd.N_elder' (aN HO_6) (aS ho0) hb)
            have n4_ := Aside0.mk (Kd.N_elder' (aN HO_7) (aS ho0) hb)
            have n5_ := Aside0.mk (Kd.N_elder' (aN HO_11) (aS ho0) hb)
            have n6_ := Aside0.mk (Kd.N_elder' (aN HO_13) (aS ho0) hb)
            have n8_ := Aside0.mk (Kd.V_elder' (aV HO542) (aS ho0) hb)
            have n9_ := Aside0.mk (Kd.N_lower (Kd.N_mono (ok' := fun k_ => some k_ ≠ (.slice (some ad543) t506.length co17 : Value).ownBlock ∧ some k_ ≠ (.slice Ao20 t509.length co20 : Value).ownBlock ∧ some k_ ≠ (v515 : Value).ownBlock ∧ some k_ ≠ (v518 : Value).ownBlock ∧ some k_ ≠ (v521 : Value).ownBlock ∧ some k_ ≠ (v530 : Value).ownBlock ∧ some k_ ≠ (v533 : Value).ownBlock ∧ k_ ≠ gb505) (Kd.S_N (Kd.S_bound ho0)) (fun k_ hk_ => ⟨(Kd.fresh' (Kd.N_lt (aN HO_3)) k_ hk_.2.1), (Kd.fresh' (Kd.N_lt (aN HO_4)) k_ hk_.2.1), (Kd.fresh' (Kd.N_lt (aN HO_5)) k_ hk_.2.1), (Kd.fresh' (Kd.N_lt (aN HO_6)) k_ hk_.2.1), (Kd.fresh' (Kd.N_lt (aN HO_7)) k_ hk_.2.1), (Kd.fresh' (Kd.N_lt (aN HO_11)) k_ hk_.2.1), (Kd.fresh' (Kd.N_lt (aN HO_13)) k_ hk_.2.1), (Kd.freshB (g := gb505) (o := .cells #[.slice A0_0 l0_0.length c0_0, .slice A0_1 l0_1.length c0_1, .int .i64 a0_2, .int .i64 a0_3] 37 (0, 0)) (aK BK505) k_ hk_.2.1)⟩)) (below_size (by repeat (first | (with_reducible first | exact HB.out | apply below_alloc | apply pw_below_drewN | apply below_drew1 | refine below_set ?_ GE505.out) | exact HB.out))))
            have n10_ := Aside0.mk (blk_below (g := gb505) (o := .cells #[.slice A0_0 l0_0.length c0_0, .slice A0_1 l0_1.length c0_1, .int .i64 a0_2, .int .i64 a0_3] 37 (0, 0)) (aK BK505) hb)
            have n12_ := Aside0.mk (below_step (by repeat (first | (with_reducible first | exact HB.out | apply below_alloc | apply pw_below_drewN | apply below_drew1 | refine below_set ?_ GE505.out) | exact HB.out)) hb); have PB_ := Aside0.mk (below_step (aB HBP) hb); have PA_ := Aside0.mk (Kd.N_below (aN HAP) hb)
            clear HO_3
            clear HO_4
            clear HO_5
            clear HO_6
            clear HO_7
            clear HO_11
            clear HO_13
            clear HO542
            clear BK505
            clear HB
            have HO_3 := n0_
            have HO_4 := n1_
            have HO_5 := n2_
            have HO_6 := n3_
            have HO_7 := n4_
            have HO_11 := n5_
            have HO_13 := n6_
            have HO542 := n8_
            have HO546 := n9_
            have BK505 := n10_
            have HB := n12_; clear HBP HAP; have HBP := PB_; have HAP := PA_; clear PB_ PA_
            clear n0_ n1_ n2_ n3_ n4_ n5_ n6_ n8_ n9_ n10_ n12_
            (try clear hb)
            (try clear hb2)
            (try clear hk)
            (try clear hi)
            (try clear ho0)
            obtain ⟨Ao82, co82, eo82⟩ := Kd.N_slice HO_11.out
            (first | subst eo82 | (injection eo82 with f1_ f2_ f3_; have f4_ := f1_.symm; have f5_ := f3_.symm; clear f1_ f2_ f3_; subst f4_; subst f5_))
            obtain ⟨Ao83, co83, eo83⟩ := Kd.N_slice HO546.out
            (first | subst eo83 | (injection eo83 with f1_ f2_ f3_; have f4_ := f1_.symm; have f5_ := f3_.symm; clear f1_ f2_ f3_; subst f4_; subst f5_))
            refine hK.out _ _ ⟨(blk_cell BK505.out 0).trans rfl, (blk_cell BK505.out 1).trans rfl, (blk_cell BK505.out 2).trans rfl, (blk_cell BK505.out 3).trans rfl, HS4_, HS5_, HS6_, HS7_, HS8_⟩ (fun hHeld => ?_)
            clear hK K
            refine norm_ (a' := ?_) ?_ ?_
            rotate_left
            ·show Act.put _ (some 113) _ = _
             simp only [Act.put, List.setIfInBounds_toArray, List.set_cons_zero, List.set_cons_succ, i64_w, i32_w]
             rfl
            refine one_ (i := 20) (N := some 114) #[Y, Y, Y, Y, Y, Y, Y, Y, Y, Y, Y, Y, Y, Y, Y, Y, Y, Y, Y, Y, Y, Z, Z, Z, Z, Z, Z, Z, Z, Z, Z, Z, Z, Z, Z, Z, Z, Z, Z] rfl rfl (one_of HT_.out (by kernel_rfl)) (by decide) (fun K hK => ?_)
            refine goes_ Try.func16 (by kernel_rfl) rfl #[.slice Ao82 t528.length co82, .slice Ao83 t544.length co83] (by rfl) rfl rfl (by (try simp only [List.map_toArray, List.map_cons, List.map_nil]); first | done | rfl | (simp only [List.length_drop, List.length_take]; rfl)) ?_
            with_reducible refine (boltingref04_Same.calls _ _ t528 _ _ t544 false _ ?side1 ?side2 ?side3 ?side4 A58.out).mono ?_
            (case side1 => exact aC (Kd.N_reads' HO_11.out).2.2)
            (case side2 => exact (Kd.N_reads' HO_11.out).2.1)
            (case side3 => exact aC (Kd.N_reads' HO546.out).2.2)
            (case side4 => exact (Kd.N_reads' HO546.out).2.1)
            rintro e w84 ⟨rfl, hb⟩
            have HS4_ := (hb.cell (World.block_lt_of_cell? _ _ (hHeld.2.2.2.2.1))).trans (hHeld.2.2.2.2.1)
            have HS5_ := (hb.cell (World.block_lt_of_cell? _ _ (hHeld.2.2.2.2.2.1))).trans (hHeld.2.2.2.2.2.1)
            have HS6_ := (hb.cell (World.block_lt_of_cell? _ _ (hHeld.2.2.2.2.2.2.1))).trans (hHeld.2.2.2.2.2.2.1)
            have HS7_ := (hb.cell (World.block_lt_of_cell? _ _ (hHeld.2.2.2.2.2.2.2.1))).trans (hHeld.2.2.2.2.2.2.2.1)
            have HS8_ := (hb.cell (World.block_lt_of_cell? _ _ (hHeld.2.2.2.2.2.2.2.2))).trans (hHeld.2.2.2.2.2.2.2.2)
            refine ⟨_, rfl, ?_⟩
            have n0_ := Aside0.mk (Kd.N_below (aN HO_3) hb)
            have n1_ := Aside0.mk (Kd.N_below (aN HO_4) hb)
            have n2_ := Aside0.mk (Kd.N_below (aN HO_5) hb)
            have n3_ := Aside0.mk (Kd.N_below (aN HO_6) hb)
            have n4_ := Aside0.mk (Kd.N_below (aN HO_7) hb)
            have n5_ := Aside0.mk (Kd.N_below (aN HO_11) hb)
            have n6_ := Aside0.mk (Kd.N_below (aN HO_13) hb)
            have n8_ := Aside0.mk (Kd.V_below (aV HO542) hb)
            have n9_ := Aside0.mk (Kd.N_below (aN HO546) hb)
            have n10_ := Aside0.mk (blk_below (g := gb505) (o := .cells #[.slice A0_0 l0_0.length c0_0, .slice A0_1 l0_1.length c0_1, .int .i64 a0_2, .int .i64 a0_3] 37 (0, 0)) (aK BK505) hb)
            have n12_ := Aside0.mk (below_step (by repeat (first | (with_reducible first | exact HB.out | apply below_alloc | apply pw_below_drewN | apply below_drew1 | refine below_set ?_ GE505.out) | exact HB.out)) hb); have PB_ := Aside0.mk (below_step (aB HBP) hb); have PA_ := Aside0.mk (Kd.N_below (aN HAP) hb)
            clear HO_3
            clear HO_4
            clear HO_5
            clear HO_6
            clear HO_7
            clear HO_11
            clear HO_13
            clear HO542
            clear HO546
            clear BK505
            clear HB
            have HO_3 := n0_
            have HO_4 := n1_
            have HO_5 := n2_
            have HO_6 := n3_
            have HO_7 := n4_
            have HO_11 := n5_
            have HO_13 := n6_
            have HO542 := n8_
            have HO546 := n9_
            have BK505 := n10_
            have HB := n12_; clear HBP HAP; have HBP := PB_; have HAP := PA_; clear PB_ PA_
            clear n0_ n1_ n2_ n3_ n4_ n5_ n6_ n8_ n9_ n10_ n12_
            (try clear hb)
            (try clear hb2)
            (try clear hk)
            (try clear hi)
            refine hK.out _ _ ⟨(blk_cell BK505.out 0).trans rfl, (blk_cell BK505.out 1).trans rfl, (blk_cell BK505.out 2).trans rfl, (blk_cell BK505.out 3).trans rfl, HS4_, HS5_, HS6_, HS7_, HS8_⟩ (fun hHeld => ?_)
            clear hK K
            refine norm_ (a' := ?_) ?_ ?_
            rotate_left
            ·show Act.put _ (some 114) _ = _
             simp only [Act.put, List.setIfInBounds_toArray, List.set_cons_zero, List.set_cons_succ, i64_w, i32_w]
             rfl
            refine pA 21 115 #[Y, Y, Y, Y, Y, Y, Y, Y, Y, Y, Y, Y, Y, Y, Y, Y, Y, Y, Y, Y, Y, Y, Z, Z, Z, Z, Z, Z, Z, Z, Z, Z, Z, Z, Z, Z, Z, Z, Z] HT_ ?_
            refine pA 22 116 #[Y, Y, Y, Y, Y, Y, Y, Y, Y, Y, Y, Y, Y, Y, Y, Y, Y, Y, Y, Y, Y, Y, Y, Z, Z, Z, Z, Z, Z, Z, Z, Z, Z, Z, Z, Z, Z, Z, Z] HT_ ?_
            refine pU 23 117 #[Y, Y, Y, Y, Y, Y, Y, Y, Y, Y, Y, Y, Y, Y, Y, Y, Y, Y, Y, Y, Y, Y, Y, Y, Z, Z, Z, Z, Z, Z, Z, Z, Z, Z, Z, Z, Z, Z, Z] HT_ ?_
            refine pU 24 118 #[Y, Y, Y, Y, Y, Y, Y, Y, Y, Y, Y, Y, Y, Y, Y, Y, Y, Y, Y, Y, Y, Y, Y, Y, Y, Z, Z, Z, Z, Z, Z, Z, Z, Z, Z, Z, Z, Z, Z] HT_ ?_
            refine pU 25 119 #[Y, Y, Y, Y, Y, Y, Y, Y, Y, Y, Y, Y, Y, Y, Y, Y, Y, Y, Y, Y, Y, Y, Y, Y, Y, Y, Z, Z, Z, Z, Z, Z, Z, Z, Z, Z, Z, Z, Z] HT_ ?_
            refine pU 26 120 #[Y, Y, Y, Y, Y, Y, Y, Y, Y, Y, Y, Y, Y, Y, Y, Y, Y, Y, Y, Y, Y, Y, Y, Y, Y, Y, Y, Z, Z, Z, Z, Z, Z, Z, Z, Z, Z, Z, Z] HT_ ?_
            refine pU 27 121 #[Y, Y, Y, Y, Y, Y, Y, Y, Y, Y, Y, Y, Y, Y, Y, Y, Y, Y, Y, Y, Y, Y, Y, Y, Y, Y, Y, Y, Z, Z, Z, Z, Z, Z, Z, Z, Z, Z, Z] HT_ ?_
            refine pU 28 122 #[Y, Y, Y, Y, Y, Y, Y, Y, Y, Y, Y, Y, Y, Y, Y, Y, Y, Y, Y, Y, Y, Y, Y, Y, Y, Y, Y, Y, Y, Z, Z, Z, Z, Z, Z, Z, Z, Z, Z] HT_ ?_
            refine pU 29 123 #[Y, Y, Y, Y, Y, Y, Y, Y, Y, Y, Y, Y, Y, Y, Y, Y, Y, Y, Y, Y, Y, Y, Y, Y, Y, Y, Y, Y, Y, Y, Z, Z, Z, Z, Z, Z, Z, Z, Z] HT_ ?_
            refine pU 30 124 #[Y, Y, Y, Y, Y, Y, Y, Y, Y, Y, Y, Y, Y, Y, Y, Y, Y, Y, Y, Y, Y, Y, Y, Y, Y, Y, Y, Y, Y, Y, Y, Z, Z, Z, Z, Z, Z, Z, Z] HT_ ?_
            refine pU 31 125 #[Y, Y, Y, Y, Y, Y, Y, Y, Y, Y, Y, Y, Y, Y, Y, Y, Y, Y, Y, Y, Y, Y, Y, Y, Y, Y, Y, Y, Y, Y, Y, Y, Z, Z, Z, Z, Z, Z, Z] HT_ ?_
            refine pU 32 126 #[Y, Y, Y, Y, Y, Y, Y, Y, Y, Y, Y, Y, Y, Y, Y, Y, Y, Y, Y, Y, Y, Y, Y, Y, Y, Y, Y, Y, Y, Y, Y, Y, Y, Z, Z, Z, Z, Z, Z] HT_ ?_
            refine pU 33 127 #[Y, Y, Y, Y, Y, Y, Y, Y, Y, Y, Y, Y, Y, Y, Y, Y, Y, Y, Y, Y, Y, Y, Y, Y, Y, Y, Y, Y, Y, Y, Y, Y, Y, Y, Z, Z, Z, Z, Z] HT_ ?_
            refine pU 34 128 #[Y, Y, Y, Y, Y, Y, Y, Y, Y, Y, Y, Y, Y, Y, Y, Y, Y, Y, Y, Y, Y, Y, Y, Y, Y, Y, Y, Y, Y, Y, Y, Y, Y, Y, Y, Z, Z, Z, Z] HT_ ?_
            refine pU 35 129 #[Y, Y, Y, Y, Y, Y, Y, Y, Y, Y, Y, Y, Y, Y, Y, Y, Y, Y, Y, Y, Y, Y, Y, Y, Y, Y, Y, Y, Y, Y, Y, Y, Y, Y, Y, Y, Z, Z, Z] HT_ ?_
            refine pU 36 130 #[Y, Y, Y, Y, Y, Y, Y, Y, Y, Y, Y, Y, Y, Y, Y, Y, Y, Y, Y, Y, Y, Y, Y, Y, Y, Y, Y, Y, Y, Y, Y, Y, Y, Y, Y, Y, Y, Z, Z] HT_ ?_
            refine pA 37 131 #[Y, Y, Y, Y, Y, Y, Y, Y, Y, Y, Y, Y, Y, Y, Y, Y, Y, Y, Y, Y, Y, Y, Y, Y, Y, Y, Y, Y, Y, Y, Y, Y, Y, Y, Y, Y, Y, Y, Z] HT_ ?_
            refine pA 38 132 #[Y, Y, Y, Y, Y, Y, Y, Y, Y, Y, Y, Y, Y, Y, Y, Y, Y, Y, Y, Y, Y, Y, Y, Y, Y, Y, Y, Y, Y, Y, Y, Y, Y, Y, Y, Y, Y, Y, Y] HT_ ?_
            refine done_ (done_of HT_.out (by kernel_rfl)) ?_
            try go_wp2
            go_meet
            case rel => exact ⟨_, (true), aE, H', ⟨by have := HJ11.out; first | omega | exact Nat.le_refl _⟩, ⟨by (with_reducible repeat (first | apply Kd.N_alloc | apply Kd.N_drewN | apply Kd.N_drew)); exact Kd.N_mono HO_3.out (fun _ hk => ⟨hk.1.1, ⟨hk.1.2.1, ⟨hk.1.2.2.1, ⟨hk.1.2.2.2.1, hk.1.2.2.2.2.2.2⟩⟩⟩⟩)⟩, ⟨by (with_reducible repeat (first | apply Kd.N_alloc | apply Kd.N_drewN | apply Kd.N_drew)); exact Kd.N_mono HO_4.out (fun _ hk => ⟨hk.1.1, ⟨hk.1.2.1, ⟨hk.1.2.2.1, ⟨hk.1.2.2.2.1, hk.1.2.2.2.2.2.2⟩⟩⟩⟩)⟩, ⟨by (with_reducible repeat (first | apply Kd.N_alloc | apply Kd.N_drewN | apply Kd.N_drew)); exact Kd.N_mono HO_5.out (fun _ hk => ⟨hk.1.1, ⟨hk.1.2.1, ⟨hk.1.2.2.1, ⟨hk.1.2.2.2.1, hk.1.2.2.2.2.2.2⟩⟩⟩⟩)⟩, ⟨by (with_reducible repeat (first | apply Kd.N_alloc | apply Kd.N_drewN | apply Kd.N_drew)); exact Kd.N_mono HO_6.out (fun _ hk => ⟨hk.1.1, ⟨hk.1.2.1, ⟨hk.1.2.2.1, ⟨hk.1.2.2.2.1, hk.1.2.2.2.2.2.2⟩⟩⟩⟩)⟩, ⟨by (with_reducible repeat (first | apply Kd.N_alloc | apply Kd.N_drewN | apply Kd.N_drew)); exact Kd.N_mono HO_7.out (fun _ hk => ⟨hk.1.1, ⟨hk.1.2.1, ⟨hk.1.2.2.1, ⟨hk.1.2.2.2.1, hk.1.2.2.2.2.2.2⟩⟩⟩⟩)⟩, ⟨aK BK505⟩, ⟨by repeat (first | (with_reducible first | exact HB.out | apply below_alloc | apply pw_below_drewN | apply below_drew1 | refine below_set ?_ GE505.out) | exact HB.out)⟩, ⟨aB HBP⟩, ⟨aN HAP⟩⟩
          ·rw [if_neg c56] at H
           exact absurd H (by simp)
         ·rw [if_neg c55] at H
          exact absurd H (by simp)
        ·rw [if_neg c54] at H
         exact absurd H (by simp)
       ·rw [if_neg c53] at H
        exact absurd H (by simp)
      ·rw [if_neg c51] at H
       have c51b0 : (t529 == 0) = false := beq_eq_false_iff_ne.mpr c51
       have c51b1 : (t529 != 0) = true := bne_iff_ne.mpr c51
       (first | rw [c51b0] | (simp only [i64_w, i32_w]; rw [c51b0]) | skip)
       have H' := Aside0.mk H
       clear H
       try go_wp2
       have n0_ := Aside0.mk (Kd.N_drew HO_3.out)
       have n1_ := Aside0.mk (Kd.N_drew HO_4.out)
       have n2_ := Aside0.mk (Kd.N_drew HO_5.out)
       have n3_ := Aside0.mk (Kd.N_drew HO_6.out)
       have n4_ := Aside0.mk (Kd.N_drew HO_7.out)
       have n5_ := Aside0.mk (Kd.N_drew HO_11.out)
       have n6_ := Aside0.mk (Kd.N_drew HO_13.out)
       have n7_ := Aside0.mk (blk_drew BK505.out)
       have n8_ := Aside0.mk (below_drew1 HB.out); have PB_ := Aside0.mk (below_drew1 HBP.out); have PA_ := Aside0.mk (Kd.N_drew HAP.out)
       clear HO_3
       clear HO_4
       clear HO_5
       clear HO_6
       clear HO_7
       clear HO_11
       clear HO_13
       clear BK505
       clear HB
       have HO_3 := n0_
       have HO_4 := n1_
       have HO_5 := n2_
       have HO_6 := n3_
       have HO_7 := n4_
       have HO_11 := n5_
       have HO_13 := n6_
       have BK505 := n7_
       have HB := n8_; clear HBP HAP; have HBP := PB_; have HAP := PA_; clear PB_ PA_
       clear n0_ n1_ n2_ n3_ n4_ n5_ n6_ n7_ n8_
       refine start_ (n := 39) (S := fun w' => True) (ds := []) #[Z, Z, Z, Z, Z, Z, Z, Z, Z, Z, Z, Z, Z, Z, Z, Z, Z, Z, Z, Z, Z, Z, Z, Z, Z, Z, Z, Z, Z, Z, Z, Z, Z, Z, Z, Z, Z, Z, Z] (by kernel_rfl) rfl rfl trivial (fun hHeld => ?_); refine with_tabW boltinglaw04_RowsPuts.tab11 boltinglaw04_RowsPuts.bits11 (fun HT_ HW_ => ?_)
       generalize wc.drew = w85 at HO_3 HO_4 HO_5 HO_6 HO_7 HO_11 HO_13 BK505 HB HBP HAP hHeld ⊢
       refine pA 0 94 #[Y, Z, Z, Z, Z, Z, Z, Z, Z, Z, Z, Z, Z, Z, Z, Z, Z, Z, Z, Z, Z, Z, Z, Z, Z, Z, Z, Z, Z, Z, Z, Z, Z, Z, Z, Z, Z, Z, Z] HT_ ?_
       refine pA 1 95 #[Y, Y, Z, Z, Z, Z, Z, Z, Z, Z, Z, Z, Z, Z, Z, Z, Z, Z, Z, Z, Z, Z, Z, Z, Z, Z, Z, Z, Z, Z, Z, Z, Z, Z, Z, Z, Z, Z, Z] HT_ ?_
       refine pA 2 96 #[Y, Y, Y, Z, Z, Z, Z, Z, Z, Z, Z, Z, Z, Z, Z, Z, Z, Z, Z, Z, Z, Z, Z, Z, Z, Z, Z, Z, Z, Z, Z, Z, Z, Z, Z, Z, Z, Z, Z] HT_ ?_
       refine pU 3 97 #[Y, Y, Y, Y, Z, Z, Z, Z, Z, Z, Z, Z, Z, Z, Z, Z, Z, Z, Z, Z, Z, Z, Z, Z, Z, Z, Z, Z, Z, Z, Z, Z, Z, Z, Z, Z, Z, Z, Z] HT_ ?_
       refine pU 4 98 #[Y, Y, Y, Y, Y, Z, Z, Z, Z, Z, Z, Z, Z, Z, Z, Z, Z, Z, Z, Z, Z, Z, Z, Z, Z, Z, Z, Z, Z, Z, Z, Z, Z, Z, Z, Z, Z, Z, Z] HT_ ?_
       refine pU 5 99 #[Y, Y, Y, Y, Y, Y, Z, Z, Z, Z, Z, Z, Z, Z, Z, Z, Z, Z, Z, Z, Z, Z, Z, Z, Z, Z, Z, Z, Z, Z, Z, Z, Z, Z, Z, Z, Z, Z, Z] HT_ ?_
       refine pU 6 100 #[Y, Y, Y, Y, Y, Y, Y, Z, Z, Z, Z, Z, Z, Z, Z, Z, Z, Z, Z, Z, Z, Z, Z, Z, Z, Z, Z, Z, Z, Z, Z, Z, Z, Z, Z, Z, Z, Z, Z] HT_ ?_
       refine pU 7 101 #[Y, Y, Y, Y, Y, Y, Y, Y, Z, Z, Z, Z, Z, Z, Z, Z, Z, Z, Z, Z, Z, Z, Z, Z, Z, Z, Z, Z, Z, Z, Z, Z, Z, Z, Z, Z, Z, Z, Z] HT_ ?_
       refine pU 8 102 #[Y, Y, Y, Y, Y, Y, Y, Y, Y, Z, Z, Z, Z, Z, Z, Z, Z, Z, Z, Z, Z, Z, Z, Z, Z, Z, Z, Z, Z, Z, Z, Z, Z, Z, Z, Z, Z, Z, Z] HT_ ?_
       refine pU 9 103 #[Y, Y, Y, Y, Y, Y, Y, Y, Y, Y, Z, Z, Z, Z, Z, Z, Z, Z, Z, Z, Z, Z, Z, Z, Z, Z, Z, Z, Z, Z, Z, Z, Z, Z, Z, Z, Z, Z, Z] HT_ ?_
       refine pU 10 104 #[Y, Y, Y, Y, Y, Y, Y, Y, Y, Y, Y, Z, Z, Z, Z, Z, Z, Z, Z, Z, Z, Z, Z, Z, Z, Z, Z, Z, Z, Z, Z, Z, Z, Z, Z, Z, Z, Z, Z] HT_ ?_
       refine pU 11 105 #[Y, Y, Y, Y, Y, Y, Y, Y, Y, Y, Y, Y, Z, Z, Z, Z, Z, Z, Z, Z, Z, Z, Z, Z, Z, Z, Z, Z, Z, Z, Z, Z, Z, Z, Z, Z, Z, Z, Z] HT_ ?_
       refine pU 12 106 #[Y, Y, Y, Y, Y, Y, Y, Y, Y, Y, Y, Y, Y, Z, Z, Z, Z, Z, Z, Z, Z, Z, Z, Z, Z, Z, Z, Z, Z, Z, Z, Z, Z, Z, Z, Z, Z, Z, Z] HT_ ?_
       refine pU 13 107 #[Y, Y, Y, Y, Y, Y, Y, Y, Y, Y, Y, Y, Y, Y, Z, Z, Z, Z, Z, Z, Z, Z, Z, Z, Z, Z, Z, Z, Z, Z, Z, Z, Z, Z, Z, Z, Z, Z, Z] HT_ ?_
       refine pU 14 108 #[Y, Y, Y, Y, Y, Y, Y, Y, Y, Y, Y, Y, Y, Y, Y, Z, Z, Z, Z, Z, Z, Z, Z, Z, Z, Z, Z, Z, Z, Z, Z, Z, Z, Z, Z, Z, Z, Z, Z] HT_ ?_
       refine pU 15 109 #[Y, Y, Y, Y, Y, Y, Y, Y, Y, Y, Y, Y, Y, Y, Y, Y, Z, Z, Z, Z, Z, Z, Z, Z, Z, Z, Z, Z, Z, Z, Z, Z, Z, Z, Z, Z, Z, Z, Z] HT_ ?_
       refine pU 16 110 #[Y, Y, Y, Y, Y, Y, Y, Y, Y, Y, Y, Y, Y, Y, Y, Y, Y, Z, Z, Z, Z, Z, Z, Z, Z, Z, Z, Z, Z, Z, Z, Z, Z, Z, Z, Z, Z, Z, Z] HT_ ?_
       refine pU 17 111 #[Y, Y, Y, Y, Y, Y, Y, Y, Y, Y, Y, Y, Y, Y, Y, Y, Y, Y, Z, Z, Z, Z, Z, Z, Z, Z, Z, Z, Z, Z, Z, Z, Z, Z, Z, Z, Z, Z, Z] HT_ ?_
       refine pU 18 112 #[Y, Y, Y, Y, Y, Y, Y, Y, Y, Y, Y, Y, Y, Y, Y, Y, Y, Y, Y, Z, Z, Z, Z, Z, Z, Z, Z, Z, Z, Z, Z, Z, Z, Z, Z, Z, Z, Z, Z] HT_ ?_
       refine pU 19 113 #[Y, Y, Y, Y, Y, Y, Y, Y, Y, Y, Y, Y, Y, Y, Y, Y, Y, Y, Y, Y, Z, Z, Z, Z, Z, Z, Z, Z, Z, Z, Z, Z, Z, Z, Z, Z, Z, Z, Z] HT_ ?_
       refine pU 20 114 #[Y, Y, Y, Y, Y, Y, Y, Y, Y, Y, Y, Y, Y, Y, Y, Y, Y, Y, Y, Y, Y, Z, Z, Z, Z, Z, Z, Z, Z, Z, Z, Z, Z, Z, Z, Z, Z, Z, Z] HT_ ?_
       refine pU 21 115 #[Y, Y, Y, Y, Y, Y, Y, Y, Y, Y, Y, Y, Y, Y, Y, Y, Y, Y, Y, Y, Y, Y, Z, Z, Z, Z, Z, Z, Z, Z, Z, Z, Z, Z, Z, Z, Z, Z, Z] HT_ ?_
       refine pU 22 116 #[Y, Y, Y, Y, Y, Y, Y, Y, Y, Y, Y, Y, Y, Y, Y, Y, Y, Y, Y, Y, Y, Y, Y, Z, Z, Z, Z, Z, Z, Z, Z, Z, Z, Z, Z, Z, Z, Z, Z] HT_ ?_
       refine pU 23 117 #[Y, Y, Y, Y, Y, Y, Y, Y, Y, Y, Y, Y, Y, Y, Y, Y, Y, Y, Y, Y, Y, Y, Y, Y, Z, Z, Z, Z, Z, Z, Z, Z, Z, Z, Z, Z, Z, Z, Z] HT_ ?_
       refine pU 24 118 #[Y, Y, Y, Y, Y, Y, Y, Y, Y, Y, Y, Y, Y, Y, Y, Y, Y, Y, Y, Y, Y, Y, Y, Y, Y, Z, Z, Z, Z, Z, Z, Z, Z, Z, Z, Z, Z, Z, Z] HT_ ?_
       refine pU 25 119 #[Y, Y, Y, Y, Y, Y, Y, Y, Y, Y, Y, Y, Y, Y, Y, Y, Y, Y, Y, Y, Y, Y, Y, Y, Y, Y, Z, Z, Z, Z, Z, Z, Z, Z, Z, Z, Z, Z, Z] HT_ ?_
       refine pU 26 120 #[Y, Y, Y, Y, Y, Y, Y, Y, Y, Y, Y, Y, Y, Y, Y, Y, Y, Y, Y, Y, Y, Y, Y, Y, Y, Y, Y, Z, Z, Z, Z, Z, Z, Z, Z, Z, Z, Z, Z] HT_ ?_
       refine pU 27 121 #[Y, Y, Y, Y, Y, Y, Y, Y, Y, Y, Y, Y, Y, Y, Y, Y, Y, Y, Y, Y, Y, Y, Y, Y, Y, Y, Y, Y, Z, Z, Z, Z, Z, Z, Z, Z, Z, Z, Z] HT_ ?_
       refine pU 28 122 #[Y, Y, Y, Y, Y, Y, Y, Y, Y, Y, Y, Y, Y, Y, Y, Y, Y, Y, Y, Y, Y, Y, Y, Y, Y, Y, Y, Y, Y, Z, Z, Z, Z, Z, Z, Z, Z, Z, Z] HT_ ?_
       refine pU 29 123 #[Y, Y, Y, Y, Y, Y, Y, Y, Y, Y, Y, Y, Y, Y, Y, Y, Y, Y, Y, Y, Y, Y, Y, Y, Y, Y, Y, Y, Y, Y, Z, Z, Z, Z, Z, Z, Z, Z, Z] HT_ ?_
       refine pU 30 124 #[Y, Y, Y, Y, Y, Y, Y, Y, Y, Y, Y, Y, Y, Y, Y, Y, Y, Y, Y, Y, Y, Y, Y, Y, Y, Y, Y, Y, Y, Y, Y, Z, Z, Z, Z, Z, Z, Z, Z] HT_ ?_
       refine pU 31 125 #[Y, Y, Y, Y, Y, Y, Y, Y, Y, Y, Y, Y, Y, Y, Y, Y, Y, Y, Y, Y, Y, Y, Y, Y, Y, Y, Y, Y, Y, Y, Y, Y, Z, Z, Z, Z, Z, Z, Z] HT_ ?_
       refine pU 32 126 #[Y, Y, Y, Y, Y, Y, Y, Y, Y, Y, Y, Y, Y, Y, Y, Y, Y, Y, Y, Y, Y, Y, Y, Y, Y, Y, Y, Y, Y, Y, Y, Y, Y, Z, Z, Z, Z, Z, Z] HT_ ?_
       refine pU 33 127 #[Y, Y, Y, Y, Y, Y, Y, Y, Y, Y, Y, Y, Y, Y, Y, Y, Y, Y, Y, Y, Y, Y, Y, Y, Y, Y, Y, Y, Y, Y, Y, Y, Y, Y, Z, Z, Z, Z, Z] HT_ ?_
       refine pU 34 128 #[Y, Y, Y, Y, Y, Y, Y, Y, Y, Y, Y, Y, Y, Y, Y, Y, Y, Y, Y, Y, Y, Y, Y, Y, Y, Y, Y, Y, Y, Y, Y, Y, Y, Y, Y, Z, Z, Z, Z] HT_ ?_
       refine pU 35 129 #[Y, Y, Y, Y, Y, Y, Y, Y, Y, Y, Y, Y, Y, Y, Y, Y, Y, Y, Y, Y, Y, Y, Y, Y, Y, Y, Y, Y, Y, Y, Y, Y, Y, Y, Y, Y, Z, Z, Z] HT_ ?_
       refine pU 36 130 #[Y, Y, Y, Y, Y, Y, Y, Y, Y, Y, Y, Y, Y, Y, Y, Y, Y, Y, Y, Y, Y, Y, Y, Y, Y, Y, Y, Y, Y, Y, Y, Y, Y, Y, Y, Y, Y, Z, Z] HT_ ?_
       refine pU 37 131 #[Y, Y, Y, Y, Y, Y, Y, Y, Y, Y, Y, Y, Y, Y, Y, Y, Y, Y, Y, Y, Y, Y, Y, Y, Y, Y, Y, Y, Y, Y, Y, Y, Y, Y, Y, Y, Y, Y, Z] HT_ ?_
       refine pA 38 132 #[Y, Y, Y, Y, Y, Y, Y, Y, Y, Y, Y, Y, Y, Y, Y, Y, Y, Y, Y, Y, Y, Y, Y, Y, Y, Y, Y, Y, Y, Y, Y, Y, Y, Y, Y, Y, Y, Y, Y] HT_ ?_
       refine done_ (done_of HT_.out (by kernel_rfl)) ?_
       try go_wp2
       go_meet
       case rel => exact ⟨_, (false), aE, H', ⟨by have := HJ11.out; first | omega | exact Nat.le_refl _⟩, ⟨by (with_reducible repeat (first | apply Kd.N_alloc | apply Kd.N_drewN | apply Kd.N_drew)); exact Kd.N_mono HO_3.out (fun _ hk => ⟨hk.1, ⟨hk.2.1, ⟨hk.2.2.1, ⟨hk.2.2.2.1, hk.2.2.2.2.2.2⟩⟩⟩⟩)⟩, ⟨by (with_reducible repeat (first | apply Kd.N_alloc | apply Kd.N_drewN | apply Kd.N_drew)); exact Kd.N_mono HO_4.out (fun _ hk => ⟨hk.1, ⟨hk.2.1, ⟨hk.2.2.1, ⟨hk.2.2.2.1, hk.2.2.2.2.2.2⟩⟩⟩⟩)⟩, ⟨by (with_reducible repeat (first | apply Kd.N_alloc | apply Kd.N_drewN | apply Kd.N_drew)); exact Kd.N_mono HO_5.out (fun _ hk => ⟨hk.1, ⟨hk.2.1, ⟨hk.2.2.1, ⟨hk.2.2.2.1, hk.2.2.2.2.2.2⟩⟩⟩⟩)⟩, ⟨by (with_reducible repeat (first | apply Kd.N_alloc | apply Kd.N_drewN | apply Kd.N_drew)); exact Kd.N_mono HO_6.out (fun _ hk => ⟨hk.1, ⟨hk.2.1, ⟨hk.2.2.1, ⟨hk.2.2.2.1, hk.2.2.2.2.2.2⟩⟩⟩⟩)⟩, ⟨by (with_reducible repeat (first | apply Kd.N_alloc | apply Kd.N_drewN | apply Kd.N_drew)); exact Kd.N_mono HO_7.out (fun _ hk => ⟨hk.1, ⟨hk.2.1, ⟨hk.2.2.1, ⟨hk.2.2.2.1, hk.2.2.2.2.2.2⟩⟩⟩⟩)⟩, ⟨aK BK505⟩, ⟨by repeat (first | (with_reducible first | exact HB.out | apply below_alloc | apply pw_below_drewN | apply below_drew1 | refine below_set ?_ GE505.out) | exact HB.out)⟩, ⟨aB HBP⟩, ⟨aN HAP⟩⟩
     case rest =>
      clear HC50
      try clear c1
      try clear c2
      try clear p2
      try clear c5
      try clear p6
      try clear c8
      try clear q8
      try clear c16
      try clear c17
      try clear c20
      try clear c51
      try clear c51b0
      try clear c51b1
      try clear c53
      try clear c54
      try clear c55
      try clear c56
      try clear p64
      try clear c80
      try clear q80
      try clear q080
      try clear q80
      obtain ⟨kq, x132_49, rfl, HA, HJ49, HO_3, HO_4, HO_5, HO_6, HO_7, BK505, HB, HBP, HAP⟩ := hcut
      cases kq with
      | zero => exact absurd HA.out (by simp [boltinglaw04_RowsPuts.j1])
      | succ kj49 =>
       have H := HA.out
       clear HA
       simp only [boltinglaw04_RowsPuts.j1] at H
       by_cases c86 : x132_49 = true
       ·subst c86
        have H1 : (some false) = some r := by rw [if_pos rfl] at H; exact H
        clear H
        have H := H1
        clear H1
        obtain rfl := Option.some.inj H
        go_wp2
        go_ret
        exact ⟨by first | rfl | (simp [errW_none, errW_some] <;> rfl) | (simp [*, errW_none, errW_some] <;> rfl), by repeat (first | (with_reducible first | exact HB.out | apply below_alloc | apply pw_below_drewN | apply below_drew1 | refine below_set ?_ GE505.out) | exact HB.out)⟩
       ·replace c86 := Bool.eq_false_iff.mpr c86
        subst c86
        have H1 : (boltinglaw04_RowsPuts.l0 kj49 t506 t509 t514 t517 (t520.map fun x => x.f4.length) 0) = some r := by rw [if_neg (show ¬ (false = true) by decide)] at H; exact H
        clear H
        have H := H1
        clear H1
        have H' := Aside0.mk H
        clear H
        go_wp2
        go_loopg [15] kj49 (fun kq v15 w' => ∃ (ls : List Nat) (x7_3 : List (S43)) (x15_3 : Int), v15 = .int .i64 x15_3 ∧ Aside0 (ls = x7_3.map fun x => x.f4.length) ∧ Aside0 (boltinglaw04_RowsPuts.l0 kq t506 t509 t514 t517 ls x15_3 = some r) ∧ Aside0 (kq ≤ kj49) ∧ Aside0 (Kd.N kT43 43 w' wP.heap.size (fun k_ => wP.heap.size ≤ k_) v521 x7_3) ∧ Aside0 (Below wP.heap.size wP w') ∧ Aside0 (Below w.heap.size w w'))
        case atStart => exact ⟨_, t520, 0, aE, ⟨rfl⟩, H', ⟨Nat.le_refl _⟩, ⟨aN HAP⟩, ⟨aB HBP⟩, ⟨by repeat (first | (with_reducible first | exact HB.out | apply below_alloc | apply pw_below_drewN | apply below_drew1 | refine below_set ?_ GE505.out) | exact HB.out)⟩⟩
        case round =>
         clear H' HO_3 HO_4 HO_5 HO_6 HO_7 BK505 HB HBP HAP
         obtain ⟨ls, x7_3, x15_3, rfl, HLS, HA, HK3, HAP, HBP, HB⟩ := hrel
         cases gk with
         | zero => exact absurd HA.out (by simp [boltinglaw04_RowsPuts.l0])
         | succ k3 =>
          have H := HA.out
          clear HA
          simp only [boltinglaw04_RowsPuts.l0] at H
          have hll : ls.length = x7_3.length := by rw [HLS.out, List.length_map]
          by_cases c87 : x15_3 < (x7_3.length : Int)
          ·rw [hll, if_pos c87] at H
           have c87b0 : decide (x15_3 < (x7_3.length : Int)) = true := decide_eq_true c87
           by_cases c88 : 0 ≤ x15_3
           ·rw [if_pos c88] at H
            have c88b0 : decide (0 ≤ x15_3) = true := decide_eq_true c88
            obtain ⟨y605, hy605⟩ : ∃ y_ : List (S43), y_ = (x7_3.set (x15_3 : Int).toNat (⟨(rd_T43 x7_3 x15_3).f0, (rd_T43 x7_3 x15_3).f1, (⟨#[120]⟩ : ByteArray), (rd_T43 x7_3 x15_3).f3, (rd_T43 x7_3 x15_3).f4⟩ : S43)) := ⟨_, rfl⟩
            have HL605 : Aside0 (ls = y605.map fun x => x.f4.length) := ⟨by rw [hy605, HLS.out]; exact (lens_put x7_3 x15_3 _ _ _ _ c88 c87).symm⟩
            have Ny605 := Aside0.mk hy605
            clear hy605 c87 c88 hll
            have H' := Aside0.mk H
            clear H
            obtain ⟨Ao90, co90, eo90⟩ := Kd.N_slice HAP.out
            subst eo90
            have p89 : 0 ≤ (x15_3 : Int) := of_decide_eq_true aA
            have q89 : (x15_3 : Int) < ((x7_3.length : Int) : Int) := of_decide_eq_true aA
            obtain ⟨go89, co89, eo89, gb89, gl89, cl89, HG89⟩ := Kd.N_form HAP.out (by omega)
            (first | cases eo89 | (injection eo89 with ea_ en_ ec_; (first | subst ea_ | (injection ea_ with ea_; subst ea_)); subst ec_; clear en_))
            have GBP := Aside0.mk gb89
            have GB89 := Aside0.mk (Nat.le_trans HWP.out gb89)
            clear gb89 gl89 HG89
            obtain ⟨ce89, hcl89, hM89, hcc89, hfr89⟩ := Kd.N_elem HAP.out z43 (x15_3 : Int) p89 q89
            obtain ⟨ua89_4, uc89_4, rfl, ul89_4, ge89_4, gt89_4⟩ := kT_openF hM89
            have HP91 := Kd.N_seg HAP.out (x15_3 : Int) p89 q89 (seg := [.string (⟨#[120]⟩ : ByteArray)]) (j := 2) hcl89 hcc89 (show 3 ≤ 5 from by decide) (x' := (⟨(rd_T43 x7_3 x15_3).f0, (rd_T43 x7_3 x15_3).f1, (⟨#[120]⟩ : ByteArray), (rd_T43 x7_3 x15_3).f3, (rd_T43 x7_3 x15_3).f4⟩ : S43)) (kT_mkF (⟨(rd_T43 x7_3 x15_3).f0, (rd_T43 x7_3 x15_3).f1, (⟨#[120]⟩ : ByteArray), (rd_T43 x7_3 x15_3).f3, (rd_T43 x7_3 x15_3).f4⟩ : S43) ul89_4 ge89_4 gt89_4) (fun _ hk => hk)
            have hx89_0 : wr.cell? ⟨go89, (x15_3 : Int).toNat * 5, none⟩ = some (.int .i64 ((rd_T43 x7_3 x15_3).f0)) := hcc89 0 _ rfl
            have hf89_0 : wr.frozen? ⟨go89, (x15_3 : Int).toNat * 5, none⟩ = false := hfr89 0
            have hx89_1 : wr.cell? ⟨go89, (x15_3 : Int).toNat * 5 + 1, none⟩ = some (.int .i64 ((rd_T43 x7_3 x15_3).f1)) := hcc89 1 _ rfl
            have hf89_1 : wr.frozen? ⟨go89, (x15_3 : Int).toNat * 5 + 1, none⟩ = false := hfr89 1
            have hx89_2 : wr.cell? ⟨go89, (x15_3 : Int).toNat * 5 + 2, none⟩ = some (.string ((rd_T43 x7_3 x15_3).f2)) := hcc89 2 _ rfl
            have hf89_2 : wr.frozen? ⟨go89, (x15_3 : Int).toNat * 5 + 2, none⟩ = false := hfr89 2
            have hx89_3 : wr.cell? ⟨go89, (x15_3 : Int).toNat * 5 + 3, none⟩ = some (.string ((rd_T43 x7_3 x15_3).f3)) := hcc89 3 _ rfl
            have hf89_3 : wr.frozen? ⟨go89, (x15_3 : Int).toNat * 5 + 3, none⟩ = false := hfr89 3
            have hx89_4 : wr.cell? ⟨go89, (x15_3 : Int).toNat * 5 + 4, none⟩ = some (.slice ua89_4 ((rd_T43 x7_3 x15_3).f4).length uc89_4) := hcc89 4 _ rfl
            have hf89_4 : wr.frozen? ⟨go89, (x15_3 : Int).toNat * 5 + 4, none⟩ = false := hfr89 4
            clear hcl89 hcc89 hfr89 hM89 ge89_4 gt89_4
            replace p89 := eq_true p89
            replace q89 := eq_true q89
            go_wp2_with (first | ((with_reducible refine gate_store (t := 9) (p := 142) rfl ?_); refine store_event (t := 9) (p := 142) (v := ?vo_w92) (w1 := (wr.setCell ⟨go89, (x15_3 : Int).toNat * 5 + 2, none⟩ (.string (⟨#[120]⟩ : ByteArray)))) ?hg ?ho ?hn ?hr ?_; (case ho => rfl); (case hg => rfl); (case hn => rfl); (case hr => first | (go_simp; done) | (go_simp; rfl)); intro w92 hw; have n0_ : Aside0 (Kd.N kT43 43 w92 wP.heap.size (fun k_ => wP.heap.size ≤ k_) (.slice (some ⟨go89, 0, none⟩) x7_3.length co90) y605) := ⟨by rw [hw, Ny605.out]; exact HP91.1⟩; have n1_ : Aside0 (Below wP.heap.size wP w92) := ⟨by rw [hw]; exact below_set HBP.out GBP.out⟩; have n2_ : Aside0 (Below w.heap.size w w92) := ⟨by rw [hw]; exact below_set HB.out GB89.out⟩; clear HP91 HAP HBP HB; have HAP := n0_; have HBP := n1_; have HB := n2_; clear n0_ n1_ n2_ hw))
            go_loopg [16] k3 (fun kq v16 w' => ∃ (x7_4 : List (S43)) (x16_4 : Int), v16 = .int .i64 x16_4 ∧ Aside0 (0 ≤ x16_4) ∧ Aside0 (ls = x7_4.map fun x => x.f4.length) ∧ Aside0 (boltinglaw04_RowsPuts.l1 kq t506 t509 t514 t517 ls x15_3 x16_4 = some r) ∧ Aside0 (kq ≤ k3) ∧ Aside0 (Kd.N kT43 43 w' wP.heap.size (fun k_ => wP.heap.size ≤ k_) (.slice (some ⟨go89, 0, none⟩) x7_3.length co90) x7_4) ∧ Aside0 (Below wP.heap.size wP w') ∧ Aside0 (Below w.heap.size w w'))
            case atStart => exact ⟨y605, 0, aE, ⟨Int.le_refl _⟩, HL605, H', ⟨Nat.le_refl _⟩, ⟨aN HAP⟩, ⟨aB HBP⟩, ⟨aB HB⟩⟩
            case round =>
             clear H' HAP HBP HB
             try clear hx89_0 hx89_1 hx89_2 hx89_3 hx89_4 hf89_0 hf89_1 hf89_2 hf89_3 hf89_4 p89 q89 c87b0 c88b0
             obtain ⟨x7_4, x16_4, rfl, HZ4, HL4, HA, HK4, HAP, HBP, HB⟩ := hrel
             have hl7_4 := (Kd.N_reads' HAP.out).1
             rw [hl7_4] at HAP
             (try simp only [hl7_4])
             cases gk with
             | zero => exact absurd HA.out (by simp [boltinglaw04_RowsPuts.l1])
             | succ k4 =>
              have H := HA.out
              clear HA
              simp only [boltinglaw04_RowsPuts.l1] at H
              have hll4 : ls.length = x7_4.length := by rw [HL4.out, List.length_map]
              by_cases c93 : 0 ≤ x15_3
              ·rw [if_pos c93] at H
               have c93b0 : decide (0 ≤ x15_3) = true := decide_eq_true c93
               by_cases c94 : x15_3 < (x7_4.length : Int)
               ·rw [hll4, if_pos c94] at H
                have c94b0 : decide (x15_3 < (x7_4.length : Int)) = true := decide_eq_true c94
                have hla : ls.getD x15_3.toNat 0 = (rd_T43 x7_4 x15_3).f4.length := by rw [HL4.out]; exact lens_at x7_4 x15_3 c93 c94
                rw [hla] at H
                clear hla hll4 c93 c94
                have p606 : 0 ≤ (x15_3 : Int) := of_decide_eq_true aA
                have q606 : x15_3 < (x7_4.length : Int) := of_decide_eq_true aA
                obtain ⟨ad606, A606_4, c606_4, e606, hx606_0, hx606_1, hx606_2, hx606_3, hx606_4, hl606_4, hi606_4⟩ := at_T43 (cT (Kd.N_reads' HAP.out).2.2) x15_3 p606 q606
                obtain rfl : (⟨go89, 0, none⟩ : Addr) = ad606 := (by injection e606)
                obtain ⟨ce606, hce606, hMe606, hcc606⟩ := Kd.N_get HAP.out z43 x15_3 p606 q606
                obtain ⟨ua606_4, uc606_4, rfl, ul606_4, ge606_4, gt606_4⟩ := kT_openF hMe606
                have hv606_4 := hcc606 4 _ rfl
                rw [add_field _ _ 4 (by omega)] at hv606_4
                replace hv606_4 := Option.some.inj (hv606_4.symm.trans hx606_4)
                injection hv606_4 with hva_ hvn_ hvc_
                rw [hva_] at ge606_4 gt606_4
                clear hva_ hvn_ hvc_ hcc606 hce606 ul606_4 hMe606 e606
                (first | simp only [add_plain] at hx606_0 | simp only [add_at] at hx606_0 | simp only [Addr.add, Nat.zero_add] at hx606_0 | skip)
                (first | simp only [add_plain] at hx606_1 | simp only [add_at] at hx606_1 | simp only [Addr.add, Nat.zero_add] at hx606_1 | skip)
                (first | simp only [add_plain] at hx606_2 | simp only [add_at] at hx606_2 | simp only [Addr.add, Nat.zero_add] at hx606_2 | skip)
                (first | simp only [add_plain] at hx606_3 | simp only [add_at] at hx606_3 | simp only [Addr.add, Nat.zero_add] at hx606_3 | skip)
                (first | simp only [add_plain] at hx606_4 | simp only [add_at] at hx606_4 | simp only [Addr.add, Nat.zero_add] at hx606_4 | skip)
                replace p606 := eq_true p606
                replace q606 := eq_true q606
                by_cases c95 : x16_4 < (((rd_T43 x7_4 x15_3).f4).length : Int)
                ·rw [if_pos c95] at H
                 have c95b0 : decide (x16_4 < (((rd_T43 x7_4 x15_3).f4).length : Int)) = true := decide_eq_true c95
                 have h96 : 0 ≤ x16_4 := HZ4.out
                 have c96b0 : decide (0 ≤ x16_4) = true := decide_eq_true h96
                 have c96b1 := eq_true h96
                 have c95b1 := eq_true c95
                 obtain ⟨adp, cellsp, e', hokp, hcp⟩ := gt606_4 (show 0 < ((rd_T43 x7_4 x15_3).f4).length from by omega)
                 obtain ⟨adq, cq, eq_, hclq, hKq, hccq, _⟩ := Kd.F_get ge606_4 z46 x16_4 h96 c95
                 obtain rfl : adp = adq := Option.some.inj (e'.symm.trans eq_)
                 subst e'
                 obtain rfl := k46_open (Kd.FK_now hKq)
                 have hxq0 : wr.cell? (adp.add ((x16_4 : Int).toNat * 2)) = some (.string (rd_T46 ((rd_T43 x7_4 x15_3).f4) x16_4).f0) := hccq 0 _ rfl
                 have hfq0 : wr.frozen? (adp.add ((x16_4 : Int).toNat * 2)) = false := by unfold World.frozen?; rw [add_block, hcp]; simp
                 have GAP : wP.heap.size ≤ adp.block := hokp.1
                 obtain ⟨x7_5, hx5, hN5⟩ := N_poke (s := (⟨#[]⟩ : ByteArray)) HAP.out hxq0 (cells := cellsp) (by rw [add_block]; exact hcp)
                 have H' := Aside0.mk H
                 clear H hccq hclq hKq
                 have HP5 := Aside0.mk hN5
                 clear hN5 c95 h96
                 go_wp2
                 (try simp only [← hl7_4])
                 go_roundg k4
                 case measure => have := HJ11.out; have := HJ49.out; have := HK3.out; have := HK4.out; omega
                 case rel => exact ⟨x7_5, (wrap64 (x16_4 + 1)), aE, ⟨by have h_ := of_decide_eq_true c95b0; have h2_ := of_decide_eq_true c96b0; have h3_ : ((rd_T43 x7_4 x15_3).f4).length ≤ 9223372036854775807 := ge606_max ge606_4; unfold wrap64; omega⟩, ⟨HL4.out.trans hx5.symm⟩, H', ⟨by have := HJ11.out; have := HJ49.out; have := HK3.out; have := HK4.out; omega⟩, ⟨by (try simp only [hl7_4]); exact HP5.out⟩, ⟨HBP.out.setCell (p := adp.add ((x16_4 : Int).toNat * 2)) (by rw [add_block]; exact GAP) _⟩, ⟨HB.out.setCell (p := adp.add ((x16_4 : Int).toNat * 2)) (by rw [add_block]; exact Nat.le_trans HWP.out GAP) _⟩⟩
                ·rw [if_neg c95] at H
                 have c95b0 : decide (x16_4 < (((rd_T43 x7_4 x15_3).f4).length : Int)) = false := decide_eq_false c95
                 clear c95
                 have H' := Aside0.mk H
                 clear H
                 clear ge606_4 gt606_4
                 go_wp2
                 (try simp only [← hl7_4])
                 go_roundg k4
                 case measure => have := HJ11.out; have := HJ49.out; have := HK3.out; have := HK4.out; omega
                 case rel => exact ⟨ls, x7_4, (wrap64 (x15_3 + 1)), aE, HL4, H', ⟨by have := HJ11.out; have := HJ49.out; have := HK3.out; have := HK4.out; omega⟩, ⟨by (try simp only [hl7_4]); exact aN HAP⟩, ⟨aB HBP⟩, ⟨aB HB⟩⟩
               ·rw [hll4, if_neg c94] at H
                exact absurd H (by simp)
              ·rw [if_neg c93] at H
               exact absurd H (by simp)
           ·rw [if_neg c88] at H
            exact absurd H (by simp)
          ·rw [hll, if_neg c87] at H
           have HQ_3 := Aside0.mk (Kd.N_below HN3.out HBP.out)
           have HQ_4 := Aside0.mk (Kd.N_below HN4.out HBP.out)
           have HQ_5 := Aside0.mk (Kd.N_below HN5.out HBP.out)
           have HQ_6 := Aside0.mk (Kd.N_below HN6.out HBP.out)
           have HQ_7 := Aside0.mk (nT HAP.out)
           have BK505 := Aside0.mk (blk_below (g := gb505) (o := .cells #[.slice A0_0 l0_0.length c0_0, .slice A0_1 l0_1.length c0_1, .int .i64 a0_2, .int .i64 a0_3] 37 (0, 0)) BKP.out HBP.out)
           clear hll
           have c87b0 : decide (x15_3 < (x7_3.length : Int)) = false := decide_eq_false c87
           clear c87
           replace H := Option.bind_eq_some_iff.mp H
           obtain ⟨t563, A960, H⟩ := H
           replace H : (if t563 = true then ((boltingref04_Same.f t509 t517).bind fun t564 => (if t564 = true then ((boltinglaw04_fixed.f k3).bind fun t565 => (some t565)) else (some false))) else (some false)) = some r := H
           have A96 := Aside0.mk A960
           clear A960
           by_cases c97 : t563 = true
           ·subst c97
            have H1 : ((boltingref04_Same.f t509 t517).bind fun t564 => (if t564 = true then ((boltinglaw04_fixed.f k3).bind fun t565 => (some t565)) else (some false))) = some r := by rw [if_pos rfl] at H; exact H
            clear H
            have H := H1
            clear H1
            replace H := Option.bind_eq_some_iff.mp H
            obtain ⟨t564, A980, H⟩ := H
            replace H : (if t564 = true then ((boltinglaw04_fixed.f k3).bind fun t565 => (some t565)) else (some false)) = some r := H
            have A98 := Aside0.mk A980
            clear A980
            by_cases c99 : t564 = true
            ·subst c99
             have H1 : ((boltinglaw04_fixed.f k3).bind fun t565 => (some t565)) = some r := by rw [if_pos rfl] at H; exact H
             clear H
             have H := H1
             clear H1
             replace H := Option.bind_eq_some_iff.mp H
             obtain ⟨t565, A1000, H⟩ := H
             replace H : (some t565) = some r := H
             have A100 := Aside0.mk A1000
             clear A1000
             obtain rfl := Option.some.inj H
             obtain ⟨Ao101, co101, eo101⟩ := Kd.N_slice HQ_7.out
             subst eo101
             obtain ⟨Ao102, co102, eo102⟩ := Kd.N_slice HQ_5.out
             subst eo102
             go_wp2_with (first | ((with_reducible refine gate_callee (f := 16) rfl ?_); refine goesL_ (some 163) rfl rfl Try.func16 (by kernel_rfl) rfl #[.slice Ao17 t506.length co17, .slice Ao102 t514.length co102] rfl (by (try simp only [List.map_toArray, List.map_cons, List.map_nil]); first | done | rfl | (simp only [List.length_drop, List.length_take]; rfl)) ?_; (with_reducible refine (boltingref04_Same.calls _ _ t506 _ _ t514 true _ ?side1 ?side2 ?side3 ?side4 A96.out).mono ?_); (case side1 => exact aC (Kd.N_reads' HQ_3.out).2.2); (case side2 => exact (Kd.N_reads' HQ_3.out).2.1); (case side3 => exact aC (Kd.N_reads' HQ_5.out).2.2); (case side4 => exact (Kd.N_reads' HQ_5.out).2.1); rintro e w103 ⟨rfl, hb⟩; refine ⟨_, rfl, ?_⟩; have n0_ := Aside0.mk (Kd.N_below (aN HQ_3) hb); have n1_ := Aside0.mk (Kd.N_below (aN HQ_4) hb); have n2_ := Aside0.mk (Kd.N_below (aN HQ_5) hb); have n3_ := Aside0.mk (Kd.N_below (aN HQ_6) hb); have n4_ := Aside0.mk (Kd.N_below (aN HQ_7) hb); have n5_ := Aside0.mk (blk_below (g := gb505) (o := .cells #[.slice A0_0 l0_0.length c0_0, .slice A0_1 l0_1.length c0_1, .int .i64 a0_2, .int .i64 a0_3] 37 (0, 0)) (aK BK505) hb); have n6_ := Aside0.mk (below_step (by repeat (first | (with_reducible first | exact HB.out | apply below_alloc | apply pw_below_drewN | apply below_drew1 | refine below_set ?_ GE505.out) | exact HB.out)) hb); clear HQ_3; clear HQ_4; clear HQ_5; clear HQ_6; clear HQ_7; clear BK505; clear HB; have HQ_3 := n0_; have HQ_4 := n1_; have HQ_5 := n2_; have HQ_6 := n3_; have HQ_7 := n4_; have BK505 := n5_; have HB := n6_; clear n0_ n1_ n2_ n3_ n4_ n5_ n6_; (try clear hb); (try clear hb2); (try clear hk); (try clear hi); obtain ⟨Ao104, co104, eo104⟩ := Kd.N_slice HQ_6.out; subst eo104) | (go_at_call 16; (with_reducible refine (boltingref04_Same.calls _ _ t509 _ _ t517 true _ ?side1 ?side2 ?side3 ?side4 A98.out).mono ?_); (case side1 => exact aC (Kd.N_reads' HQ_4.out).2.2); (case side2 => exact (Kd.N_reads' HQ_4.out).2.1); (case side3 => exact aC (Kd.N_reads' HQ_6.out).2.2); (case side4 => exact (Kd.N_reads' HQ_6.out).2.1); rintro e w105 ⟨rfl, hb⟩; have n0_ := Aside0.mk (Kd.N_below (aN HQ_3) hb); have n1_ := Aside0.mk (Kd.N_below (aN HQ_4) hb); have n2_ := Aside0.mk (Kd.N_below (aN HQ_5) hb); have n3_ := Aside0.mk (Kd.N_below (aN HQ_6) hb); have n4_ := Aside0.mk (Kd.N_below (aN HQ_7) hb); have n5_ := Aside0.mk (blk_below (g := gb505) (o := .cells #[.slice A0_0 l0_0.length c0_0, .slice A0_1 l0_1.length c0_1, .int .i64 a0_2, .int .i64 a0_3] 37 (0, 0)) (aK BK505) hb); have n6_ := Aside0.mk (below_step (by repeat (first | (with_reducible first | exact HB.out | apply below_alloc | apply pw_below_drewN | apply below_drew1 | refine below_set ?_ GE505.out) | exact HB.out)) hb); clear HQ_3; clear HQ_4; clear HQ_5; clear HQ_6; clear HQ_7; clear BK505; clear HB; have HQ_3 := n0_; have HQ_4 := n1_; have HQ_5 := n2_; have HQ_6 := n3_; have HQ_7 := n4_; have BK505 := n5_; have HB := n6_; clear n0_ n1_ n2_ n3_ n4_ n5_ n6_; (try clear hb); (try clear hb2); (try clear hk); (try clear hi)) | (go_at_call 12; (with_reducible refine (boltinglaw04_fixed.calls k3  t565 _ A100.out).mono ?_); rintro e w106 ⟨rfl, hb⟩; have n0_ := Aside0.mk (Kd.N_below (aN HQ_3) hb); have n1_ := Aside0.mk (Kd.N_below (aN HQ_4) hb); have n2_ := Aside0.mk (Kd.N_below (aN HQ_5) hb); have n3_ := Aside0.mk (Kd.N_below (aN HQ_6) hb); have n4_ := Aside0.mk (Kd.N_below (aN HQ_7) hb); have n5_ := Aside0.mk (blk_below (g := gb505) (o := .cells #[.slice A0_0 l0_0.length c0_0, .slice A0_1 l0_1.length c0_1, .int .i64 a0_2, .int .i64 a0_3] 37 (0, 0)) (aK BK505) hb); have n6_ := Aside0.mk (below_step (by repeat (first | (with_reducible first | exact HB.out | apply below_alloc | apply pw_below_drewN | apply below_drew1 | refine below_set ?_ GE505.out) | exact HB.out)) hb); clear HQ_3; clear HQ_4; clear HQ_5; clear HQ_6; clear HQ_7; clear BK505; clear HB; have HQ_3 := n0_; have HQ_4 := n1_; have HQ_5 := n2_; have HQ_6 := n3_; have HQ_7 := n4_; have BK505 := n5_; have HB := n6_; clear n0_ n1_ n2_ n3_ n4_ n5_ n6_; (try clear hb); (try clear hb2); (try clear hk); (try clear hi)))
             go_ret
             exact ⟨by first | rfl | (simp [errW_none, errW_some] <;> rfl) | (simp [*, errW_none, errW_some] <;> rfl), by repeat (first | (with_reducible first | exact HB.out | apply below_alloc | apply pw_below_drewN | apply below_drew1 | refine below_set ?_ GE505.out) | exact HB.out)⟩
            ·replace c99 := Bool.eq_false_iff.mpr c99
             subst c99
             have H1 : (some false) = some r := by rw [if_neg (show ¬ (false = true) by decide)] at H; exact H
             clear H
             have H := H1
             clear H1
             obtain rfl := Option.some.inj H
             obtain ⟨Ao107, co107, eo107⟩ := Kd.N_slice HQ_7.out
             subst eo107
             obtain ⟨Ao108, co108, eo108⟩ := Kd.N_slice HQ_5.out
             subst eo108
             go_wp2_with (first | ((with_reducible refine gate_callee (f := 16) rfl ?_); refine goesL_ (some 163) rfl rfl Try.func16 (by kernel_rfl) rfl #[.slice Ao17 t506.length co17, .slice Ao108 t514.length co108] rfl (by (try simp only [List.map_toArray, List.map_cons, List.map_nil]); first | done | rfl | (simp only [List.length_drop, List.length_take]; rfl)) ?_; (with_reducible refine (boltingref04_Same.calls _ _ t506 _ _ t514 true _ ?side1 ?side2 ?side3 ?side4 A96.out).mono ?_); (case side1 => exact aC (Kd.N_reads' HQ_3.out).2.2); (case side2 => exact (Kd.N_reads' HQ_3.out).2.1); (case side3 => exact aC (Kd.N_reads' HQ_5.out).2.2); (case side4 => exact (Kd.N_reads' HQ_5.out).2.1); rintro e w109 ⟨rfl, hb⟩; refine ⟨_, rfl, ?_⟩; have n0_ := Aside0.mk (Kd.N_below (aN HQ_3) hb); have n1_ := Aside0.mk (Kd.N_below (aN HQ_4) hb); have n2_ := Aside0.mk (Kd.N_below (aN HQ_5) hb); have n3_ := Aside0.mk (Kd.N_below (aN HQ_6) hb); have n4_ := Aside0.mk (Kd.N_below (aN HQ_7) hb); have n5_ := Aside0.mk (blk_below (g := gb505) (o := .cells #[.slice A0_0 l0_0.length c0_0, .slice A0_1 l0_1.length c0_1, .int .i64 a0_2, .int .i64 a0_3] 37 (0, 0)) (aK BK505) hb); have n6_ := Aside0.mk (below_step (by repeat (first | (with_reducible first | exact HB.out | apply below_alloc | apply pw_below_drewN | apply below_drew1 | refine below_set ?_ GE505.out) | exact HB.out)) hb); clear HQ_3; clear HQ_4; clear HQ_5; clear HQ_6; clear HQ_7; clear BK505; clear HB; have HQ_3 := n0_; have HQ_4 := n1_; have HQ_5 := n2_; have HQ_6 := n3_; have HQ_7 := n4_; have BK505 := n5_; have HB := n6_; clear n0_ n1_ n2_ n3_ n4_ n5_ n6_; (try clear hb); (try clear hb2); (try clear hk); (try clear hi); obtain ⟨Ao110, co110, eo110⟩ := Kd.N_slice HQ_6.out; subst eo110) | (go_at_call 16; (with_reducible refine (boltingref04_Same.calls _ _ t509 _ _ t517 false _ ?side1 ?side2 ?side3 ?side4 A98.out).mono ?_); (case side1 => exact aC (Kd.N_reads' HQ_4.out).2.2); (case side2 => exact (Kd.N_reads' HQ_4.out).2.1); (case side3 => exact aC (Kd.N_reads' HQ_6.out).2.2); (case side4 => exact (Kd.N_reads' HQ_6.out).2.1); rintro e w111 ⟨rfl, hb⟩; have n0_ := Aside0.mk (Kd.N_below (aN HQ_3) hb); have n1_ := Aside0.mk (Kd.N_below (aN HQ_4) hb); have n2_ := Aside0.mk (Kd.N_below (aN HQ_5) hb); have n3_ := Aside0.mk (Kd.N_below (aN HQ_6) hb); have n4_ := Aside0.mk (Kd.N_below (aN HQ_7) hb); have n5_ := Aside0.mk (blk_below (g := gb505) (o := .cells #[.slice A0_0 l0_0.length c0_0, .slice A0_1 l0_1.length c0_1, .int .i64 a0_2, .int .i64 a0_3] 37 (0, 0)) (aK BK505) hb); have n6_ := Aside0.mk (below_step (by repeat (first | (with_reducible first | exact HB.out | apply below_alloc | apply pw_below_drewN | apply below_drew1 | refine below_set ?_ GE505.out) | exact HB.out)) hb); clear HQ_3; clear HQ_4; clear HQ_5; clear HQ_6; clear HQ_7; clear BK505; clear HB; have HQ_3 := n0_; have HQ_4 := n1_; have HQ_5 := n2_; have HQ_6 := n3_; have HQ_7 := n4_; have BK505 := n5_; have HB := n6_; clear n0_ n1_ n2_ n3_ n4_ n5_ n6_; (try clear hb); (try clear hb2); (try clear hk); (try clear hi)))
             go_ret
             exact ⟨by first | rfl | (simp [errW_none, errW_some] <;> rfl) | (simp [*, errW_none, errW_some] <;> rfl), by repeat (first | (with_reducible first | exact HB.out | apply below_alloc | apply pw_below_drewN | apply below_drew1 | refine below_set ?_ GE505.out) | exact HB.out)⟩
           ·replace c97 := Bool.eq_false_iff.mpr c97
            subst c97
            have H1 : (some false) = some r := by rw [if_neg (show ¬ (false = true) by decide)] at H; exact H
            clear H
            have H := H1
            clear H1
            obtain rfl := Option.some.inj H
            obtain ⟨Ao112, co112, eo112⟩ := Kd.N_slice HQ_7.out
            subst eo112
            obtain ⟨Ao113, co113, eo113⟩ := Kd.N_slice HQ_5.out
            subst eo113
            go_wp2_with (first | ((with_reducible refine gate_callee (f := 16) rfl ?_); refine goesL_ (some 163) rfl rfl Try.func16 (by kernel_rfl) rfl #[.slice Ao17 t506.length co17, .slice Ao113 t514.length co113] rfl (by (try simp only [List.map_toArray, List.map_cons, List.map_nil]); first | done | rfl | (simp only [List.length_drop, List.length_take]; rfl)) ?_; (with_reducible refine (boltingref04_Same.calls _ _ t506 _ _ t514 false _ ?side1 ?side2 ?side3 ?side4 A96.out).mono ?_); (case side1 => exact aC (Kd.N_reads' HQ_3.out).2.2); (case side2 => exact (Kd.N_reads' HQ_3.out).2.1); (case side3 => exact aC (Kd.N_reads' HQ_5.out).2.2); (case side4 => exact (Kd.N_reads' HQ_5.out).2.1); rintro e w114 ⟨rfl, hb⟩; refine ⟨_, rfl, ?_⟩; have n0_ := Aside0.mk (Kd.N_below (aN HQ_3) hb); have n1_ := Aside0.mk (Kd.N_below (aN HQ_4) hb); have n2_ := Aside0.mk (Kd.N_below (aN HQ_5) hb); have n3_ := Aside0.mk (Kd.N_below (aN HQ_6) hb); have n4_ := Aside0.mk (Kd.N_below (aN HQ_7) hb); have n5_ := Aside0.mk (blk_below (g := gb505) (o := .cells #[.slice A0_0 l0_0.length c0_0, .slice A0_1 l0_1.length c0_1, .int .i64 a0_2, .int .i64 a0_3] 37 (0, 0)) (aK BK505) hb); have n6_ := Aside0.mk (below_step (by repeat (first | (with_reducible first | exact HB.out | apply below_alloc | apply pw_below_drewN | apply below_drew1 | refine below_set ?_ GE505.out) | exact HB.out)) hb); clear HQ_3; clear HQ_4; clear HQ_5; clear HQ_6; clear HQ_7; clear BK505; clear HB; have HQ_3 := n0_; have HQ_4 := n1_; have HQ_5 := n2_; have HQ_6 := n3_; have HQ_7 := n4_; have BK505 := n5_; have HB := n6_; clear n0_ n1_ n2_ n3_ n4_ n5_ n6_; (try clear hb); (try clear hb2); (try clear hk); (try clear hi)))
            go_ret
            exact ⟨by first | rfl | (simp [errW_none, errW_some] <;> rfl) | (simp [*, errW_none, errW_some] <;> rfl), by repeat (first | (with_reducible first | exact HB.out | apply below_alloc | apply pw_below_drewN | apply below_drew1 | refine below_set ?_ GE505.out) | exact HB.out)⟩
 ·rw [if_neg c5] at H
  have c5b0 : (t512 == 0) = false := beq_eq_false_iff_ne.mpr c5
  have c5b1 : (t512 != 0) = true := bne_iff_ne.mpr c5
  replace H := Option.bind_eq_some_iff.mp H
  obtain ⟨t513, A1150, H⟩ := H
  replace H : (some t513) = some r := H
  have A115 := Aside0.mk A1150
  clear A1150
  obtain rfl := Option.some.inj H
  go_enter Try.func5, Try.ntmps5
  try go_wp2_with (first | ((with_reducible refine gate_dst (N := 1) rfl ?_); (try (refine gate_guard (by rfl) ?_; dsimp only)); refine box_event ?hg (N := 1) ?hd (cs := #[.slice A0_0 l0_0.length c0_0, .slice A0_1 l0_1.length c0_1, .int .i64 a0_2, .int .i64 a0_3]) (t := 37) ?hr ?_; (case hd => rfl); (case hg => rfl); (case hr => first | (go_simp; done) | (go_simp; rfl)); intro gb505 hg w116 hbox hb; have n0_ := Aside0.mk (below_step (aB HB) hb); have n1_ := Aside0.mk (hbox); have n2_ := Aside0.mk ((by rw [hg]; exact (below_size (aB HB)) : w.heap.size ≤ gb505)); have n3_ := Aside0.mk ((by rw [hg]; exact (below_size (aB HB)) : w.heap.size ≤ gb505)); clear HB; have HB := n0_; have BK505 := n1_; have GW505 := n2_; have GE505 := n3_; clear n0_ n1_ n2_ n3_; clear hb hbox hg))
  have n0_ := Aside0.mk (blk_drew BK505.out)
  have n1_ := Aside0.mk (below_drew1 HB.out)
  clear BK505
  clear HB
  have BK505 := n0_
  have HB := n1_
  clear n0_ n1_
  refine start_ (n := 8) (S := fun w' => w'.cell? ⟨gb505, 0, none⟩ = some (.slice A0_0 l0_0.length c0_0) ∧ w'.cell? ⟨gb505, 1, none⟩ = some (.slice A0_1 l0_1.length c0_1) ∧ w'.cell? ⟨gb505, 2, none⟩ = some (.int .i64 a0_2) ∧ w'.cell? ⟨gb505, 3, none⟩ = some (.int .i64 a0_3)) (ds := []) #[Z, Z, Z, Z, Z, Z, Z, Z] (by kernel_rfl) rfl rfl ⟨(blk_cell BK505.out 0).trans rfl, (blk_cell BK505.out 1).trans rfl, (blk_cell BK505.out 2).trans rfl, (blk_cell BK505.out 3).trans rfl⟩ (fun hHeld => ?_); refine with_tabW boltinglaw04_RowsPuts.tab1 boltinglaw04_RowsPuts.bits1 (fun HT_ HW_ => ?_)
  generalize w116.drew = w117 at BK505 HB hHeld ⊢
  refine pA 0 17 #[Y, Z, Z, Z, Z, Z, Z, Z] HT_ ?_
  refine pA 3 20 #[Y, Z, Z, Y, Z, Z, Z, Z] HT_ ?_
  refine take_ (i := 1) (N := some 18) (v := ?_) (a' := ?_) #[Y, Y, Z, Y, Z, Z, Z, Z] rfl rfl (take_ofW HT_.out HW_.out (by kernel_rfl)) (fun _ _ _ h => h) (Or.inl ⟨by rfl, ?_⟩) hHeld ?_ ?_
  rotate_left
  ·rintro w' ⟨s0, s1, s2, s3⟩
   go_simp
   with_reducible rfl
  rotate_left
  ·simp only [Act.put, List.setIfInBounds_toArray, List.set_cons_zero, List.set_cons_succ, i64_w, i32_w]
   rfl
  refine take_ (i := 4) (N := some 21) (v := ?_) (a' := ?_) #[Y, Y, Z, Y, Y, Z, Z, Z] rfl rfl (take_ofW HT_.out HW_.out (by kernel_rfl)) (fun _ _ _ h => h) (Or.inl ⟨by rfl, ?_⟩) hHeld ?_ ?_
  rotate_left
  ·rintro w' ⟨s0, s1, s2, s3⟩
   go_simp
   with_reducible rfl
  rotate_left
  ·simp only [Act.put, List.setIfInBounds_toArray, List.set_cons_zero, List.set_cons_succ, i64_w, i32_w]
   rfl
  refine one_ (i := 2) (N := some 19) #[Y, Y, Y, Y, Y, Z, Z, Z] rfl rfl (one_of HT_.out (by kernel_rfl)) (by decide) (fun K hK => ?_)
  refine goes_ Try.func11 (by kernel_rfl) rfl #[.slice A0_0 l0_0.length c0_0] (by rfl) rfl rfl (by (try simp only [List.map_toArray, List.map_cons, List.map_nil]); first | done | rfl | (simp only [List.length_drop, List.length_take]; rfl)) ?_
  with_reducible refine (boltinglaw04_bound.calls k (fun k_ => k_ < w.heap.size) _ _ l0_0 t506 _ ?side1 A2.out).mono ?_
  (case side1 => exact Kd.V_mk HC0_0.out (Kd.F_below (Kd.C_F k43_heap HR0_0.out) (by repeat (first | (with_reducible first | exact HB.out | apply below_alloc | apply pw_below_drewN | apply below_drew1 | refine below_set ?_ GE505.out) | exact HB.out))))
  rintro e w118 ⟨v507, rfl, ho0, hb⟩
  refine ⟨_, rfl, ?_⟩
  have n0_ := Aside0.mk (Kd.N_lower (Kd.N_mono (ok' := fun k_ => k_ ≠ gb505) ho0 (fun k_ hk_ => Or.elim hk_ (fun hs_ => fun e_ => Nat.not_le.2 hs_ (by rw [e_]; exact GW505.out)) (fun hn_ => (Kd.freshB (g := gb505) (o := .cells #[.slice A0_0 l0_0.length c0_0, .slice A0_1 l0_1.length c0_1, .int .i64 a0_2, .int .i64 a0_3] 37 (0, 0)) (aK BK505) k_ hn_)))) (below_size (by repeat (first | (with_reducible first | exact HB.out | apply below_alloc | apply pw_below_drewN | apply below_drew1 | refine below_set ?_ GE505.out) | exact HB.out))))
  have n1_ := Aside0.mk (blk_below (g := gb505) (o := .cells #[.slice A0_0 l0_0.length c0_0, .slice A0_1 l0_1.length c0_1, .int .i64 a0_2, .int .i64 a0_3] 37 (0, 0)) (aK BK505) hb)
  have n2_ := Aside0.mk (below_step (by repeat (first | (with_reducible first | exact HB.out | apply below_alloc | apply pw_below_drewN | apply below_drew1 | refine below_set ?_ GE505.out) | exact HB.out)) hb)
  clear BK505
  clear HB
  have HO508 := n0_
  have BK505 := n1_
  have HB := n2_
  clear n0_ n1_ n2_
  (try clear hb)
  (try clear hb2)
  (try clear hk)
  (try clear hi)
  (try clear ho0)
  refine hK.out _ _ ⟨(blk_cell BK505.out 0).trans rfl, (blk_cell BK505.out 1).trans rfl, (blk_cell BK505.out 2).trans rfl, (blk_cell BK505.out 3).trans rfl⟩ (fun hHeld => ?_)
  clear hK K
  refine norm_ (a' := ?_) ?_ ?_
  rotate_left
  ·show Act.put _ (some 19) _ = _
   simp only [Act.put, List.setIfInBounds_toArray, List.set_cons_zero, List.set_cons_succ, i64_w, i32_w]
   rfl
  refine one_ (i := 5) (N := some 22) #[Y, Y, Y, Y, Y, Y, Z, Z] rfl rfl (one_of HT_.out (by kernel_rfl)) (by decide) (fun K hK => ?_)
  refine goes_ Try.func11 (by kernel_rfl) rfl #[.slice A0_1 l0_1.length c0_1] (by rfl) rfl rfl (by (try simp only [List.map_toArray, List.map_cons, List.map_nil]); first | done | rfl | (simp only [List.length_drop, List.length_take]; rfl)) ?_
  with_reducible refine (boltinglaw04_bound.calls k (fun k_ => k_ < w.heap.size) _ _ l0_1 t509 _ ?side1 A3.out).mono ?_
  (case side1 => exact Kd.V_mk HC0_1.out (Kd.F_below (Kd.C_F k43_heap HR0_1.out) (by repeat (first | (with_reducible first | exact HB.out | apply below_alloc | apply pw_below_drewN | apply below_drew1 | refine below_set ?_ GE505.out) | exact HB.out))))
  rintro e w119 ⟨v510, rfl, ho0, hb⟩
  refine ⟨_, rfl, ?_⟩
  have n0_ := Aside0.mk (Kd.N_elder' (aN HO508) (aS ho0) hb)
  have n1_ := Aside0.mk (Kd.N_lower (Kd.N_mono (ok' := fun k_ => some k_ ≠ (v507 : Value).ownBlock ∧ k_ ≠ gb505) ho0 (fun k_ hk_ => ⟨Or.elim hk_ (fun hs_ => fun e_ => Nat.not_le.2 hs_ (Kd.N_base HO508.out k_ e_.symm)) (fun hn_ => (Kd.fresh' (Kd.N_lt (aN HO508)) k_ hn_)), Or.elim hk_ (fun hs_ => fun e_ => Nat.not_le.2 hs_ (by rw [e_]; exact GW505.out)) (fun hn_ => (Kd.freshB (g := gb505) (o := .cells #[.slice A0_0 l0_0.length c0_0, .slice A0_1 l0_1.length c0_1, .int .i64 a0_2, .int .i64 a0_3] 37 (0, 0)) (aK BK505) k_ hn_))⟩)) (below_size (by repeat (first | (with_reducible first | exact HB.out | apply below_alloc | apply pw_below_drewN | apply below_drew1 | refine below_set ?_ GE505.out) | exact HB.out))))
  have n2_ := Aside0.mk (blk_below (g := gb505) (o := .cells #[.slice A0_0 l0_0.length c0_0, .slice A0_1 l0_1.length c0_1, .int .i64 a0_2, .int .i64 a0_3] 37 (0, 0)) (aK BK505) hb)
  have n3_ := Aside0.mk (below_step (by repeat (first | (with_reducible first | exact HB.out | apply below_alloc | apply pw_below_drewN | apply below_drew1 | refine below_set ?_ GE505.out) | exact HB.out)) hb)
  clear HO508
  clear BK505
  clear HB
  have HO508 := n0_
  have HO511 := n1_
  have BK505 := n2_
  have HB := n3_
  clear n0_ n1_ n2_ n3_
  (try clear hb)
  (try clear hb2)
  (try clear hk)
  (try clear hi)
  (try clear ho0)
  refine hK.out _ _ ⟨(blk_cell BK505.out 0).trans rfl, (blk_cell BK505.out 1).trans rfl, (blk_cell BK505.out 2).trans rfl, (blk_cell BK505.out 3).trans rfl⟩ (fun hHeld => ?_)
  clear hK K
  refine norm_ (a' := ?_) ?_ ?_
  rotate_left
  ·show Act.put _ (some 22) _ = _
   simp only [Act.put, List.setIfInBounds_toArray, List.set_cons_zero, List.set_cons_succ, i64_w, i32_w]
   rfl
  refine pA 6 3 #[Y, Y, Y, Y, Y, Y, Y, Z] HT_ ?_
  refine pA 7 4 #[Y, Y, Y, Y, Y, Y, Y, Y] HT_ ?_
  refine done_ (done_of HT_.out (by kernel_rfl)) ?_
  obtain ⟨Ao120, co120, eo120⟩ := Kd.N_slice HO508.out
  subst eo120
  try go_wp2_with (first | ((with_reducible refine gate_callee (f := 14) rfl ?_); refine goesL_ (some 24) rfl rfl Try.func14 (by kernel_rfl) rfl #[.slice Ao120 t506.length co120] rfl (by (try simp only [List.map_toArray, List.map_cons, List.map_nil]); first | done | rfl | (simp only [List.length_drop, List.length_take]; rfl)) ?_; (with_reducible refine (boltingref04_Check.calls k _ _ t506 t512 _ ?side1 ?side2 A4.out).mono ?_); (case side1 => exact aC (Kd.N_reads' HO508.out).2.2); (case side2 => exact (Kd.N_reads' HO508.out).2.1); rintro e w121 ⟨rfl, hb⟩; refine ⟨_, rfl, ?_⟩; have n0_ := Aside0.mk (Kd.N_below (aN HO508) hb); have n1_ := Aside0.mk (Kd.N_below (aN HO511) hb); have n2_ := Aside0.mk (blk_below (g := gb505) (o := .cells #[.slice A0_0 l0_0.length c0_0, .slice A0_1 l0_1.length c0_1, .int .i64 a0_2, .int .i64 a0_3] 37 (0, 0)) (aK BK505) hb); have n3_ := Aside0.mk (below_step (by repeat (first | (with_reducible first | exact HB.out | apply below_alloc | apply pw_below_drewN | apply below_drew1 | refine below_set ?_ GE505.out) | exact HB.out)) hb); clear HO508; clear HO511; clear BK505; clear HB; have HO508 := n0_; have HO511 := n1_; have BK505 := n2_; have HB := n3_; clear n0_ n1_ n2_ n3_; (try clear hb); (try clear hb2); (try clear hk); (try clear hi)) | ((with_reducible refine gate_callee (f := 12) rfl ?_); refine goesL_ (some 26) rfl rfl Try.func12 (by kernel_rfl) rfl #[] rfl (by (try simp only [List.map_toArray, List.map_cons, List.map_nil]); first | done | rfl | (simp only [List.length_drop, List.length_take]; rfl)) ?_; (with_reducible refine (boltinglaw04_fixed.calls k  t513 _ A115.out).mono ?_); rintro e w122 ⟨rfl, hb⟩; refine ⟨_, rfl, ?_⟩; have n0_ := Aside0.mk (Kd.N_below (aN HO508) hb); have n1_ := Aside0.mk (Kd.N_below (aN HO511) hb); have n2_ := Aside0.mk (blk_below (g := gb505) (o := .cells #[.slice A0_0 l0_0.length c0_0, .slice A0_1 l0_1.length c0_1, .int .i64 a0_2, .int .i64 a0_3] 37 (0, 0)) (aK BK505) hb); have n3_ := Aside0.mk (below_step (by repeat (first | (with_reducible first | exact HB.out | apply below_alloc | apply pw_below_drewN | apply below_drew1 | refine below_set ?_ GE505.out) | exact HB.out)) hb); clear HO508; clear HO511; clear BK505; clear HB; have HO508 := n0_; have HO511 := n1_; have BK505 := n2_; have HB := n3_; clear n0_ n1_ n2_ n3_; (try clear hb); (try clear hb2); (try clear hk); (try clear hi)))
  go_ret
  exact ⟨by first | rfl | (simp [errW_none, errW_some] <;> rfl) | (simp [*, errW_none, errW_some] <;> rfl), by repeat (first | (with_reducible first | exact HB.out | apply below_alloc | apply pw_below_drewN | apply below_drew1 | refine below_set ?_ GE505.out) | exact HB.out)⟩

end Go.Proofs.Ytllggaogjcknoaa.QA
