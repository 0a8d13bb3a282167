-- Written by a program of this claim's own (wip/gen/gen.py), out of the translation; an ordinary proof text.
import Derived.Test.YtllggaogjcknoaaQAx0
import Derived.Test.YtllggaogjcknoaaQAx11
import Derived.Test.YtllggaogjcknoaaQAx12
import Derived.Test.YtllggaogjcknoaaQAx19
namespace Go.Proofs.Ytllggaogjcknoaa.QA
open Go.RowKit Go.Proofs.YtllggaogjcknoaaW.PrintWords Go.Proofs.YtllggaogjcknoaaW.PrintLast Go.Proofs.YtllggaogjcknoaaW.PrintMore
attribute [local go_sem] max2_int min2_int max_two min_two max_three min_three max_four min_four   -- for this text's walks alone
set_option linter.unusedVariables false
set_option linter.unusedSimpArgs false

/-! ### boltingref04_Put: function 29 -/
mutual
def boltingref04_Put.j0 : Nat → List (S43) → Int → Int → List (S43) → Bool → Option ((List (S43)) × Int)
 | 0, _, _, _, _, _ => none
 | k + 1, x0, x1, x2, x3, x33 => if x33 = true then (some (([] : List (S43)), 41)) else ((boltingref04_Kids.f k x0 x1).bind fun t480 => (if x1 ≥ 0 then (if 0 ≤ x1 then (if x1 < (x0.length : Int) then ((boltingref04_End.f k x0 x1).bind fun t484 => (boltingref04_Put.j1 k x0 x2 x3 t480 (wrap64 (((rd_T43 x0 x1).f0) + 1)) t484)) else (none)) else (none)) else (boltingref04_Put.j1 k x0 x2 x3 t480 0 (x0.length : Int))))
def boltingref04_Put.j1 : Nat → List (S43) → Int → List (S43) → List Int → Int → Int → Option ((List (S43)) × Int)
 | 0, _, _, _, _, _, _ => none
 | k + 1, x0, x2, x3, x10, x11, x12 => if x2 < 0 then (boltingref04_Put.j2 k x0 x2 x3 x10 x11 x12 true) else (boltingref04_Put.j2 k x0 x2 x3 x10 x11 x12 (decide (x2 > (x10.length : Int))))
def boltingref04_Put.j2 : Nat → List (S43) → Int → List (S43) → List Int → Int → Int → Bool → Option ((List (S43)) × Int)
 | 0, _, _, _, _, _, _, _ => none
 | k + 1, x0, x2, x3, x10, x11, x12, x57 => if x57 = true then (some (([] : List (S43)), 1)) else ((boltingref04_Right.f k x3).bind fun t485 => (if t485 = true then (if x2 < (x10.length : Int) then (if 0 ≤ x2 then (boltingref04_Put.j3 k x0 x3 x11 (rd x10 x2)) else (none)) else (boltingref04_Put.j3 k x0 x3 x11 x12)) else (some (([] : List (S43)), 40))))
def boltingref04_Put.j3 : Nat → List (S43) → List (S43) → Int → Int → Option ((List (S43)) × Int)
 | 0, _, _, _, _ => none
 | k + 1, x0, x3, x11, x12 => if 0 ≤ x12 then (if x12 ≤ (x0.length : Int) then ((boltingref04_Moved.f k x3 x11).bind fun t491 => ((boltingref04_Join.f k (x0.take (x12 : Int).toNat) t491).bind fun t494 => ((boltingref04_Join.f k t494 (x0.drop (x12 : Int).toNat)).bind fun t501 => ((boltingref04_Big.f k t501).bind fun t504 => (if t504 = true then (some (([] : List (S43)), 2)) else (some (t501, 0))))))) else (none)) else (none)
end
def boltingref04_Put.f (k : Nat) (l0 : List (S43)) (a1 : Int) (a2 : Int) (l3 : List (S43)) : Option ((List (S43)) × Int) := if a1 < (-1) then (boltingref04_Put.j0 k l0 a1 a2 l3 true) else (if a1 ≥ (l0.length : Int) then (boltingref04_Put.j0 k l0 a1 a2 l3 true) else (if a1 ≥ 0 then (if 0 ≤ a1 then (if a1 < (l0.length : Int) then (boltingref04_Put.j0 k l0 a1 a2 l3 (((rd_T43 l0 a1).f1) != 0)) else (none)) else (none)) else (boltingref04_Put.j0 k l0 a1 a2 l3 false)))
theorem boltingref04_Put.mono_l : ∀ k, (∀ y0 y1 y2 y3 y4, LeO (boltingref04_Put.j0 k y0 y1 y2 y3 y4) (boltingref04_Put.j0 (k + 1) y0 y1 y2 y3 y4)) ∧ (∀ y0 y1 y2 y3 y4 y5, LeO (boltingref04_Put.j1 k y0 y1 y2 y3 y4 y5) (boltingref04_Put.j1 (k + 1) y0 y1 y2 y3 y4 y5)) ∧ (∀ y0 y1 y2 y3 y4 y5 y6, LeO (boltingref04_Put.j2 k y0 y1 y2 y3 y4 y5 y6) (boltingref04_Put.j2 (k + 1) y0 y1 y2 y3 y4 y5 y6)) ∧ (∀ y0 y1 y2 y3, LeO (boltingref04_Put.j3 k y0 y1 y2 y3) (boltingref04_Put.j3 (k + 1) y0 y1 y2 y3))
 | 0 => ⟨fun _ _ _ _ _ r h => by simp [boltingref04_Put.j0] at h, fun _ _ _ _ _ _ r h => by simp [boltingref04_Put.j1] at h, fun _ _ _ _ _ _ _ r h => by simp [boltingref04_Put.j2] at h, fun _ _ _ _ r h => by simp [boltingref04_Put.j3] at h⟩
 | k + 1 => by
  obtain ⟨ih0, ih1, ih2, ih3⟩ := boltingref04_Put.mono_l k
  refine ⟨?_, ?_, ?_, ?_⟩
  ·intro y0 y1 y2 y3 y4
   unfold boltingref04_Put.j0
   repeat' first
   | (with_reducible exact ih0 _ _ _ _ _)
   | (with_reducible exact ih1 _ _ _ _ _ _)
   | (with_reducible exact ih2 _ _ _ _ _ _ _)
   | (with_reducible exact ih3 _ _ _ _)
   | (with_reducible exact boltingref04_Big.mono _ _)
   | (with_reducible exact boltingref04_End.mono _ _ _)
   | (with_reducible exact boltingref04_Join.mono _ _ _)
   | (with_reducible exact boltingref04_Kids.mono _ _ _)
   | (with_reducible exact boltingref04_Moved.mono _ _ _)
   | (with_reducible exact boltingref04_Right.mono _ _)
   | (with_reducible exact LeO.refl _)
   | (with_reducible exact LeO.none _)
   | (with_reducible refine LeO.ite ?_ ?_)
   | (with_reducible refine LeO.bind ?_ (fun _ => ?_))
   | exact ih0 _ _ _ _ _
   | exact ih1 _ _ _ _ _ _
   | exact ih2 _ _ _ _ _ _ _
   | exact ih3 _ _ _ _
   | exact boltingref04_Big.mono _ _
   | exact boltingref04_End.mono _ _ _
   | exact boltingref04_Join.mono _ _ _
   | exact boltingref04_Kids.mono _ _ _
   | exact boltingref04_Moved.mono _ _ _
   | exact boltingref04_Right.mono _ _
   | exact LeO.none _
   | refine LeO.ite ?_ ?_
   | refine LeO.bind ?_ (fun _ => ?_)
  ·intro y0 y1 y2 y3 y4 y5
   unfold boltingref04_Put.j1
   repeat' first
   | (with_reducible exact ih0 _ _ _ _ _)
   | (with_reducible exact ih1 _ _ _ _ _ _)
   | (with_reducible exact ih2 _ _ _ _ _ _ _)
   | (with_reducible exact ih3 _ _ _ _)
   | (with_reducible exact boltingref04_Big.mono _ _)
   | (with_reducible exact boltingref04_End.mono _ _ _)
   | (with_reducible exact boltingref04_Join.mono _ _ _)
   | (with_reducible exact boltingref04_Kids.mono _ _ _)
   | (with_reducible exact boltingref04_Moved.mono _ _ _)
   | (with_reducible exact boltingref04_Right.mono _ _)
   | (with_reducible exact LeO.refl _)
   | (with_reducible exact LeO.none _)
   | (with_reducible refine LeO.ite ?_ ?_)
   | (with_reducible refine LeO.bind ?_ (fun _ => ?_))
   | exact ih0 _ _ _ _ _
   | exact ih1 _ _ _ _ _ _
   | exact ih2 _ _ _ _ _ _ _
   | exact ih3 _ _ _ _
   | exact boltingref04_Big.mono _ _
   | exact boltingref04_End.mono _ _ _
   | exact boltingref04_Join.mono _ _ _
   | exact boltingref04_Kids.mono _ _ _
   | exact boltingref04_Moved.mono _ _ _
   | exact boltingref04_Right.mono _ _
   | exact LeO.none _
   | refine LeO.ite ?_ ?_
   | refine LeO.bind ?_ (fun _ => ?_)
  ·intro y0 y1 y2 y3 y4 y5 y6
   unfold boltingref04_Put.j2
   repeat' first
   | (with_reducible exact ih0 _ _ _ _ _)
   | (with_reducible exact ih1 _ _ _ _ _ _)
   | (with_reducible exact ih2 _ _ _ _ _ _ _)
   | (with_reducible exact ih3 _ _ _ _)
   | (with_reducible exact boltingref04_Big.mono _ _)
   | (with_reducible exact boltingref04_End.mono _ _ _)
   | (with_reducible exact boltingref04_Join.mono _ _ _)
   | (with_reducible exact boltingref04_Kids.mono _ _ _)
   | (with_reducible exact boltingref04_Moved.mono _ _ _)
   | (with_reducible exact boltingref04_Right.mono _ _)
   | (with_reducible exact LeO.refl _)
   | (with_reducible exact LeO.none _)
   | (with_reducible refine LeO.ite ?_ ?_)
   | (with_reducible refine LeO.bind ?_ (fun _ => ?_))
   | exact ih0 _ _ _ _ _
   | exact ih1 _ _ _ _ _ _
   | exact ih2 _ _ _ _ _ _ _
   | exact ih3 _ _ _ _
   | exact boltingref04_Big.mono _ _
   | exact boltingref04_End.mono _ _ _
   | exact boltingref04_Join.mono _ _ _
   | exact boltingref04_Kids.mono _ _ _
   | exact boltingref04_Moved.mono _ _ _
   | exact boltingref04_Right.mono _ _
   | exact LeO.none _
   | refine LeO.ite ?_ ?_
   | refine LeO.bind ?_ (fun _ => ?_)
  ·intro y0 y1 y2 y3
   unfold boltingref04_Put.j3
   repeat' first
   | (with_reducible exact ih0 _ _ _ _ _)
   | (with_reducible exact ih1 _ _ _ _ _ _)
   | (with_reducible exact ih2 _ _ _ _ _ _ _)
   | (with_reducible exact ih3 _ _ _ _)
   | (with_reducible exact boltingref04_Big.mono _ _)
   | (with_reducible exact boltingref04_End.mono _ _ _)
   | (with_reducible exact boltingref04_Join.mono _ _ _)
   | (with_reducible exact boltingref04_Kids.mono _ _ _)
   | (with_reducible exact boltingref04_Moved.mono _ _ _)
   | (with_reducible exact boltingref04_Right.mono _ _)
   | (with_reducible exact LeO.refl _)
   | (with_reducible exact LeO.none _)
   | (with_reducible refine LeO.ite ?_ ?_)
   | (with_reducible refine LeO.bind ?_ (fun _ => ?_))
   | exact ih0 _ _ _ _ _
   | exact ih1 _ _ _ _ _ _
   | exact ih2 _ _ _ _ _ _ _
   | exact ih3 _ _ _ _
   | exact boltingref04_Big.mono _ _
   | exact boltingref04_End.mono _ _ _
   | exact boltingref04_Join.mono _ _ _
   | exact boltingref04_Kids.mono _ _ _
   | exact boltingref04_Moved.mono _ _ _
   | exact boltingref04_Right.mono _ _
   | exact LeO.none _
   | refine LeO.ite ?_ ?_
   | refine LeO.bind ?_ (fun _ => ?_)
theorem boltingref04_Put.mono : ∀ a0 a1 a2 a3 k, LeO (boltingref04_Put.f k a0 a1 a2 a3) (boltingref04_Put.f (k + 1) a0 a1 a2 a3) := by
 intro a0 a1 a2 a3 k
 obtain ⟨ih0, ih1, ih2, ih3⟩ := boltingref04_Put.mono_l k
 unfold boltingref04_Put.f
 repeat' first
   | (with_reducible exact ih0 _ _ _ _ _)
   | (with_reducible exact ih1 _ _ _ _ _ _)
   | (with_reducible exact ih2 _ _ _ _ _ _ _)
   | (with_reducible exact ih3 _ _ _ _)
   | (with_reducible exact boltingref04_Big.mono _ _)
   | (with_reducible exact boltingref04_End.mono _ _ _)
   | (with_reducible exact boltingref04_Join.mono _ _ _)
   | (with_reducible exact boltingref04_Kids.mono _ _ _)
   | (with_reducible exact boltingref04_Moved.mono _ _ _)
   | (with_reducible exact boltingref04_Right.mono _ _)
   | (with_reducible exact LeO.refl _)
   | (with_reducible exact LeO.none _)
   | (with_reducible refine LeO.ite ?_ ?_)
   | (with_reducible refine LeO.bind ?_ (fun _ => ?_))
   | exact ih0 _ _ _ _ _
   | exact ih1 _ _ _ _ _ _
   | exact ih2 _ _ _ _ _ _ _
   | exact ih3 _ _ _ _
   | exact boltingref04_Big.mono _ _
   | exact boltingref04_End.mono _ _ _
   | exact boltingref04_Join.mono _ _ _
   | exact boltingref04_Kids.mono _ _ _
   | exact boltingref04_Moved.mono _ _ _
   | exact boltingref04_Right.mono _ _
   | exact LeO.none _
   | refine LeO.ite ?_ ?_
   | refine LeO.bind ?_ (fun _ => ?_)
def boltingref04_Put.T14 : Bool × List (List Nat × List Nat) := (true, [([], []), ([], []), ([0, 1], [0, 1]), ([], []), ([], []), ([3, 4], [3, 4]), ([2, 5, 5], [2, 5]), ([], []), ([], []), ([7, 8], [7, 8]), ([6, 9, 6], [6, 9]), ([10, 10, 0, 1, 2, 3, 4, 5, 6, 7, 8, 9, 10], [10])])
def boltingref04_Put.B14 : List Nat := [0, 0, 3, 0, 0, 24, 63, 0, 0, 384, 1023, 2047]
theorem boltingref04_Put.tab14 : rtab .any (opsOf Try.f29 14) = boltingref04_Put.T14 := by kernel_rfl
theorem boltingref04_Put.bits14 : waitsOk boltingref04_Put.T14.2 boltingref04_Put.B14 = true := by kernel_rfl
set_option maxHeartbeats 8000000 in
set_option maxRecDepth 100000 in
theorem boltingref04_Put.calls (k : Nat) (A0 : Option Addr) (c0 : Nat) (l0 : List (S43)) (a1 : Int) (a2 : Int) (A3 : Option Addr) (c3 : Nat) (l3 : List (S43)) (r1 : List (S43)) (r2 : Int) (w : World) (hr0 : Kd.C k43 w A0 l0.length l0) (hc0 : l0.length ≤ c0) (hr3 : Kd.C k43 w A3 l3.length l3) (hc3 : l3.length ≤ c3) (h : boltingref04_Put.f k l0 a1 a2 l3 = some (r1, r2)) :
  Calls Try.prog 29 #[.slice A0 l0.length c0, .int .i64 a1, .int .i64 a2, .slice A3 l3.length c3] w fun e w' => ∃ v0_ : Value, e = .returned (.tuple #[v0_, .int .i64 r2]) ∧ Kd.N k43 43 w' w.heap.size (fun k_ => (w.heap.size ≤ k_)) v0_ r1 ∧ Below w.heap.size w w' := by
 have HR0 := Aside0.mk hr0
 have HC0 := Aside0.mk hc0
 clear hr0 hc0
 have HR3 := Aside0.mk hr3
 have HC3 := Aside0.mk hc3
 clear hr3 hc3
 have HB := Aside0.mk (Below.refl w.heap.size w)
 have H : (if a1 < (-1) then (boltingref04_Put.j0 k l0 a1 a2 l3 true) else (if a1 ≥ (l0.length : Int) then (boltingref04_Put.j0 k l0 a1 a2 l3 true) else (if a1 ≥ 0 then (if 0 ≤ a1 then (if a1 < (l0.length : Int) then (boltingref04_Put.j0 k l0 a1 a2 l3 (((rd_T43 l0 a1).f1) != 0)) else (none)) else (none)) else (boltingref04_Put.j0 k l0 a1 a2 l3 false)))) = some (r1, r2) := h
 clear h
 have HC5 := Aside0.mk H
 clear H
 go_enter Try.func29, Try.ntmps29
 go_upto_region 1 with (fail)
 go_cut [33] (fun v33 wc => ∃ (kq : Nat) (x33_4 : Bool), v33 = .bool x33_4 ∧ Aside0 (boltingref04_Put.j0 kq l0 a1 a2 l3 x33_4 = some (r1, r2)) ∧ Aside0 (kq ≤ k) ∧ Aside0 (Below w.heap.size w wc))
 case first =>
  have H := HC5.out
  clear HC5
  by_cases c6 : a1 < (-1)
  ·rw [if_pos c6] at H
   have c6b0 : decide (a1 < (-1)) = true := decide_eq_true c6
   clear c6
   (first | rw [c6b0] | (simp only [i64_w, i32_w]; rw [c6b0]) | skip)
   have H' := Aside0.mk H
   clear H
   go_wp2
   go_meet
   case rel => exact ⟨_, (true), aE, H', ⟨by first | omega | exact Nat.le_refl _⟩, ⟨aB HB⟩⟩
  ·rw [if_neg c6] at H
   have c6b0 : decide (a1 < (-1)) = false := decide_eq_false c6
   clear c6
   (first | rw [c6b0] | (simp only [i64_w, i32_w]; rw [c6b0]) | skip)
   by_cases c7 : a1 ≥ (l0.length : Int)
   ·rw [if_pos c7] at H
    have c7b0 : decide ((l0.length : Int) ≤ a1) = true := decide_eq_true c7
    clear c7
    have H' := Aside0.mk H
    clear H
    go_wp2
    go_meet
    case rel => exact ⟨_, (true), aE, H', ⟨by first | omega | exact Nat.le_refl _⟩, ⟨aB HB⟩⟩
   ·rw [if_neg c7] at H
    have c7b0 : decide ((l0.length : Int) ≤ a1) = false := decide_eq_false c7
    clear c7
    by_cases c8 : a1 ≥ 0
    ·rw [if_pos c8] at H
     have c8b0 : decide (0 ≤ a1) = true := decide_eq_true c8
     clear c8
     by_cases c9 : 0 ≤ a1
     ·rw [if_pos c9] at H
      have c9b0 : decide (0 ≤ a1) = true := decide_eq_true c9
      clear c9
      by_cases c10 : a1 < (l0.length : Int)
      ·rw [if_pos c10] at H
       have c10b0 : decide (a1 < (l0.length : Int)) = true := decide_eq_true c10
       clear c10
       have H' := Aside0.mk H
       clear H
       have p479 : 0 ≤ (a1 : Int) := of_decide_eq_true aA
       have q479 : a1 < (l0.length : Int) := of_decide_eq_true aA
       obtain ⟨ad479, A479_4, c479_4, e479, hx479_0, hx479_1, hx479_2, hx479_3, hx479_4, hl479_4, hi479_4⟩ := at_T43 HR0.out a1 p479 q479
       cases e479
       replace hx479_0 := (HB.out.cell (World.block_lt_of_cell? w _ hx479_0)).trans hx479_0
       replace hx479_1 := (HB.out.cell (World.block_lt_of_cell? w _ hx479_1)).trans hx479_1
       replace hx479_2 := (HB.out.cell (World.block_lt_of_cell? w _ hx479_2)).trans hx479_2
       replace hx479_3 := (HB.out.cell (World.block_lt_of_cell? w _ hx479_3)).trans hx479_3
       replace hx479_4 := (HB.out.cell (World.block_lt_of_cell? w _ hx479_4)).trans hx479_4
       have HR479_4 := Aside0.mk hi479_4
       have HC479_4 := Aside0.mk hl479_4
       clear hi479_4 hl479_4
       replace p479 := eq_true p479
       replace q479 := eq_true q479
       go_wp2
       go_meet
       case rel => exact ⟨_, ((((rd_T43 l0 a1).f1) != 0)), aE, H', ⟨by first | omega | exact Nat.le_refl _⟩, ⟨aB HB⟩⟩
      ·rw [if_neg c10] at H
       exact absurd H (by simp)
     ·rw [if_neg c9] at H
      exact absurd H (by simp)
    ·rw [if_neg c8] at H
     have c8b0 : decide (0 ≤ a1) = false := decide_eq_false c8
     clear c8
     have H' := Aside0.mk H
     clear H
     go_wp2
     go_meet
     case rel => exact ⟨_, (false), aE, H', ⟨by first | omega | exact Nat.le_refl _⟩, ⟨aB HB⟩⟩
 case rest =>
  clear HC5
  try clear c1
  try clear c2
  try clear p2
  try clear c3
  try clear c4
  try clear p4
  try clear q4
  try clear hx4
  try clear c6
  try clear c6b0
  try clear c7
  try clear c7b0
  try clear c8
  try clear c8b0
  try clear c9
  try clear c9b0
  try clear c10
  try clear c10b0
  try clear hx479_0
  try clear hx479_1
  try clear hx479_2
  try clear hx479_3
  try clear hx479_4
  try clear p479
  try clear q479
  obtain ⟨kq, x33_4, rfl, HA, HJ4, HB⟩ := hcut
  cases kq with
  | zero => exact absurd HA.out (by simp [boltingref04_Put.j0])
  | succ kj4 =>
   have H := HA.out
   clear HA
   simp only [boltingref04_Put.j0] at H
   by_cases c11 : x33_4 = true
   ·subst c11
    have H1 : (some (([] : List (S43)), 41)) = some (r1, r2) := by rw [if_pos rfl] at H; exact H
    clear H
    have H := H1
    clear H1
    simp only [Option.some.injEq, Prod.mk.injEq] at H
    obtain ⟨rfl, rfl⟩ := H
    go_wp2
    go_ret2
    exact ⟨_, by first | rfl | (simp [errW_none, errW_some] <;> rfl) | (simp [*, errW_none, errW_some] <;> rfl), by first | exact Kd.S_nil _ _ _ _ _ | exact Kd.N_nil _ _ _ _ _ | exact Kd.V_nil _ _ _ _ _ | exact Kd.Q_nil _ _ _ _ _ | exact Kd.R_nil _ _ _ _ _, aB HB⟩
   ·replace c11 := Bool.eq_false_iff.mpr c11
    subst c11
    have H1 : ((boltingref04_Kids.f kj4 l0 a1).bind fun t480 => (if a1 ≥ 0 then (if 0 ≤ a1 then (if a1 < (l0.length : Int) then ((boltingref04_End.f kj4 l0 a1).bind fun t484 => (boltingref04_Put.j1 kj4 l0 a2 l3 t480 (wrap64 (((rd_T43 l0 a1).f0) + 1)) t484)) else (none)) else (none)) else (boltingref04_Put.j1 kj4 l0 a2 l3 t480 0 (l0.length : Int)))) = some (r1, r2) := by rw [if_neg (show ¬ (false = true) by decide)] at H; exact H
    clear H
    have H := H1
    clear H1
    replace H := Option.bind_eq_some_iff.mp H
    obtain ⟨t480, A120, H⟩ := H
    replace H : (if a1 ≥ 0 then (if 0 ≤ a1 then (if a1 < (l0.length : Int) then ((boltingref04_End.f kj4 l0 a1).bind fun t484 => (boltingref04_Put.j1 kj4 l0 a2 l3 t480 (wrap64 (((rd_T43 l0 a1).f0) + 1)) t484)) else (none)) else (none)) else (boltingref04_Put.j1 kj4 l0 a2 l3 t480 0 (l0.length : Int))) = some (r1, r2) := H
    have A12 := Aside0.mk A120
    clear A120
    have HC13 := Aside0.mk H
    clear H
    go_upto_if 40 with (first | ((with_reducible refine gate_callee (f := 25) rfl ?_); refine goesL_ (some 36) rfl rfl Try.func25 (by kernel_rfl) rfl #[.slice A0 l0.length c0, .int .i64 a1] rfl (by (try simp only [List.map_toArray, List.map_cons, List.map_nil]); first | done | rfl | (simp only [List.length_drop, List.length_take]; rfl)) ?_; (with_reducible refine (boltingref04_Kids.calls kj4 _ _ l0 a1 t480 _ ?side1 ?side2 A12.out).mono ?_); (case side1 => exact aC (Kd.C_below HR0.out HB.out)); (case side2 => exact HC0.out); rintro e w14 ⟨v481, rfl, ho0, hb⟩; refine ⟨_, rfl, ?_⟩; have n0_ := Aside0.mk (Kd.R_lower (Kd.R_newM (M := fun k_ => (w.heap.size ≤ k_)) ho0 (below_size (aB HB)) (fun k_ h_ => h_)) (below_size (aB HB))); have n1_ := Aside0.mk (below_step (aB HB) hb); clear HB; have HO482 := n0_; have HB := n1_; clear n0_ n1_; (try clear hb); (try clear hb2); (try clear hk); (try clear hi); (try clear ho0)))
    (try simp only [Act.put, List.setIfInBounds_toArray, List.set_cons_zero, List.set_cons_succ])
    go_cut [11, 12] (fun v11 v12 wc => ∃ (kq : Nat) (x11_12 : Int) (x12_12 : Int), v11 = .int .i64 x11_12 ∧ v12 = .int .i64 x12_12 ∧ Aside0 (boltingref04_Put.j1 kq l0 a2 l3 t480 x11_12 x12_12 = some (r1, r2)) ∧ Aside0 (kq ≤ kj4) ∧ Aside0 (Kd.R (Kd.int .i64) 3 wc w.heap.size (fun k_ => (w.heap.size ≤ k_)) v481 t480) ∧ Aside0 (Below w.heap.size w wc))
    case first =>
     have H := HC13.out
     clear HC13
     by_cases c15 : a1 ≥ 0
     ·rw [if_pos c15] at H
      have c15b0 : decide (0 ≤ a1) = true := decide_eq_true c15
      clear c15
      (first | rw [c15b0] | (simp only [i64_w, i32_w]; rw [c15b0]) | skip)
      by_cases c16 : 0 ≤ a1
      ·rw [if_pos c16] at H
       have c16b0 : decide (0 ≤ a1) = true := decide_eq_true c16
       clear c16
       by_cases c17 : a1 < (l0.length : Int)
       ·rw [if_pos c17] at H
        have c17b0 : decide (a1 < (l0.length : Int)) = true := decide_eq_true c17
        clear c17
        replace H := Option.bind_eq_some_iff.mp H
        obtain ⟨t484, A180, H⟩ := H
        replace H : (boltingref04_Put.j1 kj4 l0 a2 l3 t480 (wrap64 (((rd_T43 l0 a1).f0) + 1)) t484) = some (r1, r2) := H
        have A18 := Aside0.mk A180
        clear A180
        have H' := Aside0.mk H
        clear H
        have p483 : 0 ≤ (a1 : Int) := of_decide_eq_true aA
        have q483 : a1 < (l0.length : Int) := of_decide_eq_true aA
        obtain ⟨ad483, A483_4, c483_4, e483, hx483_0, hx483_1, hx483_2, hx483_3, hx483_4, hl483_4, hi483_4⟩ := at_T43 HR0.out a1 p483 q483
        cases e483
        replace hx483_0 := (HB.out.cell (World.block_lt_of_cell? w _ hx483_0)).trans hx483_0
        replace hx483_1 := (HB.out.cell (World.block_lt_of_cell? w _ hx483_1)).trans hx483_1
        replace hx483_2 := (HB.out.cell (World.block_lt_of_cell? w _ hx483_2)).trans hx483_2
        replace hx483_3 := (HB.out.cell (World.block_lt_of_cell? w _ hx483_3)).trans hx483_3
        replace hx483_4 := (HB.out.cell (World.block_lt_of_cell? w _ hx483_4)).trans hx483_4
        have HR483_4 := Aside0.mk hi483_4
        have HC483_4 := Aside0.mk hl483_4
        clear hi483_4 hl483_4
        replace p483 := eq_true p483
        replace q483 := eq_true q483
        go_wp2_with (first | ((with_reducible refine gate_callee (f := 20) rfl ?_); refine goesL_ (some 49) rfl rfl Try.func20 (by kernel_rfl) rfl #[.slice (some ad483) l0.length c0, .int .i64 a1] rfl (by (try simp only [List.map_toArray, List.map_cons, List.map_nil]); first | done | rfl | (simp only [List.length_drop, List.length_take]; rfl)) ?_; (with_reducible refine (boltingref04_End.calls kj4 _ _ l0 a1 t484 _ ?side1 ?side2 A18.out).mono ?_); (case side1 => exact aC (Kd.C_below HR0.out HB.out)); (case side2 => exact HC0.out); rintro e w' ⟨rfl, ⟨nd, rfl⟩⟩; refine ⟨_, rfl, ?_⟩))
        go_meet
        case rel => exact ⟨_, (wrap64 (((rd_T43 l0 a1).f0) + 1)), (t484), aE, aE, H', ⟨by have := HJ4.out; first | omega | exact Nat.le_refl _⟩, ⟨by (with_reducible repeat (first | apply Kd.R_alloc | apply Kd.R_drewN | apply Kd.R_drew)); exact Kd.R_mono HO482.out (fun _ hk => hk.1)⟩, ⟨aB HB⟩⟩
       ·rw [if_neg c17] at H
        exact absurd H (by simp)
      ·rw [if_neg c16] at H
       exact absurd H (by simp)
     ·rw [if_neg c15] at H
      have c15b0 : decide (0 ≤ a1) = false := decide_eq_false c15
      clear c15
      (first | rw [c15b0] | (simp only [i64_w, i32_w]; rw [c15b0]) | skip)
      have H' := Aside0.mk H
      clear H
      go_wp2
      go_meet
      case rel => exact ⟨_, (0), ((l0.length : Int)), aE, aE, H', ⟨by have := HJ4.out; first | omega | exact Nat.le_refl _⟩, ⟨by (with_reducible repeat (first | apply Kd.R_alloc | apply Kd.R_drewN | apply Kd.R_drew)); exact Kd.R_mono HO482.out (fun _ hk => hk.1)⟩, ⟨aB HB⟩⟩
    case rest =>
     clear HC13
     try clear c1
     try clear c2
     try clear p2
     try clear c3
     try clear c4
     try clear p4
     try clear q4
     try clear hx4
     try clear c6
     try clear c6b0
     try clear p6
     try clear c7
     try clear c7b0
     try clear c8
     try clear c8b0
     try clear c9
     try clear c9b0
     try clear c10
     try clear c10b0
     try clear c11
     try clear c15
     try clear c15b0
     try clear c16
     try clear c16b0
     try clear c17
     try clear c17b0
     try clear hx479_0
     try clear hx479_1
     try clear hx479_2
     try clear hx479_3
     try clear hx479_4
     try clear hx483_0
     try clear hx483_1
     try clear hx483_2
     try clear hx483_3
     try clear hx483_4
     try clear p2
     try clear p4
     try clear p479
     try clear p483
     try clear q4
     try clear q479
     try clear q483
     obtain ⟨kq, x11_12, x12_12, rfl, rfl, HA, HJ12, HO_10, HB⟩ := hcut
     cases kq with
     | zero => exact absurd HA.out (by simp [boltingref04_Put.j1])
     | succ kj12 =>
      have H := HA.out
      clear HA
      simp only [boltingref04_Put.j1] at H
      have HC19 := Aside0.mk H
      clear H
      go_upto_region 8 with (fail)
      go_cut [57] (fun v57 wc => ∃ (kq : Nat) (x57_18 : Bool), v57 = .bool x57_18 ∧ Aside0 (boltingref04_Put.j2 kq l0 a2 l3 t480 x11_12 x12_12 x57_18 = some (r1, r2)) ∧ Aside0 (kq ≤ kj12) ∧ Aside0 (Kd.R (Kd.int .i64) 3 wc w.heap.size (fun k_ => (w.heap.size ≤ k_)) v481 t480) ∧ Aside0 (Below w.heap.size w wc))
      case first =>
       have H := HC19.out
       clear HC19
       by_cases c20 : a2 < 0
       ·rw [if_pos c20] at H
        have c20b0 : decide (a2 < 0) = true := decide_eq_true c20
        clear c20
        (first | rw [c20b0] | (simp only [i64_w, i32_w]; rw [c20b0]) | skip)
        have H' := Aside0.mk H
        clear H
        go_wp2
        go_meet
        case rel => exact ⟨_, (true), aE, H', ⟨by have := HJ4.out; have := HJ12.out; first | omega | exact Nat.le_refl _⟩, ⟨aR HO_10⟩, ⟨aB HB⟩⟩
       ·rw [if_neg c20] at H
        have c20b0 : decide (a2 < 0) = false := decide_eq_false c20
        clear c20
        (first | rw [c20b0] | (simp only [i64_w, i32_w]; rw [c20b0]) | skip)
        have H' := Aside0.mk H
        clear H
        obtain ⟨Ao21, co21, eo21⟩ := Kd.R_slice HO_10.out
        subst eo21
        go_wp2
        go_meet
        case rel => exact ⟨_, (decide (a2 > (t480.length : Int))), aE, H', ⟨by have := HJ4.out; have := HJ12.out; first | omega | exact Nat.le_refl _⟩, ⟨aR HO_10⟩, ⟨aB HB⟩⟩
      case rest =>
       clear HC19
       try clear c1
       try clear c2
       try clear p2
       try clear c3
       try clear c4
       try clear p4
       try clear q4
       try clear hx4
       try clear c6
       try clear c6b0
       try clear p6
       try clear c7
       try clear c7b0
       try clear c8
       try clear c8b0
       try clear c9
       try clear c9b0
       try clear c10
       try clear c10b0
       try clear c11
       try clear c15
       try clear c15b0
       try clear c16
       try clear c16b0
       try clear c17
       try clear c17b0
       try clear c20
       try clear c20b0
       try clear hx479_0
       try clear hx479_1
       try clear hx479_2
       try clear hx479_3
       try clear hx479_4
       try clear hx483_0
       try clear hx483_1
       try clear hx483_2
       try clear hx483_3
       try clear hx483_4
       try clear p2
       try clear p4
       try clear p479
       try clear p483
       try clear p6
       try clear q4
       try clear q479
       try clear q483
       obtain ⟨kq, x57_18, rfl, HA, HJ18, HO_10, HB⟩ := hcut
       cases kq with
       | zero => exact absurd HA.out (by simp [boltingref04_Put.j2])
       | succ kj18 =>
        have H := HA.out
        clear HA
        simp only [boltingref04_Put.j2] at H
        by_cases c22 : x57_18 = true
        ·subst c22
         have H1 : (some (([] : List (S43)), 1)) = some (r1, r2) := by rw [if_pos rfl] at H; exact H
         clear H
         have H := H1
         clear H1
         simp only [Option.some.injEq, Prod.mk.injEq] at H
         obtain ⟨rfl, rfl⟩ := H
         go_wp2
         go_ret2
         exact ⟨_, by first | rfl | (simp [errW_none, errW_some] <;> rfl) | (simp [*, errW_none, errW_some] <;> rfl), by first | exact Kd.S_nil _ _ _ _ _ | exact Kd.N_nil _ _ _ _ _ | exact Kd.V_nil _ _ _ _ _ | exact Kd.Q_nil _ _ _ _ _ | exact Kd.R_nil _ _ _ _ _, aB HB⟩
        ·replace c22 := Bool.eq_false_iff.mpr c22
         subst c22
         have H1 : ((boltingref04_Right.f kj18 l3).bind fun t485 => (if t485 = true then (if a2 < (t480.length : Int) then (if 0 ≤ a2 then (boltingref04_Put.j3 kj18 l0 l3 x11_12 (rd t480 a2)) else (none)) else (boltingref04_Put.j3 kj18 l0 l3 x11_12 x12_12)) else (some (([] : List (S43)), 40)))) = some (r1, r2) := by rw [if_neg (show ¬ (false = true) by decide)] at H; exact H
         clear H
         have H := H1
         clear H1
         replace H := Option.bind_eq_some_iff.mp H
         obtain ⟨t485, A230, H⟩ := H
         replace H : (if t485 = true then (if a2 < (t480.length : Int) then (if 0 ≤ a2 then (boltingref04_Put.j3 kj18 l0 l3 x11_12 (rd t480 a2)) else (none)) else (boltingref04_Put.j3 kj18 l0 l3 x11_12 x12_12)) else (some (([] : List (S43)), 40))) = some (r1, r2) := H
         have A23 := Aside0.mk A230
         clear A230
         by_cases c24 : t485 = true
         ·subst c24
          have H1 : (if a2 < (t480.length : Int) then (if 0 ≤ a2 then (boltingref04_Put.j3 kj18 l0 l3 x11_12 (rd t480 a2)) else (none)) else (boltingref04_Put.j3 kj18 l0 l3 x11_12 x12_12)) = some (r1, r2) := by rw [if_pos rfl] at H; exact H
          clear H
          have H := H1
          clear H1
          have HC25 := Aside0.mk H
          clear H
          go_upto_if 64 with (first | ((with_reducible refine gate_callee (f := 18) rfl ?_); refine goesL_ (some 59) rfl rfl Try.func18 (by kernel_rfl) rfl #[.slice A3 l3.length c3] rfl (by (try simp only [List.map_toArray, List.map_cons, List.map_nil]); first | done | rfl | (simp only [List.length_drop, List.length_take]; rfl)) ?_; (with_reducible refine (boltingref04_Right.calls kj18 _ _ l3 true _ ?side1 ?side2 A23.out).mono ?_); (case side1 => exact aC (Kd.C_below HR3.out HB.out)); (case side2 => exact HC3.out); rintro e w26 ⟨rfl, hb⟩; refine ⟨_, rfl, ?_⟩; have n0_ := Aside0.mk (Kd.R_below (aR HO_10) hb); have n1_ := Aside0.mk (below_step (aB HB) hb); clear HO_10; clear HB; have HO_10 := n0_; have HB := n1_; clear n0_ n1_; (try clear hb); (try clear hb2); (try clear hk); (try clear hi); obtain ⟨Ao27, co27, eo27⟩ := Kd.R_slice HO_10.out; subst eo27))
          (try simp only [Act.put, List.setIfInBounds_toArray, List.set_cons_zero, List.set_cons_succ])
          go_cut [12] (fun v12 wc => ∃ (kq : Nat) (x12_24 : Int), v12 = .int .i64 x12_24 ∧ Aside0 (boltingref04_Put.j3 kq l0 l3 x11_12 x12_24 = some (r1, r2)) ∧ Aside0 (kq ≤ kj18) ∧ Aside0 (Below w.heap.size w wc))
          case first =>
           have H := HC25.out
           clear HC25
           by_cases c28 : a2 < (t480.length : Int)
           ·rw [if_pos c28] at H
            have c28b0 : decide (a2 < (t480.length : Int)) = true := decide_eq_true c28
            clear c28
            (first | rw [c28b0] | (simp only [i64_w, i32_w]; rw [c28b0]) | skip)
            by_cases c29 : 0 ≤ a2
            ·rw [if_pos c29] at H
             have c29b0 : decide (0 ≤ a2) = true := decide_eq_true c29
             clear c29
             have H' := Aside0.mk H
             clear H
             have p486 : 0 ≤ (a2 : Int) := of_decide_eq_true aA
             have q486 : a2 < (t480.length : Int) := of_decide_eq_true aA
             obtain ⟨ad486, e486, hx486_0⟩ := Kd.at_int (Kd.R_reads' HO_10.out).2.2 a2 p486 q486
             cases e486
             replace p486 := eq_true p486
             replace q486 := eq_true q486
             go_wp2
             go_meet
             case rel => exact ⟨_, (rd t480 a2), aE, H', ⟨by have := HJ4.out; have := HJ12.out; have := HJ18.out; first | omega | exact Nat.le_refl _⟩, ⟨aB HB⟩⟩
            ·rw [if_neg c29] at H
             exact absurd H (by simp)
           ·rw [if_neg c28] at H
            have c28b0 : decide (a2 < (t480.length : Int)) = false := decide_eq_false c28
            clear c28
            (first | rw [c28b0] | (simp only [i64_w, i32_w]; rw [c28b0]) | skip)
            have H' := Aside0.mk H
            clear H
            go_wp2
            go_meet
            case rel => exact ⟨_, (x12_12), aE, H', ⟨by have := HJ4.out; have := HJ12.out; have := HJ18.out; first | omega | exact Nat.le_refl _⟩, ⟨aB HB⟩⟩
          case rest =>
           clear HC25
           try clear c1
           try clear c2
           try clear p2
           try clear c3
           try clear c4
           try clear p4
           try clear q4
           try clear hx4
           try clear c6
           try clear c6b0
           try clear p6
           try clear c7
           try clear c7b0
           try clear c8
           try clear c8b0
           try clear c9
           try clear c9b0
           try clear c10
           try clear c10b0
           try clear c11
           try clear c15
           try clear c15b0
           try clear c16
           try clear c16b0
           try clear c17
           try clear c17b0
           try clear c18
           try clear c20
           try clear c20b0
           try clear c22
           try clear c24
           try clear c25
           try clear c28
           try clear c28b0
           try clear c29
           try clear c29b0
           try clear hx479_0
           try clear hx479_1
           try clear hx479_2
           try clear hx479_3
           try clear hx479_4
           try clear hx483_0
           try clear hx483_1
           try clear hx483_2
           try clear hx483_3
           try clear hx483_4
           try clear hx486_0
           try clear p2
           try clear p4
           try clear p479
           try clear p483
           try clear p486
           try clear p6
           try clear q4
           try clear q479
           try clear q483
           try clear q486
           obtain ⟨kq, x12_24, rfl, HA, HJ24, HB⟩ := hcut
           cases kq with
           | zero => exact absurd HA.out (by simp [boltingref04_Put.j3])
           | succ kj24 =>
            have H := HA.out
            clear HA
            simp only [boltingref04_Put.j3] at H
            by_cases c30 : 0 ≤ x12_24
            ·rw [if_pos c30] at H
             have c30b0 := eq_true c30
             have c30b1 : decide (0 ≤ x12_24) = true := decide_eq_true c30
             clear c30
             by_cases c31 : x12_24 ≤ (l0.length : Int)
             ·rw [if_pos c31] at H
              have c31b0 := eq_true c31
              have c31b1 : decide (x12_24 ≤ (l0.length : Int)) = true := decide_eq_true c31
              clear c31
              obtain ⟨y487, hy487⟩ : ∃ y_ : List (S43), y_ = (l0.take (x12_24 : Int).toNat) := ⟨_, rfl⟩
              replace H : ((boltingref04_Moved.f kj24 l3 x11_12).bind fun t491 => ((boltingref04_Join.f kj24 y487 t491).bind fun t494 => ((boltingref04_Join.f kj24 t494 (l0.drop (x12_24 : Int).toNat)).bind fun t501 => ((boltingref04_Big.f kj24 t501).bind fun t504 => (if t504 = true then (some (([] : List (S43)), 2)) else (some (t501, 0))))))) = some (r1, r2) := by first | (rw [hy487]; with_reducible exact H) | (have H2_ := (Option.bind_some _ _).symm.trans H; rw [hy487]; with_reducible exact H2_) | (have H2_ := (Option.bind_some _ _).symm.trans H; with_reducible exact H2_) | with_reducible exact H | (rw [hy487]; exact H) | exact H
              have Ny487 := Aside0.mk hy487
              clear hy487
              replace H := Option.bind_eq_some_iff.mp H
              obtain ⟨t491, A320, H⟩ := H
              replace H : ((boltingref04_Join.f kj24 y487 t491).bind fun t494 => ((boltingref04_Join.f kj24 t494 (l0.drop (x12_24 : Int).toNat)).bind fun t501 => ((boltingref04_Big.f kj24 t501).bind fun t504 => (if t504 = true then (some (([] : List (S43)), 2)) else (some (t501, 0)))))) = some (r1, r2) := H
              have A32 := Aside0.mk A320
              clear A320
              replace H := Option.bind_eq_some_iff.mp H
              obtain ⟨t494, A330, H⟩ := H
              replace H : ((boltingref04_Join.f kj24 t494 (l0.drop (x12_24 : Int).toNat)).bind fun t501 => ((boltingref04_Big.f kj24 t501).bind fun t504 => (if t504 = true then (some (([] : List (S43)), 2)) else (some (t501, 0))))) = some (r1, r2) := H
              have A33 := Aside0.mk A330
              clear A330
              have c34b0 := eq_true (of_decide_eq_true aA : 0 ≤ x12_24)
              have c35b0 := eq_true (of_decide_eq_true aA : x12_24 ≤ (l0.length : Int))
              obtain ⟨y497, hy497⟩ : ∃ y_ : List (S43), y_ = (l0.drop (x12_24 : Int).toNat) := ⟨_, rfl⟩
              replace H : ((boltingref04_Join.f kj24 t494 y497).bind fun t501 => ((boltingref04_Big.f kj24 t501).bind fun t504 => (if t504 = true then (some (([] : List (S43)), 2)) else (some (t501, 0))))) = some (r1, r2) := by first | (rw [hy497]; with_reducible exact H) | (have H2_ := (Option.bind_some _ _).symm.trans H; rw [hy497]; with_reducible exact H2_) | (have H2_ := (Option.bind_some _ _).symm.trans H; with_reducible exact H2_) | with_reducible exact H | (rw [hy497]; exact H) | exact H
              have Ny497 := Aside0.mk hy497
              clear hy497
              replace H := Option.bind_eq_some_iff.mp H
              obtain ⟨t501, A360, H⟩ := H
              replace H : ((boltingref04_Big.f kj24 t501).bind fun t504 => (if t504 = true then (some (([] : List (S43)), 2)) else (some (t501, 0)))) = some (r1, r2) := H
              have A36 := Aside0.mk A360
              clear A360
              replace H := Option.bind_eq_some_iff.mp H
              obtain ⟨t504, A370, H⟩ := H
              replace H : (if t504 = true then (some (([] : List (S43)), 2)) else (some (t501, 0))) = some (r1, r2) := H
              have A37 := Aside0.mk A370
              clear A370
              by_cases c38 : t504 = true
              ·subst c38
               have H1 : (some (([] : List (S43)), 2)) = some (r1, r2) := by rw [if_pos rfl] at H; exact H
               clear H
               have H := H1
               clear H1
               simp only [Option.some.injEq, Prod.mk.injEq] at H
               obtain ⟨rfl, rfl⟩ := H
               try go_wp2
               have n0_ := Aside0.mk (below_drew1 HB.out)
               clear HB
               have HB := n0_
               clear n0_
               have q40 : (x12_24 : Int) ≤ ((l0.length : Int) : Int) := of_decide_eq_true aA
               obtain ⟨i040, hi040, _, hsz40, _⟩ := info_parts info43
               have hroom40 : l0.length ≤ c0 := HC0.out
               have hC40 : Kd.C k43 _ A0 l0.length l0 := HR0.out
               have hcut40 := cut_to (P := Try.prog) 22 43 .i64 Try.underlying22 hi040 A0 l0.length c0 x12_24 (of_decide_eq_true aA) q40 hroom40
               have hr40 := Kd.C_take (m := (x12_24 : Int).toNat) hC40 (by omega)
               have hy40 : y487.length = (x12_24 : Int).toNat := (by rw [Ny487.out, List.length_take]; omega)
               rw [← Ny487.out] at hr40
               rw [← hy40] at hcut40
               have HR490 := Aside0.mk hr40
               have HC490 := Aside0.mk (show y487.length ≤ c0 from by omega)
               clear hr40 hC40 hroom40 hi040 hsz40
               have KY40 := Aside0.mk hy40
               clear hy40
               replace q40 := eq_true q40
               have q41 : (x12_24 : Int) ≤ ((l0.length : Int) : Int) := of_decide_eq_true aA
               obtain ⟨i041, hi041, _, hsz41, _⟩ := info_parts info43
               have hroom41 : l0.length ≤ c0 := HC0.out
               have hC41 : Kd.C k43 _ A0 l0.length l0 := HR0.out
               have q041 : (0 : Int) ≤ (x12_24 : Int) := of_decide_eq_true aA
               have hcut41 := cut_from (P := Try.prog) 22 43 .i64 Try.underlying22 hi041 5 hsz41 A0 l0.length c0 x12_24 q041 q41
               have hr41 := Kd.C_drop (m := (x12_24 : Int).toNat) (c := c0) hC41 (by omega) hroom41
               obtain ⟨A41, hA41⟩ : ∃ A1, A1 = (if c0 = (x12_24 : Int).toNat then A0 else (A0 : Option Addr).map (·.add ((x12_24 : Int).toNat * 5))) := ⟨_, rfl⟩
               obtain ⟨c41, hc41⟩ : ∃ c1, c1 = c0 - (x12_24 : Int).toNat := ⟨_, rfl⟩
               have hy41 : y497.length = l0.length - (x12_24 : Int).toNat := (by rw [Ny497.out, List.length_drop] <;> omega)
               rw [show (l0).drop (x12_24 : Int).toNat = y497 from Ny497.out.symm] at hr41
               replace hr41 : Kd.C k43 _ A41 y497.length y497 := (by rw [hA41]; exact hr41)
               rw [← hy41, ← hA41, ← hc41] at hcut41
               have HR500 := Aside0.mk hr41
               have HC500 := Aside0.mk (show y497.length ≤ c41 from by rw [hy41, hc41]; exact Nat.sub_le_sub_right hroom41 _)
               clear hr41 hC41 hroom41 hi041 hsz41 hc41
               have KY41 := Aside0.mk hy41
               have KA41 := Aside0.mk hA41
               clear hy41 hA41
               replace q41 := eq_true q41
               refine start_ (n := 12) (S := fun w' => True) (ds := []) #[Z, Z, Z, Z, Z, Z, Z, Z, Z, Z, Z, Z] (by kernel_rfl) rfl rfl trivial (fun hHeld => ?_); refine with_tabW boltingref04_Put.tab14 boltingref04_Put.bits14 (fun HT_ HW_ => ?_)
               generalize wc.drew = w39 at HB HR490 HR500 hHeld ⊢
               refine pA 0 69 #[Y, Z, Z, Z, Z, Z, Z, Z, Z, Z, Z, Z] HT_ ?_
               refine pA 1 70 #[Y, Y, Z, Z, Z, Z, Z, Z, Z, Z, Z, Z] HT_ ?_
               refine pA 2 71 #[Y, Y, Y, Z, Z, Z, Z, Z, Z, Z, Z, Z] HT_ ?_
               refine pA 3 72 #[Y, Y, Y, Y, Z, Z, Z, Z, Z, Z, Z, Z] HT_ ?_
               refine pA 4 73 #[Y, Y, Y, Y, Y, Z, Z, Z, Z, Z, Z, Z] HT_ ?_
               refine pA 7 76 #[Y, Y, Y, Y, Y, Z, Z, Y, Z, Z, Z, Z] HT_ ?_
               refine pA 8 77 #[Y, Y, Y, Y, Y, Z, Z, Y, Y, Z, Z, Z] HT_ ?_
               refine pA 9 78 #[Y, Y, Y, Y, Y, Z, Z, Y, Y, Y, Z, Z] HT_ ?_
               refine one_ (i := 5) (N := some 74) #[Y, Y, Y, Y, Y, Y, Z, Y, Y, Y, Z, Z] rfl rfl (one_of HT_.out (by kernel_rfl)) (by decide) (fun K hK => ?_)
               refine goes_ Try.func17 (by kernel_rfl) rfl #[.slice A3 l3.length c3, .int .i64 x11_12] (by rfl) rfl rfl (by (try simp only [List.map_toArray, List.map_cons, List.map_nil]); first | done | rfl | (simp only [List.length_drop, List.length_take]; rfl)) ?_
               with_reducible refine (boltingref04_Moved.calls kj24 _ _ l3 x11_12 t491 _ ?side1 ?side2 A32.out).mono ?_
               (case side1 => exact aC (Kd.C_below HR3.out HB.out))
               (case side2 => exact HC3.out)
               rintro e w42 ⟨v492, rfl, ho0, hb⟩
               refine ⟨_, rfl, ?_⟩
               have n0_ := Aside0.mk (Kd.N_lower (Kd.N_mono (ok' := fun k_ => (w.heap.size ≤ k_)) (Kd.S_N (Kd.S_bound ho0)) (fun k_ hk_ => (Nat.le_trans (below_size (aB HB)) hk_.2.1))) (below_size (aB HB)))
               have n1_ := Aside0.mk (below_step (aB HB) hb)
               clear HB
               have HO493 := n0_
               have HB := n1_
               clear n0_ n1_
               (try clear hb)
               (try clear hb2)
               (try clear hk)
               (try clear hi)
               (try clear ho0)
               obtain ⟨Ao43, co43, eo43⟩ := Kd.N_slice HO493.out
               (first | subst eo43 | (injection eo43 with f1_ f2_ f3_; have f4_ := f1_.symm; have f5_ := f3_.symm; clear f1_ f2_ f3_; subst f4_; subst f5_))
               refine hK.out _ _ trivial (fun hHeld => ?_)
               clear hK K
               refine norm_ (a' := ?_) ?_ ?_
               rotate_left
               ·show Act.put _ (some 74) _ = _
                simp only [Act.put, List.setIfInBounds_toArray, List.set_cons_zero, List.set_cons_succ, i64_w, i32_w]
                rfl
               refine one_ (i := 6) (N := some 75) #[Y, Y, Y, Y, Y, Y, Y, Y, Y, Y, Z, Z] rfl rfl (one_of HT_.out (by kernel_rfl)) (by decide) (fun K hK => ?_)
               refine goes_ Try.func32 (by kernel_rfl) rfl #[.slice A0 y487.length c0, .slice Ao43 t491.length co43] (by rfl) rfl rfl (by (try simp only [List.map_toArray, List.map_cons, List.map_nil]); first | done | rfl | (simp only [List.length_drop, List.length_take]; rfl)) ?_
               with_reducible refine (boltingref04_Join.calls kj24 _ _ y487 _ _ t491 t494 _ ?side1 ?side2 ?side3 ?side4 A33.out).mono ?_
               (case side1 => exact aC (Kd.C_below HR490.out HB.out))
               (case side2 => exact HC490.out)
               (case side3 => exact aC (Kd.N_reads' HO493.out).2.2)
               (case side4 => exact (Kd.N_reads' HO493.out).2.1)
               rintro e w44 ⟨v495, rfl, ho0, hb⟩
               refine ⟨_, rfl, ?_⟩
               have n0_ := Aside0.mk (Kd.N_elder' (aN HO493) (aS ho0) hb)
               have n1_ := Aside0.mk (Kd.N_lower (Kd.N_mono (ok' := fun k_ => (w.heap.size ≤ k_) ∧ some k_ ≠ (.slice Ao43 t491.length co43 : Value).ownBlock) ho0 (fun k_ hk_ => ⟨(Nat.le_trans (below_size (aB HB)) hk_), (Kd.fresh' (Kd.N_lt (aN HO493)) k_ hk_)⟩)) (below_size (aB HB)))
               have n2_ := Aside0.mk (below_step (aB HB) hb)
               clear HO493
               clear HB
               have HO493 := n0_
               have HO496 := n1_
               have HB := n2_
               clear n0_ n1_ n2_
               (try clear hb)
               (try clear hb2)
               (try clear hk)
               (try clear hi)
               (try clear ho0)
               obtain ⟨Ao45, co45, eo45⟩ := Kd.N_slice HO496.out
               (first | subst eo45 | (injection eo45 with f1_ f2_ f3_; have f4_ := f1_.symm; have f5_ := f3_.symm; clear f1_ f2_ f3_; subst f4_; subst f5_))
               refine hK.out _ _ trivial (fun hHeld => ?_)
               clear hK K
               refine norm_ (a' := ?_) ?_ ?_
               rotate_left
               ·show Act.put _ (some 75) _ = _
                simp only [Act.put, List.setIfInBounds_toArray, List.set_cons_zero, List.set_cons_succ, i64_w, i32_w]
                rfl
               refine one_ (i := 10) (N := some 79) #[Y, Y, Y, Y, Y, Y, Y, Y, Y, Y, Y, Z] rfl rfl (one_of HT_.out (by kernel_rfl)) (by decide) (fun K hK => ?_)
               refine goes_ Try.func32 (by kernel_rfl) rfl #[.slice Ao45 t494.length co45, .slice A41 y497.length c41] (by rfl) rfl rfl (by (try simp only [List.map_toArray, List.map_cons, List.map_nil]); first | done | rfl | (simp only [List.length_drop, List.length_take]; rfl)) ?_
               with_reducible refine (boltingref04_Join.calls kj24 _ _ t494 _ _ y497 t501 _ ?side1 ?side2 ?side3 ?side4 A36.out).mono ?_
               (case side1 => exact aC (Kd.N_reads' HO496.out).2.2)
               (case side2 => exact (Kd.N_reads' HO496.out).2.1)
               (case side3 => exact aC (Kd.C_below HR500.out HB.out))
               (case side4 => exact HC500.out)
               rintro e w46 ⟨v502, rfl, ho0, hb⟩
               refine ⟨_, rfl, ?_⟩
               have n0_ := Aside0.mk (Kd.N_elder' (aN HO493) (aS ho0) hb)
               have n1_ := Aside0.mk (Kd.N_elder' (aN HO496) (aS ho0) hb)
               have n2_ := Aside0.mk (Kd.N_lower (Kd.N_mono (ok' := fun k_ => (w.heap.size ≤ k_) ∧ some k_ ≠ (.slice Ao43 t491.length co43 : Value).ownBlock ∧ some k_ ≠ (.slice Ao45 t494.length co45 : Value).ownBlock) ho0 (fun k_ hk_ => ⟨(Nat.le_trans (below_size (aB HB)) hk_), (Kd.fresh' (Kd.N_lt (aN HO493)) k_ hk_), (Kd.fresh' (Kd.N_lt (aN HO496)) k_ hk_)⟩)) (below_size (aB HB)))
               have n3_ := Aside0.mk (below_step (aB HB) hb)
               clear HO493
               clear HO496
               clear HB
               have HO493 := n0_
               have HO496 := n1_
               have HO503 := n2_
               have HB := n3_
               clear n0_ n1_ n2_ n3_
               (try clear hb)
               (try clear hb2)
               (try clear hk)
               (try clear hi)
               (try clear ho0)
               refine hK.out _ _ trivial (fun hHeld => ?_)
               clear hK K
               refine norm_ (a' := ?_) ?_ ?_
               rotate_left
               ·show Act.put _ (some 79) _ = _
                simp only [Act.put, List.setIfInBounds_toArray, List.set_cons_zero, List.set_cons_succ, i64_w, i32_w]
                rfl
               refine pA 11 13 #[Y, Y, Y, Y, Y, Y, Y, Y, Y, Y, Y, Y] HT_ ?_
               refine done_ (done_of HT_.out (by kernel_rfl)) ?_
               obtain ⟨Ao47, co47, eo47⟩ := Kd.N_slice HO503.out
               subst eo47
               try go_wp2_with (first | ((with_reducible refine gate_callee (f := 38) rfl ?_); refine goesL_ (some 81) rfl rfl Try.func38 (by kernel_rfl) rfl #[.slice Ao47 t501.length co47] rfl (by (try simp only [List.map_toArray, List.map_cons, List.map_nil]); first | done | rfl | (simp only [List.length_drop, List.length_take]; rfl)) ?_; (with_reducible refine (boltingref04_Big.calls kj24 _ _ t501 true _ ?side1 ?side2 A37.out).mono ?_); (case side1 => exact aC (Kd.N_reads' HO503.out).2.2); (case side2 => exact (Kd.N_reads' HO503.out).2.1); rintro e w' ⟨rfl, ⟨nd, rfl⟩⟩; refine ⟨_, rfl, ?_⟩))
               go_ret2
               exact ⟨_, by first | rfl | (simp [errW_none, errW_some] <;> rfl) | (simp [*, errW_none, errW_some] <;> rfl), by first | exact Kd.S_nil _ _ _ _ _ | exact Kd.N_nil _ _ _ _ _ | exact Kd.V_nil _ _ _ _ _ | exact Kd.Q_nil _ _ _ _ _ | exact Kd.R_nil _ _ _ _ _, aB HB⟩
              ·replace c38 := Bool.eq_false_iff.mpr c38
               subst c38
               have H1 : (some (t501, 0)) = some (r1, r2) := by rw [if_neg (show ¬ (false = true) by decide)] at H; exact H
               clear H
               have H := H1
               clear H1
               simp only [Option.some.injEq, Prod.mk.injEq] at H
               obtain ⟨rfl, rfl⟩ := H
               try go_wp2
               have n0_ := Aside0.mk (below_drew1 HB.out)
               clear HB
               have HB := n0_
               clear n0_
               have q49 : (x12_24 : Int) ≤ ((l0.length : Int) : Int) := of_decide_eq_true aA
               obtain ⟨i049, hi049, _, hsz49, _⟩ := info_parts info43
               have hroom49 : l0.length ≤ c0 := HC0.out
               have hC49 : Kd.C k43 _ A0 l0.length l0 := HR0.out
               have hcut49 := cut_to (P := Try.prog) 22 43 .i64 Try.underlying22 hi049 A0 l0.length c0 x12_24 (of_decide_eq_true aA) q49 hroom49
               have hr49 := Kd.C_take (m := (x12_24 : Int).toNat) hC49 (by omega)
               have hy49 : y487.length = (x12_24 : Int).toNat := (by rw [Ny487.out, List.length_take]; omega)
               rw [← Ny487.out] at hr49
               rw [← hy49] at hcut49
               have HR490 := Aside0.mk hr49
               have HC490 := Aside0.mk (show y487.length ≤ c0 from by omega)
               clear hr49 hC49 hroom49 hi049 hsz49
               have KY49 := Aside0.mk hy49
               clear hy49
               replace q49 := eq_true q49
               have q50 : (x12_24 : Int) ≤ ((l0.length : Int) : Int) := of_decide_eq_true aA
               obtain ⟨i050, hi050, _, hsz50, _⟩ := info_parts info43
               have hroom50 : l0.length ≤ c0 := HC0.out
               have hC50 : Kd.C k43 _ A0 l0.length l0 := HR0.out
               have q050 : (0 : Int) ≤ (x12_24 : Int) := of_decide_eq_true aA
               have hcut50 := cut_from (P := Try.prog) 22 43 .i64 Try.underlying22 hi050 5 hsz50 A0 l0.length c0 x12_24 q050 q50
               have hr50 := Kd.C_drop (m := (x12_24 : Int).toNat) (c := c0) hC50 (by omega) hroom50
               obtain ⟨A50, hA50⟩ : ∃ A1, A1 = (if c0 = (x12_24 : Int).toNat then A0 else (A0 : Option Addr).map (·.add ((x12_24 : Int).toNat * 5))) := ⟨_, rfl⟩
               obtain ⟨c50, hc50⟩ : ∃ c1, c1 = c0 - (x12_24 : Int).toNat := ⟨_, rfl⟩
               have hy50 : y497.length = l0.length - (x12_24 : Int).toNat := (by rw [Ny497.out, List.length_drop] <;> omega)
               rw [show (l0).drop (x12_24 : Int).toNat = y497 from Ny497.out.symm] at hr50
               replace hr50 : Kd.C k43 _ A50 y497.length y497 := (by rw [hA50]; exact hr50)
               rw [← hy50, ← hA50, ← hc50] at hcut50
               have HR500 := Aside0.mk hr50
               have HC500 := Aside0.mk (show y497.length ≤ c50 from by rw [hy50, hc50]; exact Nat.sub_le_sub_right hroom50 _)
               clear hr50 hC50 hroom50 hi050 hsz50 hc50
               have KY50 := Aside0.mk hy50
               have KA50 := Aside0.mk hA50
               clear hy50 hA50
               replace q50 := eq_true q50
               refine start_ (n := 12) (S := fun w' => True) (ds := []) #[Z, Z, Z, Z, Z, Z, Z, Z, Z, Z, Z, Z] (by kernel_rfl) rfl rfl trivial (fun hHeld => ?_); refine with_tabW boltingref04_Put.tab14 boltingref04_Put.bits14 (fun HT_ HW_ => ?_)
               generalize wc.drew = w48 at HB HR490 HR500 hHeld ⊢
               refine pA 0 69 #[Y, Z, Z, Z, Z, Z, Z, Z, Z, Z, Z, Z] HT_ ?_
               refine pA 1 70 #[Y, Y, Z, Z, Z, Z, Z, Z, Z, Z, Z, Z] HT_ ?_
               refine pA 2 71 #[Y, Y, Y, Z, Z, Z, Z, Z, Z, Z, Z, Z] HT_ ?_
               refine pA 3 72 #[Y, Y, Y, Y, Z, Z, Z, Z, Z, Z, Z, Z] HT_ ?_
               refine pA 4 73 #[Y, Y, Y, Y, Y, Z, Z, Z, Z, Z, Z, Z] HT_ ?_
               refine pA 7 76 #[Y, Y, Y, Y, Y, Z, Z, Y, Z, Z, Z, Z] HT_ ?_
               refine pA 8 77 #[Y, Y, Y, Y, Y, Z, Z, Y, Y, Z, Z, Z] HT_ ?_
               refine pA 9 78 #[Y, Y, Y, Y, Y, Z, Z, Y, Y, Y, Z, Z] HT_ ?_
               refine one_ (i := 5) (N := some 74) #[Y, Y, Y, Y, Y, Y, Z, Y, Y, Y, Z, Z] rfl rfl (one_of HT_.out (by kernel_rfl)) (by decide) (fun K hK => ?_)
               refine goes_ Try.func17 (by kernel_rfl) rfl #[.slice A3 l3.length c3, .int .i64 x11_12] (by rfl) rfl rfl (by (try simp only [List.map_toArray, List.map_cons, List.map_nil]); first | done | rfl | (simp only [List.length_drop, List.length_take]; rfl)) ?_
               with_reducible refine (boltingref04_Moved.calls kj24 _ _ l3 x11_12 t491 _ ?side1 ?side2 A32.out).mono ?_
               (case side1 => exact aC (Kd.C_below HR3.out HB.out))
               (case side2 => exact HC3.out)
               rintro e w51 ⟨v492, rfl, ho0, hb⟩
               refine ⟨_, rfl, ?_⟩
               have n0_ := Aside0.mk (Kd.N_lower (Kd.N_mono (ok' := fun k_ => (w.heap.size ≤ k_)) (Kd.S_N (Kd.S_bound ho0)) (fun k_ hk_ => (Nat.le_trans (below_size (aB HB)) hk_.2.1))) (below_size (aB HB)))
               have n1_ := Aside0.mk (below_step (aB HB) hb)
               clear HB
               have HO493 := n0_
               have HB := n1_
               clear n0_ n1_
               (try clear hb)
               (try clear hb2)
               (try clear hk)
               (try clear hi)
               (try clear ho0)
               obtain ⟨Ao52, co52, eo52⟩ := Kd.N_slice HO493.out
               (first | subst eo52 | (injection eo52 with f1_ f2_ f3_; have f4_ := f1_.symm; have f5_ := f3_.symm; clear f1_ f2_ f3_; subst f4_; subst f5_))
               refine hK.out _ _ trivial (fun hHeld => ?_)
               clear hK K
               refine norm_ (a' := ?_) ?_ ?_
               rotate_left
               ·show Act.put _ (some 74) _ = _
                simp only [Act.put, List.setIfInBounds_toArray, List.set_cons_zero, List.set_cons_succ, i64_w, i32_w]
                rfl
               refine one_ (i := 6) (N := some 75) #[Y, Y, Y, Y, Y, Y, Y, Y, Y, Y, Z, Z] rfl rfl (one_of HT_.out (by kernel_rfl)) (by decide) (fun K hK => ?_)
               refine goes_ Try.func32 (by kernel_rfl) rfl #[.slice A0 y487.length c0, .slice Ao52 t491.length co52] (by rfl) rfl rfl (by (try simp only [List.map_toArray, List.map_cons, List.map_nil]); first | done | rfl | (simp only [List.length_drop, List.length_take]; rfl)) ?_
               with_reducible refine (boltingref04_Join.calls kj24 _ _ y487 _ _ t491 t494 _ ?side1 ?side2 ?side3 ?side4 A33.out).mono ?_
               (case side1 => exact aC (Kd.C_below HR490.out HB.out))
               (case side2 => exact HC490.out)
               (case side3 => exact aC (Kd.N_reads' HO493.out).2.2)
               (case side4 => exact (Kd.N_reads' HO493.out).2.1)
               rintro e w53 ⟨v495, rfl, ho0, hb⟩
               refine ⟨_, rfl, ?_⟩
               have n0_ := Aside0.mk (Kd.N_elder' (aN HO493) (aS ho0) hb)
               have n1_ := Aside0.mk (Kd.N_lower (Kd.N_mono (ok' := fun k_ => (w.heap.size ≤ k_) ∧ some k_ ≠ (.slice Ao52 t491.length co52 : Value).ownBlock) ho0 (fun k_ hk_ => ⟨(Nat.le_trans (below_size (aB HB)) hk_), (Kd.fresh' (Kd.N_lt (aN HO493)) k_ hk_)⟩)) (below_size (aB HB)))
               have n2_ := Aside0.mk (below_step (aB HB) hb)
               clear HO493
               clear HB
               have HO493 := n0_
               have HO496 := n1_
               have HB := n2_
               clear n0_ n1_ n2_
               (try clear hb)
               (try clear hb2)
               (try clear hk)
               (try clear hi)
               (try clear ho0)
               obtain ⟨Ao54, co54, eo54⟩ := Kd.N_slice HO496.out
               (first | subst eo54 | (injection eo54 with f1_ f2_ f3_; have f4_ := f1_.symm; have f5_ := f3_.symm; clear f1_ f2_ f3_; subst f4_; subst f5_))
               refine hK.out _ _ trivial (fun hHeld => ?_)
               clear hK K
               refine norm_ (a' := ?_) ?_ ?_
               rotate_left
               ·show Act.put _ (some 75) _ = _
                simp only [Act.put, List.setIfInBounds_toArray, List.set_cons_zero, List.set_cons_succ, i64_w, i32_w]
                rfl
               refine one_ (i := 10) (N := some 79) #[Y, Y, Y, Y, Y, Y, Y, Y, Y, Y, Y, Z] rfl rfl (one_of HT_.out (by kernel_rfl)) (by decide) (fun K hK => ?_)
               refine goes_ Try.func32 (by kernel_rfl) rfl #[.slice Ao54 t494.length co54, .slice A50 y497.length c50] (by rfl) rfl rfl (by (try simp only [List.map_toArray, List.map_cons, List.map_nil]); first | done | rfl | (simp only [List.length_drop, List.length_take]; rfl)) ?_
               with_reducible refine (boltingref04_Join.calls kj24 _ _ t494 _ _ y497 t501 _ ?side1 ?side2 ?side3 ?side4 A36.out).mono ?_
               (case side1 => exact aC (Kd.N_reads' HO496.out).2.2)
               (case side2 => exact (Kd.N_reads' HO496.out).2.1)
               (case side3 => exact aC (Kd.C_below HR500.out HB.out))
               (case side4 => exact HC500.out)
               rintro e w55 ⟨v502, rfl, ho0, hb⟩
               refine ⟨_, rfl, ?_⟩
               have n0_ := Aside0.mk (Kd.N_elder' (aN HO493) (aS ho0) hb)
               have n1_ := Aside0.mk (Kd.N_elder' (aN HO496) (aS ho0) hb)
               have n2_ := Aside0.mk (Kd.N_lower (Kd.N_mono (ok' := fun k_ => (w.heap.size ≤ k_) ∧ some k_ ≠ (.slice Ao52 t491.length co52 : Value).ownBlock ∧ some k_ ≠ (.slice Ao54 t494.length co54 : Value).ownBlock) ho0 (fun k_ hk_ => ⟨(Nat.le_trans (below_size (aB HB)) hk_), (Kd.fresh' (Kd.N_lt (aN HO493)) k_ hk_), (Kd.fresh' (Kd.N_lt (aN HO496)) k_ hk_)⟩)) (below_size (aB HB)))
               have n3_ := Aside0.mk (below_step (aB HB) hb)
               clear HO493
               clear HO496
               clear HB
               have HO493 := n0_
               have HO496 := n1_
               have HO503 := n2_
               have HB := n3_
               clear n0_ n1_ n2_ n3_
               (try clear hb)
               (try clear hb2)
               (try clear hk)
               (try clear hi)
               (try clear ho0)
               refine hK.out _ _ trivial (fun hHeld => ?_)
               clear hK K
               refine norm_ (a' := ?_) ?_ ?_
               rotate_left
               ·show Act.put _ (some 79) _ = _
                simp only [Act.put, List.setIfInBounds_toArray, List.set_cons_zero, List.set_cons_succ, i64_w, i32_w]
                rfl
               refine pA 11 13 #[Y, Y, Y, Y, Y, Y, Y, Y, Y, Y, Y, Y] HT_ ?_
               refine done_ (done_of HT_.out (by kernel_rfl)) ?_
               obtain ⟨Ao56, co56, eo56⟩ := Kd.N_slice HO503.out
               subst eo56
               try go_wp2_with (first | ((with_reducible refine gate_callee (f := 38) rfl ?_); refine goesL_ (some 81) rfl rfl Try.func38 (by kernel_rfl) rfl #[.slice Ao56 t501.length co56] rfl (by (try simp only [List.map_toArray, List.map_cons, List.map_nil]); first | done | rfl | (simp only [List.length_drop, List.length_take]; rfl)) ?_; (with_reducible refine (boltingref04_Big.calls kj24 _ _ t501 false _ ?side1 ?side2 A37.out).mono ?_); (case side1 => exact aC (Kd.N_reads' HO503.out).2.2); (case side2 => exact (Kd.N_reads' HO503.out).2.1); rintro e w' ⟨rfl, ⟨nd, rfl⟩⟩; refine ⟨_, rfl, ?_⟩))
               go_ret2
               exact ⟨_, by first | rfl | (simp [errW_none, errW_some] <;> rfl) | (simp [*, errW_none, errW_some] <;> rfl), by (with_reducible repeat (first | apply Kd.N_alloc | apply Kd.N_drewN | apply Kd.N_drew)); exact Kd.N_mono HO503.out (fun _ hk => hk.1), aB HB⟩
             ·rw [if_neg c31] at H
              exact absurd H (by simp)
            ·rw [if_neg c30] at H
             exact absurd H (by simp)
         ·replace c24 := Bool.eq_false_iff.mpr c24
          subst c24
          have H1 : (some (([] : List (S43)), 40)) = some (r1, r2) := by rw [if_neg (show ¬ (false = true) by decide)] at H; exact H
          clear H
          have H := H1
          clear H1
          simp only [Option.some.injEq, Prod.mk.injEq] at H
          obtain ⟨rfl, rfl⟩ := H
          go_wp2_with (first | ((with_reducible refine gate_callee (f := 18) rfl ?_); refine goesL_ (some 59) rfl rfl Try.func18 (by kernel_rfl) rfl #[.slice A3 l3.length c3] rfl (by (try simp only [List.map_toArray, List.map_cons, List.map_nil]); first | done | rfl | (simp only [List.length_drop, List.length_take]; rfl)) ?_; (with_reducible refine (boltingref04_Right.calls kj18 _ _ l3 false _ ?side1 ?side2 A23.out).mono ?_); (case side1 => exact aC (Kd.C_below HR3.out HB.out)); (case side2 => exact HC3.out); rintro e w57 ⟨rfl, hb⟩; refine ⟨_, rfl, ?_⟩; have n0_ := Aside0.mk (Kd.R_below (aR HO_10) hb); have n1_ := Aside0.mk (below_step (aB HB) hb); clear HO_10; clear HB; have HO_10 := n0_; have HB := n1_; clear n0_ n1_; (try clear hb); (try clear hb2); (try clear hk); (try clear hi)))
          go_ret2
          exact ⟨_, by first | rfl | (simp [errW_none, errW_some] <;> rfl) | (simp [*, errW_none, errW_some] <;> rfl), by first | exact Kd.S_nil _ _ _ _ _ | exact Kd.N_nil _ _ _ _ _ | exact Kd.V_nil _ _ _ _ _ | exact Kd.Q_nil _ _ _ _ _ | exact Kd.R_nil _ _ _ _ _, aB HB⟩

end Go.Proofs.Ytllggaogjcknoaa.QA
