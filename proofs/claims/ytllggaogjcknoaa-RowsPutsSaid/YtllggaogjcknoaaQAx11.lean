-- Written by a program of this claim's own (wip/gen/gen.py), out of the translation; an ordinary proof text.
import Derived.Test.YtllggaogjcknoaaQAx0
import Derived.Test.YtllggaogjcknoaaQAx10
namespace Go.Proofs.Ytllggaogjcknoaa.QA
open Go.RowKit Go.Proofs.YtllggaogjcknoaaW.PrintWords Go.Proofs.YtllggaogjcknoaaW.PrintLast Go.Proofs.YtllggaogjcknoaaW.PrintMore
attribute [local go_sem] max2_int min2_int max_two min_two max_three min_three max_four min_four   -- for this text's walks alone
set_option linter.unusedVariables false
set_option linter.unusedSimpArgs false

/-! ### boltingref04_Right: function 18 -/
mutual
def boltingref04_Right.l0 : Nat → List (S43) → Int → Option (Bool)
 | 0, _, _ => none
 | k + 1, x0, x3 => if x3 < (x0.length : Int) then (if 0 ≤ x3 then ((boltingref04_Row.f k ((rd_T43 x0 x3).f0) ((rd_T43 x0 x3).f1) ((rd_T43 x0 x3).f2) ((rd_T43 x0 x3).f3) ((rd_T43 x0 x3).f4)).bind fun t281 => (if t281 = true then (if ((rd_T43 x0 x3).f0) < 0 then (boltingref04_Right.j1 k x0 x3 ((rd_T43 x0 x3).f0) true) else (if x3 = 0 then (boltingref04_Right.j1 k x0 x3 ((rd_T43 x0 x3).f0) (((rd_T43 x0 x3).f0) != 0)) else (boltingref04_Right.j1 k x0 x3 ((rd_T43 x0 x3).f0) false))) else (boltingref04_Right.j1 k x0 x3 ((rd_T43 x0 x3).f0) true))) else (none)) else (some true)
def boltingref04_Right.j1 : Nat → List (S43) → Int → Int → Bool → Option (Bool)
 | 0, _, _, _, _ => none
 | k + 1, x0, x3, x4, x33 => if x33 = true then (some false) else (if x3 > 0 then (if 0 ≤ (wrap64 (x3 - 1)) then (if (wrap64 (x3 - 1)) < (x0.length : Int) then (if x4 > (wrap64 (((rd_T43 x0 (wrap64 (x3 - 1))).f0) + 1)) then (some false) else (if x4 = (wrap64 (((rd_T43 x0 (wrap64 (x3 - 1))).f0) + 1)) then (if ((rd_T43 x0 (wrap64 (x3 - 1))).f1) = 0 then (boltingref04_Right.l0 k x0 (wrap64 (x3 + 1))) else (some false)) else (boltingref04_Right.l0 k x0 (wrap64 (x3 + 1))))) else (none)) else (none)) else (boltingref04_Right.l0 k x0 (wrap64 (x3 + 1))))
end
def boltingref04_Right.f (k : Nat) (l0 : List (S43)) : Option (Bool) := boltingref04_Right.l0 k l0 0
theorem boltingref04_Right.mono_l : ∀ k, (∀ y0 y1, LeO (boltingref04_Right.l0 k y0 y1) (boltingref04_Right.l0 (k + 1) y0 y1)) ∧ (∀ y0 y1 y2 y3, LeO (boltingref04_Right.j1 k y0 y1 y2 y3) (boltingref04_Right.j1 (k + 1) y0 y1 y2 y3))
 | 0 => ⟨fun _ _ r h => by simp [boltingref04_Right.l0] at h, fun _ _ _ _ r h => by simp [boltingref04_Right.j1] at h⟩
 | k + 1 => by
  obtain ⟨ih0, ih1⟩ := boltingref04_Right.mono_l k
  refine ⟨?_, ?_⟩
  ·intro y0 y1
   unfold boltingref04_Right.l0
   repeat' first
   | (with_reducible exact ih0 _ _)
   | (with_reducible exact ih1 _ _ _ _)
   | (with_reducible exact boltingref04_Row.mono _ _ _ _ _ _)
   | (with_reducible exact LeO.refl _)
   | (with_reducible exact LeO.none _)
   | (with_reducible refine LeO.ite ?_ ?_)
   | (with_reducible refine LeO.bind ?_ (fun _ => ?_))
   | exact ih0 _ _
   | exact ih1 _ _ _ _
   | exact boltingref04_Row.mono _ _ _ _ _ _
   | exact LeO.none _
   | refine LeO.ite ?_ ?_
   | refine LeO.bind ?_ (fun _ => ?_)
  ·intro y0 y1 y2 y3
   unfold boltingref04_Right.j1
   repeat' first
   | (with_reducible exact ih0 _ _)
   | (with_reducible exact ih1 _ _ _ _)
   | (with_reducible exact boltingref04_Row.mono _ _ _ _ _ _)
   | (with_reducible exact LeO.refl _)
   | (with_reducible exact LeO.none _)
   | (with_reducible refine LeO.ite ?_ ?_)
   | (with_reducible refine LeO.bind ?_ (fun _ => ?_))
   | exact ih0 _ _
   | exact ih1 _ _ _ _
   | exact boltingref04_Row.mono _ _ _ _ _ _
   | exact LeO.none _
   | refine LeO.ite ?_ ?_
   | refine LeO.bind ?_ (fun _ => ?_)
theorem boltingref04_Right.mono : ∀ a0 k, LeO (boltingref04_Right.f k a0) (boltingref04_Right.f (k + 1) a0) := by
 intro a0 k
 obtain ⟨ih0, ih1⟩ := boltingref04_Right.mono_l k
 unfold boltingref04_Right.f
 repeat' first
   | (with_reducible exact ih0 _ _)
   | (with_reducible exact ih1 _ _ _ _)
   | (with_reducible exact boltingref04_Row.mono _ _ _ _ _ _)
   | (with_reducible exact LeO.refl _)
   | (with_reducible exact LeO.none _)
   | (with_reducible refine LeO.ite ?_ ?_)
   | (with_reducible refine LeO.bind ?_ (fun _ => ?_))
   | exact ih0 _ _
   | exact ih1 _ _ _ _
   | exact boltingref04_Row.mono _ _ _ _ _ _
   | exact LeO.none _
   | refine LeO.ite ?_ ?_
   | refine LeO.bind ?_ (fun _ => ?_)
set_option maxHeartbeats 8000000 in
set_option maxRecDepth 100000 in
theorem boltingref04_Right.calls (k : Nat) (A0 : Option Addr) (c0 : Nat) (l0 : List (S43)) (r : Bool) (w : World) (hr0 : Kd.C k43 w A0 l0.length l0) (hc0 : l0.length ≤ c0) (h : boltingref04_Right.f k l0 = some r) :
  Calls Try.prog 18 #[.slice A0 l0.length c0] w fun e w' => e = .returned (.bool r) ∧ Below w.heap.size w w' := by
 have hu43 := Try.underlying43
 have HR0 := Aside0.mk hr0
 have HC0 := Aside0.mk hc0
 clear hr0 hc0
 have HB := Aside0.mk (Below.refl w.heap.size w)
 have H : (boltingref04_Right.l0 k l0 0) = some r := h
 clear h
 have H' := Aside0.mk H
 clear H
 go_enter Try.func18, Try.ntmps18
 go_wp2
 go_loopg [3] k (fun kq v3 w' => ∃ (x3_1 : Int), v3 = .int .i64 x3_1 ∧ Aside0 (boltingref04_Right.l0 kq l0 x3_1 = some r) ∧ Aside0 (kq ≤ k) ∧ Aside0 (Below w.heap.size w w'))
 case atStart => exact ⟨(0), aE, H', ⟨Nat.le_refl _⟩, ⟨aB HB⟩⟩
 case round =>
  clear H'
  try clear c1
  obtain ⟨x3_1, rfl, HA, HK1, HB⟩ := hrel
  cases gk with
  | zero => exact absurd HA.out (by simp [boltingref04_Right.l0])
  | succ k1 =>
   have H := HA.out
   clear HA
   simp only [boltingref04_Right.l0] at H
   by_cases c2 : x3_1 < (l0.length : Int)
   ·rw [if_pos c2] at H
    have c2b0 : decide (x3_1 < (l0.length : Int)) = true := decide_eq_true c2
    clear c2
    by_cases c3 : 0 ≤ x3_1
    ·rw [if_pos c3] at H
     have c3b0 : decide (0 ≤ x3_1) = true := decide_eq_true c3
     clear c3
     have HC4 := Aside0.mk H
     clear H
     have p279 : 0 ≤ (x3_1 : Int) := of_decide_eq_true aA
     have q279 : x3_1 < (l0.length : Int) := of_decide_eq_true aA
     obtain ⟨ad279, A279_4, c279_4, e279, hx279_0, hx279_1, hx279_2, hx279_3, hx279_4, hl279_4, hi279_4⟩ := at_T43 HR0.out x3_1 p279 q279
     have hy279_4 := Aside0.mk hx279_4
     cases e279
     replace hx279_0 := (HB.out.cell (World.block_lt_of_cell? w _ hx279_0)).trans hx279_0
     replace hx279_1 := (HB.out.cell (World.block_lt_of_cell? w _ hx279_1)).trans hx279_1
     replace hx279_2 := (HB.out.cell (World.block_lt_of_cell? w _ hx279_2)).trans hx279_2
     replace hx279_3 := (HB.out.cell (World.block_lt_of_cell? w _ hx279_3)).trans hx279_3
     replace hx279_4 := (HB.out.cell (World.block_lt_of_cell? w _ hx279_4)).trans hx279_4
     have HR279_4 := Aside0.mk hi279_4
     have HC279_4 := Aside0.mk hl279_4
     clear hi279_4 hl279_4
     replace p279 := eq_true p279
     replace q279 := eq_true q279
     go_upto_region 5 with (fail)
     go_cut [33] (fun v33 wc => ∃ (kq : Nat) (x33_3 : Bool), v33 = .bool x33_3 ∧ Aside0 (boltingref04_Right.j1 kq l0 x3_1 ((rd_T43 l0 x3_1).f0) x33_3 = some r) ∧ Aside0 (kq ≤ k1) ∧ Aside0 (Below w.heap.size w wc))
     case first =>
      have H := HC4.out
      clear HC4
      replace H := Option.bind_eq_some_iff.mp H
      obtain ⟨t281, A50, H⟩ := H
      replace H : (if t281 = true then (if ((rd_T43 l0 x3_1).f0) < 0 then (boltingref04_Right.j1 k1 l0 x3_1 ((rd_T43 l0 x3_1).f0) true) else (if x3_1 = 0 then (boltingref04_Right.j1 k1 l0 x3_1 ((rd_T43 l0 x3_1).f0) (((rd_T43 l0 x3_1).f0) != 0)) else (boltingref04_Right.j1 k1 l0 x3_1 ((rd_T43 l0 x3_1).f0) false))) else (boltingref04_Right.j1 k1 l0 x3_1 ((rd_T43 l0 x3_1).f0) true)) = some r := H
      have A5 := Aside0.mk A50
      clear A50
      by_cases c6 : t281 = true
      ·subst c6
       have H1 : (if ((rd_T43 l0 x3_1).f0) < 0 then (boltingref04_Right.j1 k1 l0 x3_1 ((rd_T43 l0 x3_1).f0) true) else (if x3_1 = 0 then (boltingref04_Right.j1 k1 l0 x3_1 ((rd_T43 l0 x3_1).f0) (((rd_T43 l0 x3_1).f0) != 0)) else (boltingref04_Right.j1 k1 l0 x3_1 ((rd_T43 l0 x3_1).f0) false))) = some r := by rw [if_pos rfl] at H; exact H
       clear H
       have H := H1
       clear H1
       by_cases c7 : ((rd_T43 l0 x3_1).f0) < 0
       ·rw [if_pos c7] at H
        have c7b0 : decide (((rd_T43 l0 x3_1).f0) < 0) = true := decide_eq_true c7
        clear c7
        (first | rw [c7b0] | (simp only [i64_w, i32_w]; rw [c7b0]) | skip)
        have H' := Aside0.mk H
        clear H
        have p280 : 0 ≤ (x3_1 : Int) := of_decide_eq_true aA
        have q280 : x3_1 < (l0.length : Int) := of_decide_eq_true aA
        obtain ⟨ad280, B280_4, d280_4, e280, hx280_0, hx280_1, hx280_2, hx280_3, hx280_4, hl280_4, hi280_4⟩ := at_T43 HR0.out x3_1 p280 q280
        obtain rfl : ad279 = ad280 := (by injection e280)
        obtain ⟨rfl, rfl⟩ : A279_4 = B280_4 ∧ c279_4 = d280_4 := by have h_ := hy279_4.out.symm.trans hx280_4; simpa using h_
        replace hx280_0 := (HB.out.cell (World.block_lt_of_cell? w _ hx280_0)).trans hx280_0
        replace hx280_1 := (HB.out.cell (World.block_lt_of_cell? w _ hx280_1)).trans hx280_1
        replace hx280_2 := (HB.out.cell (World.block_lt_of_cell? w _ hx280_2)).trans hx280_2
        replace hx280_3 := (HB.out.cell (World.block_lt_of_cell? w _ hx280_3)).trans hx280_3
        replace hx280_4 := (HB.out.cell (World.block_lt_of_cell? w _ hx280_4)).trans hx280_4
        have HR280_4 := Aside0.mk hi280_4
        have HC280_4 := Aside0.mk hl280_4
        clear hi280_4 hl280_4
        replace p280 := eq_true p280
        replace q280 := eq_true q280
        go_wp2_with (first | ((with_reducible refine gate_callee (f := 43) rfl ?_); refine goesL_ (some 20) rfl rfl Try.func43 (by kernel_rfl) rfl #[.agg #[.int .i64 ((rd_T43 l0 x3_1).f0), .int .i64 ((rd_T43 l0 x3_1).f1), .string ((rd_T43 l0 x3_1).f2), .string ((rd_T43 l0 x3_1).f3), .slice A279_4 ((rd_T43 l0 x3_1).f4).length c279_4]] rfl (by (try simp only [List.map_toArray, List.map_cons, List.map_nil]); first | done | rfl | (simp only [List.length_drop, List.length_take]; rfl)) ?_; (with_reducible refine (boltingref04_Row.calls k1 ((rd_T43 l0 x3_1).f0) ((rd_T43 l0 x3_1).f1) ((rd_T43 l0 x3_1).f2) ((rd_T43 l0 x3_1).f3) _ _ ((rd_T43 l0 x3_1).f4) true _ ?side1 ?side2 A5.out).mono ?_); (case side1 => exact aC (Kd.C_below HR280_4.out HB.out)); (case side2 => exact HC280_4.out); rintro e w8 ⟨rfl, hb⟩; refine ⟨_, rfl, ?_⟩; have n0_ := Aside0.mk (below_step (aB HB) hb); clear HB; have HB := n0_; clear n0_; (try clear hb); (try clear hb2); (try clear hk); (try clear hi)))
        go_meet
        case rel => exact ⟨_, (true), aE, H', ⟨by have := HK1.out; first | omega | exact Nat.le_refl _⟩, ⟨aB HB⟩⟩
       ·rw [if_neg c7] at H
        have c7b0 : decide (((rd_T43 l0 x3_1).f0) < 0) = false := decide_eq_false c7
        clear c7
        (first | rw [c7b0] | (simp only [i64_w, i32_w]; rw [c7b0]) | skip)
        by_cases c9 : x3_1 = 0
        ·rw [if_pos c9] at H
         have c9b0 : (x3_1 == 0) = true := beq_iff_eq.mpr c9
         have c9b1 : (x3_1 != 0) = false := bne_eq_false_iff_eq.mpr c9
         clear c9
         have H' := Aside0.mk H
         clear H
         have p280 : 0 ≤ (x3_1 : Int) := of_decide_eq_true aA
         have q280 : x3_1 < (l0.length : Int) := of_decide_eq_true aA
         obtain ⟨ad280, B280_4, d280_4, e280, hx280_0, hx280_1, hx280_2, hx280_3, hx280_4, hl280_4, hi280_4⟩ := at_T43 HR0.out x3_1 p280 q280
         obtain rfl : ad279 = ad280 := (by injection e280)
         obtain ⟨rfl, rfl⟩ : A279_4 = B280_4 ∧ c279_4 = d280_4 := by have h_ := hy279_4.out.symm.trans hx280_4; simpa using h_
         replace hx280_0 := (HB.out.cell (World.block_lt_of_cell? w _ hx280_0)).trans hx280_0
         replace hx280_1 := (HB.out.cell (World.block_lt_of_cell? w _ hx280_1)).trans hx280_1
         replace hx280_2 := (HB.out.cell (World.block_lt_of_cell? w _ hx280_2)).trans hx280_2
         replace hx280_3 := (HB.out.cell (World.block_lt_of_cell? w _ hx280_3)).trans hx280_3
         replace hx280_4 := (HB.out.cell (World.block_lt_of_cell? w _ hx280_4)).trans hx280_4
         have HR280_4 := Aside0.mk hi280_4
         have HC280_4 := Aside0.mk hl280_4
         clear hi280_4 hl280_4
         replace p280 := eq_true p280
         replace q280 := eq_true q280
         go_wp2_with (first | ((with_reducible refine gate_callee (f := 43) rfl ?_); refine goesL_ (some 20) rfl rfl Try.func43 (by kernel_rfl) rfl #[.agg #[.int .i64 ((rd_T43 l0 x3_1).f0), .int .i64 ((rd_T43 l0 x3_1).f1), .string ((rd_T43 l0 x3_1).f2), .string ((rd_T43 l0 x3_1).f3), .slice A279_4 ((rd_T43 l0 x3_1).f4).length c279_4]] rfl (by (try simp only [List.map_toArray, List.map_cons, List.map_nil]); first | done | rfl | (simp only [List.length_drop, List.length_take]; rfl)) ?_; (with_reducible refine (boltingref04_Row.calls k1 ((rd_T43 l0 x3_1).f0) ((rd_T43 l0 x3_1).f1) ((rd_T43 l0 x3_1).f2) ((rd_T43 l0 x3_1).f3) _ _ ((rd_T43 l0 x3_1).f4) true _ ?side1 ?side2 A5.out).mono ?_); (case side1 => exact aC (Kd.C_below HR280_4.out HB.out)); (case side2 => exact HC280_4.out); rintro e w10 ⟨rfl, hb⟩; refine ⟨_, rfl, ?_⟩; have n0_ := Aside0.mk (below_step (aB HB) hb); clear HB; have HB := n0_; clear n0_; (try clear hb); (try clear hb2); (try clear hk); (try clear hi)))
         go_meet
         case rel => exact ⟨_, ((((rd_T43 l0 x3_1).f0) != 0)), aE, H', ⟨by have := HK1.out; first | omega | exact Nat.le_refl _⟩, ⟨aB HB⟩⟩
        ·rw [if_neg c9] at H
         have c9b0 : (x3_1 == 0) = false := beq_eq_false_iff_ne.mpr c9
         have c9b1 : (x3_1 != 0) = true := bne_iff_ne.mpr c9
         have H' := Aside0.mk H
         clear H
         have p280 : 0 ≤ (x3_1 : Int) := of_decide_eq_true aA
         have q280 : x3_1 < (l0.length : Int) := of_decide_eq_true aA
         obtain ⟨ad280, B280_4, d280_4, e280, hx280_0, hx280_1, hx280_2, hx280_3, hx280_4, hl280_4, hi280_4⟩ := at_T43 HR0.out x3_1 p280 q280
         obtain rfl : ad279 = ad280 := (by injection e280)
         obtain ⟨rfl, rfl⟩ : A279_4 = B280_4 ∧ c279_4 = d280_4 := by have h_ := hy279_4.out.symm.trans hx280_4; simpa using h_
         replace hx280_0 := (HB.out.cell (World.block_lt_of_cell? w _ hx280_0)).trans hx280_0
         replace hx280_1 := (HB.out.cell (World.block_lt_of_cell? w _ hx280_1)).trans hx280_1
         replace hx280_2 := (HB.out.cell (World.block_lt_of_cell? w _ hx280_2)).trans hx280_2
         replace hx280_3 := (HB.out.cell (World.block_lt_of_cell? w _ hx280_3)).trans hx280_3
         replace hx280_4 := (HB.out.cell (World.block_lt_of_cell? w _ hx280_4)).trans hx280_4
         have HR280_4 := Aside0.mk hi280_4
         have HC280_4 := Aside0.mk hl280_4
         clear hi280_4 hl280_4
         replace p280 := eq_true p280
         replace q280 := eq_true q280
         go_wp2_with (first | ((with_reducible refine gate_callee (f := 43) rfl ?_); refine goesL_ (some 20) rfl rfl Try.func43 (by kernel_rfl) rfl #[.agg #[.int .i64 ((rd_T43 l0 x3_1).f0), .int .i64 ((rd_T43 l0 x3_1).f1), .string ((rd_T43 l0 x3_1).f2), .string ((rd_T43 l0 x3_1).f3), .slice A279_4 ((rd_T43 l0 x3_1).f4).length c279_4]] rfl (by (try simp only [List.map_toArray, List.map_cons, List.map_nil]); first | done | rfl | (simp only [List.length_drop, List.length_take]; rfl)) ?_; (with_reducible refine (boltingref04_Row.calls k1 ((rd_T43 l0 x3_1).f0) ((rd_T43 l0 x3_1).f1) ((rd_T43 l0 x3_1).f2) ((rd_T43 l0 x3_1).f3) _ _ ((rd_T43 l0 x3_1).f4) true _ ?side1 ?side2 A5.out).mono ?_); (case side1 => exact aC (Kd.C_below HR280_4.out HB.out)); (case side2 => exact HC280_4.out); rintro e w11 ⟨rfl, hb⟩; refine ⟨_, rfl, ?_⟩; have n0_ := Aside0.mk (below_step (aB HB) hb); clear HB; have HB := n0_; clear n0_; (try clear hb); (try clear hb2); (try clear hk); (try clear hi)))
         go_meet
         case rel => exact ⟨_, (false), aE, H', ⟨by have := HK1.out; first | omega | exact Nat.le_refl _⟩, ⟨aB HB⟩⟩
      ·replace c6 := Bool.eq_false_iff.mpr c6
       subst c6
       have H1 : (boltingref04_Right.j1 k1 l0 x3_1 ((rd_T43 l0 x3_1).f0) true) = some r := by rw [if_neg (show ¬ (false = true) by decide)] at H; exact H
       clear H
       have H := H1
       clear H1
       have H' := Aside0.mk H
       clear H
       have p280 : 0 ≤ (x3_1 : Int) := of_decide_eq_true aA
       have q280 : x3_1 < (l0.length : Int) := of_decide_eq_true aA
       obtain ⟨ad280, B280_4, d280_4, e280, hx280_0, hx280_1, hx280_2, hx280_3, hx280_4, hl280_4, hi280_4⟩ := at_T43 HR0.out x3_1 p280 q280
       obtain rfl : ad279 = ad280 := (by injection e280)
       obtain ⟨rfl, rfl⟩ : A279_4 = B280_4 ∧ c279_4 = d280_4 := by have h_ := hy279_4.out.symm.trans hx280_4; simpa using h_
       replace hx280_0 := (HB.out.cell (World.block_lt_of_cell? w _ hx280_0)).trans hx280_0
       replace hx280_1 := (HB.out.cell (World.block_lt_of_cell? w _ hx280_1)).trans hx280_1
       replace hx280_2 := (HB.out.cell (World.block_lt_of_cell? w _ hx280_2)).trans hx280_2
       replace hx280_3 := (HB.out.cell (World.block_lt_of_cell? w _ hx280_3)).trans hx280_3
       replace hx280_4 := (HB.out.cell (World.block_lt_of_cell? w _ hx280_4)).trans hx280_4
       have HR280_4 := Aside0.mk hi280_4
       have HC280_4 := Aside0.mk hl280_4
       clear hi280_4 hl280_4
       replace p280 := eq_true p280
       replace q280 := eq_true q280
       go_wp2_with (first | ((with_reducible refine gate_callee (f := 43) rfl ?_); refine goesL_ (some 20) rfl rfl Try.func43 (by kernel_rfl) rfl #[.agg #[.int .i64 ((rd_T43 l0 x3_1).f0), .int .i64 ((rd_T43 l0 x3_1).f1), .string ((rd_T43 l0 x3_1).f2), .string ((rd_T43 l0 x3_1).f3), .slice A279_4 ((rd_T43 l0 x3_1).f4).length c279_4]] rfl (by (try simp only [List.map_toArray, List.map_cons, List.map_nil]); first | done | rfl | (simp only [List.length_drop, List.length_take]; rfl)) ?_; (with_reducible refine (boltingref04_Row.calls k1 ((rd_T43 l0 x3_1).f0) ((rd_T43 l0 x3_1).f1) ((rd_T43 l0 x3_1).f2) ((rd_T43 l0 x3_1).f3) _ _ ((rd_T43 l0 x3_1).f4) false _ ?side1 ?side2 A5.out).mono ?_); (case side1 => exact aC (Kd.C_below HR280_4.out HB.out)); (case side2 => exact HC280_4.out); rintro e w12 ⟨rfl, hb⟩; refine ⟨_, rfl, ?_⟩; have n0_ := Aside0.mk (below_step (aB HB) hb); clear HB; have HB := n0_; clear n0_; (try clear hb); (try clear hb2); (try clear hk); (try clear hi)))
       go_meet
       case rel => exact ⟨_, (true), aE, H', ⟨by have := HK1.out; first | omega | exact Nat.le_refl _⟩, ⟨aB HB⟩⟩
     case rest =>
      clear HC4
      try clear c1
      try clear c2
      try clear c2b0
      try clear p2
      try clear q2
      try clear hx2
      try clear c3
      try clear c3b0
      try clear c4
      try clear c6
      try clear c7
      try clear c7b0
      try clear c9
      try clear c9b0
      try clear c9b1
      try clear hx279_0
      try clear hx279_1
      try clear hx279_2
      try clear hx279_3
      try clear hx279_4
      try clear hx280_0
      try clear hx280_1
      try clear hx280_2
      try clear hx280_3
      try clear hx280_4
      try clear p279
      try clear p280
      try clear q279
      try clear q280
      obtain ⟨kq, x33_3, rfl, HA, HJ3, HB⟩ := hcut
      cases kq with
      | zero => exact absurd HA.out (by simp [boltingref04_Right.j1])
      | succ kj3 =>
       have H := HA.out
       clear HA
       simp only [boltingref04_Right.j1] at H
       by_cases c13 : x33_3 = true
       ·subst c13
        have H1 : (some false) = some r := by rw [if_pos rfl] at H; exact H
        clear H
        have H := H1
        clear H1
        obtain rfl := Option.some.inj H
        go_wp2
        go_ret
        exact ⟨by first | rfl | (simp [errW_none, errW_some] <;> rfl) | (simp [*, errW_none, errW_some] <;> rfl), aB HB⟩
       ·replace c13 := Bool.eq_false_iff.mpr c13
        subst c13
        have H1 : (if x3_1 > 0 then (if 0 ≤ (wrap64 (x3_1 - 1)) then (if (wrap64 (x3_1 - 1)) < (l0.length : Int) then (if ((rd_T43 l0 x3_1).f0) > (wrap64 (((rd_T43 l0 (wrap64 (x3_1 - 1))).f0) + 1)) then (some false) else (if ((rd_T43 l0 x3_1).f0) = (wrap64 (((rd_T43 l0 (wrap64 (x3_1 - 1))).f0) + 1)) then (if ((rd_T43 l0 (wrap64 (x3_1 - 1))).f1) = 0 then (boltingref04_Right.l0 kj3 l0 (wrap64 (x3_1 + 1))) else (some false)) else (boltingref04_Right.l0 kj3 l0 (wrap64 (x3_1 + 1))))) else (none)) else (none)) else (boltingref04_Right.l0 kj3 l0 (wrap64 (x3_1 + 1)))) = some r := by rw [if_neg (show ¬ (false = true) by decide)] at H; exact H
        clear H
        have H := H1
        clear H1
        by_cases c14 : x3_1 > 0
        ·rw [if_pos c14] at H
         have c14b0 : decide (0 < x3_1) = true := decide_eq_true c14
         clear c14
         obtain ⟨ji15, hji15⟩ : ∃ j_ : Int, (wrap64 (x3_1 - 1)) = j_ := ⟨_, rfl⟩
         replace H : (if 0 ≤ (ji15) then (if (ji15) < (l0.length : Int) then (if ((rd_T43 l0 x3_1).f0) > (wrap64 (((rd_T43 l0 (ji15)).f0) + 1)) then (some false) else (if ((rd_T43 l0 x3_1).f0) = (wrap64 (((rd_T43 l0 (ji15)).f0) + 1)) then (if ((rd_T43 l0 (ji15)).f1) = 0 then (boltingref04_Right.l0 kj3 l0 (wrap64 (x3_1 + 1))) else (some false)) else (boltingref04_Right.l0 kj3 l0 (wrap64 (x3_1 + 1))))) else (none)) else (none)) = some r := by first | (rw [hji15] at H; exact H) | (simp only [hji15] at H ⊢; exact H)
         have hji15w : (IntKind.i64.wrap (x3_1 - 1)) = ji15 := (i64_w _).trans hji15
         by_cases c16 : 0 ≤ (ji15)
         ·rw [if_pos c16] at H
          have c16b0 : decide (0 ≤ (ji15)) = true := decide_eq_true c16
          clear c16
          by_cases c17 : (ji15) < (l0.length : Int)
          ·rw [if_pos c17] at H
           have c17b0 : decide ((ji15) < (l0.length : Int)) = true := decide_eq_true c17
           clear c17
           by_cases c18 : ((rd_T43 l0 x3_1).f0) > (wrap64 (((rd_T43 l0 (ji15)).f0) + 1))
           ·rw [if_pos c18] at H
            have c18b0 : decide ((wrap64 (((rd_T43 l0 (ji15)).f0) + 1)) < ((rd_T43 l0 x3_1).f0)) = true := decide_eq_true c18
            clear c18
            obtain rfl := Option.some.inj H
            have p282 : 0 ≤ ((ji15) : Int) := of_decide_eq_true aA
            have q282 : (ji15) < (l0.length : Int) := of_decide_eq_true aA
            obtain ⟨ad282, A282_4, c282_4, e282, hx282_0, hx282_1, hx282_2, hx282_3, hx282_4, hl282_4, hi282_4⟩ := at_T43 HR0.out (ji15) p282 q282
            obtain rfl : ad279 = ad282 := (by injection e282)
            replace hx282_0 := (HB.out.cell (World.block_lt_of_cell? w _ hx282_0)).trans hx282_0
            replace hx282_1 := (HB.out.cell (World.block_lt_of_cell? w _ hx282_1)).trans hx282_1
            replace hx282_2 := (HB.out.cell (World.block_lt_of_cell? w _ hx282_2)).trans hx282_2
            replace hx282_3 := (HB.out.cell (World.block_lt_of_cell? w _ hx282_3)).trans hx282_3
            replace hx282_4 := (HB.out.cell (World.block_lt_of_cell? w _ hx282_4)).trans hx282_4
            have HR282_4 := Aside0.mk hi282_4
            have HC282_4 := Aside0.mk hl282_4
            clear hi282_4 hl282_4
            replace p282 := eq_true p282
            replace q282 := eq_true q282
            go_wp2
            go_ret
            exact ⟨by first | rfl | (simp [errW_none, errW_some] <;> rfl) | (simp only [← hji15]; first | rfl | (simp [errW_none, errW_some] <;> rfl)) | (simp [*, errW_none, errW_some] <;> rfl), aB HB⟩
           ·rw [if_neg c18] at H
            have c18b0 : decide ((wrap64 (((rd_T43 l0 (ji15)).f0) + 1)) < ((rd_T43 l0 x3_1).f0)) = false := decide_eq_false c18
            clear c18
            by_cases c19 : ((rd_T43 l0 x3_1).f0) = (wrap64 (((rd_T43 l0 (ji15)).f0) + 1))
            ·rw [if_pos c19] at H
             have c19b0 : (((rd_T43 l0 x3_1).f0) == (wrap64 (((rd_T43 l0 (ji15)).f0) + 1))) = true := beq_iff_eq.mpr c19
             have c19b1 : (((rd_T43 l0 x3_1).f0) != (wrap64 (((rd_T43 l0 (ji15)).f0) + 1))) = false := bne_eq_false_iff_eq.mpr c19
             clear c19
             by_cases c20 : ((rd_T43 l0 (ji15)).f1) = 0
             ·rw [if_pos c20] at H
              have c20b0 : (((rd_T43 l0 (ji15)).f1) == 0) = true := beq_iff_eq.mpr c20
              have c20b1 : (((rd_T43 l0 (ji15)).f1) != 0) = false := bne_eq_false_iff_eq.mpr c20
              clear c20
              have H' := Aside0.mk H
              clear H
              have p282 : 0 ≤ ((ji15) : Int) := of_decide_eq_true aA
              have q282 : (ji15) < (l0.length : Int) := of_decide_eq_true aA
              obtain ⟨ad282, A282_4, c282_4, e282, hx282_0, hx282_1, hx282_2, hx282_3, hx282_4, hl282_4, hi282_4⟩ := at_T43 HR0.out (ji15) p282 q282
              obtain rfl : ad279 = ad282 := (by injection e282)
              replace hx282_0 := (HB.out.cell (World.block_lt_of_cell? w _ hx282_0)).trans hx282_0
              replace hx282_1 := (HB.out.cell (World.block_lt_of_cell? w _ hx282_1)).trans hx282_1
              replace hx282_2 := (HB.out.cell (World.block_lt_of_cell? w _ hx282_2)).trans hx282_2
              replace hx282_3 := (HB.out.cell (World.block_lt_of_cell? w _ hx282_3)).trans hx282_3
              replace hx282_4 := (HB.out.cell (World.block_lt_of_cell? w _ hx282_4)).trans hx282_4
              have HR282_4 := Aside0.mk hi282_4
              have HC282_4 := Aside0.mk hl282_4
              clear hi282_4 hl282_4
              replace p282 := eq_true p282
              replace q282 := eq_true q282
              have p283 : 0 ≤ ((ji15) : Int) := of_decide_eq_true aA
              have q283 : (ji15) < (l0.length : Int) := of_decide_eq_true aA
              obtain ⟨ad283, A283_4, c283_4, e283, hx283_0, hx283_1, hx283_2, hx283_3, hx283_4, hl283_4, hi283_4⟩ := at_T43 HR0.out (ji15) p283 q283
              obtain rfl : ad279 = ad283 := (by injection e283)
              replace hx283_0 := (HB.out.cell (World.block_lt_of_cell? w _ hx283_0)).trans hx283_0
              replace hx283_1 := (HB.out.cell (World.block_lt_of_cell? w _ hx283_1)).trans hx283_1
              replace hx283_2 := (HB.out.cell (World.block_lt_of_cell? w _ hx283_2)).trans hx283_2
              replace hx283_3 := (HB.out.cell (World.block_lt_of_cell? w _ hx283_3)).trans hx283_3
              replace hx283_4 := (HB.out.cell (World.block_lt_of_cell? w _ hx283_4)).trans hx283_4
              have HR283_4 := Aside0.mk hi283_4
              have HC283_4 := Aside0.mk hl283_4
              clear hi283_4 hl283_4
              replace p283 := eq_true p283
              replace q283 := eq_true q283
              have ea_ := Option.some.inj (hx282_4.symm.trans hx283_4)
              injection ea_ with ea_ en_ ec_
              subst ea_
              subst ec_
              clear en_
              have p284 : 0 ≤ ((ji15) : Int) := of_decide_eq_true aA
              have q284 : (ji15) < (l0.length : Int) := of_decide_eq_true aA
              obtain ⟨ad284, A284_4, c284_4, e284, hx284_0, hx284_1, hx284_2, hx284_3, hx284_4, hl284_4, hi284_4⟩ := at_T43 HR0.out (ji15) p284 q284
              obtain rfl : ad279 = ad284 := (by injection e284)
              replace hx284_0 := (HB.out.cell (World.block_lt_of_cell? w _ hx284_0)).trans hx284_0
              replace hx284_1 := (HB.out.cell (World.block_lt_of_cell? w _ hx284_1)).trans hx284_1
              replace hx284_2 := (HB.out.cell (World.block_lt_of_cell? w _ hx284_2)).trans hx284_2
              replace hx284_3 := (HB.out.cell (World.block_lt_of_cell? w _ hx284_3)).trans hx284_3
              replace hx284_4 := (HB.out.cell (World.block_lt_of_cell? w _ hx284_4)).trans hx284_4
              have HR284_4 := Aside0.mk hi284_4
              have HC284_4 := Aside0.mk hl284_4
              clear hi284_4 hl284_4
              replace p284 := eq_true p284
              replace q284 := eq_true q284
              have ea_ := Option.some.inj (hx282_4.symm.trans hx284_4)
              injection ea_ with ea_ en_ ec_
              subst ea_
              subst ec_
              clear en_
              go_wp2
              go_roundg kj3
              case measure => have := HK1.out; have := HJ3.out; omega
              case rel => exact ⟨(wrap64 (x3_1 + 1)), aE, H', ⟨by have := HK1.out; have := HJ3.out; omega⟩, ⟨aB HB⟩⟩
             ·rw [if_neg c20] at H
              have c20b0 : (((rd_T43 l0 (ji15)).f1) == 0) = false := beq_eq_false_iff_ne.mpr c20
              have c20b1 : (((rd_T43 l0 (ji15)).f1) != 0) = true := bne_iff_ne.mpr c20
              obtain rfl := Option.some.inj H
              have p282 : 0 ≤ ((ji15) : Int) := of_decide_eq_true aA
              have q282 : (ji15) < (l0.length : Int) := of_decide_eq_true aA
              obtain ⟨ad282, A282_4, c282_4, e282, hx282_0, hx282_1, hx282_2, hx282_3, hx282_4, hl282_4, hi282_4⟩ := at_T43 HR0.out (ji15) p282 q282
              obtain rfl : ad279 = ad282 := (by injection e282)
              replace hx282_0 := (HB.out.cell (World.block_lt_of_cell? w _ hx282_0)).trans hx282_0
              replace hx282_1 := (HB.out.cell (World.block_lt_of_cell? w _ hx282_1)).trans hx282_1
              replace hx282_2 := (HB.out.cell (World.block_lt_of_cell? w _ hx282_2)).trans hx282_2
              replace hx282_3 := (HB.out.cell (World.block_lt_of_cell? w _ hx282_3)).trans hx282_3
              replace hx282_4 := (HB.out.cell (World.block_lt_of_cell? w _ hx282_4)).trans hx282_4
              have HR282_4 := Aside0.mk hi282_4
              have HC282_4 := Aside0.mk hl282_4
              clear hi282_4 hl282_4
              replace p282 := eq_true p282
              replace q282 := eq_true q282
              have p283 : 0 ≤ ((ji15) : Int) := of_decide_eq_true aA
              have q283 : (ji15) < (l0.length : Int) := of_decide_eq_true aA
              obtain ⟨ad283, A283_4, c283_4, e283, hx283_0, hx283_1, hx283_2, hx283_3, hx283_4, hl283_4, hi283_4⟩ := at_T43 HR0.out (ji15) p283 q283
              obtain rfl : ad279 = ad283 := (by injection e283)
              replace hx283_0 := (HB.out.cell (World.block_lt_of_cell? w _ hx283_0)).trans hx283_0
              replace hx283_1 := (HB.out.cell (World.block_lt_of_cell? w _ hx283_1)).trans hx283_1
              replace hx283_2 := (HB.out.cell (World.block_lt_of_cell? w _ hx283_2)).trans hx283_2
              replace hx283_3 := (HB.out.cell (World.block_lt_of_cell? w _ hx283_3)).trans hx283_3
              replace hx283_4 := (HB.out.cell (World.block_lt_of_cell? w _ hx283_4)).trans hx283_4
              have HR283_4 := Aside0.mk hi283_4
              have HC283_4 := Aside0.mk hl283_4
              clear hi283_4 hl283_4
              replace p283 := eq_true p283
              replace q283 := eq_true q283
              have ea_ := Option.some.inj (hx282_4.symm.trans hx283_4)
              injection ea_ with ea_ en_ ec_
              subst ea_
              subst ec_
              clear en_
              have p284 : 0 ≤ ((ji15) : Int) := of_decide_eq_true aA
              have q284 : (ji15) < (l0.length : Int) := of_decide_eq_true aA
              obtain ⟨ad284, A284_4, c284_4, e284, hx284_0, hx284_1, hx284_2, hx284_3, hx284_4, hl284_4, hi284_4⟩ := at_T43 HR0.out (ji15) p284 q284
              obtain rfl : ad279 = ad284 := (by injection e284)
              replace hx284_0 := (HB.out.cell (World.block_lt_of_cell? w _ hx284_0)).trans hx284_0
              replace hx284_1 := (HB.out.cell (World.block_lt_of_cell? w _ hx284_1)).trans hx284_1
              replace hx284_2 := (HB.out.cell (World.block_lt_of_cell? w _ hx284_2)).trans hx284_2
              replace hx284_3 := (HB.out.cell (World.block_lt_of_cell? w _ hx284_3)).trans hx284_3
              replace hx284_4 := (HB.out.cell (World.block_lt_of_cell? w _ hx284_4)).trans hx284_4
              have HR284_4 := Aside0.mk hi284_4
              have HC284_4 := Aside0.mk hl284_4
              clear hi284_4 hl284_4
              replace p284 := eq_true p284
              replace q284 := eq_true q284
              have ea_ := Option.some.inj (hx282_4.symm.trans hx284_4)
              injection ea_ with ea_ en_ ec_
              subst ea_
              subst ec_
              clear en_
              go_wp2
              go_ret
              exact ⟨by first | rfl | (simp [errW_none, errW_some] <;> rfl) | (simp only [← hji15]; first | rfl | (simp [errW_none, errW_some] <;> rfl)) | (simp [*, errW_none, errW_some] <;> rfl), aB HB⟩
            ·rw [if_neg c19] at H
             have c19b0 : (((rd_T43 l0 x3_1).f0) == (wrap64 (((rd_T43 l0 (ji15)).f0) + 1))) = false := beq_eq_false_iff_ne.mpr c19
             have c19b1 : (((rd_T43 l0 x3_1).f0) != (wrap64 (((rd_T43 l0 (ji15)).f0) + 1))) = true := bne_iff_ne.mpr c19
             have H' := Aside0.mk H
             clear H
             have p282 : 0 ≤ ((ji15) : Int) := of_decide_eq_true aA
             have q282 : (ji15) < (l0.length : Int) := of_decide_eq_true aA
             obtain ⟨ad282, A282_4, c282_4, e282, hx282_0, hx282_1, hx282_2, hx282_3, hx282_4, hl282_4, hi282_4⟩ := at_T43 HR0.out (ji15) p282 q282
             obtain rfl : ad279 = ad282 := (by injection e282)
             replace hx282_0 := (HB.out.cell (World.block_lt_of_cell? w _ hx282_0)).trans hx282_0
             replace hx282_1 := (HB.out.cell (World.block_lt_of_cell? w _ hx282_1)).trans hx282_1
             replace hx282_2 := (HB.out.cell (World.block_lt_of_cell? w _ hx282_2)).trans hx282_2
             replace hx282_3 := (HB.out.cell (World.block_lt_of_cell? w _ hx282_3)).trans hx282_3
             replace hx282_4 := (HB.out.cell (World.block_lt_of_cell? w _ hx282_4)).trans hx282_4
             have HR282_4 := Aside0.mk hi282_4
             have HC282_4 := Aside0.mk hl282_4
             clear hi282_4 hl282_4
             replace p282 := eq_true p282
             replace q282 := eq_true q282
             have p283 : 0 ≤ ((ji15) : Int) := of_decide_eq_true aA
             have q283 : (ji15) < (l0.length : Int) := of_decide_eq_true aA
             obtain ⟨ad283, A283_4, c283_4, e283, hx283_0, hx283_1, hx283_2, hx283_3, hx283_4, hl283_4, hi283_4⟩ := at_T43 HR0.out (ji15) p283 q283
             obtain rfl : ad279 = ad283 := (by injection e283)
             replace hx283_0 := (HB.out.cell (World.block_lt_of_cell? w _ hx283_0)).trans hx283_0
             replace hx283_1 := (HB.out.cell (World.block_lt_of_cell? w _ hx283_1)).trans hx283_1
             replace hx283_2 := (HB.out.cell (World.block_lt_of_cell? w _ hx283_2)).trans hx283_2
             replace hx283_3 := (HB.out.cell (World.block_lt_of_cell? w _ hx283_3)).trans hx283_3
             replace hx283_4 := (HB.out.cell (World.block_lt_of_cell? w _ hx283_4)).trans hx283_4
             have HR283_4 := Aside0.mk hi283_4
             have HC283_4 := Aside0.mk hl283_4
             clear hi283_4 hl283_4
             replace p283 := eq_true p283
             replace q283 := eq_true q283
             have ea_ := Option.some.inj (hx282_4.symm.trans hx283_4)
             injection ea_ with ea_ en_ ec_
             subst ea_
             subst ec_
             clear en_
             go_wp2
             go_roundg kj3
             case measure => have := HK1.out; have := HJ3.out; omega
             case rel => exact ⟨(wrap64 (x3_1 + 1)), aE, H', ⟨by have := HK1.out; have := HJ3.out; omega⟩, ⟨aB HB⟩⟩
          ·rw [if_neg c17] at H
           exact absurd H (by simp)
         ·rw [if_neg c16] at H
          exact absurd H (by simp)
        ·rw [if_neg c14] at H
         have c14b0 : decide (0 < x3_1) = false := decide_eq_false c14
         clear c14
         have H' := Aside0.mk H
         clear H
         go_wp2
         go_roundg kj3
         case measure => have := HK1.out; have := HJ3.out; omega
         case rel => exact ⟨(wrap64 (x3_1 + 1)), aE, H', ⟨by have := HK1.out; have := HJ3.out; omega⟩, ⟨aB HB⟩⟩
    ·rw [if_neg c3] at H
     exact absurd H (by simp)
   ·rw [if_neg c2] at H
    have c2b0 : decide (x3_1 < (l0.length : Int)) = false := decide_eq_false c2
    clear c2
    obtain rfl := Option.some.inj H
    go_wp2
    go_ret
    exact ⟨by first | rfl | (simp [errW_none, errW_some] <;> rfl) | (simp [*, errW_none, errW_some] <;> rfl), aB HB⟩

/-! ### boltingref04_Big: function 38 -/
def boltingref04_Big.l0 : Nat → List (S43) → Int → Option (Bool)
 | 0, _, _ => none
 | k + 1, x0, x3 => if x3 < (x0.length : Int) then (if 0 ≤ x3 then (if ((rd_T43 x0 x3).f0) ≥ 60 then (some true) else (boltingref04_Big.l0 k x0 (wrap64 (x3 + 1)))) else (none)) else (some (decide ((x0.length : Int) > 4096)))
def boltingref04_Big.f (k : Nat) (l0 : List (S43)) : Option (Bool) := boltingref04_Big.l0 k l0 0
theorem boltingref04_Big.mono_l : ∀ k, (∀ y0 y1, LeO (boltingref04_Big.l0 k y0 y1) (boltingref04_Big.l0 (k + 1) y0 y1))
 | 0 => fun _ _ r h => by simp [boltingref04_Big.l0] at h
 | k + 1 => by
  have ih0 := boltingref04_Big.mono_l k
  ·intro y0 y1
   unfold boltingref04_Big.l0
   repeat' first
   | (with_reducible exact ih0 _ _)
   | (with_reducible exact LeO.refl _)
   | (with_reducible exact LeO.none _)
   | (with_reducible refine LeO.ite ?_ ?_)
   | (with_reducible refine LeO.bind ?_ (fun _ => ?_))
   | exact ih0 _ _
   | exact LeO.none _
   | refine LeO.ite ?_ ?_
   | refine LeO.bind ?_ (fun _ => ?_)
theorem boltingref04_Big.mono : ∀ a0 k, LeO (boltingref04_Big.f k a0) (boltingref04_Big.f (k + 1) a0) := by
 intro a0 k
 have ih0 := boltingref04_Big.mono_l k
 unfold boltingref04_Big.f
 repeat' first
   | (with_reducible exact ih0 _ _)
   | (with_reducible exact LeO.refl _)
   | (with_reducible exact LeO.none _)
   | (with_reducible refine LeO.ite ?_ ?_)
   | (with_reducible refine LeO.bind ?_ (fun _ => ?_))
   | exact ih0 _ _
   | exact LeO.none _
   | refine LeO.ite ?_ ?_
   | refine LeO.bind ?_ (fun _ => ?_)
set_option maxHeartbeats 8000000 in
set_option maxRecDepth 100000 in
theorem boltingref04_Big.calls (k : Nat) (A0 : Option Addr) (c0 : Nat) (l0 : List (S43)) (r : Bool) (w : World) (hr0 : Kd.C k43 w A0 l0.length l0) (hc0 : l0.length ≤ c0) (h : boltingref04_Big.f k l0 = some r) :
  Calls Try.prog 38 #[.slice A0 l0.length c0] w fun e w' => e = .returned (.bool r) ∧ Drawn0 w w' := by
 have HR0 := Aside0.mk hr0
 have HC0 := Aside0.mk hc0
 clear hr0 hc0
 have H : (boltingref04_Big.l0 k l0 0) = some r := h
 clear h
 have H' := Aside0.mk H
 clear H
 go_enter Try.func38, Try.ntmps38
 go_wp2
 go_loopg [3] k (fun kq v3 w' => ∃ (x3_1 : Int), v3 = .int .i64 x3_1 ∧ Aside0 (boltingref04_Big.l0 kq l0 x3_1 = some r) ∧ Aside0 (kq ≤ k) ∧ Drawn0 w w')
 case atStart => exact ⟨(0), aE, H', ⟨Nat.le_refl _⟩, by repeat (first | exact Drawn0.refl _ | apply Drawn0.step)⟩
 case round =>
  clear H'
  obtain ⟨x3_1, rfl, HA, HK1, ⟨m1, rfl⟩⟩ := hrel
  cases gk with
  | zero => exact absurd HA.out (by simp [boltingref04_Big.l0])
  | succ k1 =>
   have H := HA.out
   clear HA
   simp only [boltingref04_Big.l0] at H
   by_cases c2 : x3_1 < (l0.length : Int)
   ·rw [if_pos c2] at H
    have c2b0 : decide (x3_1 < (l0.length : Int)) = true := decide_eq_true c2
    clear c2
    by_cases c3 : 0 ≤ x3_1
    ·rw [if_pos c3] at H
     have c3b0 : decide (0 ≤ x3_1) = true := decide_eq_true c3
     clear c3
     by_cases c4 : ((rd_T43 l0 x3_1).f0) ≥ 60
     ·rw [if_pos c4] at H
      have c4b0 : decide (60 ≤ ((rd_T43 l0 x3_1).f0)) = true := decide_eq_true c4
      clear c4
      obtain rfl := Option.some.inj H
      have p285 : 0 ≤ (x3_1 : Int) := of_decide_eq_true aA
      have q285 : x3_1 < (l0.length : Int) := of_decide_eq_true aA
      obtain ⟨ad285, A285_4, c285_4, e285, hx285_0, hx285_1, hx285_2, hx285_3, hx285_4, hl285_4, hi285_4⟩ := at_T43 HR0.out x3_1 p285 q285
      cases e285
      have HR285_4 := Aside0.mk hi285_4
      have HC285_4 := Aside0.mk hl285_4
      clear hi285_4 hl285_4
      replace p285 := eq_true p285
      replace q285 := eq_true q285
      go_wp2
      go_ret
      exact ⟨by first | rfl | (simp; done) | (congr 1; first | (with_reducible assumption) | (symm; with_reducible assumption)) | (simp [*]; done) | (simp only [ne_nil_empty]; done) | (rw [ne_nil_empty]; rfl), by repeat (first | exact Drawn0.refl _ | apply Drawn0.step)⟩
     ·rw [if_neg c4] at H
      have c4b0 : decide (60 ≤ ((rd_T43 l0 x3_1).f0)) = false := decide_eq_false c4
      clear c4
      have H' := Aside0.mk H
      clear H
      have p285 : 0 ≤ (x3_1 : Int) := of_decide_eq_true aA
      have q285 : x3_1 < (l0.length : Int) := of_decide_eq_true aA
      obtain ⟨ad285, A285_4, c285_4, e285, hx285_0, hx285_1, hx285_2, hx285_3, hx285_4, hl285_4, hi285_4⟩ := at_T43 HR0.out x3_1 p285 q285
      cases e285
      have HR285_4 := Aside0.mk hi285_4
      have HC285_4 := Aside0.mk hl285_4
      clear hi285_4 hl285_4
      replace p285 := eq_true p285
      replace q285 := eq_true q285
      go_wp2
      go_roundg k1
      case measure => have := HK1.out; omega
      case rel => exact ⟨(wrap64 (x3_1 + 1)), aE, H', ⟨by have := HK1.out; omega⟩, by repeat (first | exact Drawn0.refl _ | apply Drawn0.step)⟩
    ·rw [if_neg c3] at H
     exact absurd H (by simp)
   ·rw [if_neg c2] at H
    have c2b0 : decide (x3_1 < (l0.length : Int)) = false := decide_eq_false c2
    clear c2
    obtain rfl := Option.some.inj H
    go_wp2
    go_ret
    exact ⟨by first | rfl | (simp; done) | (congr 1; first | (with_reducible assumption) | (symm; with_reducible assumption)) | (simp [*]; done) | (simp only [ne_nil_empty]; done) | (rw [ne_nil_empty]; rfl), by repeat (first | exact Drawn0.refl _ | apply Drawn0.step)⟩

/-! ### boltingref04_Check: function 14 -/
def boltingref04_Check.f (k : Nat) (l0 : List (S43)) : Option (Int) := (boltingref04_Big.f k l0).bind fun t286 => (if t286 = true then (some 2) else ((boltingref04_Right.f k l0).bind fun t287 => (if t287 = true then (some 0) else (some 40))))
theorem boltingref04_Check.mono : ∀ a0 k, LeO (boltingref04_Check.f k a0) (boltingref04_Check.f (k + 1) a0) := by
 intro a0 k
 unfold boltingref04_Check.f
 repeat' first
   | (with_reducible exact boltingref04_Big.mono _ _)
   | (with_reducible exact boltingref04_Right.mono _ _)
   | (with_reducible exact LeO.refl _)
   | (with_reducible exact LeO.none _)
   | (with_reducible refine LeO.ite ?_ ?_)
   | (with_reducible refine LeO.bind ?_ (fun _ => ?_))
   | exact boltingref04_Big.mono _ _
   | exact boltingref04_Right.mono _ _
   | exact LeO.none _
   | refine LeO.ite ?_ ?_
   | refine LeO.bind ?_ (fun _ => ?_)
set_option maxHeartbeats 8000000 in
set_option maxRecDepth 100000 in
theorem boltingref04_Check.calls (k : Nat) (A0 : Option Addr) (c0 : Nat) (l0 : List (S43)) (r : Int) (w : World) (hr0 : Kd.C k43 w A0 l0.length l0) (hc0 : l0.length ≤ c0) (h : boltingref04_Check.f k l0 = some r) :
  Calls Try.prog 14 #[.slice A0 l0.length c0] w fun e w' => e = .returned (.int .i64 r) ∧ Below w.heap.size w w' := by
 have HR0 := Aside0.mk hr0
 have HC0 := Aside0.mk hc0
 clear hr0 hc0
 have HB := Aside0.mk (Below.refl w.heap.size w)
 have H : ((boltingref04_Big.f k l0).bind fun t286 => (if t286 = true then (some 2) else ((boltingref04_Right.f k l0).bind fun t287 => (if t287 = true then (some 0) else (some 40))))) = some r := h
 clear h
 replace H := Option.bind_eq_some_iff.mp H
 obtain ⟨t286, A20, H⟩ := H
 replace H : (if t286 = true then (some 2) else ((boltingref04_Right.f k l0).bind fun t287 => (if t287 = true then (some 0) else (some 40)))) = some r := H
 have A2 := Aside0.mk A20
 clear A20
 by_cases c3 : t286 = true
 ·subst c3
  have H1 : (some 2) = some r := by rw [if_pos rfl] at H; exact H
  clear H
  have H := H1
  clear H1
  obtain rfl := Option.some.inj H
  go_enter Try.func14, Try.ntmps14
  go_wp2_with (first | ((with_reducible refine gate_callee (f := 38) rfl ?_); refine goesL_ (some 4) rfl rfl Try.func38 (by kernel_rfl) rfl #[.slice A0 l0.length c0] rfl (by (try simp only [List.map_toArray, List.map_cons, List.map_nil]); first | done | rfl | (simp only [List.length_drop, List.length_take]; rfl)) ?_; (with_reducible refine (boltingref04_Big.calls k _ _ l0 true _ ?side1 ?side2 A2.out).mono ?_); (case side1 => exact aC HR0.out); (case side2 => exact HC0.out); rintro e w' ⟨rfl, ⟨nd, rfl⟩⟩; refine ⟨_, rfl, ?_⟩))
  go_ret
  exact ⟨by first | rfl | (simp [errW_none, errW_some] <;> rfl) | (simp [*, errW_none, errW_some] <;> rfl), aB HB⟩
 ·replace c3 := Bool.eq_false_iff.mpr c3
  subst c3
  have H1 : ((boltingref04_Right.f k l0).bind fun t287 => (if t287 = true then (some 0) else (some 40))) = some r := by rw [if_neg (show ¬ (false = true) by decide)] at H; exact H
  clear H
  have H := H1
  clear H1
  replace H := Option.bind_eq_some_iff.mp H
  obtain ⟨t287, A40, H⟩ := H
  replace H : (if t287 = true then (some 0) else (some 40)) = some r := H
  have A4 := Aside0.mk A40
  clear A40
  by_cases c5 : t287 = true
  ·subst c5
   have H1 : (some 0) = some r := by rw [if_pos rfl] at H; exact H
   clear H
   have H := H1
   clear H1
   obtain rfl := Option.some.inj H
   go_enter Try.func14, Try.ntmps14
   go_wp2_with (first | ((with_reducible refine gate_callee (f := 38) rfl ?_); refine goesL_ (some 4) rfl rfl Try.func38 (by kernel_rfl) rfl #[.slice A0 l0.length c0] rfl (by (try simp only [List.map_toArray, List.map_cons, List.map_nil]); first | done | rfl | (simp only [List.length_drop, List.length_take]; rfl)) ?_; (with_reducible refine (boltingref04_Big.calls k _ _ l0 false _ ?side1 ?side2 A2.out).mono ?_); (case side1 => exact aC HR0.out); (case side2 => exact HC0.out); rintro e w' ⟨rfl, ⟨nd, rfl⟩⟩; refine ⟨_, rfl, ?_⟩) | ((with_reducible refine gate_callee (f := 18) rfl ?_); refine goesL_ (some 6) rfl rfl Try.func18 (by kernel_rfl) rfl #[.slice A0 l0.length c0] rfl (by (try simp only [List.map_toArray, List.map_cons, List.map_nil]); first | done | rfl | (simp only [List.length_drop, List.length_take]; rfl)) ?_; (with_reducible refine (boltingref04_Right.calls k _ _ l0 true _ ?side1 ?side2 A4.out).mono ?_); (case side1 => exact aC HR0.out); (case side2 => exact HC0.out); rintro e w6 ⟨rfl, hb⟩; refine ⟨_, rfl, ?_⟩; have n0_ := Aside0.mk (below_step (aB HB) hb); clear HB; have HB := n0_; clear n0_; (try clear hb); (try clear hb2); (try clear hk); (try clear hi)))
   go_ret
   exact ⟨by first | rfl | (simp [errW_none, errW_some] <;> rfl) | (simp [*, errW_none, errW_some] <;> rfl), aB HB⟩
  ·replace c5 := Bool.eq_false_iff.mpr c5
   subst c5
   have H1 : (some 40) = some r := by rw [if_neg (show ¬ (false = true) by decide)] at H; exact H
   clear H
   have H := H1
   clear H1
   obtain rfl := Option.some.inj H
   go_enter Try.func14, Try.ntmps14
   go_wp2_with (first | ((with_reducible refine gate_callee (f := 38) rfl ?_); refine goesL_ (some 4) rfl rfl Try.func38 (by kernel_rfl) rfl #[.slice A0 l0.length c0] rfl (by (try simp only [List.map_toArray, List.map_cons, List.map_nil]); first | done | rfl | (simp only [List.length_drop, List.length_take]; rfl)) ?_; (with_reducible refine (boltingref04_Big.calls k _ _ l0 false _ ?side1 ?side2 A2.out).mono ?_); (case side1 => exact aC HR0.out); (case side2 => exact HC0.out); rintro e w' ⟨rfl, ⟨nd, rfl⟩⟩; refine ⟨_, rfl, ?_⟩) | ((with_reducible refine gate_callee (f := 18) rfl ?_); refine goesL_ (some 6) rfl rfl Try.func18 (by kernel_rfl) rfl #[.slice A0 l0.length c0] rfl (by (try simp only [List.map_toArray, List.map_cons, List.map_nil]); first | done | rfl | (simp only [List.length_drop, List.length_take]; rfl)) ?_; (with_reducible refine (boltingref04_Right.calls k _ _ l0 false _ ?side1 ?side2 A4.out).mono ?_); (case side1 => exact aC HR0.out); (case side2 => exact HC0.out); rintro e w7 ⟨rfl, hb⟩; refine ⟨_, rfl, ?_⟩; have n0_ := Aside0.mk (below_step (aB HB) hb); clear HB; have HB := n0_; clear n0_; (try clear hb); (try clear hb2); (try clear hk); (try clear hi)))
   go_ret
   exact ⟨by first | rfl | (simp [errW_none, errW_some] <;> rfl) | (simp [*, errW_none, errW_some] <;> rfl), aB HB⟩

/-! ### boltingref04_Moved: function 17 -/
def boltingref04_Moved.l0 : Nat → List (S43) → Int → List (S43) → Int → Option ((List (S43)))
 | 0, _, _, _, _ => none
 | k + 1, x0, x1, x5, x6 => if x6 < (x0.length : Int) then (if 0 ≤ x6 then ((some (([] : List (S46)) : List (S46))).bind fun y293 => (if y293.length + ((rd_T43 x0 x6).f4).length < 4398046511104 then (if x5.length < 1954687338268 then (boltingref04_Moved.l0 k x0 x1 (x5 ++ [(⟨wrap64 (((rd_T43 x0 x6).f0) + x1), (rd_T43 x0 x6).f1, (rd_T43 x0 x6).f2, (rd_T43 x0 x6).f3, (y293 ++ ((rd_T43 x0 x6).f4))⟩ : S43)]) (wrap64 (x6 + 1))) else (none)) else (none))) else (none)) else (some x5)
def boltingref04_Moved.f (k : Nat) (l0 : List (S43)) (a1 : Int) : Option ((List (S43))) := boltingref04_Moved.l0 k l0 a1 (([] : List (S43))) 0
theorem boltingref04_Moved.mono_l : ∀ k, (∀ y0 y1 y2 y3, LeO (boltingref04_Moved.l0 k y0 y1 y2 y3) (boltingref04_Moved.l0 (k + 1) y0 y1 y2 y3))
 | 0 => fun _ _ _ _ r h => by simp [boltingref04_Moved.l0] at h
 | k + 1 => by
  have ih0 := boltingref04_Moved.mono_l k
  ·intro y0 y1 y2 y3
   unfold boltingref04_Moved.l0
   repeat' first
   | (with_reducible exact ih0 _ _ _ _)
   | (with_reducible exact LeO.refl _)
   | (with_reducible exact LeO.none _)
   | (with_reducible refine LeO.ite ?_ ?_)
   | (with_reducible refine LeO.bind ?_ (fun _ => ?_))
   | exact ih0 _ _ _ _
   | exact LeO.none _
   | refine LeO.ite ?_ ?_
   | refine LeO.bind ?_ (fun _ => ?_)
theorem boltingref04_Moved.mono : ∀ a0 a1 k, LeO (boltingref04_Moved.f k a0 a1) (boltingref04_Moved.f (k + 1) a0 a1) := by
 intro a0 a1 k
 have ih0 := boltingref04_Moved.mono_l k
 unfold boltingref04_Moved.f
 repeat' first
   | (with_reducible exact ih0 _ _ _ _)
   | (with_reducible exact LeO.refl _)
   | (with_reducible exact LeO.none _)
   | (with_reducible refine LeO.ite ?_ ?_)
   | (with_reducible refine LeO.bind ?_ (fun _ => ?_))
   | exact ih0 _ _ _ _
   | exact LeO.none _
   | refine LeO.ite ?_ ?_
   | refine LeO.bind ?_ (fun _ => ?_)
set_option maxHeartbeats 8000000 in
set_option maxRecDepth 100000 in
theorem boltingref04_Moved.calls (k : Nat) (A0 : Option Addr) (c0 : Nat) (l0 : List (S43)) (a1 : Int) (r : List (S43)) (w : World) (hr0 : Kd.C k43 w A0 l0.length l0) (hc0 : l0.length ≤ c0) (h : boltingref04_Moved.f k l0 a1 = some r) :
  Calls Try.prog 17 #[.slice A0 l0.length c0, .int .i64 a1] w fun e w' => ∃ v0_ : Value, e = .returned (v0_) ∧ Kd.S k43 43 w' w.heap.size (fun _ => True) v0_ r ∧ Below w.heap.size w w' := by
 have hu43 := Try.underlying43
 have HR0 := Aside0.mk hr0
 have HC0 := Aside0.mk hc0
 clear hr0 hc0
 have HB := Aside0.mk (Below.refl w.heap.size w)
 have H : (boltingref04_Moved.l0 k l0 a1 (([] : List (S43))) 0) = some r := h
 clear h
 obtain ⟨y288, hy288⟩ : ∃ y_ : List (S43), y_ = (([] : List (S43))) := ⟨_, rfl⟩
 replace H : (boltingref04_Moved.l0 k l0 a1 y288 0) = some r := by first | (rw [hy288]; with_reducible exact H) | (have H2_ := (Option.bind_some _ _).symm.trans H; rw [hy288]; with_reducible exact H2_) | (have H2_ := (Option.bind_some _ _).symm.trans H; with_reducible exact H2_) | with_reducible exact H | (rw [hy288]; exact H) | exact H
 have Ny288 := Aside0.mk hy288
 clear hy288
 have H' := Aside0.mk H
 clear H
 go_enter Try.func17, Try.ntmps17
 go_wp2_with (first | ((with_reducible refine gate_dst (N := 8) rfl ?_); refine Kd.S_lit k43 _ 43 ?hg (N := 8) ?hd (xs := ([] : List (S43))) (inner := []) (ok := fun _ => True) (okp := fun _ => True) ?hr ?hp (fun _ hk => hk) trivial (Below.refl _ _) (Nat.le_refl _) (by simp) ?_; (case hd => rfl); (case hg => rfl); (case hr => first | (go_simp; done) | (go_simp; rfl)); (case hp => exact (Reps.none _ _)); intro v289 w3 ho4 hb hg_ hnew_; clear hg_ hnew_; (first | rw [← Ny288.out] at ho4 | (simp only [Int.reduceToNat] at ho4; rw [← Ny288.out] at ho4)); have n0_ := Aside0.mk (Kd.S_lower ho4 (below_size (aB HB))); have n1_ := Aside0.mk (below_step (aB HB) hb); clear HB; have HO290 := n0_; have HB := n1_; clear n0_ n1_; clear hb ho4))
 go_loopg [5, 6] k (fun kq v5 v6 w' => ∃ (x5_1 : List (S43)) (x6_1 : Int), v6 = .int .i64 x6_1 ∧ Aside0 (boltingref04_Moved.l0 kq l0 a1 x5_1 x6_1 = some r) ∧ Aside0 (kq ≤ k) ∧ Aside0 (Kd.S k43 43 w' w.heap.size (fun _ => True) v5 x5_1) ∧ Aside0 (Below w.heap.size w w'))
 case atStart => exact ⟨(y288), (0), aE, H', ⟨Nat.le_refl _⟩, ⟨by (with_reducible repeat (first | apply Kd.S_alloc | apply Kd.S_drewN | apply Kd.S_drew)); exact HO290.out⟩, ⟨aB HB⟩⟩
 case round =>
  clear H'
  try clear c1
  try clear p2
  obtain ⟨x5_1, x6_1, rfl, HA, HK1, HO_5, HB⟩ := hrel
  cases gk with
  | zero => exact absurd HA.out (by simp [boltingref04_Moved.l0])
  | succ k1 =>
   have H := HA.out
   clear HA
   simp only [boltingref04_Moved.l0] at H
   by_cases c5 : x6_1 < (l0.length : Int)
   ·rw [if_pos c5] at H
    have c5b0 : decide (x6_1 < (l0.length : Int)) = true := decide_eq_true c5
    clear c5
    by_cases c6 : 0 ≤ x6_1
    ·rw [if_pos c6] at H
     have c6b0 : decide (0 ≤ x6_1) = true := decide_eq_true c6
     clear c6
     obtain ⟨y293, hy293⟩ : ∃ y_ : List (S46), y_ = (([] : List (S46))) := ⟨_, rfl⟩
     replace H : (if y293.length + ((rd_T43 l0 x6_1).f4).length < 4398046511104 then (if x5_1.length < 1954687338268 then (boltingref04_Moved.l0 k1 l0 a1 (x5_1 ++ [(⟨wrap64 (((rd_T43 l0 x6_1).f0) + a1), (rd_T43 l0 x6_1).f1, (rd_T43 l0 x6_1).f2, (rd_T43 l0 x6_1).f3, (y293 ++ ((rd_T43 l0 x6_1).f4))⟩ : S43)]) (wrap64 (x6_1 + 1))) else (none)) else (none)) = some r := by first | (rw [hy293]; with_reducible exact H) | (have H2_ := (Option.bind_some _ _).symm.trans H; rw [hy293]; with_reducible exact H2_) | (have H2_ := (Option.bind_some _ _).symm.trans H; with_reducible exact H2_) | with_reducible exact H | (rw [hy293]; exact H) | exact H
     have Ny293 := Aside0.mk hy293
     clear hy293
     by_cases c7 : y293.length + ((rd_T43 l0 x6_1).f4).length < 4398046511104
     ·rw [if_pos c7] at H
      have LMc7 := Aside0.mk c7
      clear c7
      obtain ⟨y296, hy296⟩ : ∃ y_ : List (S46), y_ = (y293 ++ ((rd_T43 l0 x6_1).f4)) := ⟨_, rfl⟩
      replace H : (if x5_1.length < 1954687338268 then (boltingref04_Moved.l0 k1 l0 a1 (x5_1 ++ [(⟨wrap64 (((rd_T43 l0 x6_1).f0) + a1), (rd_T43 l0 x6_1).f1, (rd_T43 l0 x6_1).f2, (rd_T43 l0 x6_1).f3, y296⟩ : S43)]) (wrap64 (x6_1 + 1))) else (none)) = some r := by first | (rw [hy296]; with_reducible exact H) | (have H2_ := (Option.bind_some _ _).symm.trans H; rw [hy296]; with_reducible exact H2_) | (have H2_ := (Option.bind_some _ _).symm.trans H; with_reducible exact H2_) | with_reducible exact H | (rw [hy296]; exact H) | exact H
      have Ny296 := Aside0.mk hy296
      clear hy296
      by_cases c8 : x5_1.length < 1954687338268
      ·rw [if_pos c8] at H
       have LMc8 := Aside0.mk c8
       clear c8
       obtain ⟨y299, hy299⟩ : ∃ y_ : List (S43), y_ = (x5_1 ++ [(⟨wrap64 (((rd_T43 l0 x6_1).f0) + a1), (rd_T43 l0 x6_1).f1, (rd_T43 l0 x6_1).f2, (rd_T43 l0 x6_1).f3, y296⟩ : S43)]) := ⟨_, rfl⟩
       replace H : (boltingref04_Moved.l0 k1 l0 a1 y299 (wrap64 (x6_1 + 1))) = some r := by first | (rw [hy299]; with_reducible exact H) | (have H2_ := (Option.bind_some _ _).symm.trans H; rw [hy299]; with_reducible exact H2_) | (have H2_ := (Option.bind_some _ _).symm.trans H; with_reducible exact H2_) | with_reducible exact H | (rw [hy299]; exact H) | exact H
       have Ny299 := Aside0.mk hy299
       clear hy299
       have H' := Aside0.mk H
       clear H
       have p291 : 0 ≤ (x6_1 : Int) := of_decide_eq_true aA
       have q291 : x6_1 < (l0.length : Int) := of_decide_eq_true aA
       obtain ⟨ad291, A291_4, c291_4, e291, hx291_0, hx291_1, hx291_2, hx291_3, hx291_4, hl291_4, hi291_4⟩ := at_T43 HR0.out x6_1 p291 q291
       cases e291
       replace hx291_0 := (HB.out.cell (World.block_lt_of_cell? w _ hx291_0)).trans hx291_0
       replace hx291_1 := (HB.out.cell (World.block_lt_of_cell? w _ hx291_1)).trans hx291_1
       replace hx291_2 := (HB.out.cell (World.block_lt_of_cell? w _ hx291_2)).trans hx291_2
       replace hx291_3 := (HB.out.cell (World.block_lt_of_cell? w _ hx291_3)).trans hx291_3
       replace hx291_4 := (HB.out.cell (World.block_lt_of_cell? w _ hx291_4)).trans hx291_4
       have HR291_4 := Aside0.mk hi291_4
       have HC291_4 := Aside0.mk hl291_4
       clear hi291_4 hl291_4
       replace p291 := eq_true p291
       replace q291 := eq_true q291
       go_wp2_with (first | ((with_reducible refine gate_dst (N := 7) rfl ?_); refine box_event ?hg (N := 7) ?hd (cs := #[.int .i64 0, .int .i64 0, .string (⟨#[]⟩ : ByteArray), .string (⟨#[]⟩ : ByteArray), .slice none 0 0]) (t := 43) ?hr ?_; (case hd => rfl); (case hg => rfl); (case hr => first | (go_simp; done) | (go_simp; rfl)); intro gb292 hg w9 hbox hb; have n0_ := Aside0.mk (Kd.S_below (Kd.S_elderB (by (with_reducible repeat (first | apply Kd.S_alloc | apply Kd.S_drewN | apply Kd.S_drew)); exact HO_5.out) gb292 (Nat.le_of_eq hg.symm)) hb); have n1_ := Aside0.mk (below_step (aB HB) hb); have n2_ := Aside0.mk (hbox); have n3_ := Aside0.mk ((by rw [hg]; exact (below_size (aB HB)) : w.heap.size ≤ gb292)); have n4_ := Aside0.mk ((by rw [hg]; exact (below_size (aB HB)) : w.heap.size ≤ gb292)); clear HO_5; clear HB; have HO_5 := n0_; have HB := n1_; have BK292 := n2_; have GW292 := n3_; have GE292 := n4_; clear n0_ n1_ n2_ n3_ n4_; clear hb hbox hg; have hcz10_0 : w9.cell? ⟨gb292, 0, none⟩ = some (.int .i64 0) := (blk_cell BK292.out 0).trans rfl; have hcz10_1 : w9.cell? ⟨gb292, 1, none⟩ = some (.int .i64 0) := (blk_cell BK292.out 1).trans rfl; have hcz10_2 : w9.cell? ⟨gb292, 2, none⟩ = some (.string (⟨#[]⟩ : ByteArray)) := (blk_cell BK292.out 2).trans rfl; have hcz10_3 : w9.cell? ⟨gb292, 3, none⟩ = some (.string (⟨#[]⟩ : ByteArray)) := (blk_cell BK292.out 3).trans rfl; have hcz10_4 : w9.cell? ⟨gb292, 4, none⟩ = some (.slice none 0 0) := (blk_cell BK292.out 4).trans rfl; have hfz10_0 := blk_frozen BK292.out 0; have hfz10_1 := blk_frozen BK292.out 1; have hfz10_2 := blk_frozen BK292.out 2; have hfz10_3 := blk_frozen BK292.out 3; have hfz10_4 := blk_frozen BK292.out 4) | ((with_reducible refine gate_dst (N := 24) rfl ?_); refine Kd.R_lit k46 _ 46 ?hg (N := 24) ?hd (xs := ([] : List (S46))) (inner := []) (ok := fun _ => True) (okp := fun _ => True) ?hr ?hp (fun _ hk => hk) trivial (Below.refl _ _) (Nat.le_refl _) (by simp) ?_; (case hd => rfl); (case hg => rfl); (case hr => first | (go_simp; done) | (go_simp; rfl)); (case hp => exact (Reps.none _ _)); intro v294 w11 ho12 hb hg_ hnew_; clear hg_ hnew_; (first | rw [← Ny293.out] at ho12 | (simp only [Int.reduceToNat] at ho12; rw [← Ny293.out] at ho12)); have n0_ := Aside0.mk (Kd.S_elder' (by (with_reducible repeat (first | apply Kd.S_alloc | apply Kd.S_drewN | apply Kd.S_drew)); exact (Kd.S_mono (Kd.S_far (p := ⟨gb292, 0, none⟩) (Kd.S_far (p := ⟨gb292, 4, none⟩) (Kd.S_far (p := ⟨gb292, 3, none⟩) (Kd.S_far (p := ⟨gb292, 2, none⟩) (Kd.S_far (p := ⟨gb292, 1, none⟩) (Kd.S_far (p := ⟨gb292, 0, none⟩) (Kd.S_mono HO_5.out (fun k_ hk => (⟨hk, hk.2⟩ : _ ∧ k_ ≠ gb292))) (fun _ hk => hk.2) (.int .i64 ((rd_T43 l0 x6_1).f0))) (fun _ hk => hk.2) (.int .i64 ((rd_T43 l0 x6_1).f1))) (fun _ hk => hk.2) (.string ((rd_T43 l0 x6_1).f2))) (fun _ hk => hk.2) (.string ((rd_T43 l0 x6_1).f3))) (fun _ hk => hk.2) (.slice A291_4 ((rd_T43 l0 x6_1).f4).length c291_4)) (fun _ hk => hk.2) (.int .i64 (wrap64 (((rd_T43 l0 x6_1).f0) + a1)))) (fun _ h_ => h_.1))) (Kd.R_base ho12) hb); have n1_ := Aside0.mk (Kd.R_lower ho12 (below_size (by repeat (first | (with_reducible first | exact HB.out | apply below_alloc | apply pw_below_drewN | apply below_drew1 | refine below_set ?_ GE292.out) | exact HB.out)))); have n2_ := Aside0.mk (blk_below (g := gb292) (o := .cells #[.int .i64 (wrap64 (((rd_T43 l0 x6_1).f0) + a1)), .int .i64 ((rd_T43 l0 x6_1).f1), .string ((rd_T43 l0 x6_1).f2), .string ((rd_T43 l0 x6_1).f3), .slice A291_4 ((rd_T43 l0 x6_1).f4).length c291_4] 43 (0, 0)) (by (with_reducible repeat (first | refine blk_drewN ?_ _ | refine blk_drew ?_ | refine blk_alloc ?_ _)); refine blk_put (cs := #[.int .i64 ((rd_T43 l0 x6_1).f0), .int .i64 ((rd_T43 l0 x6_1).f1), .string ((rd_T43 l0 x6_1).f2), .string ((rd_T43 l0 x6_1).f3), .slice A291_4 ((rd_T43 l0 x6_1).f4).length c291_4]) ?_ 0 _ rfl; (with_reducible repeat (first | refine blk_drewN ?_ _ | refine blk_drew ?_ | refine blk_alloc ?_ _)); refine blk_put (cs := #[.int .i64 ((rd_T43 l0 x6_1).f0), .int .i64 ((rd_T43 l0 x6_1).f1), .string ((rd_T43 l0 x6_1).f2), .string ((rd_T43 l0 x6_1).f3), .slice none 0 0]) ?_ 4 _ rfl; (with_reducible repeat (first | refine blk_drewN ?_ _ | refine blk_drew ?_ | refine blk_alloc ?_ _)); refine blk_put (cs := #[.int .i64 ((rd_T43 l0 x6_1).f0), .int .i64 ((rd_T43 l0 x6_1).f1), .string ((rd_T43 l0 x6_1).f2), .string (⟨#[]⟩ : ByteArray), .slice none 0 0]) ?_ 3 _ rfl; (with_reducible repeat (first | refine blk_drewN ?_ _ | refine blk_drew ?_ | refine blk_alloc ?_ _)); refine blk_put (cs := #[.int .i64 ((rd_T43 l0 x6_1).f0), .int .i64 ((rd_T43 l0 x6_1).f1), .string (⟨#[]⟩ : ByteArray), .string (⟨#[]⟩ : ByteArray), .slice none 0 0]) ?_ 2 _ rfl; (with_reducible repeat (first | refine blk_drewN ?_ _ | refine blk_drew ?_ | refine blk_alloc ?_ _)); refine blk_put (cs := #[.int .i64 ((rd_T43 l0 x6_1).f0), .int .i64 0, .string (⟨#[]⟩ : ByteArray), .string (⟨#[]⟩ : ByteArray), .slice none 0 0]) ?_ 1 _ rfl; (with_reducible repeat (first | refine blk_drewN ?_ _ | refine blk_drew ?_ | refine blk_alloc ?_ _)); refine blk_put (cs := #[.int .i64 0, .int .i64 0, .string (⟨#[]⟩ : ByteArray), .string (⟨#[]⟩ : ByteArray), .slice none 0 0]) ?_ 0 _ rfl; (with_reducible repeat (first | refine blk_drewN ?_ _ | refine blk_drew ?_ | refine blk_alloc ?_ _)); exact BK292.out) hb); have n3_ := Aside0.mk (below_step (by repeat (first | (with_reducible first | exact HB.out | apply below_alloc | apply pw_below_drewN | apply below_drew1 | refine below_set ?_ GE292.out) | exact HB.out)) hb); clear HO_5; clear BK292; clear HB; have HO_5 := n0_; have HO295 := n1_; have BK292 := n2_; have HB := n3_; clear n0_ n1_ n2_ n3_; clear hb ho12; have hcz13_0 : w11.cell? ⟨gb292, 0, none⟩ = some (.int .i64 (wrap64 (((rd_T43 l0 x6_1).f0) + a1))) := (blk_cell BK292.out 0).trans rfl; have hcz13_1 : w11.cell? ⟨gb292, 1, none⟩ = some (.int .i64 ((rd_T43 l0 x6_1).f1)) := (blk_cell BK292.out 1).trans rfl; have hcz13_2 : w11.cell? ⟨gb292, 2, none⟩ = some (.string ((rd_T43 l0 x6_1).f2)) := (blk_cell BK292.out 2).trans rfl; have hcz13_3 : w11.cell? ⟨gb292, 3, none⟩ = some (.string ((rd_T43 l0 x6_1).f3)) := (blk_cell BK292.out 3).trans rfl; have hcz13_4 : w11.cell? ⟨gb292, 4, none⟩ = some (.slice A291_4 ((rd_T43 l0 x6_1).f4).length c291_4) := (blk_cell BK292.out 4).trans rfl; have hfz13_0 := blk_frozen BK292.out 0; have hfz13_1 := blk_frozen BK292.out 1; have hfz13_2 := blk_frozen BK292.out 2; have hfz13_3 := blk_frozen BK292.out 3; have hfz13_4 := blk_frozen BK292.out 4) | ((with_reducible refine gate_builtin (b := .append) (xs := #[.tmp 24, .tmp 26]) rfl ?_); at_builtin; refine Kd.R_append_rows k46 (w0 := w) w.heap.size rfl (.tmp 24) (.tmp 26) 41 46 (.agg #[(.string ⟨#[]⟩), (.string ⟨#[]⟩)]) 32 rfl Try.underlying41 info46 rfl (by decide) (by omega) v294 y293 ((rd_T43 l0 x6_1).f4) _ _ _ (fun _ => True) (fun _ => False) rfl rfl ?aO ?aR (fun _ _ h => h) (fun _ h => h.elim) ?aF ?aB ?aS ?aL ?_; (case aR => repeat (first | exact (Kd.C_below HR291_4.out HB.out) | (with_reducible refine Kd.C_alloc ?_ _) | (with_reducible refine Kd.C_drewN ?_ _) | (with_reducible refine Kd.C_drew ?_))); (case aB => exact (by repeat (first | (with_reducible first | exact HB.out | apply below_alloc | apply pw_below_drewN | apply below_drew1 | refine below_set ?_ GE292.out) | exact HB.out))); (case aF => exact (fun _ _ => trivial)); (case aO => exact (aR HO295)); (case aS => exact (below_size (by repeat (first | (with_reducible first | exact HB.out | apply below_alloc | apply pw_below_drewN | apply below_drew1 | refine below_set ?_ GE292.out) | exact HB.out)))); (case aL => have := LMc7.out; omega); intro v297 w14 ho hb hg hat; rw [← Ny296.out] at ho; have n0_ := Aside0.mk (Kd.S_after (ok := (fun k_ => k_ ≠ gb292)) (by (with_reducible repeat (first | apply Kd.S_alloc | apply Kd.S_drewN | apply Kd.S_drew)); exact Kd.S_mono HO_5.out (fun _ hk => ⟨hk.1.2, hk.2⟩)) hg hat); have n1_ := Aside0.mk (blk_grown (g := gb292) (o := .cells #[.int .i64 (wrap64 (((rd_T43 l0 x6_1).f0) + a1)), .int .i64 ((rd_T43 l0 x6_1).f1), .string ((rd_T43 l0 x6_1).f2), .string ((rd_T43 l0 x6_1).f3), .slice A291_4 ((rd_T43 l0 x6_1).f4).length c291_4] 43 (0, 0)) (aK BK292) hg (Kd.R_ne HO295.out BK292.out (by decide))); have n2_ := Aside0.mk (hb); have n3_ := Aside0.mk (ho); clear HO_5; clear BK292; clear HB; clear HO295; have HO_5 := n0_; have BK292 := n1_; have HB := n2_; have HO298 := n3_; clear n0_ n1_ n2_ n3_; clear ho hb hg hat; obtain ⟨Ao15, co15, eo15⟩ := Kd.R_slice HO298.out; subst eo15; have hcz16_0 : w14.cell? ⟨gb292, 0, none⟩ = some (.int .i64 (wrap64 (((rd_T43 l0 x6_1).f0) + a1))) := (blk_cell BK292.out 0).trans rfl; have hcz16_1 : w14.cell? ⟨gb292, 1, none⟩ = some (.int .i64 ((rd_T43 l0 x6_1).f1)) := (blk_cell BK292.out 1).trans rfl; have hcz16_2 : w14.cell? ⟨gb292, 2, none⟩ = some (.string ((rd_T43 l0 x6_1).f2)) := (blk_cell BK292.out 2).trans rfl; have hcz16_3 : w14.cell? ⟨gb292, 3, none⟩ = some (.string ((rd_T43 l0 x6_1).f3)) := (blk_cell BK292.out 3).trans rfl; have hcz16_4 : w14.cell? ⟨gb292, 4, none⟩ = some (.slice A291_4 ((rd_T43 l0 x6_1).f4).length c291_4) := (blk_cell BK292.out 4).trans rfl; have hfz16_0 := blk_frozen BK292.out 0; have hfz16_1 := blk_frozen BK292.out 1; have hfz16_2 := blk_frozen BK292.out 2; have hfz16_3 := blk_frozen BK292.out 3; have hfz16_4 := blk_frozen BK292.out 4) | ((with_reducible refine gate_store (t := 41) (p := 28) rfl ?_); refine store_event (t := 41) (p := 28) (v := ?vo_w17) (w1 := (w14.setCell ⟨gb292, 4, none⟩ (.slice Ao15 y296.length co15))) ?hg ?ho ?hn ?hr ?_; (case ho => rfl); (case hg => rfl); (case hn => rfl); (case hr => first | (go_simp; done) | (go_simp; rfl)); intro w17 hw; have n0_ : Aside0 (Kd.S k43 43 w17 w.heap.size (fun k_ => some k_ ≠ (.slice Ao15 y296.length co15 : Value).ownBlock ∧ k_ ≠ gb292) u5 x5_1) := ⟨(by rw [hw]; exact (by (with_reducible repeat (first | apply Kd.S_alloc | apply Kd.S_drewN | apply Kd.S_drew)); exact Kd.S_mono (Kd.S_far (p := ⟨gb292, 4, none⟩) (Kd.S_mono HO_5.out (fun k_ hk => (⟨hk, hk.1⟩ : _ ∧ k_ ≠ gb292))) (fun _ hk => hk.2) (.slice Ao15 y296.length co15)) (fun _ hk => ⟨hk.1.2, hk.1.1⟩)))⟩; have n1_ : Aside0 (Kd.R k46 46 w17 w.heap.size (fun _ => True) (.slice Ao15 y296.length co15) y296) := ⟨(by rw [hw]; exact (by (with_reducible repeat (first | apply Kd.R_alloc | apply Kd.R_drewN | apply Kd.R_drew)); exact Kd.R_mono (Kd.R_far (p := ⟨gb292, 4, none⟩) (Kd.R_types HO298.out BK292.out (by decide)) (fun _ hk => hk.2) (.slice Ao15 y296.length co15)) (fun _ hk => trivial)))⟩; have n2_ : Aside0 (w17.heap[gb292]? = some (.cells #[.int .i64 (wrap64 (((rd_T43 l0 x6_1).f0) + a1)), .int .i64 ((rd_T43 l0 x6_1).f1), .string ((rd_T43 l0 x6_1).f2), .string ((rd_T43 l0 x6_1).f3), .slice Ao15 y296.length co15] 43 (0, 0))) := ⟨(by rw [hw]; exact (by (with_reducible repeat (first | refine blk_drewN ?_ _ | refine blk_drew ?_ | refine blk_alloc ?_ _)); refine blk_put (cs := #[.int .i64 (wrap64 (((rd_T43 l0 x6_1).f0) + a1)), .int .i64 ((rd_T43 l0 x6_1).f1), .string ((rd_T43 l0 x6_1).f2), .string ((rd_T43 l0 x6_1).f3), .slice A291_4 ((rd_T43 l0 x6_1).f4).length c291_4]) ?_ 4 _ rfl; (with_reducible repeat (first | refine blk_drewN ?_ _ | refine blk_drew ?_ | refine blk_alloc ?_ _)); exact BK292.out))⟩; have n3_ : Aside0 (Below w.heap.size w w17) := ⟨(by rw [hw]; exact (by repeat (first | (with_reducible first | exact HB.out | apply below_alloc | apply pw_below_drewN | apply below_drew1 | refine below_set ?_ GE292.out) | exact HB.out)))⟩; clear hw; clear HO_5; clear HO298; clear BK292; clear HB; have HO_5 := n0_; have HO298 := n1_; have BK292 := n2_; have HB := n3_; clear n0_ n1_ n2_ n3_; have hcz18_0 : w17.cell? ⟨gb292, 0, none⟩ = some (.int .i64 (wrap64 (((rd_T43 l0 x6_1).f0) + a1))) := (blk_cell BK292.out 0).trans rfl; have hcz18_1 : w17.cell? ⟨gb292, 1, none⟩ = some (.int .i64 ((rd_T43 l0 x6_1).f1)) := (blk_cell BK292.out 1).trans rfl; have hcz18_2 : w17.cell? ⟨gb292, 2, none⟩ = some (.string ((rd_T43 l0 x6_1).f2)) := (blk_cell BK292.out 2).trans rfl; have hcz18_3 : w17.cell? ⟨gb292, 3, none⟩ = some (.string ((rd_T43 l0 x6_1).f3)) := (blk_cell BK292.out 3).trans rfl; have hcz18_4 : w17.cell? ⟨gb292, 4, none⟩ = some (.slice Ao15 y296.length co15) := (blk_cell BK292.out 4).trans rfl; have hfz18_0 := blk_frozen BK292.out 0; have hfz18_1 := blk_frozen BK292.out 1; have hfz18_2 := blk_frozen BK292.out 2; have hfz18_3 := blk_frozen BK292.out 3; have hfz18_4 := blk_frozen BK292.out 4) | ((with_reducible refine gate_builtin (b := .append) (xs := #[.tmp 29, .tmp 31]) rfl ?_); at_builtin; refine Kd.S_append k43 (w0 := w) w.heap.size rfl (.tmp 29) (.tmp 31) 22 43 (.agg #[(.int .i64 0), (.int .i64 0), (.string ⟨#[]⟩), (.string ⟨#[]⟩), (.slice none 0 0)]) 72 rfl Try.underlying22 info43 rfl (by decide) (by omega) u5 x5_1 (⟨wrap64 (((rd_T43 l0 x6_1).f0) + a1), (rd_T43 l0 x6_1).f1, (rd_T43 l0 x6_1).f2, (rd_T43 l0 x6_1).f3, y296⟩ : S43) [.int .i64 (wrap64 (((rd_T43 l0 x6_1).f0) + a1)), .int .i64 ((rd_T43 l0 x6_1).f1), .string ((rd_T43 l0 x6_1).f2), .string ((rd_T43 l0 x6_1).f3), .slice Ao15 y296.length co15] (fun k_ => k_ ≠ gb292) (fun k_ => some k_ = (.slice Ao15 y296.length co15 : Value).ownBlock) rfl rfl ?aP (fun k_ hk_ => ((Kd.R_mono (ok' := fun k_ => ((fun k_ => k_ ≠ gb292)) k_ ∧ some k_ ≠ (u5 : Value).ownBlock) (Kd.R_types (Kd.R_apart' (HO298.out) (Kd.S_typed HO_5.out) (by decide)) BK292.out (by decide)) (fun k_ hk => ⟨hk.2, hk.1.2⟩))).1 k_ hk_.symm) ?aF ?aO ?aB ?aS ?aL ?_; (case aP => exact k43_mkM _ _ _ (⟨wrap64 (((rd_T43 l0 x6_1).f0) + a1), (rd_T43 l0 x6_1).f1, (rd_T43 l0 x6_1).f2, (rd_T43 l0 x6_1).f3, y296⟩ : S43) (Kd.R_mono (Kd.R_tight rfl (Kd.R_mono (ok' := fun k_ => ((fun k_ => k_ ≠ gb292)) k_ ∧ some k_ ≠ (u5 : Value).ownBlock) (Kd.R_types (Kd.R_apart' (HO298.out) (Kd.S_typed HO_5.out) (by decide)) BK292.out (by decide)) (fun k_ hk => ⟨hk.2, hk.1.2⟩))) (fun _ h_ => h_))); (case aB => exact (by repeat (first | (with_reducible first | exact HB.out | apply below_alloc | apply pw_below_drewN | apply below_drew1 | refine below_set ?_ GE292.out) | exact HB.out))); (case aF => exact (fun k_ hk => Kd.freshB (g := gb292) (o := .cells #[.int .i64 (wrap64 (((rd_T43 l0 x6_1).f0) + a1)), .int .i64 ((rd_T43 l0 x6_1).f1), .string ((rd_T43 l0 x6_1).f2), .string ((rd_T43 l0 x6_1).f3), .slice Ao15 y296.length co15] 43 (0, 0)) (aK BK292) k_ hk)); (case aO => exact (by (with_reducible repeat (first | apply Kd.S_alloc | apply Kd.S_drewN | apply Kd.S_drew)); exact Kd.S_mono HO_5.out (fun k_ hk => ⟨hk.2, fun e_ => hk.1 e_⟩))); (case aS => exact (below_size (by repeat (first | (with_reducible first | exact HB.out | apply below_alloc | apply pw_below_drewN | apply below_drew1 | refine below_set ?_ GE292.out) | exact HB.out)))); (case aL => have := LMc8.out; omega); intro v300 w19 ho hb hg hat; rw [← Ny299.out] at ho; have n0_ := Aside0.mk (blk_grown (g := gb292) (o := .cells #[.int .i64 (wrap64 (((rd_T43 l0 x6_1).f0) + a1)), .int .i64 ((rd_T43 l0 x6_1).f1), .string ((rd_T43 l0 x6_1).f2), .string ((rd_T43 l0 x6_1).f3), .slice Ao15 y296.length co15] 43 (0, 0)) (aK BK292) hg (Kd.S_away HO_5.out (fun _ hk => hk.2))); have n1_ := Aside0.mk (hb); have n2_ := Aside0.mk (ho); clear BK292; clear HB; clear HO_5; clear HO298; have BK292 := n0_; have HB := n1_; have HO301 := n2_; clear n0_ n1_ n2_; clear ho hb hg hat))
       go_roundg k1
       case measure => have := HK1.out; omega
       case rel => exact ⟨(y299), (wrap64 (x6_1 + 1)), aE, H', ⟨by have := HK1.out; omega⟩, ⟨by (with_reducible repeat (first | apply Kd.S_alloc | apply Kd.S_drewN | apply Kd.S_drew)); exact Kd.S_mono HO301.out (fun _ hk => trivial)⟩, ⟨by repeat (first | (with_reducible first | exact HB.out | apply below_alloc | apply pw_below_drewN | apply below_drew1 | refine below_set ?_ GE292.out) | exact HB.out)⟩⟩
      ·rw [if_neg c8] at H
       exact absurd H (by simp)
     ·rw [if_neg c7] at H
      exact absurd H (by simp)
    ·rw [if_neg c6] at H
     exact absurd H (by simp)
   ·rw [if_neg c5] at H
    have c5b0 : decide (x6_1 < (l0.length : Int)) = false := decide_eq_false c5
    clear c5
    obtain rfl := Option.some.inj H
    go_wp2
    go_ret
    exact ⟨_, by first | rfl | (simp [errW_none, errW_some] <;> rfl) | (simp [*, errW_none, errW_some] <;> rfl), by (with_reducible repeat (first | apply Kd.S_alloc | apply Kd.S_drewN | apply Kd.S_drew)); exact HO_5.out, aB HB⟩

end Go.Proofs.Ytllggaogjcknoaa.QA
