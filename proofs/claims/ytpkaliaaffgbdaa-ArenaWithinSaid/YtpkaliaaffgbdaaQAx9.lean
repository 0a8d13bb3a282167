-- Written by a program of this claim's own (wip/gen/gen.py), out of the translation; an ordinary proof text.
import Derived.Test.YtpkaliaaffgbdaaQAx0
import Derived.Test.YtpkaliaaffgbdaaQAx7
import Derived.Test.YtpkaliaaffgbdaaQAx8
namespace Go.Proofs.Ytpkaliaaffgbdaa.QA
open Go.RowKit Go.Proofs.YtpkaliaaffgbdaaW.PrintWords Go.Proofs.YtpkaliaaffgbdaaW.PrintLast Go.Proofs.YtpkaliaaffgbdaaW.PrintMore
attribute [local go_sem] max2_int min2_int max_two min_two max_three min_three max_four min_four   -- for this text's walks alone
set_option linter.unusedVariables false
set_option linter.unusedSimpArgs false

/-! ### boltingref04_Right: function 88 -/
mutual
def boltingref04_Right.l0 : Nat → List (S54) → Int → Option (Bool)
 | 0, _, _ => none
 | k + 1, x0, x3 => if x3 < (x0.length : Int) then (if 0 ≤ x3 then ((boltingref04_Row.f k ((rd_T54 x0 x3).f0) ((rd_T54 x0 x3).f1) ((rd_T54 x0 x3).f2) ((rd_T54 x0 x3).f3) ((rd_T54 x0 x3).f4)).bind fun t245 => (if t245 = true then (if ((rd_T54 x0 x3).f0) < 0 then (boltingref04_Right.j1 k x0 x3 ((rd_T54 x0 x3).f0) true) else (if x3 = 0 then (boltingref04_Right.j1 k x0 x3 ((rd_T54 x0 x3).f0) (((rd_T54 x0 x3).f0) != 0)) else (boltingref04_Right.j1 k x0 x3 ((rd_T54 x0 x3).f0) false))) else (boltingref04_Right.j1 k x0 x3 ((rd_T54 x0 x3).f0) true))) else (none)) else (some true)
def boltingref04_Right.j1 : Nat → List (S54) → Int → Int → Bool → Option (Bool)
 | 0, _, _, _, _ => none
 | k + 1, x0, x3, x4, x33 => if x33 = true then (some false) else (if x3 > 0 then (if 0 ≤ (wrap64 (x3 - 1)) then (if (wrap64 (x3 - 1)) < (x0.length : Int) then (if x4 > (wrap64 (((rd_T54 x0 (wrap64 (x3 - 1))).f0) + 1)) then (some false) else (if x4 = (wrap64 (((rd_T54 x0 (wrap64 (x3 - 1))).f0) + 1)) then (if ((rd_T54 x0 (wrap64 (x3 - 1))).f1) = 0 then (boltingref04_Right.l0 k x0 (wrap64 (x3 + 1))) else (some false)) else (boltingref04_Right.l0 k x0 (wrap64 (x3 + 1))))) else (none)) else (none)) else (boltingref04_Right.l0 k x0 (wrap64 (x3 + 1))))
end
def boltingref04_Right.f (k : Nat) (l0 : List (S54)) : Option (Bool) := boltingref04_Right.l0 k l0 0
theorem boltingref04_Right.mono_l : ∀ k, (∀ y0 y1, LeO (boltingref04_Right.l0 k y0 y1) (boltingref04_Right.l0 (k + 1) y0 y1)) ∧ (∀ y0 y1 y2 y3, LeO (boltingref04_Right.j1 k y0 y1 y2 y3) (boltingref04_Right.j1 (k + 1) y0 y1 y2 y3))
 | 0 => ⟨fun _ _ r h => by simp [boltingref04_Right.l0] at h, fun _ _ _ _ r h => by simp [boltingref04_Right.j1] at h⟩
 | k + 1 => by
  obtain ⟨ih0, ih1⟩ := boltingref04_Right.mono_l k
  refine ⟨?_, ?_⟩
  ·intro y0 y1
   unfold boltingref04_Right.l0
   repeat' first
   | (with_reducible exact ih0 _ _)
   | (with_reducible exact ih1 _ _ _ _)
   | (with_reducible exact boltingref04_Row.mono _ _ _ _ _ _)
   | (with_reducible exact LeO.refl _)
   | (with_reducible exact LeO.none _)
   | (with_reducible refine LeO.ite ?_ ?_)
   | (with_reducible refine LeO.bind ?_ (fun _ => ?_))
   | exact ih0 _ _
   | exact ih1 _ _ _ _
   | exact boltingref04_Row.mono _ _ _ _ _ _
   | exact LeO.none _
   | refine LeO.ite ?_ ?_
   | refine LeO.bind ?_ (fun _ => ?_)
  ·intro y0 y1 y2 y3
   unfold boltingref04_Right.j1
   repeat' first
   | (with_reducible exact ih0 _ _)
   | (with_reducible exact ih1 _ _ _ _)
   | (with_reducible exact boltingref04_Row.mono _ _ _ _ _ _)
   | (with_reducible exact LeO.refl _)
   | (with_reducible exact LeO.none _)
   | (with_reducible refine LeO.ite ?_ ?_)
   | (with_reducible refine LeO.bind ?_ (fun _ => ?_))
   | exact ih0 _ _
   | exact ih1 _ _ _ _
   | exact boltingref04_Row.mono _ _ _ _ _ _
   | exact LeO.none _
   | refine LeO.ite ?_ ?_
   | refine LeO.bind ?_ (fun _ => ?_)
theorem boltingref04_Right.mono : ∀ a0 k, LeO (boltingref04_Right.f k a0) (boltingref04_Right.f (k + 1) a0) := by
 intro a0 k
 obtain ⟨ih0, ih1⟩ := boltingref04_Right.mono_l k
 unfold boltingref04_Right.f
 repeat' first
   | (with_reducible exact ih0 _ _)
   | (with_reducible exact ih1 _ _ _ _)
   | (with_reducible exact boltingref04_Row.mono _ _ _ _ _ _)
   | (with_reducible exact LeO.refl _)
   | (with_reducible exact LeO.none _)
   | (with_reducible refine LeO.ite ?_ ?_)
   | (with_reducible refine LeO.bind ?_ (fun _ => ?_))
   | exact ih0 _ _
   | exact ih1 _ _ _ _
   | exact boltingref04_Row.mono _ _ _ _ _ _
   | exact LeO.none _
   | refine LeO.ite ?_ ?_
   | refine LeO.bind ?_ (fun _ => ?_)
set_option maxHeartbeats 8000000 in
set_option maxRecDepth 100000 in
theorem boltingref04_Right.calls (k : Nat) (A0 : Option Addr) (c0 : Nat) (l0 : List (S54)) (r : Bool) (w : World) (hr0 : Kd.C k54 w A0 l0.length l0) (hc0 : l0.length ≤ c0) (h : boltingref04_Right.f k l0 = some r) :
  Calls Try.prog 88 #[.slice A0 l0.length c0] w fun e w' => e = .returned (.bool r) ∧ Below w.heap.size w w' := by
 have hu54 := Try.underlying54
 have HR0 := Aside0.mk hr0
 have HC0 := Aside0.mk hc0
 clear hr0 hc0
 have HB := Aside0.mk (Below.refl w.heap.size w)
 have H : (boltingref04_Right.l0 k l0 0) = some r := h
 clear h
 have H' := Aside0.mk H
 clear H
 go_enter Try.func88, Try.ntmps88
 go_wp2
 go_loopg [3] k (fun kq v3 w' => ∃ (x3_1 : Int), v3 = .int .i64 x3_1 ∧ Aside0 (boltingref04_Right.l0 kq l0 x3_1 = some r) ∧ Aside0 (kq ≤ k) ∧ Aside0 (Below w.heap.size w w'))
 case atStart => exact ⟨(0), aE, H', ⟨Nat.le_refl _⟩, ⟨aB HB⟩⟩
 case round =>
  clear H'
  obtain ⟨x3_1, rfl, HA, HK1, HB⟩ := hrel
  cases gk with
  | zero => exact absurd HA.out (by simp [boltingref04_Right.l0])
  | succ k1 =>
   have H := HA.out
   clear HA
   simp only [boltingref04_Right.l0] at H
   by_cases c2 : x3_1 < (l0.length : Int)
   ·rw [if_pos c2] at H
    have c2b0 : decide (x3_1 < (l0.length : Int)) = true := decide_eq_true c2
    clear c2
    by_cases c3 : 0 ≤ x3_1
    ·rw [if_pos c3] at H
     have c3b0 : decide (0 ≤ x3_1) = true := decide_eq_true c3
     clear c3
     have HC4 := Aside0.mk H
     clear H
     have p243 : 0 ≤ (x3_1 : Int) := of_decide_eq_true aA
     have q243 : x3_1 < (l0.length : Int) := of_decide_eq_true aA
     obtain ⟨ad243, A243_4, c243_4, e243, hx243_0, hx243_1, hx243_2, hx243_3, hx243_4, hl243_4, hi243_4⟩ := at_T54 HR0.out x3_1 p243 q243
     have hy243_4 := Aside0.mk hx243_4
     cases e243
     replace hx243_0 := (HB.out.cell (World.block_lt_of_cell? w _ hx243_0)).trans hx243_0
     replace hx243_1 := (HB.out.cell (World.block_lt_of_cell? w _ hx243_1)).trans hx243_1
     replace hx243_2 := (HB.out.cell (World.block_lt_of_cell? w _ hx243_2)).trans hx243_2
     replace hx243_3 := (HB.out.cell (World.block_lt_of_cell? w _ hx243_3)).trans hx243_3
     replace hx243_4 := (HB.out.cell (World.block_lt_of_cell? w _ hx243_4)).trans hx243_4
     have HR243_4 := Aside0.mk hi243_4
     have HC243_4 := Aside0.mk hl243_4
     clear hi243_4 hl243_4
     replace p243 := eq_true p243
     replace q243 := eq_true q243
     go_upto_region 5 with (fail)
     go_cut [33] (fun v33 wc => ∃ (kq : Nat) (x33_3 : Bool), v33 = .bool x33_3 ∧ Aside0 (boltingref04_Right.j1 kq l0 x3_1 ((rd_T54 l0 x3_1).f0) x33_3 = some r) ∧ Aside0 (kq ≤ k1) ∧ Aside0 (Below w.heap.size w wc))
     case first =>
      have H := HC4.out
      clear HC4
      replace H := Option.bind_eq_some_iff.mp H
      obtain ⟨t245, A50, H⟩ := H
      replace H : (if t245 = true then (if ((rd_T54 l0 x3_1).f0) < 0 then (boltingref04_Right.j1 k1 l0 x3_1 ((rd_T54 l0 x3_1).f0) true) else (if x3_1 = 0 then (boltingref04_Right.j1 k1 l0 x3_1 ((rd_T54 l0 x3_1).f0) (((rd_T54 l0 x3_1).f0) != 0)) else (boltingref04_Right.j1 k1 l0 x3_1 ((rd_T54 l0 x3_1).f0) false))) else (boltingref04_Right.j1 k1 l0 x3_1 ((rd_T54 l0 x3_1).f0) true)) = some r := H
      have A5 := Aside0.mk A50
      clear A50
      by_cases c6 : t245 = true
      ·subst c6
       have H1 : (if ((rd_T54 l0 x3_1).f0) < 0 then (boltingref04_Right.j1 k1 l0 x3_1 ((rd_T54 l0 x3_1).f0) true) else (if x3_1 = 0 then (boltingref04_Right.j1 k1 l0 x3_1 ((rd_T54 l0 x3_1).f0) (((rd_T54 l0 x3_1).f0) != 0)) else (boltingref04_Right.j1 k1 l0 x3_1 ((rd_T54 l0 x3_1).f0) false))) = some r := by rw [if_pos rfl] at H; exact H
       clear H
       have H := H1
       clear H1
       by_cases c7 : ((rd_T54 l0 x3_1).f0) < 0
       ·rw [if_pos c7] at H
        have c7b0 : decide (((rd_T54 l0 x3_1).f0) < 0) = true := decide_eq_true c7
        clear c7
        (first | rw [c7b0] | (simp only [i64_w, i32_w]; rw [c7b0]) | skip)
        have H' := Aside0.mk H
        clear H
        have p244 : 0 ≤ (x3_1 : Int) := of_decide_eq_true aA
        have q244 : x3_1 < (l0.length : Int) := of_decide_eq_true aA
        obtain ⟨ad244, B244_4, d244_4, e244, hx244_0, hx244_1, hx244_2, hx244_3, hx244_4, hl244_4, hi244_4⟩ := at_T54 HR0.out x3_1 p244 q244
        obtain rfl : ad243 = ad244 := (by injection e244)
        obtain ⟨rfl, rfl⟩ : A243_4 = B244_4 ∧ c243_4 = d244_4 := by have h_ := hy243_4.out.symm.trans hx244_4; simpa using h_
        replace hx244_0 := (HB.out.cell (World.block_lt_of_cell? w _ hx244_0)).trans hx244_0
        replace hx244_1 := (HB.out.cell (World.block_lt_of_cell? w _ hx244_1)).trans hx244_1
        replace hx244_2 := (HB.out.cell (World.block_lt_of_cell? w _ hx244_2)).trans hx244_2
        replace hx244_3 := (HB.out.cell (World.block_lt_of_cell? w _ hx244_3)).trans hx244_3
        replace hx244_4 := (HB.out.cell (World.block_lt_of_cell? w _ hx244_4)).trans hx244_4
        have HR244_4 := Aside0.mk hi244_4
        have HC244_4 := Aside0.mk hl244_4
        clear hi244_4 hl244_4
        replace p244 := eq_true p244
        replace q244 := eq_true q244
        go_wp2_with (first | ((with_reducible refine gate_callee (f := 94) rfl ?_); refine goesL_ (some 20) rfl rfl Try.func94 (by kernel_rfl) rfl #[.agg #[.int .i64 ((rd_T54 l0 x3_1).f0), .int .i64 ((rd_T54 l0 x3_1).f1), .string ((rd_T54 l0 x3_1).f2), .string ((rd_T54 l0 x3_1).f3), .slice A243_4 ((rd_T54 l0 x3_1).f4).length c243_4]] rfl (by (try simp only [List.map_toArray, List.map_cons, List.map_nil]); first | done | rfl | (simp only [List.length_drop, List.length_take]; rfl)) ?_; (with_reducible refine (boltingref04_Row.calls k1 ((rd_T54 l0 x3_1).f0) ((rd_T54 l0 x3_1).f1) ((rd_T54 l0 x3_1).f2) ((rd_T54 l0 x3_1).f3) _ _ ((rd_T54 l0 x3_1).f4) true _ ?side1 ?side2 A5.out).mono ?_); (case side1 => exact aC (Kd.C_below HR244_4.out HB.out)); (case side2 => exact HC244_4.out); rintro e w8 ⟨rfl, hb⟩; refine ⟨_, rfl, ?_⟩; have n0_ := Aside0.mk (below_step (aB HB) hb); clear HB; have HB := n0_; clear n0_; (try clear hb); (try clear hb2); (try clear hk); (try clear hi)))
        go_meet
        case rel => exact ⟨_, (true), aE, H', ⟨by have := HK1.out; first | omega | exact Nat.le_refl _⟩, ⟨aB HB⟩⟩
       ·rw [if_neg c7] at H
        have c7b0 : decide (((rd_T54 l0 x3_1).f0) < 0) = false := decide_eq_false c7
        clear c7
        (first | rw [c7b0] | (simp only [i64_w, i32_w]; rw [c7b0]) | skip)
        by_cases c9 : x3_1 = 0
        ·rw [if_pos c9] at H
         have c9b0 : (x3_1 == 0) = true := beq_iff_eq.mpr c9
         have c9b1 : (x3_1 != 0) = false := bne_eq_false_iff_eq.mpr c9
         clear c9
         have H' := Aside0.mk H
         clear H
         have p244 : 0 ≤ (x3_1 : Int) := of_decide_eq_true aA
         have q244 : x3_1 < (l0.length : Int) := of_decide_eq_true aA
         obtain ⟨ad244, B244_4, d244_4, e244, hx244_0, hx244_1, hx244_2, hx244_3, hx244_4, hl244_4, hi244_4⟩ := at_T54 HR0.out x3_1 p244 q244
         obtain rfl : ad243 = ad244 := (by injection e244)
         obtain ⟨rfl, rfl⟩ : A243_4 = B244_4 ∧ c243_4 = d244_4 := by have h_ := hy243_4.out.symm.trans hx244_4; simpa using h_
         replace hx244_0 := (HB.out.cell (World.block_lt_of_cell? w _ hx244_0)).trans hx244_0
         replace hx244_1 := (HB.out.cell (World.block_lt_of_cell? w _ hx244_1)).trans hx244_1
         replace hx244_2 := (HB.out.cell (World.block_lt_of_cell? w _ hx244_2)).trans hx244_2
         replace hx244_3 := (HB.out.cell (World.block_lt_of_cell? w _ hx244_3)).trans hx244_3
         replace hx244_4 := (HB.out.cell (World.block_lt_of_cell? w _ hx244_4)).trans hx244_4
         have HR244_4 := Aside0.mk hi244_4
         have HC244_4 := Aside0.mk hl244_4
         clear hi244_4 hl244_4
         replace p244 := eq_true p244
         replace q244 := eq_true q244
         go_wp2_with (first | ((with_reducible refine gate_callee (f := 94) rfl ?_); refine goesL_ (some 20) rfl rfl Try.func94 (by kernel_rfl) rfl #[.agg #[.int .i64 ((rd_T54 l0 x3_1).f0), .int .i64 ((rd_T54 l0 x3_1).f1), .string ((rd_T54 l0 x3_1).f2), .string ((rd_T54 l0 x3_1).f3), .slice A243_4 ((rd_T54 l0 x3_1).f4).length c243_4]] rfl (by (try simp only [List.map_toArray, List.map_cons, List.map_nil]); first | done | rfl | (simp only [List.length_drop, List.length_take]; rfl)) ?_; (with_reducible refine (boltingref04_Row.calls k1 ((rd_T54 l0 x3_1).f0) ((rd_T54 l0 x3_1).f1) ((rd_T54 l0 x3_1).f2) ((rd_T54 l0 x3_1).f3) _ _ ((rd_T54 l0 x3_1).f4) true _ ?side1 ?side2 A5.out).mono ?_); (case side1 => exact aC (Kd.C_below HR244_4.out HB.out)); (case side2 => exact HC244_4.out); rintro e w10 ⟨rfl, hb⟩; refine ⟨_, rfl, ?_⟩; have n0_ := Aside0.mk (below_step (aB HB) hb); clear HB; have HB := n0_; clear n0_; (try clear hb); (try clear hb2); (try clear hk); (try clear hi)))
         go_meet
         case rel => exact ⟨_, ((((rd_T54 l0 x3_1).f0) != 0)), aE, H', ⟨by have := HK1.out; first | omega | exact Nat.le_refl _⟩, ⟨aB HB⟩⟩
        ·rw [if_neg c9] at H
         have c9b0 : (x3_1 == 0) = false := beq_eq_false_iff_ne.mpr c9
         have c9b1 : (x3_1 != 0) = true := bne_iff_ne.mpr c9
         have H' := Aside0.mk H
         clear H
         have p244 : 0 ≤ (x3_1 : Int) := of_decide_eq_true aA
         have q244 : x3_1 < (l0.length : Int) := of_decide_eq_true aA
         obtain ⟨ad244, B244_4, d244_4, e244, hx244_0, hx244_1, hx244_2, hx244_3, hx244_4, hl244_4, hi244_4⟩ := at_T54 HR0.out x3_1 p244 q244
         obtain rfl : ad243 = ad244 := (by injection e244)
         obtain ⟨rfl, rfl⟩ : A243_4 = B244_4 ∧ c243_4 = d244_4 := by have h_ := hy243_4.out.symm.trans hx244_4; simpa using h_
         replace hx244_0 := (HB.out.cell (World.block_lt_of_cell? w _ hx244_0)).trans hx244_0
         replace hx244_1 := (HB.out.cell (World.block_lt_of_cell? w _ hx244_1)).trans hx244_1
         replace hx244_2 := (HB.out.cell (World.block_lt_of_cell? w _ hx244_2)).trans hx244_2
         replace hx244_3 := (HB.out.cell (World.block_lt_of_cell? w _ hx244_3)).trans hx244_3
         replace hx244_4 := (HB.out.cell (World.block_lt_of_cell? w _ hx244_4)).trans hx244_4
         have HR244_4 := Aside0.mk hi244_4
         have HC244_4 := Aside0.mk hl244_4
         clear hi244_4 hl244_4
         replace p244 := eq_true p244
         replace q244 := eq_true q244
         go_wp2_with (first | ((with_reducible refine gate_callee (f := 94) rfl ?_); refine goesL_ (some 20) rfl rfl Try.func94 (by kernel_rfl) rfl #[.agg #[.int .i64 ((rd_T54 l0 x3_1).f0), .int .i64 ((rd_T54 l0 x3_1).f1), .string ((rd_T54 l0 x3_1).f2), .string ((rd_T54 l0 x3_1).f3), .slice A243_4 ((rd_T54 l0 x3_1).f4).length c243_4]] rfl (by (try simp only [List.map_toArray, List.map_cons, List.map_nil]); first | done | rfl | (simp only [List.length_drop, List.length_take]; rfl)) ?_; (with_reducible refine (boltingref04_Row.calls k1 ((rd_T54 l0 x3_1).f0) ((rd_T54 l0 x3_1).f1) ((rd_T54 l0 x3_1).f2) ((rd_T54 l0 x3_1).f3) _ _ ((rd_T54 l0 x3_1).f4) true _ ?side1 ?side2 A5.out).mono ?_); (case side1 => exact aC (Kd.C_below HR244_4.out HB.out)); (case side2 => exact HC244_4.out); rintro e w11 ⟨rfl, hb⟩; refine ⟨_, rfl, ?_⟩; have n0_ := Aside0.mk (below_step (aB HB) hb); clear HB; have HB := n0_; clear n0_; (try clear hb); (try clear hb2); (try clear hk); (try clear hi)))
         go_meet
         case rel => exact ⟨_, (false), aE, H', ⟨by have := HK1.out; first | omega | exact Nat.le_refl _⟩, ⟨aB HB⟩⟩
      ·replace c6 := Bool.eq_false_iff.mpr c6
       subst c6
       have H1 : (boltingref04_Right.j1 k1 l0 x3_1 ((rd_T54 l0 x3_1).f0) true) = some r := by rw [if_neg (show ¬ (false = true) by decide)] at H; exact H
       clear H
       have H := H1
       clear H1
       have H' := Aside0.mk H
       clear H
       have p244 : 0 ≤ (x3_1 : Int) := of_decide_eq_true aA
       have q244 : x3_1 < (l0.length : Int) := of_decide_eq_true aA
       obtain ⟨ad244, B244_4, d244_4, e244, hx244_0, hx244_1, hx244_2, hx244_3, hx244_4, hl244_4, hi244_4⟩ := at_T54 HR0.out x3_1 p244 q244
       obtain rfl : ad243 = ad244 := (by injection e244)
       obtain ⟨rfl, rfl⟩ : A243_4 = B244_4 ∧ c243_4 = d244_4 := by have h_ := hy243_4.out.symm.trans hx244_4; simpa using h_
       replace hx244_0 := (HB.out.cell (World.block_lt_of_cell? w _ hx244_0)).trans hx244_0
       replace hx244_1 := (HB.out.cell (World.block_lt_of_cell? w _ hx244_1)).trans hx244_1
       replace hx244_2 := (HB.out.cell (World.block_lt_of_cell? w _ hx244_2)).trans hx244_2
       replace hx244_3 := (HB.out.cell (World.block_lt_of_cell? w _ hx244_3)).trans hx244_3
       replace hx244_4 := (HB.out.cell (World.block_lt_of_cell? w _ hx244_4)).trans hx244_4
       have HR244_4 := Aside0.mk hi244_4
       have HC244_4 := Aside0.mk hl244_4
       clear hi244_4 hl244_4
       replace p244 := eq_true p244
       replace q244 := eq_true q244
       go_wp2_with (first | ((with_reducible refine gate_callee (f := 94) rfl ?_); refine goesL_ (some 20) rfl rfl Try.func94 (by kernel_rfl) rfl #[.agg #[.int .i64 ((rd_T54 l0 x3_1).f0), .int .i64 ((rd_T54 l0 x3_1).f1), .string ((rd_T54 l0 x3_1).f2), .string ((rd_T54 l0 x3_1).f3), .slice A243_4 ((rd_T54 l0 x3_1).f4).length c243_4]] rfl (by (try simp only [List.map_toArray, List.map_cons, List.map_nil]); first | done | rfl | (simp only [List.length_drop, List.length_take]; rfl)) ?_; (with_reducible refine (boltingref04_Row.calls k1 ((rd_T54 l0 x3_1).f0) ((rd_T54 l0 x3_1).f1) ((rd_T54 l0 x3_1).f2) ((rd_T54 l0 x3_1).f3) _ _ ((rd_T54 l0 x3_1).f4) false _ ?side1 ?side2 A5.out).mono ?_); (case side1 => exact aC (Kd.C_below HR244_4.out HB.out)); (case side2 => exact HC244_4.out); rintro e w12 ⟨rfl, hb⟩; refine ⟨_, rfl, ?_⟩; have n0_ := Aside0.mk (below_step (aB HB) hb); clear HB; have HB := n0_; clear n0_; (try clear hb); (try clear hb2); (try clear hk); (try clear hi)))
       go_meet
       case rel => exact ⟨_, (true), aE, H', ⟨by have := HK1.out; first | omega | exact Nat.le_refl _⟩, ⟨aB HB⟩⟩
     case rest =>
      clear HC4
      try clear c2
      try clear c2b0
      try clear p2
      try clear q2
      try clear hx2
      try clear c3
      try clear c3b0
      try clear c6
      try clear c7
      try clear c7b0
      try clear c8
      try clear c9
      try clear c9b0
      try clear c9b1
      try clear hx243_0
      try clear hx243_1
      try clear hx243_2
      try clear hx243_3
      try clear hx243_4
      try clear hx244_0
      try clear hx244_1
      try clear hx244_2
      try clear hx244_3
      try clear hx244_4
      try clear p243
      try clear p244
      try clear q243
      try clear q244
      obtain ⟨kq, x33_3, rfl, HA, HJ3, HB⟩ := hcut
      cases kq with
      | zero => exact absurd HA.out (by simp [boltingref04_Right.j1])
      | succ kj3 =>
       have H := HA.out
       clear HA
       simp only [boltingref04_Right.j1] at H
       by_cases c13 : x33_3 = true
       ·subst c13
        have H1 : (some false) = some r := by rw [if_pos rfl] at H; exact H
        clear H
        have H := H1
        clear H1
        obtain rfl := Option.some.inj H
        go_wp2
        go_ret
        exact ⟨by first | rfl | (simp [errW_none, errW_some] <;> rfl) | (simp [*, errW_none, errW_some] <;> rfl), aB HB⟩
       ·replace c13 := Bool.eq_false_iff.mpr c13
        subst c13
        have H1 : (if x3_1 > 0 then (if 0 ≤ (wrap64 (x3_1 - 1)) then (if (wrap64 (x3_1 - 1)) < (l0.length : Int) then (if ((rd_T54 l0 x3_1).f0) > (wrap64 (((rd_T54 l0 (wrap64 (x3_1 - 1))).f0) + 1)) then (some false) else (if ((rd_T54 l0 x3_1).f0) = (wrap64 (((rd_T54 l0 (wrap64 (x3_1 - 1))).f0) + 1)) then (if ((rd_T54 l0 (wrap64 (x3_1 - 1))).f1) = 0 then (boltingref04_Right.l0 kj3 l0 (wrap64 (x3_1 + 1))) else (some false)) else (boltingref04_Right.l0 kj3 l0 (wrap64 (x3_1 + 1))))) else (none)) else (none)) else (boltingref04_Right.l0 kj3 l0 (wrap64 (x3_1 + 1)))) = some r := by rw [if_neg (show ¬ (false = true) by decide)] at H; exact H
        clear H
        have H := H1
        clear H1
        by_cases c14 : x3_1 > 0
        ·rw [if_pos c14] at H
         have c14b0 : decide (0 < x3_1) = true := decide_eq_true c14
         clear c14
         obtain ⟨ji15, hji15⟩ : ∃ j_ : Int, (wrap64 (x3_1 - 1)) = j_ := ⟨_, rfl⟩
         replace H : (if 0 ≤ (ji15) then (if (ji15) < (l0.length : Int) then (if ((rd_T54 l0 x3_1).f0) > (wrap64 (((rd_T54 l0 (ji15)).f0) + 1)) then (some false) else (if ((rd_T54 l0 x3_1).f0) = (wrap64 (((rd_T54 l0 (ji15)).f0) + 1)) then (if ((rd_T54 l0 (ji15)).f1) = 0 then (boltingref04_Right.l0 kj3 l0 (wrap64 (x3_1 + 1))) else (some false)) else (boltingref04_Right.l0 kj3 l0 (wrap64 (x3_1 + 1))))) else (none)) else (none)) = some r := by first | (rw [hji15] at H; exact H) | (simp only [hji15] at H ⊢; exact H)
         have hji15w : (IntKind.i64.wrap (x3_1 - 1)) = ji15 := (i64_w _).trans hji15
         by_cases c16 : 0 ≤ (ji15)
         ·rw [if_pos c16] at H
          have c16b0 : decide (0 ≤ (ji15)) = true := decide_eq_true c16
          clear c16
          by_cases c17 : (ji15) < (l0.length : Int)
          ·rw [if_pos c17] at H
           have c17b0 : decide ((ji15) < (l0.length : Int)) = true := decide_eq_true c17
           clear c17
           by_cases c18 : ((rd_T54 l0 x3_1).f0) > (wrap64 (((rd_T54 l0 (ji15)).f0) + 1))
           ·rw [if_pos c18] at H
            have c18b0 : decide ((wrap64 (((rd_T54 l0 (ji15)).f0) + 1)) < ((rd_T54 l0 x3_1).f0)) = true := decide_eq_true c18
            clear c18
            obtain rfl := Option.some.inj H
            have p246 : 0 ≤ ((ji15) : Int) := of_decide_eq_true aA
            have q246 : (ji15) < (l0.length : Int) := of_decide_eq_true aA
            obtain ⟨ad246, A246_4, c246_4, e246, hx246_0, hx246_1, hx246_2, hx246_3, hx246_4, hl246_4, hi246_4⟩ := at_T54 HR0.out (ji15) p246 q246
            obtain rfl : ad243 = ad246 := (by injection e246)
            replace hx246_0 := (HB.out.cell (World.block_lt_of_cell? w _ hx246_0)).trans hx246_0
            replace hx246_1 := (HB.out.cell (World.block_lt_of_cell? w _ hx246_1)).trans hx246_1
            replace hx246_2 := (HB.out.cell (World.block_lt_of_cell? w _ hx246_2)).trans hx246_2
            replace hx246_3 := (HB.out.cell (World.block_lt_of_cell? w _ hx246_3)).trans hx246_3
            replace hx246_4 := (HB.out.cell (World.block_lt_of_cell? w _ hx246_4)).trans hx246_4
            have HR246_4 := Aside0.mk hi246_4
            have HC246_4 := Aside0.mk hl246_4
            clear hi246_4 hl246_4
            replace p246 := eq_true p246
            replace q246 := eq_true q246
            go_wp2
            go_ret
            exact ⟨by first | rfl | (simp [errW_none, errW_some] <;> rfl) | (simp only [← hji15]; first | rfl | (simp [errW_none, errW_some] <;> rfl)) | (simp [*, errW_none, errW_some] <;> rfl), aB HB⟩
           ·rw [if_neg c18] at H
            have c18b0 : decide ((wrap64 (((rd_T54 l0 (ji15)).f0) + 1)) < ((rd_T54 l0 x3_1).f0)) = false := decide_eq_false c18
            clear c18
            by_cases c19 : ((rd_T54 l0 x3_1).f0) = (wrap64 (((rd_T54 l0 (ji15)).f0) + 1))
            ·rw [if_pos c19] at H
             have c19b0 : (((rd_T54 l0 x3_1).f0) == (wrap64 (((rd_T54 l0 (ji15)).f0) + 1))) = true := beq_iff_eq.mpr c19
             have c19b1 : (((rd_T54 l0 x3_1).f0) != (wrap64 (((rd_T54 l0 (ji15)).f0) + 1))) = false := bne_eq_false_iff_eq.mpr c19
             clear c19
             by_cases c20 : ((rd_T54 l0 (ji15)).f1) = 0
             ·rw [if_pos c20] at H
              have c20b0 : (((rd_T54 l0 (ji15)).f1) == 0) = true := beq_iff_eq.mpr c20
              have c20b1 : (((rd_T54 l0 (ji15)).f1) != 0) = false := bne_eq_false_iff_eq.mpr c20
              clear c20
              have H' := Aside0.mk H
              clear H
              have p246 : 0 ≤ ((ji15) : Int) := of_decide_eq_true aA
              have q246 : (ji15) < (l0.length : Int) := of_decide_eq_true aA
              obtain ⟨ad246, A246_4, c246_4, e246, hx246_0, hx246_1, hx246_2, hx246_3, hx246_4, hl246_4, hi246_4⟩ := at_T54 HR0.out (ji15) p246 q246
              obtain rfl : ad243 = ad246 := (by injection e246)
              replace hx246_0 := (HB.out.cell (World.block_lt_of_cell? w _ hx246_0)).trans hx246_0
              replace hx246_1 := (HB.out.cell (World.block_lt_of_cell? w _ hx246_1)).trans hx246_1
              replace hx246_2 := (HB.out.cell (World.block_lt_of_cell? w _ hx246_2)).trans hx246_2
              replace hx246_3 := (HB.out.cell (World.block_lt_of_cell? w _ hx246_3)).trans hx246_3
              replace hx246_4 := (HB.out.cell (World.block_lt_of_cell? w _ hx246_4)).trans hx246_4
              have HR246_4 := Aside0.mk hi246_4
              have HC246_4 := Aside0.mk hl246_4
              clear hi246_4 hl246_4
              replace p246 := eq_true p246
              replace q246 := eq_true q246
              have p247 : 0 ≤ ((ji15) : Int) := of_decide_eq_true aA
              have q247 : (ji15) < (l0.length : Int) := of_decide_eq_true aA
              obtain ⟨ad247, A247_4, c247_4, e247, hx247_0, hx247_1, hx247_2, hx247_3, hx247_4, hl247_4, hi247_4⟩ := at_T54 HR0.out (ji15) p247 q247
              obtain rfl : ad243 = ad247 := (by injection e247)
              replace hx247_0 := (HB.out.cell (World.block_lt_of_cell? w _ hx247_0)).trans hx247_0
              replace hx247_1 := (HB.out.cell (World.block_lt_of_cell? w _ hx247_1)).trans hx247_1
              replace hx247_2 := (HB.out.cell (World.block_lt_of_cell? w _ hx247_2)).trans hx247_2
              replace hx247_3 := (HB.out.cell (World.block_lt_of_cell? w _ hx247_3)).trans hx247_3
              replace hx247_4 := (HB.out.cell (World.block_lt_of_cell? w _ hx247_4)).trans hx247_4
              have HR247_4 := Aside0.mk hi247_4
              have HC247_4 := Aside0.mk hl247_4
              clear hi247_4 hl247_4
              replace p247 := eq_true p247
              replace q247 := eq_true q247
              have ea_ := Option.some.inj (hx246_4.symm.trans hx247_4)
              injection ea_ with ea_ en_ ec_
              subst ea_
              subst ec_
              clear en_
              have p248 : 0 ≤ ((ji15) : Int) := of_decide_eq_true aA
              have q248 : (ji15) < (l0.length : Int) := of_decide_eq_true aA
              obtain ⟨ad248, A248_4, c248_4, e248, hx248_0, hx248_1, hx248_2, hx248_3, hx248_4, hl248_4, hi248_4⟩ := at_T54 HR0.out (ji15) p248 q248
              obtain rfl : ad243 = ad248 := (by injection e248)
              replace hx248_0 := (HB.out.cell (World.block_lt_of_cell? w _ hx248_0)).trans hx248_0
              replace hx248_1 := (HB.out.cell (World.block_lt_of_cell? w _ hx248_1)).trans hx248_1
              replace hx248_2 := (HB.out.cell (World.block_lt_of_cell? w _ hx248_2)).trans hx248_2
              replace hx248_3 := (HB.out.cell (World.block_lt_of_cell? w _ hx248_3)).trans hx248_3
              replace hx248_4 := (HB.out.cell (World.block_lt_of_cell? w _ hx248_4)).trans hx248_4
              have HR248_4 := Aside0.mk hi248_4
              have HC248_4 := Aside0.mk hl248_4
              clear hi248_4 hl248_4
              replace p248 := eq_true p248
              replace q248 := eq_true q248
              have ea_ := Option.some.inj (hx246_4.symm.trans hx248_4)
              injection ea_ with ea_ en_ ec_
              subst ea_
              subst ec_
              clear en_
              go_wp2
              go_roundg kj3
              case measure => have := HK1.out; have := HJ3.out; omega
              case rel => exact ⟨(wrap64 (x3_1 + 1)), aE, H', ⟨by have := HK1.out; have := HJ3.out; omega⟩, ⟨aB HB⟩⟩
             ·rw [if_neg c20] at H
              have c20b0 : (((rd_T54 l0 (ji15)).f1) == 0) = false := beq_eq_false_iff_ne.mpr c20
              have c20b1 : (((rd_T54 l0 (ji15)).f1) != 0) = true := bne_iff_ne.mpr c20
              obtain rfl := Option.some.inj H
              have p246 : 0 ≤ ((ji15) : Int) := of_decide_eq_true aA
              have q246 : (ji15) < (l0.length : Int) := of_decide_eq_true aA
              obtain ⟨ad246, A246_4, c246_4, e246, hx246_0, hx246_1, hx246_2, hx246_3, hx246_4, hl246_4, hi246_4⟩ := at_T54 HR0.out (ji15) p246 q246
              obtain rfl : ad243 = ad246 := (by injection e246)
              replace hx246_0 := (HB.out.cell (World.block_lt_of_cell? w _ hx246_0)).trans hx246_0
              replace hx246_1 := (HB.out.cell (World.block_lt_of_cell? w _ hx246_1)).trans hx246_1
              replace hx246_2 := (HB.out.cell (World.block_lt_of_cell? w _ hx246_2)).trans hx246_2
              replace hx246_3 := (HB.out.cell (World.block_lt_of_cell? w _ hx246_3)).trans hx246_3
              replace hx246_4 := (HB.out.cell (World.block_lt_of_cell? w _ hx246_4)).trans hx246_4
              have HR246_4 := Aside0.mk hi246_4
              have HC246_4 := Aside0.mk hl246_4
              clear hi246_4 hl246_4
              replace p246 := eq_true p246
              replace q246 := eq_true q246
              have p247 : 0 ≤ ((ji15) : Int) := of_decide_eq_true aA
              have q247 : (ji15) < (l0.length : Int) := of_decide_eq_true aA
              obtain ⟨ad247, A247_4, c247_4, e247, hx247_0, hx247_1, hx247_2, hx247_3, hx247_4, hl247_4, hi247_4⟩ := at_T54 HR0.out (ji15) p247 q247
              obtain rfl : ad243 = ad247 := (by injection e247)
              replace hx247_0 := (HB.out.cell (World.block_lt_of_cell? w _ hx247_0)).trans hx247_0
              replace hx247_1 := (HB.out.cell (World.block_lt_of_cell? w _ hx247_1)).trans hx247_1
              replace hx247_2 := (HB.out.cell (World.block_lt_of_cell? w _ hx247_2)).trans hx247_2
              replace hx247_3 := (HB.out.cell (World.block_lt_of_cell? w _ hx247_3)).trans hx247_3
              replace hx247_4 := (HB.out.cell (World.block_lt_of_cell? w _ hx247_4)).trans hx247_4
              have HR247_4 := Aside0.mk hi247_4
              have HC247_4 := Aside0.mk hl247_4
              clear hi247_4 hl247_4
              replace p247 := eq_true p247
              replace q247 := eq_true q247
              have ea_ := Option.some.inj (hx246_4.symm.trans hx247_4)
              injection ea_ with ea_ en_ ec_
              subst ea_
              subst ec_
              clear en_
              have p248 : 0 ≤ ((ji15) : Int) := of_decide_eq_true aA
              have q248 : (ji15) < (l0.length : Int) := of_decide_eq_true aA
              obtain ⟨ad248, A248_4, c248_4, e248, hx248_0, hx248_1, hx248_2, hx248_3, hx248_4, hl248_4, hi248_4⟩ := at_T54 HR0.out (ji15) p248 q248
              obtain rfl : ad243 = ad248 := (by injection e248)
              replace hx248_0 := (HB.out.cell (World.block_lt_of_cell? w _ hx248_0)).trans hx248_0
              replace hx248_1 := (HB.out.cell (World.block_lt_of_cell? w _ hx248_1)).trans hx248_1
              replace hx248_2 := (HB.out.cell (World.block_lt_of_cell? w _ hx248_2)).trans hx248_2
              replace hx248_3 := (HB.out.cell (World.block_lt_of_cell? w _ hx248_3)).trans hx248_3
              replace hx248_4 := (HB.out.cell (World.block_lt_of_cell? w _ hx248_4)).trans hx248_4
              have HR248_4 := Aside0.mk hi248_4
              have HC248_4 := Aside0.mk hl248_4
              clear hi248_4 hl248_4
              replace p248 := eq_true p248
              replace q248 := eq_true q248
              have ea_ := Option.some.inj (hx246_4.symm.trans hx248_4)
              injection ea_ with ea_ en_ ec_
              subst ea_
              subst ec_
              clear en_
              go_wp2
              go_ret
              exact ⟨by first | rfl | (simp [errW_none, errW_some] <;> rfl) | (simp only [← hji15]; first | rfl | (simp [errW_none, errW_some] <;> rfl)) | (simp [*, errW_none, errW_some] <;> rfl), aB HB⟩
            ·rw [if_neg c19] at H
             have c19b0 : (((rd_T54 l0 x3_1).f0) == (wrap64 (((rd_T54 l0 (ji15)).f0) + 1))) = false := beq_eq_false_iff_ne.mpr c19
             have c19b1 : (((rd_T54 l0 x3_1).f0) != (wrap64 (((rd_T54 l0 (ji15)).f0) + 1))) = true := bne_iff_ne.mpr c19
             have H' := Aside0.mk H
             clear H
             have p246 : 0 ≤ ((ji15) : Int) := of_decide_eq_true aA
             have q246 : (ji15) < (l0.length : Int) := of_decide_eq_true aA
             obtain ⟨ad246, A246_4, c246_4, e246, hx246_0, hx246_1, hx246_2, hx246_3, hx246_4, hl246_4, hi246_4⟩ := at_T54 HR0.out (ji15) p246 q246
             obtain rfl : ad243 = ad246 := (by injection e246)
             replace hx246_0 := (HB.out.cell (World.block_lt_of_cell? w _ hx246_0)).trans hx246_0
             replace hx246_1 := (HB.out.cell (World.block_lt_of_cell? w _ hx246_1)).trans hx246_1
             replace hx246_2 := (HB.out.cell (World.block_lt_of_cell? w _ hx246_2)).trans hx246_2
             replace hx246_3 := (HB.out.cell (World.block_lt_of_cell? w _ hx246_3)).trans hx246_3
             replace hx246_4 := (HB.out.cell (World.block_lt_of_cell? w _ hx246_4)).trans hx246_4
             have HR246_4 := Aside0.mk hi246_4
             have HC246_4 := Aside0.mk hl246_4
             clear hi246_4 hl246_4
             replace p246 := eq_true p246
             replace q246 := eq_true q246
             have p247 : 0 ≤ ((ji15) : Int) := of_decide_eq_true aA
             have q247 : (ji15) < (l0.length : Int) := of_decide_eq_true aA
             obtain ⟨ad247, A247_4, c247_4, e247, hx247_0, hx247_1, hx247_2, hx247_3, hx247_4, hl247_4, hi247_4⟩ := at_T54 HR0.out (ji15) p247 q247
             obtain rfl : ad243 = ad247 := (by injection e247)
             replace hx247_0 := (HB.out.cell (World.block_lt_of_cell? w _ hx247_0)).trans hx247_0
             replace hx247_1 := (HB.out.cell (World.block_lt_of_cell? w _ hx247_1)).trans hx247_1
             replace hx247_2 := (HB.out.cell (World.block_lt_of_cell? w _ hx247_2)).trans hx247_2
             replace hx247_3 := (HB.out.cell (World.block_lt_of_cell? w _ hx247_3)).trans hx247_3
             replace hx247_4 := (HB.out.cell (World.block_lt_of_cell? w _ hx247_4)).trans hx247_4
             have HR247_4 := Aside0.mk hi247_4
             have HC247_4 := Aside0.mk hl247_4
             clear hi247_4 hl247_4
             replace p247 := eq_true p247
             replace q247 := eq_true q247
             have ea_ := Option.some.inj (hx246_4.symm.trans hx247_4)
             injection ea_ with ea_ en_ ec_
             subst ea_
             subst ec_
             clear en_
             go_wp2
             go_roundg kj3
             case measure => have := HK1.out; have := HJ3.out; omega
             case rel => exact ⟨(wrap64 (x3_1 + 1)), aE, H', ⟨by have := HK1.out; have := HJ3.out; omega⟩, ⟨aB HB⟩⟩
          ·rw [if_neg c17] at H
           exact absurd H (by simp)
         ·rw [if_neg c16] at H
          exact absurd H (by simp)
        ·rw [if_neg c14] at H
         have c14b0 : decide (0 < x3_1) = false := decide_eq_false c14
         clear c14
         have H' := Aside0.mk H
         clear H
         go_wp2
         go_roundg kj3
         case measure => have := HK1.out; have := HJ3.out; omega
         case rel => exact ⟨(wrap64 (x3_1 + 1)), aE, H', ⟨by have := HK1.out; have := HJ3.out; omega⟩, ⟨aB HB⟩⟩
    ·rw [if_neg c3] at H
     exact absurd H (by simp)
   ·rw [if_neg c2] at H
    have c2b0 : decide (x3_1 < (l0.length : Int)) = false := decide_eq_false c2
    clear c2
    obtain rfl := Option.some.inj H
    go_wp2
    go_ret
    exact ⟨by first | rfl | (simp [errW_none, errW_some] <;> rfl) | (simp [*, errW_none, errW_some] <;> rfl), aB HB⟩

/-! ### boltingref04_Check: function 74 -/
def boltingref04_Check.f (k : Nat) (l0 : List (S54)) : Option (Int) := (boltingref04_Big.f k l0).bind fun t249 => (if t249 = true then (some 2) else ((boltingref04_Right.f k l0).bind fun t250 => (if t250 = true then (some 0) else (some 40))))
theorem boltingref04_Check.mono : ∀ a0 k, LeO (boltingref04_Check.f k a0) (boltingref04_Check.f (k + 1) a0) := by
 intro a0 k
 unfold boltingref04_Check.f
 repeat' first
   | (with_reducible exact boltingref04_Big.mono _ _)
   | (with_reducible exact boltingref04_Right.mono _ _)
   | (with_reducible exact LeO.refl _)
   | (with_reducible exact LeO.none _)
   | (with_reducible refine LeO.ite ?_ ?_)
   | (with_reducible refine LeO.bind ?_ (fun _ => ?_))
   | exact boltingref04_Big.mono _ _
   | exact boltingref04_Right.mono _ _
   | exact LeO.none _
   | refine LeO.ite ?_ ?_
   | refine LeO.bind ?_ (fun _ => ?_)
set_option maxHeartbeats 8000000 in
set_option maxRecDepth 100000 in
theorem boltingref04_Check.calls (k : Nat) (A0 : Option Addr) (c0 : Nat) (l0 : List (S54)) (r : Int) (w : World) (hr0 : Kd.C k54 w A0 l0.length l0) (hc0 : l0.length ≤ c0) (h : boltingref04_Check.f k l0 = some r) :
  Calls Try.prog 74 #[.slice A0 l0.length c0] w fun e w' => e = .returned (.int .i64 r) ∧ Below w.heap.size w w' := by
 have HR0 := Aside0.mk hr0
 have HC0 := Aside0.mk hc0
 clear hr0 hc0
 have HB := Aside0.mk (Below.refl w.heap.size w)
 have H : ((boltingref04_Big.f k l0).bind fun t249 => (if t249 = true then (some 2) else ((boltingref04_Right.f k l0).bind fun t250 => (if t250 = true then (some 0) else (some 40))))) = some r := h
 clear h
 replace H := Option.bind_eq_some_iff.mp H
 obtain ⟨t249, A20, H⟩ := H
 replace H : (if t249 = true then (some 2) else ((boltingref04_Right.f k l0).bind fun t250 => (if t250 = true then (some 0) else (some 40)))) = some r := H
 have A2 := Aside0.mk A20
 clear A20
 by_cases c3 : t249 = true
 ·subst c3
  have H1 : (some 2) = some r := by rw [if_pos rfl] at H; exact H
  clear H
  have H := H1
  clear H1
  obtain rfl := Option.some.inj H
  go_enter Try.func74, Try.ntmps74
  go_wp2_with (first | ((with_reducible refine gate_callee (f := 87) rfl ?_); refine goesL_ (some 4) rfl rfl Try.func87 (by kernel_rfl) rfl #[.slice A0 l0.length c0] rfl (by (try simp only [List.map_toArray, List.map_cons, List.map_nil]); first | done | rfl | (simp only [List.length_drop, List.length_take]; rfl)) ?_; (with_reducible refine (boltingref04_Big.calls k _ _ l0 true _ ?side1 ?side2 A2.out).mono ?_); (case side1 => exact aC HR0.out); (case side2 => exact HC0.out); rintro e w' ⟨rfl, ⟨nd, rfl⟩⟩; refine ⟨_, rfl, ?_⟩))
  go_ret
  exact ⟨by first | rfl | (simp [errW_none, errW_some] <;> rfl) | (simp [*, errW_none, errW_some] <;> rfl), aB HB⟩
 ·replace c3 := Bool.eq_false_iff.mpr c3
  subst c3
  have H1 : ((boltingref04_Right.f k l0).bind fun t250 => (if t250 = true then (some 0) else (some 40))) = some r := by rw [if_neg (show ¬ (false = true) by decide)] at H; exact H
  clear H
  have H := H1
  clear H1
  replace H := Option.bind_eq_some_iff.mp H
  obtain ⟨t250, A40, H⟩ := H
  replace H : (if t250 = true then (some 0) else (some 40)) = some r := H
  have A4 := Aside0.mk A40
  clear A40
  by_cases c5 : t250 = true
  ·subst c5
   have H1 : (some 0) = some r := by rw [if_pos rfl] at H; exact H
   clear H
   have H := H1
   clear H1
   obtain rfl := Option.some.inj H
   go_enter Try.func74, Try.ntmps74
   go_wp2_with (first | ((with_reducible refine gate_callee (f := 87) rfl ?_); refine goesL_ (some 4) rfl rfl Try.func87 (by kernel_rfl) rfl #[.slice A0 l0.length c0] rfl (by (try simp only [List.map_toArray, List.map_cons, List.map_nil]); first | done | rfl | (simp only [List.length_drop, List.length_take]; rfl)) ?_; (with_reducible refine (boltingref04_Big.calls k _ _ l0 false _ ?side1 ?side2 A2.out).mono ?_); (case side1 => exact aC HR0.out); (case side2 => exact HC0.out); rintro e w' ⟨rfl, ⟨nd, rfl⟩⟩; refine ⟨_, rfl, ?_⟩) | ((with_reducible refine gate_callee (f := 88) rfl ?_); refine goesL_ (some 6) rfl rfl Try.func88 (by kernel_rfl) rfl #[.slice A0 l0.length c0] rfl (by (try simp only [List.map_toArray, List.map_cons, List.map_nil]); first | done | rfl | (simp only [List.length_drop, List.length_take]; rfl)) ?_; (with_reducible refine (boltingref04_Right.calls k _ _ l0 true _ ?side1 ?side2 A4.out).mono ?_); (case side1 => exact aC HR0.out); (case side2 => exact HC0.out); rintro e w6 ⟨rfl, hb⟩; refine ⟨_, rfl, ?_⟩; have n0_ := Aside0.mk (below_step (aB HB) hb); clear HB; have HB := n0_; clear n0_; (try clear hb); (try clear hb2); (try clear hk); (try clear hi)))
   go_ret
   exact ⟨by first | rfl | (simp [errW_none, errW_some] <;> rfl) | (simp [*, errW_none, errW_some] <;> rfl), aB HB⟩
  ·replace c5 := Bool.eq_false_iff.mpr c5
   subst c5
   have H1 : (some 40) = some r := by rw [if_neg (show ¬ (false = true) by decide)] at H; exact H
   clear H
   have H := H1
   clear H1
   obtain rfl := Option.some.inj H
   go_enter Try.func74, Try.ntmps74
   go_wp2_with (first | ((with_reducible refine gate_callee (f := 87) rfl ?_); refine goesL_ (some 4) rfl rfl Try.func87 (by kernel_rfl) rfl #[.slice A0 l0.length c0] rfl (by (try simp only [List.map_toArray, List.map_cons, List.map_nil]); first | done | rfl | (simp only [List.length_drop, List.length_take]; rfl)) ?_; (with_reducible refine (boltingref04_Big.calls k _ _ l0 false _ ?side1 ?side2 A2.out).mono ?_); (case side1 => exact aC HR0.out); (case side2 => exact HC0.out); rintro e w' ⟨rfl, ⟨nd, rfl⟩⟩; refine ⟨_, rfl, ?_⟩) | ((with_reducible refine gate_callee (f := 88) rfl ?_); refine goesL_ (some 6) rfl rfl Try.func88 (by kernel_rfl) rfl #[.slice A0 l0.length c0] rfl (by (try simp only [List.map_toArray, List.map_cons, List.map_nil]); first | done | rfl | (simp only [List.length_drop, List.length_take]; rfl)) ?_; (with_reducible refine (boltingref04_Right.calls k _ _ l0 false _ ?side1 ?side2 A4.out).mono ?_); (case side1 => exact aC HR0.out); (case side2 => exact HC0.out); rintro e w7 ⟨rfl, hb⟩; refine ⟨_, rfl, ?_⟩; have n0_ := Aside0.mk (below_step (aB HB) hb); clear HB; have HB := n0_; clear n0_; (try clear hb); (try clear hb2); (try clear hk); (try clear hi)))
   go_ret
   exact ⟨by first | rfl | (simp [errW_none, errW_some] <;> rfl) | (simp [*, errW_none, errW_some] <;> rfl), aB HB⟩

-- NOT PRINTED: function 76 (boltingref11_Doc_set)

-- NOT PRINTED: function 50 (boltingref11_Doc_Load)

/-! ### boltinglaw11_nums: function 51 -/
def boltinglaw11_nums.l0 : Nat → List Int → List Int → Int → Option (Bool)
 | 0, _, _, _ => none
 | k + 1, x0, x1, x5 => if x5 < (x0.length : Int) then (if 0 ≤ x5 then (if x5 < (x1.length : Int) then (if (rd x0 x5) = (rd x1 x5) then (boltinglaw11_nums.l0 k x0 x1 (wrap64 (x5 + 1))) else (some false)) else (none)) else (none)) else (some true)
def boltinglaw11_nums.f (k : Nat) (l0 : List Int) (l1 : List Int) : Option (Bool) := if (l0.length : Int) = (l1.length : Int) then (boltinglaw11_nums.l0 k l0 l1 0) else (some false)
theorem boltinglaw11_nums.mono_l : ∀ k, (∀ y0 y1 y2, LeO (boltinglaw11_nums.l0 k y0 y1 y2) (boltinglaw11_nums.l0 (k + 1) y0 y1 y2))
 | 0 => fun _ _ _ r h => by simp [boltinglaw11_nums.l0] at h
 | k + 1 => by
  have ih0 := boltinglaw11_nums.mono_l k
  ·intro y0 y1 y2
   unfold boltinglaw11_nums.l0
   repeat' first
   | (with_reducible exact ih0 _ _ _)
   | (with_reducible exact LeO.refl _)
   | (with_reducible exact LeO.none _)
   | (with_reducible refine LeO.ite ?_ ?_)
   | (with_reducible refine LeO.bind ?_ (fun _ => ?_))
   | exact ih0 _ _ _
   | exact LeO.none _
   | refine LeO.ite ?_ ?_
   | refine LeO.bind ?_ (fun _ => ?_)
theorem boltinglaw11_nums.mono : ∀ a0 a1 k, LeO (boltinglaw11_nums.f k a0 a1) (boltinglaw11_nums.f (k + 1) a0 a1) := by
 intro a0 a1 k
 have ih0 := boltinglaw11_nums.mono_l k
 unfold boltinglaw11_nums.f
 repeat' first
   | (with_reducible exact ih0 _ _ _)
   | (with_reducible exact LeO.refl _)
   | (with_reducible exact LeO.none _)
   | (with_reducible refine LeO.ite ?_ ?_)
   | (with_reducible refine LeO.bind ?_ (fun _ => ?_))
   | exact ih0 _ _ _
   | exact LeO.none _
   | refine LeO.ite ?_ ?_
   | refine LeO.bind ?_ (fun _ => ?_)
set_option maxHeartbeats 8000000 in
set_option maxRecDepth 100000 in
theorem boltinglaw11_nums.calls (k : Nat) (A0 : Option Addr) (c0 : Nat) (l0 : List Int) (A1 : Option Addr) (c1 : Nat) (l1 : List Int) (r : Bool) (w : World) (hr0 : Kd.C (Kd.int .i64) w A0 l0.length l0) (hc0 : l0.length ≤ c0) (hr1 : Kd.C (Kd.int .i64) w A1 l1.length l1) (hc1 : l1.length ≤ c1) (h : boltinglaw11_nums.f k l0 l1 = some r) :
  Calls Try.prog 51 #[.slice A0 l0.length c0, .slice A1 l1.length c1] w fun e w' => e = .returned (.bool r) ∧ Drawn0 w w' := by
 have HR0 := Aside0.mk hr0
 have HC0 := Aside0.mk hc0
 clear hr0 hc0
 have HR1 := Aside0.mk hr1
 have HC1 := Aside0.mk hc1
 clear hr1 hc1
 have H : (if (l0.length : Int) = (l1.length : Int) then (boltinglaw11_nums.l0 k l0 l1 0) else (some false)) = some r := h
 clear h
 by_cases c3 : (l0.length : Int) = (l1.length : Int)
 ·rw [if_pos c3] at H
  have c3b0 : ((l0.length : Int) == (l1.length : Int)) = true := beq_iff_eq.mpr c3
  have c3b1 : ((l0.length : Int) != (l1.length : Int)) = false := bne_eq_false_iff_eq.mpr c3
  have c3b2 : (l0.length == l1.length) = true := by first | simpa using c3 | (simp at c3 ⊢; omega)
  clear c3
  have H' := Aside0.mk H
  clear H
  go_enter Try.func51, Try.ntmps51
  go_wp2
  repeat (go_quiet (fail); try go_wp2)
  go_loopg [5] k (fun kq v5 w' => ∃ (x5_1 : Int), v5 = .int .i64 x5_1 ∧ Aside0 (boltinglaw11_nums.l0 kq l0 l1 x5_1 = some r) ∧ Aside0 (kq ≤ k) ∧ Drawn0 w w')
  case atStart => exact ⟨(0), aE, H', ⟨Nat.le_refl _⟩, by repeat (first | exact Drawn0.refl _ | apply Drawn0.step)⟩
  case round =>
   clear H'
   try clear c1
   try clear p2
   try clear c3
   try clear c3b0
   try clear c3b1
   try clear c3b2
   obtain ⟨x5_1, rfl, HA, HK1, ⟨m1, rfl⟩⟩ := hrel
   cases gk with
   | zero => exact absurd HA.out (by simp [boltinglaw11_nums.l0])
   | succ k1 =>
    have H := HA.out
    clear HA
    simp only [boltinglaw11_nums.l0] at H
    by_cases c4 : x5_1 < (l0.length : Int)
    ·rw [if_pos c4] at H
     have c4b0 : decide (x5_1 < (l0.length : Int)) = true := decide_eq_true c4
     clear c4
     by_cases c5 : 0 ≤ x5_1
     ·rw [if_pos c5] at H
      have c5b0 : decide (0 ≤ x5_1) = true := decide_eq_true c5
      clear c5
      by_cases c6 : x5_1 < (l1.length : Int)
      ·rw [if_pos c6] at H
       have c6b0 : decide (x5_1 < (l1.length : Int)) = true := decide_eq_true c6
       clear c6
       by_cases c7 : (rd l0 x5_1) = (rd l1 x5_1)
       ·rw [if_pos c7] at H
        have c7b0 : ((rd l0 x5_1) == (rd l1 x5_1)) = true := beq_iff_eq.mpr c7
        have c7b1 : ((rd l0 x5_1) != (rd l1 x5_1)) = false := bne_eq_false_iff_eq.mpr c7
        clear c7
        have H' := Aside0.mk H
        clear H
        have p259 : 0 ≤ (x5_1 : Int) := of_decide_eq_true aA
        have q259 : x5_1 < (l0.length : Int) := of_decide_eq_true aA
        obtain ⟨ad259, e259, hx259_0⟩ := Kd.at_int HR0.out x5_1 p259 q259
        cases e259
        replace p259 := eq_true p259
        replace q259 := eq_true q259
        have p260 : 0 ≤ (x5_1 : Int) := of_decide_eq_true aA
        have q260 : x5_1 < (l1.length : Int) := of_decide_eq_true aA
        obtain ⟨ad260, e260, hx260_0⟩ := Kd.at_int HR1.out x5_1 p260 q260
        cases e260
        replace p260 := eq_true p260
        replace q260 := eq_true q260
        go_wp2
        repeat (go_quiet (fail); try go_wp2)
        go_roundg k1
        case measure => have := HK1.out; omega
        case rel => exact ⟨(wrap64 (x5_1 + 1)), aE, H', ⟨by have := HK1.out; omega⟩, by repeat (first | exact Drawn0.refl _ | apply Drawn0.step)⟩
       ·rw [if_neg c7] at H
        have c7b0 : ((rd l0 x5_1) == (rd l1 x5_1)) = false := beq_eq_false_iff_ne.mpr c7
        have c7b1 : ((rd l0 x5_1) != (rd l1 x5_1)) = true := bne_iff_ne.mpr c7
        obtain rfl := Option.some.inj H
        have p259 : 0 ≤ (x5_1 : Int) := of_decide_eq_true aA
        have q259 : x5_1 < (l0.length : Int) := of_decide_eq_true aA
        obtain ⟨ad259, e259, hx259_0⟩ := Kd.at_int HR0.out x5_1 p259 q259
        cases e259
        replace p259 := eq_true p259
        replace q259 := eq_true q259
        have p260 : 0 ≤ (x5_1 : Int) := of_decide_eq_true aA
        have q260 : x5_1 < (l1.length : Int) := of_decide_eq_true aA
        obtain ⟨ad260, e260, hx260_0⟩ := Kd.at_int HR1.out x5_1 p260 q260
        cases e260
        replace p260 := eq_true p260
        replace q260 := eq_true q260
        go_wp2
        repeat (go_quiet (fail); try go_wp2)
        go_ret
        exact ⟨by first | rfl | (simp; done) | (congr 1; first | (with_reducible assumption) | (symm; with_reducible assumption)) | (simp [*]; done) | (simp only [ne_nil_empty]; done) | (rw [ne_nil_empty]; rfl), by repeat (first | exact Drawn0.refl _ | apply Drawn0.step)⟩
      ·rw [if_neg c6] at H
       exact absurd H (by simp)
     ·rw [if_neg c5] at H
      exact absurd H (by simp)
    ·rw [if_neg c4] at H
     have c4b0 : decide (x5_1 < (l0.length : Int)) = false := decide_eq_false c4
     clear c4
     obtain rfl := Option.some.inj H
     go_wp2
     repeat (go_quiet (fail); try go_wp2)
     go_ret
     exact ⟨by first | rfl | (simp; done) | (congr 1; first | (with_reducible assumption) | (symm; with_reducible assumption)) | (simp [*]; done) | (simp only [ne_nil_empty]; done) | (rw [ne_nil_empty]; rfl), by repeat (first | exact Drawn0.refl _ | apply Drawn0.step)⟩
 ·rw [if_neg c3] at H
  have c3b0 : ((l0.length : Int) == (l1.length : Int)) = false := beq_eq_false_iff_ne.mpr c3
  have c3b1 : ((l0.length : Int) != (l1.length : Int)) = true := bne_iff_ne.mpr c3
  have c3b2 : (l0.length == l1.length) = false := by first | simpa using c3 | (simp at c3 ⊢; omega)
  obtain rfl := Option.some.inj H
  go_enter Try.func51, Try.ntmps51
  go_wp2
  repeat (go_quiet (fail); try go_wp2)
  go_ret
  exact ⟨by first | rfl | (simp; done) | (congr 1; first | (with_reducible assumption) | (symm; with_reducible assumption)) | (simp [*]; done) | (simp only [ne_nil_empty]; done) | (rw [ne_nil_empty]; rfl), by repeat (first | exact Drawn0.refl _ | apply Drawn0.step)⟩

-- NOT PRINTED: function 29 (boltingref11_Doc_Within)

-- NOT PRINTED: function 52 (boltingref11_Doc_Insert)

-- NOT PRINTED: function 53 (boltingref11_Doc_Remove)

-- NOT PRINTED: function 78 (boltingref11_Doc_tree)

-- NOT PRINTED: function 58 (boltingref11_Doc_Rows)

-- NOT PRINTED: function 54 (boltingref11_Doc_Clone)

/-- A state of type 42 at block g of W; what its slices lead to came in by w0. -/
def IsS42 (w0 W : World) (g : Nat) (f0 : List (S54)) (f1 : List Int) (f2 : List Int) : Prop := ∃ A0 c0, ∃ A1 c1, ∃ A2 c2, W.heap[g]? = some (.cells #[.slice A0 f0.length c0, .slice A1 f1.length c1, .slice A2 f2.length c2] 42 (0, 0)) ∧ w0.heap.size ≤ g ∧ Kd.C k54 w0 A0 f0.length f0 ∧ Kd.C (Kd.int .i64) w0 A1 f1.length f1 ∧ Kd.C (Kd.int .i64) w0 A2 f2.length f2
theorem IsS42.grown {w0 W : World} {g : Nat} {f0 : List (S54)} {f1 : List Int} {f2 : List Int} {W1 : World} {row : Option Nat} (h : IsS42 w0 W g f0 f1 f2) (hw : W.grownBy W1 row) (hne : some g ≠ row) : IsS42 w0 W1 g f0 f1 f2 := by
 obtain ⟨A0, c0, A1, c1, A2, c2, hb, hg, hr0, hr1, hr2⟩ := h
 exact ⟨A0, c0, A1, c1, A2, c2, blk_grown hb hw hne, hg, hr0, hr1, hr2⟩
theorem IsS42.own_neN {w0 W : World} {g : Nat} {f0 : List (S54)} {f1 : List Int} {f2 : List Int} {α : Type} {d : Kd α} {e : Nat} {base : Nat} {ok : Nat → Prop} {v : Value} {xs : List α} (h : IsS42 w0 W g f0 f1 f2) (ho : Kd.N d e W base ok v xs) (ht : e ≠ 42) : some g ≠ v.ownBlock := by
 obtain ⟨A0, c0, A1, c1, A2, c2, hb, hg, hr0, hr1, hr2⟩ := h
 exact Kd.N_ne ho hb ht
theorem IsS42.fresh {w0 W : World} {g : Nat} {f0 : List (S54)} {f1 : List Int} {f2 : List Int} (h : IsS42 w0 W g f0 f1 f2) : ∀ k, W.heap.size ≤ k → k ≠ g := by
 obtain ⟨A0, c0, A1, c1, A2, c2, hb, hg, hr0, hr1, hr2⟩ := h
 exact Kd.freshB hb
theorem IsS42.kept {w0 W : World} {g : Nat} {f0 : List (S54)} {f1 : List Int} {f2 : List Int} {W1 : World} {S : Nat → Prop} (h : IsS42 w0 W g f0 f1 f2) (hk : Kept W W1 S) (hne : ¬ S g) : IsS42 w0 W1 g f0 f1 f2 := by
 obtain ⟨A0, c0, A1, c1, A2, c2, hb, hg, hr0, hr1, hr2⟩ := h
 exact ⟨A0, c0, A1, c1, A2, c2, blk_kept hb hk hne, hg, hr0, hr1, hr2⟩
theorem IsS42.below {w0 W : World} {g : Nat} {f0 : List (S54)} {f1 : List Int} {f2 : List Int} {W1 : World} (h : IsS42 w0 W g f0 f1 f2) (hw : Below W.heap.size W W1) : IsS42 w0 W1 g f0 f1 f2 := h.grown (grown_of_below hw none) (by simp)
theorem IsS42.alloc {w0 W : World} {g : Nat} {f0 : List (S54)} {f1 : List Int} {f2 : List Int} (h : IsS42 w0 W g f0 f1 f2) (o : Obj) : IsS42 w0 (W.alloc o) g f0 f1 f2 := h.below (below_alloc (Below.refl _ _) o)
theorem IsS42.drewN {w0 W : World} {g : Nat} {f0 : List (S54)} {f1 : List Int} {f2 : List Int} (h : IsS42 w0 W g f0 f1 f2) (m : Nat) : IsS42 w0 (W.drewN m) g f0 f1 f2 := h
theorem IsS42.drew {w0 W : World} {g : Nat} {f0 : List (S54)} {f1 : List Int} {f2 : List Int} (h : IsS42 w0 W g f0 f1 f2) : IsS42 w0 W.drew g f0 f1 f2 := h
theorem IsS42.at_ {w0 W : World} {g : Nat} {f0 : List (S54)} {f1 : List Int} {f2 : List Int} {w' : World} {m : Nat} (hq : W.drewN m = w') (h : IsS42 w0 W g f0 f1 f2) : IsS42 w0 w' g f0 f1 f2 := by subst hq; exact IsS42.drewN h m
theorem IsS42.apart {w0 W : World} {g : Nat} {f0 : List (S54)} {f1 : List Int} {f2 : List Int} {α : Type} {d : Kd α} {e : Nat} {base : Nat} {ok : Nat → Prop} {v : Value} {xs : List α} (h : IsS42 w0 W g f0 f1 f2) (ho : d.R e W base ok v xs) (ht : ∀ q, q ∈ e :: d.E → q ≠ 42) : d.R e W base (fun k => ok k ∧ k ≠ g) v xs := by
 obtain ⟨A0, c0, A1, c1, A2, c2, hb, hg, hr0, hr1, hr2⟩ := h
 exact Kd.R_types ho hb ht
theorem IsS42.own_ne {w0 W : World} {g : Nat} {f0 : List (S54)} {f1 : List Int} {f2 : List Int} {α : Type} {d : Kd α} {e : Nat} {base : Nat} {ok : Nat → Prop} {v : Value} {xs : List α} (h : IsS42 w0 W g f0 f1 f2) (ho : d.R e W base ok v xs) (ht : e ≠ 42) : some g ≠ v.ownBlock := by
 obtain ⟨A0, c0, A1, c1, A2, c2, hb, hg, hr0, hr1, hr2⟩ := h
 exact Kd.R_ne ho hb ht
theorem IsS42.apartQ {w0 W : World} {g : Nat} {f0 : List (S54)} {f1 : List Int} {f2 : List Int} {α : Type} {d : Kd α} {e : Nat} {base : Nat} {ok : Nat → Prop} {v : Value} {xs : List α} (h : IsS42 w0 W g f0 f1 f2) (ho : d.Q e W base ok v xs) (ht : ∀ q, q ∈ e :: d.E → q ≠ 42) : d.Q e W base (fun k => ok k ∧ k ≠ g) v xs := by
 obtain ⟨A0, c0, A1, c1, A2, c2, hb, hg, hr0, hr1, hr2⟩ := h
 exact Kd.Q_types ho hb ht
theorem IsS42.own_neQ {w0 W : World} {g : Nat} {f0 : List (S54)} {f1 : List Int} {f2 : List Int} {α : Type} {d : Kd α} {e : Nat} {base : Nat} {ok : Nat → Prop} {v : Value} {xs : List α} (h : IsS42 w0 W g f0 f1 f2) (ho : d.Q e W base ok v xs) (ht : e ≠ 42) : some g ≠ v.ownBlock := by
 obtain ⟨A0, c0, A1, c1, A2, c2, hb, hg, hr0, hr1, hr2⟩ := h
 exact Kd.Q_ne ho hb ht
theorem IsS42.apartS {w0 W : World} {g : Nat} {f0 : List (S54)} {f1 : List Int} {f2 : List Int} {α : Type} {d : Kd α} {e : Nat} {base : Nat} {ok : Nat → Prop} {v : Value} {xs : List α} (h : IsS42 w0 W g f0 f1 f2) (ho : d.S e W base ok v xs) (ht : ∀ q, q ∈ e :: d.E → q ≠ 42) : d.S e W base (fun k => ok k ∧ k ≠ g) v xs := by
 obtain ⟨A0, c0, A1, c1, A2, c2, hb, hg, hr0, hr1, hr2⟩ := h
 exact Kd.S_types ho hb ht
theorem IsS42.own_neS {w0 W : World} {g : Nat} {f0 : List (S54)} {f1 : List Int} {f2 : List Int} {α : Type} {d : Kd α} {e : Nat} {base : Nat} {ok : Nat → Prop} {v : Value} {xs : List α} (h : IsS42 w0 W g f0 f1 f2) (ho : d.S e W base ok v xs) (ht : e ≠ 42) : some g ≠ v.ownBlock := by
 obtain ⟨A0, c0, A1, c1, A2, c2, hb, hg, hr0, hr1, hr2⟩ := h
 exact Kd.S_ne ho hb ht
theorem IsS42.lt {w0 W : World} {g : Nat} {f0 : List (S54)} {f1 : List Int} {f2 : List Int} (h : IsS42 w0 W g f0 f1 f2) : g < W.heap.size := by
 obtain ⟨A0, c0, A1, c1, A2, c2, hb, hg, hr0, hr1, hr2⟩ := h
 exact blk_lt hb
theorem IsS42.ge {w0 W : World} {g : Nat} {f0 : List (S54)} {f1 : List Int} {f2 : List Int} (h : IsS42 w0 W g f0 f1 f2) : w0.heap.size ≤ g := by
 obtain ⟨A0, c0, A1, c1, A2, c2, hb, hg, hr0, hr1, hr2⟩ := h
 exact hg
theorem IsS42.ne_blk {w0 W : World} {g : Nat} {f0 : List (S54)} {f1 : List Int} {f2 : List Int} {a : Nat} {cs : Array Value} {t : TypeId} {fr : Nat × Nat} (h : IsS42 w0 W g f0 f1 f2) (hb2 : W.heap[a]? = some (.cells cs t fr)) (ht : t ≠ 42) : g ≠ a := by
 obtain ⟨A0, c0, A1, c1, A2, c2, hb, hg, hr0, hr1, hr2⟩ := h
 rintro rfl
 rw [hb] at hb2
 injection hb2 with hb2
 injection hb2 with _ ht2
 exact ht ht2.symm
theorem IsS42.far {w0 W : World} {g : Nat} {f0 : List (S54)} {f1 : List Int} {f2 : List Int} {p : Addr} (h : IsS42 w0 W g f0 f1 f2) (hne : g ≠ p.block) (u : Value) : IsS42 w0 (W.setCell p u) g f0 f1 f2 := by
 obtain ⟨A0, c0, A1, c1, A2, c2, hb, hg, hr0, hr1, hr2⟩ := h
 exact ⟨A0, c0, A1, c1, A2, c2, blk_far hb hne u, hg, hr0, hr1, hr2⟩
theorem cellS42_0 {W : World} {g : Nat} {A0 : Option Addr} {c0 : Nat} {A1 : Option Addr} {c1 : Nat} {A2 : Option Addr} {c2 : Nat} {f0 : List (S54)} {f1 : List Int} {f2 : List Int} (h : W.heap[g]? = some (.cells #[.slice A0 f0.length c0, .slice A1 f1.length c1, .slice A2 f2.length c2] 42 (0, 0))) : W.cell? ⟨g, 0, none⟩ = some (.slice A0 f0.length c0) := (blk_cell h 0).trans rfl
theorem cellS42_1 {W : World} {g : Nat} {A0 : Option Addr} {c0 : Nat} {A1 : Option Addr} {c1 : Nat} {A2 : Option Addr} {c2 : Nat} {f0 : List (S54)} {f1 : List Int} {f2 : List Int} (h : W.heap[g]? = some (.cells #[.slice A0 f0.length c0, .slice A1 f1.length c1, .slice A2 f2.length c2] 42 (0, 0))) : W.cell? ⟨g, 1, none⟩ = some (.slice A1 f1.length c1) := (blk_cell h 1).trans rfl
theorem cellS42_2 {W : World} {g : Nat} {A0 : Option Addr} {c0 : Nat} {A1 : Option Addr} {c1 : Nat} {A2 : Option Addr} {c2 : Nat} {f0 : List (S54)} {f1 : List Int} {f2 : List Int} (h : W.heap[g]? = some (.cells #[.slice A0 f0.length c0, .slice A1 f1.length c1, .slice A2 f2.length c2] 42 (0, 0))) : W.cell? ⟨g, 2, none⟩ = some (.slice A2 f2.length c2) := (blk_cell h 2).trans rfl
theorem IsS42.new (w0 W : World) (A0 : Option Addr) (c0 : Nat) (A1 : Option Addr) (c1 : Nat) (A2 : Option Addr) (c2 : Nat) (f0 : List (S54)) (f1 : List Int) (f2 : List Int) (hB : Below w0.heap.size w0 W) (hr0 : Kd.C k54 w0 A0 f0.length f0) (hr1 : Kd.C (Kd.int .i64) w0 A1 f1.length f1) (hr2 : Kd.C (Kd.int .i64) w0 A2 f2.length f2) : IsS42 w0 (W.alloc (.cells #[.slice A0 f0.length c0, .slice A1 f1.length c1, .slice A2 f2.length c2] 42)) W.heap.size f0 f1 f2 := ⟨A0, c0, A1, c1, A2, c2, by simpa using heap_alloc_new W _, hB.size, hr0, hr1, hr2⟩

/-! ### boltingref11_Doc_element: function 77 -/
def boltingref11_Doc_element.f (s0_0 : List (S54)) (s0_1 : List Int) (s0_2 : List Int) (a1 : Int) : Option (Bool) := if a1 > 0 then (if a1 < (s0_0.length : Int) then (if 0 ≤ a1 then (some (((rd_T54 s0_0 a1).f1) == 0)) else (none)) else (some false)) else (some false)
set_option maxHeartbeats 8000000 in
set_option maxRecDepth 100000 in
theorem boltingref11_Doc_element.calls (g : Nat) (s0_0 : List (S54)) (s0_1 : List Int) (s0_2 : List Int) (a1 : Int) (r : Bool) (w0 w : World) (hI : IsS42 w0 w g s0_0 s0_1 s0_2) (hB : Below w0.heap.size w0 w) (h : boltingref11_Doc_element.f s0_0 s0_1 s0_2 a1 = some r) :
  Calls Try.prog 77 #[.pointer (some ⟨g, 0, none⟩), .int .i64 a1] w fun e w' => e = .returned (.bool r) ∧ IsS42 w0 w' g s0_0 s0_1 s0_2 ∧ Below w0.heap.size w0 w' ∧ KeepBut w w' g none := by
 have HI0 := Aside0.mk hI
 have HK := Aside0.mk (KeepBut.refl w g none)
 have HL := Aside0.mk hB.size
 clear hI
 have HW0 := Aside0.mk hB.size
 have HB := Aside0.mk hB
 clear hB
 have H : (if a1 > 0 then (if a1 < (s0_0.length : Int) then (if 0 ≤ a1 then (some (((rd_T54 s0_0 a1).f1) == 0)) else (none)) else (some false)) else (some false)) = some r := h
 clear h
 by_cases c3 : a1 > 0
 ·rw [if_pos c3] at H
  have c3b0 : decide (0 < a1) = true := decide_eq_true c3
  clear c3
  by_cases c4 : a1 < (s0_0.length : Int)
  ·rw [if_pos c4] at H
   have c4b0 : decide (a1 < (s0_0.length : Int)) = true := decide_eq_true c4
   clear c4
   by_cases c5 : 0 ≤ a1
   ·rw [if_pos c5] at H
    have c5b0 : decide (0 ≤ a1) = true := decide_eq_true c5
    clear c5
    obtain rfl := Option.some.inj H
    obtain ⟨ASz6_0, cSz6_0, ASz6_1, cSz6_1, ASz6_2, cSz6_2, HGz6, hgz6, HSz6_0, HSz6_1, HSz6_2⟩ := HI0.out
    have hcz6_0 := cellS42_0 HGz6
    have hcz6_1 := cellS42_1 HGz6
    have hcz6_2 := cellS42_2 HGz6
    clear HGz6 hgz6
    have p269 : 0 ≤ (a1 : Int) := of_decide_eq_true aA
    have q269 : a1 < (s0_0.length : Int) := of_decide_eq_true aA
    obtain ⟨ad269, A269_4, c269_4, e269, hx269_0, hx269_1, hx269_2, hx269_3, hx269_4, hl269_4, hi269_4⟩ := at_T54 HSz6_0 a1 p269 q269
    cases e269
    replace hx269_0 := pw_cell_below HB.out hx269_0
    replace hx269_1 := pw_cell_below HB.out hx269_1
    replace hx269_2 := pw_cell_below HB.out hx269_2
    replace hx269_3 := pw_cell_below HB.out hx269_3
    replace hx269_4 := pw_cell_below HB.out hx269_4
    have HR269_4 := Aside0.mk hi269_4
    have HC269_4 := Aside0.mk hl269_4
    clear hi269_4 hl269_4
    replace p269 := eq_true p269
    replace q269 := eq_true q269
    go_enter Try.func77, Try.ntmps77
    go_wp2
    go_ret
    exact ⟨by first | rfl | (simp [errW_none, errW_some] <;> rfl) | (simp [*, errW_none, errW_some] <;> rfl), by repeat (first | (with_reducible first | exact HI0.out | apply IsS42.alloc | apply IsS42.drewN | apply IsS42.drew) | exact HI0.out), by repeat (first | (with_reducible first | exact HB.out | apply below_alloc | apply pw_below_drewN | apply below_drew1 | refine below_set ?_ (IsS42.ge HI0.out)) | exact HB.out), by repeat (first | (with_reducible first | exact HK.out | apply KeepBut.set_ | apply keep_drewN | apply keep_drew | apply keep_alloc) | exact HK.out)⟩
   ·rw [if_neg c5] at H
    exact absurd H (by simp)
  ·rw [if_neg c4] at H
   have c4b0 : decide (a1 < (s0_0.length : Int)) = false := decide_eq_false c4
   clear c4
   obtain rfl := Option.some.inj H
   obtain ⟨ASz7_0, cSz7_0, ASz7_1, cSz7_1, ASz7_2, cSz7_2, HGz7, hgz7, HSz7_0, HSz7_1, HSz7_2⟩ := HI0.out
   have hcz7_0 := cellS42_0 HGz7
   have hcz7_1 := cellS42_1 HGz7
   have hcz7_2 := cellS42_2 HGz7
   clear HGz7 hgz7
   go_enter Try.func77, Try.ntmps77
   go_wp2
   go_ret
   exact ⟨by first | rfl | (simp [errW_none, errW_some] <;> rfl) | (simp [*, errW_none, errW_some] <;> rfl), by repeat (first | (with_reducible first | exact HI0.out | apply IsS42.alloc | apply IsS42.drewN | apply IsS42.drew) | exact HI0.out), by repeat (first | (with_reducible first | exact HB.out | apply below_alloc | apply pw_below_drewN | apply below_drew1 | refine below_set ?_ (IsS42.ge HI0.out)) | exact HB.out), by repeat (first | (with_reducible first | exact HK.out | apply KeepBut.set_ | apply keep_drewN | apply keep_drew | apply keep_alloc) | exact HK.out)⟩
 ·rw [if_neg c3] at H
  have c3b0 : decide (0 < a1) = false := decide_eq_false c3
  clear c3
  obtain rfl := Option.some.inj H
  go_enter Try.func77, Try.ntmps77
  go_wp2
  go_ret
  exact ⟨by first | rfl | (simp [errW_none, errW_some] <;> rfl) | (simp [*, errW_none, errW_some] <;> rfl), by repeat (first | (with_reducible first | exact HI0.out | apply IsS42.alloc | apply IsS42.drewN | apply IsS42.drew) | exact HI0.out), by repeat (first | (with_reducible first | exact HB.out | apply below_alloc | apply pw_below_drewN | apply below_drew1 | refine below_set ?_ (IsS42.ge HI0.out)) | exact HB.out), by repeat (first | (with_reducible first | exact HK.out | apply KeepBut.set_ | apply keep_drewN | apply keep_drew | apply keep_alloc) | exact HK.out)⟩

-- NOT PRINTED: function 55 (boltingref11_Doc_Attr)

-- NOT PRINTED: function 56 (boltingref11_Doc_Drop)

-- NOT PRINTED: function 57 (boltingref11_Doc_Data)

-- NOT PRINTED: function 23 (boltinglaw11_tells)

-- NOT PRINTED: function 10 (boltinglaw11_played)

-- NOT PRINTED: function 14 (arena_Doc_Kids)

-- NOT PRINTED: function 3 (boltinglaw11_ArenaMoves)

-- NOT PRINTED: function 43 (arena_node)

-- NOT PRINTED: function 20 (arena_Doc_Copy)

-- NOT PRINTED: function 24 (boltinglaw11_same)

-- NOT PRINTED: function 4 (boltinglaw11_ArenaDoes)

-- NOT PRINTED: function 6 (boltinglaw11_ArenaWithin)

end Go.Proofs.Ytpkaliaaffgbdaa.QA
