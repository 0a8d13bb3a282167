-- Written by a program of this claim's own (wip/gen/gen.py), out of the translation; an ordinary proof text.
import Derived.Test.YtllggaogjcknoaaQAx0
import Derived.Test.YtllggaogjcknoaaQAx2
import Derived.Test.YtllggaogjcknoaaQAx4
import Derived.Test.YtllggaogjcknoaaQAx7
import Derived.Test.YtllggaogjcknoaaQAx9
import Derived.Test.YtllggaogjcknoaaQAx10
namespace Go.Proofs.Ytllggaogjcknoaa.QA
open Go.RowKit Go.Proofs.YtllggaogjcknoaaW.PrintWords Go.Proofs.YtllggaogjcknoaaW.PrintLast Go.Proofs.YtllggaogjcknoaaW.PrintMore
attribute [local go_sem] max2_int min2_int max_two min_two max_three min_three max_four min_four   -- for this text's walks alone
set_option linter.unusedVariables false
set_option linter.unusedSimpArgs false

/-! ### boltinglaw04_RowsTexts: function 9 -/
mutual
def boltinglaw04_RowsTexts.j0 : Nat → List (S43) → Bool → Option (Bool)
  | 0, _, _ => none
  | k + 1, x3, x36 => if x36 = true then (some false) else (boltinglaw04_RowsTexts.l0 k x3 0)
def boltinglaw04_RowsTexts.l0 : Nat → List (S43) → Int → Option (Bool)
  | 0, _, _ => none
  | k + 1, x3, x4 => if x4 < (x3.length : Int) then (if 0 ≤ x4 then (if ((rd_T43 x3 x4).f1) = 1 then (if ((rd_T43 x3 x4).f3).toList = ([] : List UInt8) then (some false) else (if x4 > 0 then (if 0 ≤ (wrap64 (x4 - 1)) then (if (wrap64 (x4 - 1)) < (x3.length : Int) then (if ((rd_T43 x3 (wrap64 (x4 - 1))).f1) = 1 then (if ((rd_T43 x3 (wrap64 (x4 - 1))).f0) = ((rd_T43 x3 x4).f0) then (some false) else (boltinglaw04_RowsTexts.l0 k x3 (wrap64 (x4 + 1)))) else (boltinglaw04_RowsTexts.l0 k x3 (wrap64 (x4 + 1)))) else (none)) else (none)) else (boltinglaw04_RowsTexts.l0 k x3 (wrap64 (x4 + 1))))) else (boltinglaw04_RowsTexts.l0 k x3 (wrap64 (x4 + 1)))) else (none)) else ((boltinglaw04_fixed.f k).bind fun t508 => (some t508))
end
def boltinglaw04_RowsTexts.f (k : Nat) (l0 : List (S43)) : Option (Bool) := (boltinglaw04_bound.f k l0).bind fun t488 => ((rows_Check.f k t488).bind fun t491 => (if t491 = 0 then ((rows_Normal.f t488).bind fun t493 => ((rows_Check.f k t493).bind fun t496 => (if t496 = 0 then ((rows_Text.f t493 (-1)).bind fun t497 => ((rows_Text.f t488 (-1)).bind fun t498 => (if t497.toList = t498.toList then ((rows_Normal.f t493).bind fun t499 => ((rows_Same.f t499 t493).bind fun t502 => (if t502 = true then (boltinglaw04_RowsTexts.j0 k t493 (decide ((t493.length : Int) > (t488.length : Int)))) else (boltinglaw04_RowsTexts.j0 k t493 true)))) else (boltinglaw04_RowsTexts.j0 k t493 true)))) else (boltinglaw04_RowsTexts.j0 k t493 true)))) else ((boltinglaw04_fixed.f k).bind fun t492 => (some t492))))
theorem boltinglaw04_RowsTexts.mono_l : ∀ k, (∀ y0 y1, LeO (boltinglaw04_RowsTexts.j0 k y0 y1) (boltinglaw04_RowsTexts.j0 (k + 1) y0 y1)) ∧ (∀ y0 y1, LeO (boltinglaw04_RowsTexts.l0 k y0 y1) (boltinglaw04_RowsTexts.l0 (k + 1) y0 y1))
  | 0 => ⟨fun _ _ r h => by simp [boltinglaw04_RowsTexts.j0] at h, fun _ _ r h => by simp [boltinglaw04_RowsTexts.l0] at h⟩
  | k + 1 => by
    obtain ⟨ih0, ih1⟩ := boltinglaw04_RowsTexts.mono_l k
    refine ⟨?_, ?_⟩
    · intro y0 y1
      unfold boltinglaw04_RowsTexts.j0
      repeat' first
      | (with_reducible exact ih0 _ _)
      | (with_reducible exact ih1 _ _)
      | (with_reducible exact boltinglaw04_bound.mono _ _)
      | (with_reducible exact boltinglaw04_fixed.mono _)
      | (with_reducible exact rows_Check.mono _ _)
      | (with_reducible exact LeO.refl _)
      | (with_reducible exact LeO.none _)
      | (with_reducible refine LeO.ite ?_ ?_)
      | (with_reducible refine LeO.bind ?_ (fun _ => ?_))
      | exact ih0 _ _
      | exact ih1 _ _
      | exact boltinglaw04_bound.mono _ _
      | exact boltinglaw04_fixed.mono _
      | exact rows_Check.mono _ _
      | exact LeO.none _
      | refine LeO.ite ?_ ?_
      | refine LeO.bind ?_ (fun _ => ?_)
    · intro y0 y1
      unfold boltinglaw04_RowsTexts.l0
      repeat' first
      | (with_reducible exact ih0 _ _)
      | (with_reducible exact ih1 _ _)
      | (with_reducible exact boltinglaw04_bound.mono _ _)
      | (with_reducible exact boltinglaw04_fixed.mono _)
      | (with_reducible exact rows_Check.mono _ _)
      | (with_reducible exact LeO.refl _)
      | (with_reducible exact LeO.none _)
      | (with_reducible refine LeO.ite ?_ ?_)
      | (with_reducible refine LeO.bind ?_ (fun _ => ?_))
      | exact ih0 _ _
      | exact ih1 _ _
      | exact boltinglaw04_bound.mono _ _
      | exact boltinglaw04_fixed.mono _
      | exact rows_Check.mono _ _
      | exact LeO.none _
      | refine LeO.ite ?_ ?_
      | refine LeO.bind ?_ (fun _ => ?_)
theorem boltinglaw04_RowsTexts.mono : ∀ a0 k, LeO (boltinglaw04_RowsTexts.f k a0) (boltinglaw04_RowsTexts.f (k + 1) a0) := by
  intro a0 k
  obtain ⟨ih0, ih1⟩ := boltinglaw04_RowsTexts.mono_l k
  unfold boltinglaw04_RowsTexts.f
  repeat' first
      | (with_reducible exact ih0 _ _)
      | (with_reducible exact ih1 _ _)
      | (with_reducible exact boltinglaw04_bound.mono _ _)
      | (with_reducible exact boltinglaw04_fixed.mono _)
      | (with_reducible exact rows_Check.mono _ _)
      | (with_reducible exact LeO.refl _)
      | (with_reducible exact LeO.none _)
      | (with_reducible refine LeO.ite ?_ ?_)
      | (with_reducible refine LeO.bind ?_ (fun _ => ?_))
      | exact ih0 _ _
      | exact ih1 _ _
      | exact boltinglaw04_bound.mono _ _
      | exact boltinglaw04_fixed.mono _
      | exact rows_Check.mono _ _
      | exact LeO.none _
      | refine LeO.ite ?_ ?_
      | refine LeO.bind ?_ (fun _ => ?_)
set_option maxHeartbeats 8000000 in
set_option maxRecDepth 100000 in
theorem boltinglaw04_RowsTexts.calls (k : Nat) (A0 : Option Addr) (c0 : Nat) (l0 : List (S43)) (r : Bool) (w : World) (hr0 : Kd.C k43 w A0 l0.length l0) (hc0 : l0.length ≤ c0) (h : boltinglaw04_RowsTexts.f k l0 = some r) :
    Calls Try.prog 9 #[.slice A0 l0.length c0] w fun e w' => e = .returned (.bool r) ∧ Below w.heap.size w w' := by
  have HR0 := Aside0.mk hr0
  have HC0 := Aside0.mk hc0
  clear hr0 hc0
  have HB := Aside0.mk (Below.refl w.heap.size w)
  have H : ((boltinglaw04_bound.f k l0).bind fun t488 => ((rows_Check.f k t488).bind fun t491 => (if t491 = 0 then ((rows_Normal.f t488).bind fun t493 => ((rows_Check.f k t493).bind fun t496 => (if t496 = 0 then ((rows_Text.f t493 (-1)).bind fun t497 => ((rows_Text.f t488 (-1)).bind fun t498 => (if t497.toList = t498.toList then ((rows_Normal.f t493).bind fun t499 => ((rows_Same.f t499 t493).bind fun t502 => (if t502 = true then (boltinglaw04_RowsTexts.j0 k t493 (decide ((t493.length : Int) > (t488.length : Int)))) else (boltinglaw04_RowsTexts.j0 k t493 true)))) else (boltinglaw04_RowsTexts.j0 k t493 true)))) else (boltinglaw04_RowsTexts.j0 k t493 true)))) else ((boltinglaw04_fixed.f k).bind fun t492 => (some t492))))) = some r := h
  clear h
  replace H := Option.bind_eq_some_iff.mp H
  obtain ⟨t488, A20, H⟩ := H
  replace H : ((rows_Check.f k t488).bind fun t491 => (if t491 = 0 then ((rows_Normal.f t488).bind fun t493 => ((rows_Check.f k t493).bind fun t496 => (if t496 = 0 then ((rows_Text.f t493 (-1)).bind fun t497 => ((rows_Text.f t488 (-1)).bind fun t498 => (if t497.toList = t498.toList then ((rows_Normal.f t493).bind fun t499 => ((rows_Same.f t499 t493).bind fun t502 => (if t502 = true then (boltinglaw04_RowsTexts.j0 k t493 (decide ((t493.length : Int) > (t488.length : Int)))) else (boltinglaw04_RowsTexts.j0 k t493 true)))) else (boltinglaw04_RowsTexts.j0 k t493 true)))) else (boltinglaw04_RowsTexts.j0 k t493 true)))) else ((boltinglaw04_fixed.f k).bind fun t492 => (some t492)))) = some r := H
  have A2 := Aside0.mk A20
  clear A20
  replace H := Option.bind_eq_some_iff.mp H
  obtain ⟨t491, A30, H⟩ := H
  replace H : (if t491 = 0 then ((rows_Normal.f t488).bind fun t493 => ((rows_Check.f k t493).bind fun t496 => (if t496 = 0 then ((rows_Text.f t493 (-1)).bind fun t497 => ((rows_Text.f t488 (-1)).bind fun t498 => (if t497.toList = t498.toList then ((rows_Normal.f t493).bind fun t499 => ((rows_Same.f t499 t493).bind fun t502 => (if t502 = true then (boltinglaw04_RowsTexts.j0 k t493 (decide ((t493.length : Int) > (t488.length : Int)))) else (boltinglaw04_RowsTexts.j0 k t493 true)))) else (boltinglaw04_RowsTexts.j0 k t493 true)))) else (boltinglaw04_RowsTexts.j0 k t493 true)))) else ((boltinglaw04_fixed.f k).bind fun t492 => (some t492))) = some r := H
  have A3 := Aside0.mk A30
  clear A30
  by_cases c4 : t491 = 0
  · rw [if_pos c4] at H
    have c4b0 : (t491 == 0) = true := beq_iff_eq.mpr c4
    have c4b1 : (t491 != 0) = false := bne_eq_false_iff_eq.mpr c4
    clear c4
    replace H := Option.bind_eq_some_iff.mp H
    obtain ⟨t493, A50, H⟩ := H
    replace H : ((rows_Check.f k t493).bind fun t496 => (if t496 = 0 then ((rows_Text.f t493 (-1)).bind fun t497 => ((rows_Text.f t488 (-1)).bind fun t498 => (if t497.toList = t498.toList then ((rows_Normal.f t493).bind fun t499 => ((rows_Same.f t499 t493).bind fun t502 => (if t502 = true then (boltinglaw04_RowsTexts.j0 k t493 (decide ((t493.length : Int) > (t488.length : Int)))) else (boltinglaw04_RowsTexts.j0 k t493 true)))) else (boltinglaw04_RowsTexts.j0 k t493 true)))) else (boltinglaw04_RowsTexts.j0 k t493 true))) = some r := H
    have A5 := Aside0.mk A50
    clear A50
    have HC6 := Aside0.mk H
    clear H
    go_enter Try.func9, Try.ntmps9
    go_upto_region 5 with (first | (go_at_call 11; (with_reducible refine (boltinglaw04_bound.calls k (fun k_ => k_ < w.heap.size) _ _ l0 t488 _ ?side1 A2.out).mono ?_); (case side1 => exact Kd.V_mk HC0.out (Kd.F_below (Kd.C_F k43_heap HR0.out) (by repeat (first | (with_reducible first | exact HB.out | apply below_alloc | apply pw_below_drewN | apply below_drew1) | exact HB.out)))); rintro e w7 ⟨v489, rfl, ho0, hb⟩; have n0_ := Aside0.mk (Kd.N_lower (Kd.N_mono (ok' := fun k_ => True) ho0 (fun k_ hk_ => trivial)) (below_size (by repeat (first | (with_reducible first | exact HB.out | apply below_alloc | apply pw_below_drewN | apply below_drew1) | exact HB.out)))); have n1_ := Aside0.mk (below_step (by repeat (first | (with_reducible first | exact HB.out | apply below_alloc | apply pw_below_drewN | apply below_drew1) | exact HB.out)) hb); clear HB; have HO490 := n0_; have HB := n1_; clear n0_ n1_; (try clear hb); (try clear hb2); (try clear hk); (try clear hi); (try clear ho0); obtain ⟨Ao8, co8, eo8⟩ := Kd.N_slice HO490.out; subst eo8) | (go_at_call 13; (with_reducible refine (rows_Check.calls k _ _ t488 t491 _ ?side1 ?side2 A3.out).mono ?_); (case side1 => repeat (first | exact (Kd.N_reads' HO490.out).2.2 | (with_reducible refine Kd.C_alloc ?_ _) | (with_reducible refine Kd.C_drewN ?_ _) | (with_reducible refine Kd.C_drew ?_))); (case side2 => exact (Kd.N_reads' HO490.out).2.1); rintro e w9 ⟨rfl, hb⟩; have n0_ := Aside0.mk (Kd.N_below (by (with_reducible repeat (first | apply Kd.N_alloc | apply Kd.N_drewN | apply Kd.N_drew)); exact HO490.out) hb); have n1_ := Aside0.mk (below_step (by repeat (first | (with_reducible first | exact HB.out | apply below_alloc | apply pw_below_drewN | apply below_drew1) | exact HB.out)) hb); clear HO490; clear HB; have HO490 := n0_; have HB := n1_; clear n0_ n1_; (try clear hb); (try clear hb2); (try clear hk); (try clear hi)) | (go_at_call 33; (with_reducible refine (rows_Normal.calls _ _ t488 t493 _ ?side1 ?side2 A5.out).mono ?_); (case side1 => repeat (first | exact (Kd.N_reads' HO490.out).2.2 | (with_reducible refine Kd.C_alloc ?_ _) | (with_reducible refine Kd.C_drewN ?_ _) | (with_reducible refine Kd.C_drew ?_))); (case side2 => exact (Kd.N_reads' HO490.out).2.1); rintro e w10 ⟨v494, rfl, ho0, hb⟩; have n0_ := Aside0.mk (Kd.N_elder' (by (with_reducible repeat (first | apply Kd.N_alloc | apply Kd.N_drewN | apply Kd.N_drew)); exact HO490.out) (by first | exact Kd.N_base ho0 | exact Kd.S_base ho0 | exact Kd.R_base ho0) hb); have n1_ := Aside0.mk (Kd.N_lower (Kd.N_mono (ok' := fun k_ => some k_ ≠ (.slice Ao8 t488.length co8 : Value).ownBlock) (Kd.S_N (Kd.S_bound ho0)) (fun k_ hk_ => (Kd.fresh' (Kd.N_lt (by (with_reducible repeat (first | apply Kd.N_alloc | apply Kd.N_drewN | apply Kd.N_drew)); exact HO490.out)) k_ hk_.2.1))) (below_size (by repeat (first | (with_reducible first | exact HB.out | apply below_alloc | apply pw_below_drewN | apply below_drew1) | exact HB.out)))); have n2_ := Aside0.mk (below_step (by repeat (first | (with_reducible first | exact HB.out | apply below_alloc | apply pw_below_drewN | apply below_drew1) | exact HB.out)) hb); clear HO490; clear HB; have HO490 := n0_; have HO495 := n1_; have HB := n2_; clear n0_ n1_ n2_; (try clear hb); (try clear hb2); (try clear hk); (try clear hi); (try clear ho0)))
    repeat (go_quiet (first | (go_at_call 11; (with_reducible refine (boltinglaw04_bound.calls k (fun k_ => k_ < w.heap.size) _ _ l0 t488 _ ?side1 A2.out).mono ?_); (case side1 => exact Kd.V_mk HC0.out (Kd.F_below (Kd.C_F k43_heap HR0.out) (by repeat (first | (with_reducible first | exact HB.out | apply below_alloc | apply pw_below_drewN | apply below_drew1) | exact HB.out)))); rintro e w7 ⟨v489, rfl, ho0, hb⟩; have n0_ := Aside0.mk (Kd.N_lower (Kd.N_mono (ok' := fun k_ => True) ho0 (fun k_ hk_ => trivial)) (below_size (by repeat (first | (with_reducible first | exact HB.out | apply below_alloc | apply pw_below_drewN | apply below_drew1) | exact HB.out)))); have n1_ := Aside0.mk (below_step (by repeat (first | (with_reducible first | exact HB.out | apply below_alloc | apply pw_below_drewN | apply below_drew1) | exact HB.out)) hb); clear HB; have HO490 := n0_; have HB := n1_; clear n0_ n1_; (try clear hb); (try clear hb2); (try clear hk); (try clear hi); (try clear ho0); obtain ⟨Ao8, co8, eo8⟩ := Kd.N_slice HO490.out; subst eo8) | (go_at_call 13; (with_reducible refine (rows_Check.calls k _ _ t488 t491 _ ?side1 ?side2 A3.out).mono ?_); (case side1 => repeat (first | exact (Kd.N_reads' HO490.out).2.2 | (with_reducible refine Kd.C_alloc ?_ _) | (with_reducible refine Kd.C_drewN ?_ _) | (with_reducible refine Kd.C_drew ?_))); (case side2 => exact (Kd.N_reads' HO490.out).2.1); rintro e w9 ⟨rfl, hb⟩; have n0_ := Aside0.mk (Kd.N_below (by (with_reducible repeat (first | apply Kd.N_alloc | apply Kd.N_drewN | apply Kd.N_drew)); exact HO490.out) hb); have n1_ := Aside0.mk (below_step (by repeat (first | (with_reducible first | exact HB.out | apply below_alloc | apply pw_below_drewN | apply below_drew1) | exact HB.out)) hb); clear HO490; clear HB; have HO490 := n0_; have HB := n1_; clear n0_ n1_; (try clear hb); (try clear hb2); (try clear hk); (try clear hi)) | (go_at_call 33; (with_reducible refine (rows_Normal.calls _ _ t488 t493 _ ?side1 ?side2 A5.out).mono ?_); (case side1 => repeat (first | exact (Kd.N_reads' HO490.out).2.2 | (with_reducible refine Kd.C_alloc ?_ _) | (with_reducible refine Kd.C_drewN ?_ _) | (with_reducible refine Kd.C_drew ?_))); (case side2 => exact (Kd.N_reads' HO490.out).2.1); rintro e w10 ⟨v494, rfl, ho0, hb⟩; have n0_ := Aside0.mk (Kd.N_elder' (by (with_reducible repeat (first | apply Kd.N_alloc | apply Kd.N_drewN | apply Kd.N_drew)); exact HO490.out) (by first | exact Kd.N_base ho0 | exact Kd.S_base ho0 | exact Kd.R_base ho0) hb); have n1_ := Aside0.mk (Kd.N_lower (Kd.N_mono (ok' := fun k_ => some k_ ≠ (.slice Ao8 t488.length co8 : Value).ownBlock) (Kd.S_N (Kd.S_bound ho0)) (fun k_ hk_ => (Kd.fresh' (Kd.N_lt (by (with_reducible repeat (first | apply Kd.N_alloc | apply Kd.N_drewN | apply Kd.N_drew)); exact HO490.out)) k_ hk_.2.1))) (below_size (by repeat (first | (with_reducible first | exact HB.out | apply below_alloc | apply pw_below_drewN | apply below_drew1) | exact HB.out)))); have n2_ := Aside0.mk (below_step (by repeat (first | (with_reducible first | exact HB.out | apply below_alloc | apply pw_below_drewN | apply below_drew1) | exact HB.out)) hb); clear HO490; clear HB; have HO490 := n0_; have HO495 := n1_; have HB := n2_; clear n0_ n1_ n2_; (try clear hb); (try clear hb2); (try clear hk); (try clear hi); (try clear ho0))); go_upto_region 5 with (first | (go_at_call 11; (with_reducible refine (boltinglaw04_bound.calls k (fun k_ => k_ < w.heap.size) _ _ l0 t488 _ ?side1 A2.out).mono ?_); (case side1 => exact Kd.V_mk HC0.out (Kd.F_below (Kd.C_F k43_heap HR0.out) (by repeat (first | (with_reducible first | exact HB.out | apply below_alloc | apply pw_below_drewN | apply below_drew1) | exact HB.out)))); rintro e w7 ⟨v489, rfl, ho0, hb⟩; have n0_ := Aside0.mk (Kd.N_lower (Kd.N_mono (ok' := fun k_ => True) ho0 (fun k_ hk_ => trivial)) (below_size (by repeat (first | (with_reducible first | exact HB.out | apply below_alloc | apply pw_below_drewN | apply below_drew1) | exact HB.out)))); have n1_ := Aside0.mk (below_step (by repeat (first | (with_reducible first | exact HB.out | apply below_alloc | apply pw_below_drewN | apply below_drew1) | exact HB.out)) hb); clear HB; have HO490 := n0_; have HB := n1_; clear n0_ n1_; (try clear hb); (try clear hb2); (try clear hk); (try clear hi); (try clear ho0); obtain ⟨Ao8, co8, eo8⟩ := Kd.N_slice HO490.out; subst eo8) | (go_at_call 13; (with_reducible refine (rows_Check.calls k _ _ t488 t491 _ ?side1 ?side2 A3.out).mono ?_); (case side1 => repeat (first | exact (Kd.N_reads' HO490.out).2.2 | (with_reducible refine Kd.C_alloc ?_ _) | (with_reducible refine Kd.C_drewN ?_ _) | (with_reducible refine Kd.C_drew ?_))); (case side2 => exact (Kd.N_reads' HO490.out).2.1); rintro e w9 ⟨rfl, hb⟩; have n0_ := Aside0.mk (Kd.N_below (by (with_reducible repeat (first | apply Kd.N_alloc | apply Kd.N_drewN | apply Kd.N_drew)); exact HO490.out) hb); have n1_ := Aside0.mk (below_step (by repeat (first | (with_reducible first | exact HB.out | apply below_alloc | apply pw_below_drewN | apply below_drew1) | exact HB.out)) hb); clear HO490; clear HB; have HO490 := n0_; have HB := n1_; clear n0_ n1_; (try clear hb); (try clear hb2); (try clear hk); (try clear hi)) | (go_at_call 33; (with_reducible refine (rows_Normal.calls _ _ t488 t493 _ ?side1 ?side2 A5.out).mono ?_); (case side1 => repeat (first | exact (Kd.N_reads' HO490.out).2.2 | (with_reducible refine Kd.C_alloc ?_ _) | (with_reducible refine Kd.C_drewN ?_ _) | (with_reducible refine Kd.C_drew ?_))); (case side2 => exact (Kd.N_reads' HO490.out).2.1); rintro e w10 ⟨v494, rfl, ho0, hb⟩; have n0_ := Aside0.mk (Kd.N_elder' (by (with_reducible repeat (first | apply Kd.N_alloc | apply Kd.N_drewN | apply Kd.N_drew)); exact HO490.out) (by first | exact Kd.N_base ho0 | exact Kd.S_base ho0 | exact Kd.R_base ho0) hb); have n1_ := Aside0.mk (Kd.N_lower (Kd.N_mono (ok' := fun k_ => some k_ ≠ (.slice Ao8 t488.length co8 : Value).ownBlock) (Kd.S_N (Kd.S_bound ho0)) (fun k_ hk_ => (Kd.fresh' (Kd.N_lt (by (with_reducible repeat (first | apply Kd.N_alloc | apply Kd.N_drewN | apply Kd.N_drew)); exact HO490.out)) k_ hk_.2.1))) (below_size (by repeat (first | (with_reducible first | exact HB.out | apply below_alloc | apply pw_below_drewN | apply below_drew1) | exact HB.out)))); have n2_ := Aside0.mk (below_step (by repeat (first | (with_reducible first | exact HB.out | apply below_alloc | apply pw_below_drewN | apply below_drew1) | exact HB.out)) hb); clear HO490; clear HB; have HO490 := n0_; have HO495 := n1_; have HB := n2_; clear n0_ n1_ n2_; (try clear hb); (try clear hb2); (try clear hk); (try clear hi); (try clear ho0))))
    (try simp only [Act.put, List.setIfInBounds_toArray, List.set_cons_zero, List.set_cons_succ])
    go_cut [36] (fun v36 wc => ∃ (kq : Nat) (x36_5 : Bool), v36 = .bool x36_5 ∧ Aside0 (boltinglaw04_RowsTexts.j0 kq t493 x36_5 = some r) ∧ Aside0 (kq ≤ k) ∧ Aside0 (Kd.N k43 43 wc w.heap.size (fun _ => True) v494 t493) ∧ Aside0 (Below w.heap.size w wc))
    case first =>
      have H := HC6.out
      clear HC6
      replace H := Option.bind_eq_some_iff.mp H
      obtain ⟨t496, A110, H⟩ := H
      replace H : (if t496 = 0 then ((rows_Text.f t493 (-1)).bind fun t497 => ((rows_Text.f t488 (-1)).bind fun t498 => (if t497.toList = t498.toList then ((rows_Normal.f t493).bind fun t499 => ((rows_Same.f t499 t493).bind fun t502 => (if t502 = true then (boltinglaw04_RowsTexts.j0 k t493 (decide ((t493.length : Int) > (t488.length : Int)))) else (boltinglaw04_RowsTexts.j0 k t493 true)))) else (boltinglaw04_RowsTexts.j0 k t493 true)))) else (boltinglaw04_RowsTexts.j0 k t493 true)) = some r := H
      have A11 := Aside0.mk A110
      clear A110
      by_cases c12 : t496 = 0
      · rw [if_pos c12] at H
        have c12b0 : (t496 == 0) = true := beq_iff_eq.mpr c12
        have c12b1 : (t496 != 0) = false := bne_eq_false_iff_eq.mpr c12
        clear c12
        (first | rw [c12b0] | (simp only [i64_w, i32_w]; rw [c12b0]) | skip)
        replace H := Option.bind_eq_some_iff.mp H
        obtain ⟨t497, A130, H⟩ := H
        replace H : ((rows_Text.f t488 (-1)).bind fun t498 => (if t497.toList = t498.toList then ((rows_Normal.f t493).bind fun t499 => ((rows_Same.f t499 t493).bind fun t502 => (if t502 = true then (boltinglaw04_RowsTexts.j0 k t493 (decide ((t493.length : Int) > (t488.length : Int)))) else (boltinglaw04_RowsTexts.j0 k t493 true)))) else (boltinglaw04_RowsTexts.j0 k t493 true))) = some r := H
        have A13 := Aside0.mk A130
        clear A130
        replace H := Option.bind_eq_some_iff.mp H
        obtain ⟨t498, A140, H⟩ := H
        replace H : (if t497.toList = t498.toList then ((rows_Normal.f t493).bind fun t499 => ((rows_Same.f t499 t493).bind fun t502 => (if t502 = true then (boltinglaw04_RowsTexts.j0 k t493 (decide ((t493.length : Int) > (t488.length : Int)))) else (boltinglaw04_RowsTexts.j0 k t493 true)))) else (boltinglaw04_RowsTexts.j0 k t493 true)) = some r := H
        have A14 := Aside0.mk A140
        clear A140
        by_cases c15 : t497.toList = t498.toList
        · rw [if_pos c15] at H
          have c15b0 : (t497.toList == t498.toList) = true := beq_iff_eq.mpr c15
          have c15b1 : (t497.toList != t498.toList) = false := bne_eq_false_iff_eq.mpr c15
          clear c15
          replace H := Option.bind_eq_some_iff.mp H
          obtain ⟨t499, A160, H⟩ := H
          replace H : ((rows_Same.f t499 t493).bind fun t502 => (if t502 = true then (boltinglaw04_RowsTexts.j0 k t493 (decide ((t493.length : Int) > (t488.length : Int)))) else (boltinglaw04_RowsTexts.j0 k t493 true))) = some r := H
          have A16 := Aside0.mk A160
          clear A160
          replace H := Option.bind_eq_some_iff.mp H
          obtain ⟨t502, A170, H⟩ := H
          replace H : (if t502 = true then (boltinglaw04_RowsTexts.j0 k t493 (decide ((t493.length : Int) > (t488.length : Int)))) else (boltinglaw04_RowsTexts.j0 k t493 true)) = some r := H
          have A17 := Aside0.mk A170
          clear A170
          by_cases c18 : t502 = true
          · subst c18
            have H1 : (boltinglaw04_RowsTexts.j0 k t493 (decide ((t493.length : Int) > (t488.length : Int)))) = some r := by rw [if_pos rfl] at H; exact H
            clear H
            have H := H1
            clear H1
            have H' := Aside0.mk H
            clear H
            obtain ⟨Ao19, co19, eo19⟩ := Kd.N_slice HO495.out
            subst eo19
            go_wp2_with (first | (go_at_call 13; (with_reducible refine (rows_Check.calls k _ _ t493 t496 _ ?side1 ?side2 A11.out).mono ?_); (case side1 => repeat (first | exact (Kd.N_reads' HO495.out).2.2 | (with_reducible refine Kd.C_alloc ?_ _) | (with_reducible refine Kd.C_drewN ?_ _) | (with_reducible refine Kd.C_drew ?_))); (case side2 => exact (Kd.N_reads' HO495.out).2.1); rintro e w20 ⟨rfl, hb⟩; have n0_ := Aside0.mk (Kd.N_below (by (with_reducible repeat (first | apply Kd.N_alloc | apply Kd.N_drewN | apply Kd.N_drew)); exact HO490.out) hb); have n1_ := Aside0.mk (Kd.N_below (by (with_reducible repeat (first | apply Kd.N_alloc | apply Kd.N_drewN | apply Kd.N_drew)); exact HO495.out) hb); have n2_ := Aside0.mk (below_step (by repeat (first | (with_reducible first | exact HB.out | apply below_alloc | apply pw_below_drewN | apply below_drew1) | exact HB.out)) hb); clear HO490; clear HO495; clear HB; have HO490 := n0_; have HO495 := n1_; have HB := n2_; clear n0_ n1_ n2_; (try clear hb); (try clear hb2); (try clear hk); (try clear hi)) | (go_at_call 26; (with_reducible refine (rows_Text.calls _ _ t493 (-1) t497 _ ?side1 ?side2 A13.out).mono ?_); (case side1 => repeat (first | exact (Kd.N_reads' HO495.out).2.2 | (with_reducible refine Kd.C_alloc ?_ _) | (with_reducible refine Kd.C_drewN ?_ _) | (with_reducible refine Kd.C_drew ?_))); (case side2 => exact (Kd.N_reads' HO495.out).2.1); rintro e w21 ⟨rfl, hb⟩; have n0_ := Aside0.mk (Kd.N_below (by (with_reducible repeat (first | apply Kd.N_alloc | apply Kd.N_drewN | apply Kd.N_drew)); exact HO490.out) hb); have n1_ := Aside0.mk (Kd.N_below (by (with_reducible repeat (first | apply Kd.N_alloc | apply Kd.N_drewN | apply Kd.N_drew)); exact HO495.out) hb); have n2_ := Aside0.mk (below_step (by repeat (first | (with_reducible first | exact HB.out | apply below_alloc | apply pw_below_drewN | apply below_drew1) | exact HB.out)) hb); clear HO490; clear HO495; clear HB; have HO490 := n0_; have HO495 := n1_; have HB := n2_; clear n0_ n1_ n2_; (try clear hb); (try clear hb2); (try clear hk); (try clear hi)) | (go_at_call 26; (with_reducible refine (rows_Text.calls _ _ t488 (-1) t498 _ ?side1 ?side2 A14.out).mono ?_); (case side1 => repeat (first | exact (Kd.N_reads' HO490.out).2.2 | (with_reducible refine Kd.C_alloc ?_ _) | (with_reducible refine Kd.C_drewN ?_ _) | (with_reducible refine Kd.C_drew ?_))); (case side2 => exact (Kd.N_reads' HO490.out).2.1); rintro e w22 ⟨rfl, hb⟩; have n0_ := Aside0.mk (Kd.N_below (by (with_reducible repeat (first | apply Kd.N_alloc | apply Kd.N_drewN | apply Kd.N_drew)); exact HO490.out) hb); have n1_ := Aside0.mk (Kd.N_below (by (with_reducible repeat (first | apply Kd.N_alloc | apply Kd.N_drewN | apply Kd.N_drew)); exact HO495.out) hb); have n2_ := Aside0.mk (below_step (by repeat (first | (with_reducible first | exact HB.out | apply below_alloc | apply pw_below_drewN | apply below_drew1) | exact HB.out)) hb); clear HO490; clear HO495; clear HB; have HO490 := n0_; have HO495 := n1_; have HB := n2_; clear n0_ n1_ n2_; (try clear hb); (try clear hb2); (try clear hk); (try clear hi)) | (go_at_call 33; (with_reducible refine (rows_Normal.calls _ _ t493 t499 _ ?side1 ?side2 A16.out).mono ?_); (case side1 => repeat (first | exact (Kd.N_reads' HO495.out).2.2 | (with_reducible refine Kd.C_alloc ?_ _) | (with_reducible refine Kd.C_drewN ?_ _) | (with_reducible refine Kd.C_drew ?_))); (case side2 => exact (Kd.N_reads' HO495.out).2.1); rintro e w23 ⟨v500, rfl, ho0, hb⟩; have n0_ := Aside0.mk (Kd.N_elder' (by (with_reducible repeat (first | apply Kd.N_alloc | apply Kd.N_drewN | apply Kd.N_drew)); exact HO490.out) (by first | exact Kd.N_base ho0 | exact Kd.S_base ho0 | exact Kd.R_base ho0) hb); have n1_ := Aside0.mk (Kd.N_elder' (by (with_reducible repeat (first | apply Kd.N_alloc | apply Kd.N_drewN | apply Kd.N_drew)); exact HO495.out) (by first | exact Kd.N_base ho0 | exact Kd.S_base ho0 | exact Kd.R_base ho0) hb); have n2_ := Aside0.mk (Kd.N_lower (Kd.N_mono (ok' := fun k_ => some k_ ≠ (.slice Ao8 t488.length co8 : Value).ownBlock ∧ some k_ ≠ (.slice Ao19 t493.length co19 : Value).ownBlock) (Kd.S_N (Kd.S_bound ho0)) (fun k_ hk_ => ⟨(Kd.fresh' (Kd.N_lt (by (with_reducible repeat (first | apply Kd.N_alloc | apply Kd.N_drewN | apply Kd.N_drew)); exact HO490.out)) k_ hk_.2.1), (Kd.fresh' (Kd.N_lt (by (with_reducible repeat (first | apply Kd.N_alloc | apply Kd.N_drewN | apply Kd.N_drew)); exact HO495.out)) k_ hk_.2.1)⟩)) (below_size (by repeat (first | (with_reducible first | exact HB.out | apply below_alloc | apply pw_below_drewN | apply below_drew1) | exact HB.out)))); have n3_ := Aside0.mk (below_step (by repeat (first | (with_reducible first | exact HB.out | apply below_alloc | apply pw_below_drewN | apply below_drew1) | exact HB.out)) hb); clear HO490; clear HO495; clear HB; have HO490 := n0_; have HO495 := n1_; have HO501 := n2_; have HB := n3_; clear n0_ n1_ n2_ n3_; (try clear hb); (try clear hb2); (try clear hk); (try clear hi); (try clear ho0); obtain ⟨Ao24, co24, eo24⟩ := Kd.N_slice HO501.out; subst eo24) | (go_at_call 15; (with_reducible refine (rows_Same.calls _ _ t499 _ _ t493 true _ ?side1 ?side2 ?side3 ?side4 A17.out).mono ?_); (case side1 => repeat (first | exact (Kd.N_reads' HO501.out).2.2 | (with_reducible refine Kd.C_alloc ?_ _) | (with_reducible refine Kd.C_drewN ?_ _) | (with_reducible refine Kd.C_drew ?_))); (case side2 => exact (Kd.N_reads' HO501.out).2.1); (case side3 => repeat (first | exact (Kd.N_reads' HO495.out).2.2 | (with_reducible refine Kd.C_alloc ?_ _) | (with_reducible refine Kd.C_drewN ?_ _) | (with_reducible refine Kd.C_drew ?_))); (case side4 => exact (Kd.N_reads' HO495.out).2.1); rintro e w25 ⟨rfl, hb⟩; have n0_ := Aside0.mk (Kd.N_below (by (with_reducible repeat (first | apply Kd.N_alloc | apply Kd.N_drewN | apply Kd.N_drew)); exact HO490.out) hb); have n1_ := Aside0.mk (Kd.N_below (by (with_reducible repeat (first | apply Kd.N_alloc | apply Kd.N_drewN | apply Kd.N_drew)); exact HO495.out) hb); have n2_ := Aside0.mk (Kd.N_below (by (with_reducible repeat (first | apply Kd.N_alloc | apply Kd.N_drewN | apply Kd.N_drew)); exact HO501.out) hb); have n3_ := Aside0.mk (below_step (by repeat (first | (with_reducible first | exact HB.out | apply below_alloc | apply pw_below_drewN | apply below_drew1) | exact HB.out)) hb); clear HO490; clear HO495; clear HO501; clear HB; have HO490 := n0_; have HO495 := n1_; have HO501 := n2_; have HB := n3_; clear n0_ n1_ n2_ n3_; (try clear hb); (try clear hb2); (try clear hk); (try clear hi)))
            repeat (go_quiet (first | (go_at_call 13; (with_reducible refine (rows_Check.calls k _ _ t493 t496 _ ?side1 ?side2 A11.out).mono ?_); (case side1 => repeat (first | exact (Kd.N_reads' HO495.out).2.2 | (with_reducible refine Kd.C_alloc ?_ _) | (with_reducible refine Kd.C_drewN ?_ _) | (with_reducible refine Kd.C_drew ?_))); (case side2 => exact (Kd.N_reads' HO495.out).2.1); rintro e w20 ⟨rfl, hb⟩; have n0_ := Aside0.mk (Kd.N_below (by (with_reducible repeat (first | apply Kd.N_alloc | apply Kd.N_drewN | apply Kd.N_drew)); exact HO490.out) hb); have n1_ := Aside0.mk (Kd.N_below (by (with_reducible repeat (first | apply Kd.N_alloc | apply Kd.N_drewN | apply Kd.N_drew)); exact HO495.out) hb); have n2_ := Aside0.mk (below_step (by repeat (first | (with_reducible first | exact HB.out | apply below_alloc | apply pw_below_drewN | apply below_drew1) | exact HB.out)) hb); clear HO490; clear HO495; clear HB; have HO490 := n0_; have HO495 := n1_; have HB := n2_; clear n0_ n1_ n2_; (try clear hb); (try clear hb2); (try clear hk); (try clear hi)) | (go_at_call 26; (with_reducible refine (rows_Text.calls _ _ t493 (-1) t497 _ ?side1 ?side2 A13.out).mono ?_); (case side1 => repeat (first | exact (Kd.N_reads' HO495.out).2.2 | (with_reducible refine Kd.C_alloc ?_ _) | (with_reducible refine Kd.C_drewN ?_ _) | (with_reducible refine Kd.C_drew ?_))); (case side2 => exact (Kd.N_reads' HO495.out).2.1); rintro e w21 ⟨rfl, hb⟩; have n0_ := Aside0.mk (Kd.N_below (by (with_reducible repeat (first | apply Kd.N_alloc | apply Kd.N_drewN | apply Kd.N_drew)); exact HO490.out) hb); have n1_ := Aside0.mk (Kd.N_below (by (with_reducible repeat (first | apply Kd.N_alloc | apply Kd.N_drewN | apply Kd.N_drew)); exact HO495.out) hb); have n2_ := Aside0.mk (below_step (by repeat (first | (with_reducible first | exact HB.out | apply below_alloc | apply pw_below_drewN | apply below_drew1) | exact HB.out)) hb); clear HO490; clear HO495; clear HB; have HO490 := n0_; have HO495 := n1_; have HB := n2_; clear n0_ n1_ n2_; (try clear hb); (try clear hb2); (try clear hk); (try clear hi)) | (go_at_call 26; (with_reducible refine (rows_Text.calls _ _ t488 (-1) t498 _ ?side1 ?side2 A14.out).mono ?_); (case side1 => repeat (first | exact (Kd.N_reads' HO490.out).2.2 | (with_reducible refine Kd.C_alloc ?_ _) | (with_reducible refine Kd.C_drewN ?_ _) | (with_reducible refine Kd.C_drew ?_))); (case side2 => exact (Kd.N_reads' HO490.out).2.1); rintro e w22 ⟨rfl, hb⟩; have n0_ := Aside0.mk (Kd.N_below (by (with_reducible repeat (first | apply Kd.N_alloc | apply Kd.N_drewN | apply Kd.N_drew)); exact HO490.out) hb); have n1_ := Aside0.mk (Kd.N_below (by (with_reducible repeat (first | apply Kd.N_alloc | apply Kd.N_drewN | apply Kd.N_drew)); exact HO495.out) hb); have n2_ := Aside0.mk (below_step (by repeat (first | (with_reducible first | exact HB.out | apply below_alloc | apply pw_below_drewN | apply below_drew1) | exact HB.out)) hb); clear HO490; clear HO495; clear HB; have HO490 := n0_; have HO495 := n1_; have HB := n2_; clear n0_ n1_ n2_; (try clear hb); (try clear hb2); (try clear hk); (try clear hi)) | (go_at_call 33; (with_reducible refine (rows_Normal.calls _ _ t493 t499 _ ?side1 ?side2 A16.out).mono ?_); (case side1 => repeat (first | exact (Kd.N_reads' HO495.out).2.2 | (with_reducible refine Kd.C_alloc ?_ _) | (with_reducible refine Kd.C_drewN ?_ _) | (with_reducible refine Kd.C_drew ?_))); (case side2 => exact (Kd.N_reads' HO495.out).2.1); rintro e w23 ⟨v500, rfl, ho0, hb⟩; have n0_ := Aside0.mk (Kd.N_elder' (by (with_reducible repeat (first | apply Kd.N_alloc | apply Kd.N_drewN | apply Kd.N_drew)); exact HO490.out) (by first | exact Kd.N_base ho0 | exact Kd.S_base ho0 | exact Kd.R_base ho0) hb); have n1_ := Aside0.mk (Kd.N_elder' (by (with_reducible repeat (first | apply Kd.N_alloc | apply Kd.N_drewN | apply Kd.N_drew)); exact HO495.out) (by first | exact Kd.N_base ho0 | exact Kd.S_base ho0 | exact Kd.R_base ho0) hb); have n2_ := Aside0.mk (Kd.N_lower (Kd.N_mono (ok' := fun k_ => some k_ ≠ (.slice Ao8 t488.length co8 : Value).ownBlock ∧ some k_ ≠ (.slice Ao19 t493.length co19 : Value).ownBlock) (Kd.S_N (Kd.S_bound ho0)) (fun k_ hk_ => ⟨(Kd.fresh' (Kd.N_lt (by (with_reducible repeat (first | apply Kd.N_alloc | apply Kd.N_drewN | apply Kd.N_drew)); exact HO490.out)) k_ hk_.2.1), (Kd.fresh' (Kd.N_lt (by (with_reducible repeat (first | apply Kd.N_alloc | apply Kd.N_drewN | apply Kd.N_drew)); exact HO495.out)) k_ hk_.2.1)⟩)) (below_size (by repeat (first | (with_reducible first | exact HB.out | apply below_alloc | apply pw_below_drewN | apply below_drew1) | exact HB.out)))); have n3_ := Aside0.mk (below_step (by repeat (first | (with_reducible first | exact HB.out | apply below_alloc | apply pw_below_drewN | apply below_drew1) | exact HB.out)) hb); clear HO490; clear HO495; clear HB; have HO490 := n0_; have HO495 := n1_; have HO501 := n2_; have HB := n3_; clear n0_ n1_ n2_ n3_; (try clear hb); (try clear hb2); (try clear hk); (try clear hi); (try clear ho0); obtain ⟨Ao24, co24, eo24⟩ := Kd.N_slice HO501.out; subst eo24) | (go_at_call 15; (with_reducible refine (rows_Same.calls _ _ t499 _ _ t493 true _ ?side1 ?side2 ?side3 ?side4 A17.out).mono ?_); (case side1 => repeat (first | exact (Kd.N_reads' HO501.out).2.2 | (with_reducible refine Kd.C_alloc ?_ _) | (with_reducible refine Kd.C_drewN ?_ _) | (with_reducible refine Kd.C_drew ?_))); (case side2 => exact (Kd.N_reads' HO501.out).2.1); (case side3 => repeat (first | exact (Kd.N_reads' HO495.out).2.2 | (with_reducible refine Kd.C_alloc ?_ _) | (with_reducible refine Kd.C_drewN ?_ _) | (with_reducible refine Kd.C_drew ?_))); (case side4 => exact (Kd.N_reads' HO495.out).2.1); rintro e w25 ⟨rfl, hb⟩; have n0_ := Aside0.mk (Kd.N_below (by (with_reducible repeat (first | apply Kd.N_alloc | apply Kd.N_drewN | apply Kd.N_drew)); exact HO490.out) hb); have n1_ := Aside0.mk (Kd.N_below (by (with_reducible repeat (first | apply Kd.N_alloc | apply Kd.N_drewN | apply Kd.N_drew)); exact HO495.out) hb); have n2_ := Aside0.mk (Kd.N_below (by (with_reducible repeat (first | apply Kd.N_alloc | apply Kd.N_drewN | apply Kd.N_drew)); exact HO501.out) hb); have n3_ := Aside0.mk (below_step (by repeat (first | (with_reducible first | exact HB.out | apply below_alloc | apply pw_below_drewN | apply below_drew1) | exact HB.out)) hb); clear HO490; clear HO495; clear HO501; clear HB; have HO490 := n0_; have HO495 := n1_; have HO501 := n2_; have HB := n3_; clear n0_ n1_ n2_ n3_; (try clear hb); (try clear hb2); (try clear hk); (try clear hi))); try go_wp2_with (first | (go_at_call 13; (with_reducible refine (rows_Check.calls k _ _ t493 t496 _ ?side1 ?side2 A11.out).mono ?_); (case side1 => repeat (first | exact (Kd.N_reads' HO495.out).2.2 | (with_reducible refine Kd.C_alloc ?_ _) | (with_reducible refine Kd.C_drewN ?_ _) | (with_reducible refine Kd.C_drew ?_))); (case side2 => exact (Kd.N_reads' HO495.out).2.1); rintro e w20 ⟨rfl, hb⟩; have n0_ := Aside0.mk (Kd.N_below (by (with_reducible repeat (first | apply Kd.N_alloc | apply Kd.N_drewN | apply Kd.N_drew)); exact HO490.out) hb); have n1_ := Aside0.mk (Kd.N_below (by (with_reducible repeat (first | apply Kd.N_alloc | apply Kd.N_drewN | apply Kd.N_drew)); exact HO495.out) hb); have n2_ := Aside0.mk (below_step (by repeat (first | (with_reducible first | exact HB.out | apply below_alloc | apply pw_below_drewN | apply below_drew1) | exact HB.out)) hb); clear HO490; clear HO495; clear HB; have HO490 := n0_; have HO495 := n1_; have HB := n2_; clear n0_ n1_ n2_; (try clear hb); (try clear hb2); (try clear hk); (try clear hi)) | (go_at_call 26; (with_reducible refine (rows_Text.calls _ _ t493 (-1) t497 _ ?side1 ?side2 A13.out).mono ?_); (case side1 => repeat (first | exact (Kd.N_reads' HO495.out).2.2 | (with_reducible refine Kd.C_alloc ?_ _) | (with_reducible refine Kd.C_drewN ?_ _) | (with_reducible refine Kd.C_drew ?_))); (case side2 => exact (Kd.N_reads' HO495.out).2.1); rintro e w21 ⟨rfl, hb⟩; have n0_ := Aside0.mk (Kd.N_below (by (with_reducible repeat (first | apply Kd.N_alloc | apply Kd.N_drewN | apply Kd.N_drew)); exact HO490.out) hb); have n1_ := Aside0.mk (Kd.N_below (by (with_reducible repeat (first | apply Kd.N_alloc | apply Kd.N_drewN | apply Kd.N_drew)); exact HO495.out) hb); have n2_ := Aside0.mk (below_step (by repeat (first | (with_reducible first | exact HB.out | apply below_alloc | apply pw_below_drewN | apply below_drew1) | exact HB.out)) hb); clear HO490; clear HO495; clear HB; have HO490 := n0_; have HO495 := n1_; have HB := n2_; clear n0_ n1_ n2_; (try clear hb); (try clear hb2); (try clear hk); (try clear hi)) | (go_at_call 26; (with_reducible refine (rows_Text.calls _ _ t488 (-1) t498 _ ?side1 ?side2 A14.out).mono ?_); (case side1 => repeat (first | exact (Kd.N_reads' HO490.out).2.2 | (with_reducible refine Kd.C_alloc ?_ _) | (with_reducible refine Kd.C_drewN ?_ _) | (with_reducible refine Kd.C_drew ?_))); (case side2 => exact (Kd.N_reads' HO490.out).2.1); rintro e w22 ⟨rfl, hb⟩; have n0_ := Aside0.mk (Kd.N_below (by (with_reducible repeat (first | apply Kd.N_alloc | apply Kd.N_drewN | apply Kd.N_drew)); exact HO490.out) hb); have n1_ := Aside0.mk (Kd.N_below (by (with_reducible repeat (first | apply Kd.N_alloc | apply Kd.N_drewN | apply Kd.N_drew)); exact HO495.out) hb); have n2_ := Aside0.mk (below_step (by repeat (first | (with_reducible first | exact HB.out | apply below_alloc | apply pw_below_drewN | apply below_drew1) | exact HB.out)) hb); clear HO490; clear HO495; clear HB; have HO490 := n0_; have HO495 := n1_; have HB := n2_; clear n0_ n1_ n2_; (try clear hb); (try clear hb2); (try clear hk); (try clear hi)) | (go_at_call 33; (with_reducible refine (rows_Normal.calls _ _ t493 t499 _ ?side1 ?side2 A16.out).mono ?_); (case side1 => repeat (first | exact (Kd.N_reads' HO495.out).2.2 | (with_reducible refine Kd.C_alloc ?_ _) | (with_reducible refine Kd.C_drewN ?_ _) | (with_reducible refine Kd.C_drew ?_))); (case side2 => exact (Kd.N_reads' HO495.out).2.1); rintro e w23 ⟨v500, rfl, ho0, hb⟩; have n0_ := Aside0.mk (Kd.N_elder' (by (with_reducible repeat (first | apply Kd.N_alloc | apply Kd.N_drewN | apply Kd.N_drew)); exact HO490.out) (by first | exact Kd.N_base ho0 | exact Kd.S_base ho0 | exact Kd.R_base ho0) hb); have n1_ := Aside0.mk (Kd.N_elder' (by (with_reducible repeat (first | apply Kd.N_alloc | apply Kd.N_drewN | apply Kd.N_drew)); exact HO495.out) (by first | exact Kd.N_base ho0 | exact Kd.S_base ho0 | exact Kd.R_base ho0) hb); have n2_ := Aside0.mk (Kd.N_lower (Kd.N_mono (ok' := fun k_ => some k_ ≠ (.slice Ao8 t488.length co8 : Value).ownBlock ∧ some k_ ≠ (.slice Ao19 t493.length co19 : Value).ownBlock) (Kd.S_N (Kd.S_bound ho0)) (fun k_ hk_ => ⟨(Kd.fresh' (Kd.N_lt (by (with_reducible repeat (first | apply Kd.N_alloc | apply Kd.N_drewN | apply Kd.N_drew)); exact HO490.out)) k_ hk_.2.1), (Kd.fresh' (Kd.N_lt (by (with_reducible repeat (first | apply Kd.N_alloc | apply Kd.N_drewN | apply Kd.N_drew)); exact HO495.out)) k_ hk_.2.1)⟩)) (below_size (by repeat (first | (with_reducible first | exact HB.out | apply below_alloc | apply pw_below_drewN | apply below_drew1) | exact HB.out)))); have n3_ := Aside0.mk (below_step (by repeat (first | (with_reducible first | exact HB.out | apply below_alloc | apply pw_below_drewN | apply below_drew1) | exact HB.out)) hb); clear HO490; clear HO495; clear HB; have HO490 := n0_; have HO495 := n1_; have HO501 := n2_; have HB := n3_; clear n0_ n1_ n2_ n3_; (try clear hb); (try clear hb2); (try clear hk); (try clear hi); (try clear ho0); obtain ⟨Ao24, co24, eo24⟩ := Kd.N_slice HO501.out; subst eo24) | (go_at_call 15; (with_reducible refine (rows_Same.calls _ _ t499 _ _ t493 true _ ?side1 ?side2 ?side3 ?side4 A17.out).mono ?_); (case side1 => repeat (first | exact (Kd.N_reads' HO501.out).2.2 | (with_reducible refine Kd.C_alloc ?_ _) | (with_reducible refine Kd.C_drewN ?_ _) | (with_reducible refine Kd.C_drew ?_))); (case side2 => exact (Kd.N_reads' HO501.out).2.1); (case side3 => repeat (first | exact (Kd.N_reads' HO495.out).2.2 | (with_reducible refine Kd.C_alloc ?_ _) | (with_reducible refine Kd.C_drewN ?_ _) | (with_reducible refine Kd.C_drew ?_))); (case side4 => exact (Kd.N_reads' HO495.out).2.1); rintro e w25 ⟨rfl, hb⟩; have n0_ := Aside0.mk (Kd.N_below (by (with_reducible repeat (first | apply Kd.N_alloc | apply Kd.N_drewN | apply Kd.N_drew)); exact HO490.out) hb); have n1_ := Aside0.mk (Kd.N_below (by (with_reducible repeat (first | apply Kd.N_alloc | apply Kd.N_drewN | apply Kd.N_drew)); exact HO495.out) hb); have n2_ := Aside0.mk (Kd.N_below (by (with_reducible repeat (first | apply Kd.N_alloc | apply Kd.N_drewN | apply Kd.N_drew)); exact HO501.out) hb); have n3_ := Aside0.mk (below_step (by repeat (first | (with_reducible first | exact HB.out | apply below_alloc | apply pw_below_drewN | apply below_drew1) | exact HB.out)) hb); clear HO490; clear HO495; clear HO501; clear HB; have HO490 := n0_; have HO495 := n1_; have HO501 := n2_; have HB := n3_; clear n0_ n1_ n2_ n3_; (try clear hb); (try clear hb2); (try clear hk); (try clear hi))))
            go_meet
            case rel => exact ⟨_, (decide ((t493.length : Int) > (t488.length : Int))), (by first | rfl | (simp; done) | (congr 1; first | (with_reducible assumption) | (symm; with_reducible assumption)) | (simp [*]; done) | (simp only [ne_nil_empty]; done) | (rw [ne_nil_empty]; rfl)), H', ⟨by first | omega | exact Nat.le_refl _⟩, ⟨by (with_reducible repeat (first | apply Kd.N_alloc | apply Kd.N_drewN | apply Kd.N_drew)); exact Kd.N_mono HO495.out (fun _ hk => trivial)⟩, ⟨by repeat (first | (with_reducible first | exact HB.out | apply below_alloc | apply pw_below_drewN | apply below_drew1) | exact HB.out)⟩⟩
          · replace c18 := Bool.eq_false_iff.mpr c18
            subst c18
            have H1 : (boltinglaw04_RowsTexts.j0 k t493 true) = some r := by rw [if_neg (show ¬ (false = true) by decide)] at H; exact H
            clear H
            have H := H1
            clear H1
            have H' := Aside0.mk H
            clear H
            obtain ⟨Ao26, co26, eo26⟩ := Kd.N_slice HO495.out
            subst eo26
            go_wp2_with (first | (go_at_call 13; (with_reducible refine (rows_Check.calls k _ _ t493 t496 _ ?side1 ?side2 A11.out).mono ?_); (case side1 => repeat (first | exact (Kd.N_reads' HO495.out).2.2 | (with_reducible refine Kd.C_alloc ?_ _) | (with_reducible refine Kd.C_drewN ?_ _) | (with_reducible refine Kd.C_drew ?_))); (case side2 => exact (Kd.N_reads' HO495.out).2.1); rintro e w27 ⟨rfl, hb⟩; have n0_ := Aside0.mk (Kd.N_below (by (with_reducible repeat (first | apply Kd.N_alloc | apply Kd.N_drewN | apply Kd.N_drew)); exact HO490.out) hb); have n1_ := Aside0.mk (Kd.N_below (by (with_reducible repeat (first | apply Kd.N_alloc | apply Kd.N_drewN | apply Kd.N_drew)); exact HO495.out) hb); have n2_ := Aside0.mk (below_step (by repeat (first | (with_reducible first | exact HB.out | apply below_alloc | apply pw_below_drewN | apply below_drew1) | exact HB.out)) hb); clear HO490; clear HO495; clear HB; have HO490 := n0_; have HO495 := n1_; have HB := n2_; clear n0_ n1_ n2_; (try clear hb); (try clear hb2); (try clear hk); (try clear hi)) | (go_at_call 26; (with_reducible refine (rows_Text.calls _ _ t493 (-1) t497 _ ?side1 ?side2 A13.out).mono ?_); (case side1 => repeat (first | exact (Kd.N_reads' HO495.out).2.2 | (with_reducible refine Kd.C_alloc ?_ _) | (with_reducible refine Kd.C_drewN ?_ _) | (with_reducible refine Kd.C_drew ?_))); (case side2 => exact (Kd.N_reads' HO495.out).2.1); rintro e w28 ⟨rfl, hb⟩; have n0_ := Aside0.mk (Kd.N_below (by (with_reducible repeat (first | apply Kd.N_alloc | apply Kd.N_drewN | apply Kd.N_drew)); exact HO490.out) hb); have n1_ := Aside0.mk (Kd.N_below (by (with_reducible repeat (first | apply Kd.N_alloc | apply Kd.N_drewN | apply Kd.N_drew)); exact HO495.out) hb); have n2_ := Aside0.mk (below_step (by repeat (first | (with_reducible first | exact HB.out | apply below_alloc | apply pw_below_drewN | apply below_drew1) | exact HB.out)) hb); clear HO490; clear HO495; clear HB; have HO490 := n0_; have HO495 := n1_; have HB := n2_; clear n0_ n1_ n2_; (try clear hb); (try clear hb2); (try clear hk); (try clear hi)) | (go_at_call 26; (with_reducible refine (rows_Text.calls _ _ t488 (-1) t498 _ ?side1 ?side2 A14.out).mono ?_); (case side1 => repeat (first | exact (Kd.N_reads' HO490.out).2.2 | (with_reducible refine Kd.C_alloc ?_ _) | (with_reducible refine Kd.C_drewN ?_ _) | (with_reducible refine Kd.C_drew ?_))); (case side2 => exact (Kd.N_reads' HO490.out).2.1); rintro e w29 ⟨rfl, hb⟩; have n0_ := Aside0.mk (Kd.N_below (by (with_reducible repeat (first | apply Kd.N_alloc | apply Kd.N_drewN | apply Kd.N_drew)); exact HO490.out) hb); have n1_ := Aside0.mk (Kd.N_below (by (with_reducible repeat (first | apply Kd.N_alloc | apply Kd.N_drewN | apply Kd.N_drew)); exact HO495.out) hb); have n2_ := Aside0.mk (below_step (by repeat (first | (with_reducible first | exact HB.out | apply below_alloc | apply pw_below_drewN | apply below_drew1) | exact HB.out)) hb); clear HO490; clear HO495; clear HB; have HO490 := n0_; have HO495 := n1_; have HB := n2_; clear n0_ n1_ n2_; (try clear hb); (try clear hb2); (try clear hk); (try clear hi)) | (go_at_call 33; (with_reducible refine (rows_Normal.calls _ _ t493 t499 _ ?side1 ?side2 A16.out).mono ?_); (case side1 => repeat (first | exact (Kd.N_reads' HO495.out).2.2 | (with_reducible refine Kd.C_alloc ?_ _) | (with_reducible refine Kd.C_drewN ?_ _) | (with_reducible refine Kd.C_drew ?_))); (case side2 => exact (Kd.N_reads' HO495.out).2.1); rintro e w30 ⟨v500, rfl, ho0, hb⟩; have n0_ := Aside0.mk (Kd.N_elder' (by (with_reducible repeat (first | apply Kd.N_alloc | apply Kd.N_drewN | apply Kd.N_drew)); exact HO490.out) (by first | exact Kd.N_base ho0 | exact Kd.S_base ho0 | exact Kd.R_base ho0) hb); have n1_ := Aside0.mk (Kd.N_elder' (by (with_reducible repeat (first | apply Kd.N_alloc | apply Kd.N_drewN | apply Kd.N_drew)); exact HO495.out) (by first | exact Kd.N_base ho0 | exact Kd.S_base ho0 | exact Kd.R_base ho0) hb); have n2_ := Aside0.mk (Kd.N_lower (Kd.N_mono (ok' := fun k_ => some k_ ≠ (.slice Ao8 t488.length co8 : Value).ownBlock ∧ some k_ ≠ (.slice Ao26 t493.length co26 : Value).ownBlock) (Kd.S_N (Kd.S_bound ho0)) (fun k_ hk_ => ⟨(Kd.fresh' (Kd.N_lt (by (with_reducible repeat (first | apply Kd.N_alloc | apply Kd.N_drewN | apply Kd.N_drew)); exact HO490.out)) k_ hk_.2.1), (Kd.fresh' (Kd.N_lt (by (with_reducible repeat (first | apply Kd.N_alloc | apply Kd.N_drewN | apply Kd.N_drew)); exact HO495.out)) k_ hk_.2.1)⟩)) (below_size (by repeat (first | (with_reducible first | exact HB.out | apply below_alloc | apply pw_below_drewN | apply below_drew1) | exact HB.out)))); have n3_ := Aside0.mk (below_step (by repeat (first | (with_reducible first | exact HB.out | apply below_alloc | apply pw_below_drewN | apply below_drew1) | exact HB.out)) hb); clear HO490; clear HO495; clear HB; have HO490 := n0_; have HO495 := n1_; have HO501 := n2_; have HB := n3_; clear n0_ n1_ n2_ n3_; (try clear hb); (try clear hb2); (try clear hk); (try clear hi); (try clear ho0); obtain ⟨Ao31, co31, eo31⟩ := Kd.N_slice HO501.out; subst eo31) | (go_at_call 15; (with_reducible refine (rows_Same.calls _ _ t499 _ _ t493 false _ ?side1 ?side2 ?side3 ?side4 A17.out).mono ?_); (case side1 => repeat (first | exact (Kd.N_reads' HO501.out).2.2 | (with_reducible refine Kd.C_alloc ?_ _) | (with_reducible refine Kd.C_drewN ?_ _) | (with_reducible refine Kd.C_drew ?_))); (case side2 => exact (Kd.N_reads' HO501.out).2.1); (case side3 => repeat (first | exact (Kd.N_reads' HO495.out).2.2 | (with_reducible refine Kd.C_alloc ?_ _) | (with_reducible refine Kd.C_drewN ?_ _) | (with_reducible refine Kd.C_drew ?_))); (case side4 => exact (Kd.N_reads' HO495.out).2.1); rintro e w32 ⟨rfl, hb⟩; have n0_ := Aside0.mk (Kd.N_below (by (with_reducible repeat (first | apply Kd.N_alloc | apply Kd.N_drewN | apply Kd.N_drew)); exact HO490.out) hb); have n1_ := Aside0.mk (Kd.N_below (by (with_reducible repeat (first | apply Kd.N_alloc | apply Kd.N_drewN | apply Kd.N_drew)); exact HO495.out) hb); have n2_ := Aside0.mk (Kd.N_below (by (with_reducible repeat (first | apply Kd.N_alloc | apply Kd.N_drewN | apply Kd.N_drew)); exact HO501.out) hb); have n3_ := Aside0.mk (below_step (by repeat (first | (with_reducible first | exact HB.out | apply below_alloc | apply pw_below_drewN | apply below_drew1) | exact HB.out)) hb); clear HO490; clear HO495; clear HO501; clear HB; have HO490 := n0_; have HO495 := n1_; have HO501 := n2_; have HB := n3_; clear n0_ n1_ n2_ n3_; (try clear hb); (try clear hb2); (try clear hk); (try clear hi)))
            repeat (go_quiet (first | (go_at_call 13; (with_reducible refine (rows_Check.calls k _ _ t493 t496 _ ?side1 ?side2 A11.out).mono ?_); (case side1 => repeat (first | exact (Kd.N_reads' HO495.out).2.2 | (with_reducible refine Kd.C_alloc ?_ _) | (with_reducible refine Kd.C_drewN ?_ _) | (with_reducible refine Kd.C_drew ?_))); (case side2 => exact (Kd.N_reads' HO495.out).2.1); rintro e w27 ⟨rfl, hb⟩; have n0_ := Aside0.mk (Kd.N_below (by (with_reducible repeat (first | apply Kd.N_alloc | apply Kd.N_drewN | apply Kd.N_drew)); exact HO490.out) hb); have n1_ := Aside0.mk (Kd.N_below (by (with_reducible repeat (first | apply Kd.N_alloc | apply Kd.N_drewN | apply Kd.N_drew)); exact HO495.out) hb); have n2_ := Aside0.mk (below_step (by repeat (first | (with_reducible first | exact HB.out | apply below_alloc | apply pw_below_drewN | apply below_drew1) | exact HB.out)) hb); clear HO490; clear HO495; clear HB; have HO490 := n0_; have HO495 := n1_; have HB := n2_; clear n0_ n1_ n2_; (try clear hb); (try clear hb2); (try clear hk); (try clear hi)) | (go_at_call 26; (with_reducible refine (rows_Text.calls _ _ t493 (-1) t497 _ ?side1 ?side2 A13.out).mono ?_); (case side1 => repeat (first | exact (Kd.N_reads' HO495.out).2.2 | (with_reducible refine Kd.C_alloc ?_ _) | (with_reducible refine Kd.C_drewN ?_ _) | (with_reducible refine Kd.C_drew ?_))); (case side2 => exact (Kd.N_reads' HO495.out).2.1); rintro e w28 ⟨rfl, hb⟩; have n0_ := Aside0.mk (Kd.N_below (by (with_reducible repeat (first | apply Kd.N_alloc | apply Kd.N_drewN | apply Kd.N_drew)); exact HO490.out) hb); have n1_ := Aside0.mk (Kd.N_below (by (with_reducible repeat (first | apply Kd.N_alloc | apply Kd.N_drewN | apply Kd.N_drew)); exact HO495.out) hb); have n2_ := Aside0.mk (below_step (by repeat (first | (with_reducible first | exact HB.out | apply below_alloc | apply pw_below_drewN | apply below_drew1) | exact HB.out)) hb); clear HO490; clear HO495; clear HB; have HO490 := n0_; have HO495 := n1_; have HB := n2_; clear n0_ n1_ n2_; (try clear hb); (try clear hb2); (try clear hk); (try clear hi)) | (go_at_call 26; (with_reducible refine (rows_Text.calls _ _ t488 (-1) t498 _ ?side1 ?side2 A14.out).mono ?_); (case side1 => repeat (first | exact (Kd.N_reads' HO490.out).2.2 | (with_reducible refine Kd.C_alloc ?_ _) | (with_reducible refine Kd.C_drewN ?_ _) | (with_reducible refine Kd.C_drew ?_))); (case side2 => exact (Kd.N_reads' HO490.out).2.1); rintro e w29 ⟨rfl, hb⟩; have n0_ := Aside0.mk (Kd.N_below (by (with_reducible repeat (first | apply Kd.N_alloc | apply Kd.N_drewN | apply Kd.N_drew)); exact HO490.out) hb); have n1_ := Aside0.mk (Kd.N_below (by (with_reducible repeat (first | apply Kd.N_alloc | apply Kd.N_drewN | apply Kd.N_drew)); exact HO495.out) hb); have n2_ := Aside0.mk (below_step (by repeat (first | (with_reducible first | exact HB.out | apply below_alloc | apply pw_below_drewN | apply below_drew1) | exact HB.out)) hb); clear HO490; clear HO495; clear HB; have HO490 := n0_; have HO495 := n1_; have HB := n2_; clear n0_ n1_ n2_; (try clear hb); (try clear hb2); (try clear hk); (try clear hi)) | (go_at_call 33; (with_reducible refine (rows_Normal.calls _ _ t493 t499 _ ?side1 ?side2 A16.out).mono ?_); (case side1 => repeat (first | exact (Kd.N_reads' HO495.out).2.2 | (with_reducible refine Kd.C_alloc ?_ _) | (with_reducible refine Kd.C_drewN ?_ _) | (with_reducible refine Kd.C_drew ?_))); (case side2 => exact (Kd.N_reads' HO495.out).2.1); rintro e w30 ⟨v500, rfl, ho0, hb⟩; have n0_ := Aside0.mk (Kd.N_elder' (by (with_reducible repeat (first | apply Kd.N_alloc | apply Kd.N_drewN | apply Kd.N_drew)); exact HO490.out) (by first | exact Kd.N_base ho0 | exact Kd.S_base ho0 | exact Kd.R_base ho0) hb); have n1_ := Aside0.mk (Kd.N_elder' (by (with_reducible repeat (first | apply Kd.N_alloc | apply Kd.N_drewN | apply Kd.N_drew)); exact HO495.out) (by first | exact Kd.N_base ho0 | exact Kd.S_base ho0 | exact Kd.R_base ho0) hb); have n2_ := Aside0.mk (Kd.N_lower (Kd.N_mono (ok' := fun k_ => some k_ ≠ (.slice Ao8 t488.length co8 : Value).ownBlock ∧ some k_ ≠ (.slice Ao26 t493.length co26 : Value).ownBlock) (Kd.S_N (Kd.S_bound ho0)) (fun k_ hk_ => ⟨(Kd.fresh' (Kd.N_lt (by (with_reducible repeat (first | apply Kd.N_alloc | apply Kd.N_drewN | apply Kd.N_drew)); exact HO490.out)) k_ hk_.2.1), (Kd.fresh' (Kd.N_lt (by (with_reducible repeat (first | apply Kd.N_alloc | apply Kd.N_drewN | apply Kd.N_drew)); exact HO495.out)) k_ hk_.2.1)⟩)) (below_size (by repeat (first | (with_reducible first | exact HB.out | apply below_alloc | apply pw_below_drewN | apply below_drew1) | exact HB.out)))); have n3_ := Aside0.mk (below_step (by repeat (first | (with_reducible first | exact HB.out | apply below_alloc | apply pw_below_drewN | apply below_drew1) | exact HB.out)) hb); clear HO490; clear HO495; clear HB; have HO490 := n0_; have HO495 := n1_; have HO501 := n2_; have HB := n3_; clear n0_ n1_ n2_ n3_; (try clear hb); (try clear hb2); (try clear hk); (try clear hi); (try clear ho0); obtain ⟨Ao31, co31, eo31⟩ := Kd.N_slice HO501.out; subst eo31) | (go_at_call 15; (with_reducible refine (rows_Same.calls _ _ t499 _ _ t493 false _ ?side1 ?side2 ?side3 ?side4 A17.out).mono ?_); (case side1 => repeat (first | exact (Kd.N_reads' HO501.out).2.2 | (with_reducible refine Kd.C_alloc ?_ _) | (with_reducible refine Kd.C_drewN ?_ _) | (with_reducible refine Kd.C_drew ?_))); (case side2 => exact (Kd.N_reads' HO501.out).2.1); (case side3 => repeat (first | exact (Kd.N_reads' HO495.out).2.2 | (with_reducible refine Kd.C_alloc ?_ _) | (with_reducible refine Kd.C_drewN ?_ _) | (with_reducible refine Kd.C_drew ?_))); (case side4 => exact (Kd.N_reads' HO495.out).2.1); rintro e w32 ⟨rfl, hb⟩; have n0_ := Aside0.mk (Kd.N_below (by (with_reducible repeat (first | apply Kd.N_alloc | apply Kd.N_drewN | apply Kd.N_drew)); exact HO490.out) hb); have n1_ := Aside0.mk (Kd.N_below (by (with_reducible repeat (first | apply Kd.N_alloc | apply Kd.N_drewN | apply Kd.N_drew)); exact HO495.out) hb); have n2_ := Aside0.mk (Kd.N_below (by (with_reducible repeat (first | apply Kd.N_alloc | apply Kd.N_drewN | apply Kd.N_drew)); exact HO501.out) hb); have n3_ := Aside0.mk (below_step (by repeat (first | (with_reducible first | exact HB.out | apply below_alloc | apply pw_below_drewN | apply below_drew1) | exact HB.out)) hb); clear HO490; clear HO495; clear HO501; clear HB; have HO490 := n0_; have HO495 := n1_; have HO501 := n2_; have HB := n3_; clear n0_ n1_ n2_ n3_; (try clear hb); (try clear hb2); (try clear hk); (try clear hi))); try go_wp2_with (first | (go_at_call 13; (with_reducible refine (rows_Check.calls k _ _ t493 t496 _ ?side1 ?side2 A11.out).mono ?_); (case side1 => repeat (first | exact (Kd.N_reads' HO495.out).2.2 | (with_reducible refine Kd.C_alloc ?_ _) | (with_reducible refine Kd.C_drewN ?_ _) | (with_reducible refine Kd.C_drew ?_))); (case side2 => exact (Kd.N_reads' HO495.out).2.1); rintro e w27 ⟨rfl, hb⟩; have n0_ := Aside0.mk (Kd.N_below (by (with_reducible repeat (first | apply Kd.N_alloc | apply Kd.N_drewN | apply Kd.N_drew)); exact HO490.out) hb); have n1_ := Aside0.mk (Kd.N_below (by (with_reducible repeat (first | apply Kd.N_alloc | apply Kd.N_drewN | apply Kd.N_drew)); exact HO495.out) hb); have n2_ := Aside0.mk (below_step (by repeat (first | (with_reducible first | exact HB.out | apply below_alloc | apply pw_below_drewN | apply below_drew1) | exact HB.out)) hb); clear HO490; clear HO495; clear HB; have HO490 := n0_; have HO495 := n1_; have HB := n2_; clear n0_ n1_ n2_; (try clear hb); (try clear hb2); (try clear hk); (try clear hi)) | (go_at_call 26; (with_reducible refine (rows_Text.calls _ _ t493 (-1) t497 _ ?side1 ?side2 A13.out).mono ?_); (case side1 => repeat (first | exact (Kd.N_reads' HO495.out).2.2 | (with_reducible refine Kd.C_alloc ?_ _) | (with_reducible refine Kd.C_drewN ?_ _) | (with_reducible refine Kd.C_drew ?_))); (case side2 => exact (Kd.N_reads' HO495.out).2.1); rintro e w28 ⟨rfl, hb⟩; have n0_ := Aside0.mk (Kd.N_below (by (with_reducible repeat (first | apply Kd.N_alloc | apply Kd.N_drewN | apply Kd.N_drew)); exact HO490.out) hb); have n1_ := Aside0.mk (Kd.N_below (by (with_reducible repeat (first | apply Kd.N_alloc | apply Kd.N_drewN | apply Kd.N_drew)); exact HO495.out) hb); have n2_ := Aside0.mk (below_step (by repeat (first | (with_reducible first | exact HB.out | apply below_alloc | apply pw_below_drewN | apply below_drew1) | exact HB.out)) hb); clear HO490; clear HO495; clear HB; have HO490 := n0_; have HO495 := n1_; have HB := n2_; clear n0_ n1_ n2_; (try clear hb); (try clear hb2); (try clear hk); (try clear hi)) | (go_at_call 26; (with_reducible refine (rows_Text.calls _ _ t488 (-1) t498 _ ?side1 ?side2 A14.out).mono ?_); (case side1 => repeat (first | exact (Kd.N_reads' HO490.out).2.2 | (with_reducible refine Kd.C_alloc ?_ _) | (with_reducible refine Kd.C_drewN ?_ _) | (with_reducible refine Kd.C_drew ?_))); (case side2 => exact (Kd.N_reads' HO490.out).2.1); rintro e w29 ⟨rfl, hb⟩; have n0_ := Aside0.mk (Kd.N_below (by (with_reducible repeat (first | apply Kd.N_alloc | apply Kd.N_drewN | apply Kd.N_drew)); exact HO490.out) hb); have n1_ := Aside0.mk (Kd.N_below (by (with_reducible repeat (first | apply Kd.N_alloc | apply Kd.N_drewN | apply Kd.N_drew)); exact HO495.out) hb); have n2_ := Aside0.mk (below_step (by repeat (first | (with_reducible first | exact HB.out | apply below_alloc | apply pw_below_drewN | apply below_drew1) | exact HB.out)) hb); clear HO490; clear HO495; clear HB; have HO490 := n0_; have HO495 := n1_; have HB := n2_; clear n0_ n1_ n2_; (try clear hb); (try clear hb2); (try clear hk); (try clear hi)) | (go_at_call 33; (with_reducible refine (rows_Normal.calls _ _ t493 t499 _ ?side1 ?side2 A16.out).mono ?_); (case side1 => repeat (first | exact (Kd.N_reads' HO495.out).2.2 | (with_reducible refine Kd.C_alloc ?_ _) | (with_reducible refine Kd.C_drewN ?_ _) | (with_reducible refine Kd.C_drew ?_))); (case side2 => exact (Kd.N_reads' HO495.out).2.1); rintro e w30 ⟨v500, rfl, ho0, hb⟩; have n0_ := Aside0.mk (Kd.N_elder' (by (with_reducible repeat (first | apply Kd.N_alloc | apply Kd.N_drewN | apply Kd.N_drew)); exact HO490.out) (by first | exact Kd.N_base ho0 | exact Kd.S_base ho0 | exact Kd.R_base ho0) hb); have n1_ := Aside0.mk (Kd.N_elder' (by (with_reducible repeat (first | apply Kd.N_alloc | apply Kd.N_drewN | apply Kd.N_drew)); exact HO495.out) (by first | exact Kd.N_base ho0 | exact Kd.S_base ho0 | exact Kd.R_base ho0) hb); have n2_ := Aside0.mk (Kd.N_lower (Kd.N_mono (ok' := fun k_ => some k_ ≠ (.slice Ao8 t488.length co8 : Value).ownBlock ∧ some k_ ≠ (.slice Ao26 t493.length co26 : Value).ownBlock) (Kd.S_N (Kd.S_bound ho0)) (fun k_ hk_ => ⟨(Kd.fresh' (Kd.N_lt (by (with_reducible repeat (first | apply Kd.N_alloc | apply Kd.N_drewN | apply Kd.N_drew)); exact HO490.out)) k_ hk_.2.1), (Kd.fresh' (Kd.N_lt (by (with_reducible repeat (first | apply Kd.N_alloc | apply Kd.N_drewN | apply Kd.N_drew)); exact HO495.out)) k_ hk_.2.1)⟩)) (below_size (by repeat (first | (with_reducible first | exact HB.out | apply below_alloc | apply pw_below_drewN | apply below_drew1) | exact HB.out)))); have n3_ := Aside0.mk (below_step (by repeat (first | (with_reducible first | exact HB.out | apply below_alloc | apply pw_below_drewN | apply below_drew1) | exact HB.out)) hb); clear HO490; clear HO495; clear HB; have HO490 := n0_; have HO495 := n1_; have HO501 := n2_; have HB := n3_; clear n0_ n1_ n2_ n3_; (try clear hb); (try clear hb2); (try clear hk); (try clear hi); (try clear ho0); obtain ⟨Ao31, co31, eo31⟩ := Kd.N_slice HO501.out; subst eo31) | (go_at_call 15; (with_reducible refine (rows_Same.calls _ _ t499 _ _ t493 false _ ?side1 ?side2 ?side3 ?side4 A17.out).mono ?_); (case side1 => repeat (first | exact (Kd.N_reads' HO501.out).2.2 | (with_reducible refine Kd.C_alloc ?_ _) | (with_reducible refine Kd.C_drewN ?_ _) | (with_reducible refine Kd.C_drew ?_))); (case side2 => exact (Kd.N_reads' HO501.out).2.1); (case side3 => repeat (first | exact (Kd.N_reads' HO495.out).2.2 | (with_reducible refine Kd.C_alloc ?_ _) | (with_reducible refine Kd.C_drewN ?_ _) | (with_reducible refine Kd.C_drew ?_))); (case side4 => exact (Kd.N_reads' HO495.out).2.1); rintro e w32 ⟨rfl, hb⟩; have n0_ := Aside0.mk (Kd.N_below (by (with_reducible repeat (first | apply Kd.N_alloc | apply Kd.N_drewN | apply Kd.N_drew)); exact HO490.out) hb); have n1_ := Aside0.mk (Kd.N_below (by (with_reducible repeat (first | apply Kd.N_alloc | apply Kd.N_drewN | apply Kd.N_drew)); exact HO495.out) hb); have n2_ := Aside0.mk (Kd.N_below (by (with_reducible repeat (first | apply Kd.N_alloc | apply Kd.N_drewN | apply Kd.N_drew)); exact HO501.out) hb); have n3_ := Aside0.mk (below_step (by repeat (first | (with_reducible first | exact HB.out | apply below_alloc | apply pw_below_drewN | apply below_drew1) | exact HB.out)) hb); clear HO490; clear HO495; clear HO501; clear HB; have HO490 := n0_; have HO495 := n1_; have HO501 := n2_; have HB := n3_; clear n0_ n1_ n2_ n3_; (try clear hb); (try clear hb2); (try clear hk); (try clear hi))))
            go_meet
            case rel => exact ⟨_, (true), (by first | rfl | (simp; done) | (congr 1; first | (with_reducible assumption) | (symm; with_reducible assumption)) | (simp [*]; done) | (simp only [ne_nil_empty]; done) | (rw [ne_nil_empty]; rfl)), H', ⟨by first | omega | exact Nat.le_refl _⟩, ⟨by (with_reducible repeat (first | apply Kd.N_alloc | apply Kd.N_drewN | apply Kd.N_drew)); exact Kd.N_mono HO495.out (fun _ hk => trivial)⟩, ⟨by repeat (first | (with_reducible first | exact HB.out | apply below_alloc | apply pw_below_drewN | apply below_drew1) | exact HB.out)⟩⟩
        · rw [if_neg c15] at H
          have c15b0 : (t497.toList == t498.toList) = false := beq_eq_false_iff_ne.mpr c15
          have c15b1 : (t497.toList != t498.toList) = true := bne_iff_ne.mpr c15
          have H' := Aside0.mk H
          clear H
          obtain ⟨Ao33, co33, eo33⟩ := Kd.N_slice HO495.out
          subst eo33
          go_wp2_with (first | (go_at_call 13; (with_reducible refine (rows_Check.calls k _ _ t493 t496 _ ?side1 ?side2 A11.out).mono ?_); (case side1 => repeat (first | exact (Kd.N_reads' HO495.out).2.2 | (with_reducible refine Kd.C_alloc ?_ _) | (with_reducible refine Kd.C_drewN ?_ _) | (with_reducible refine Kd.C_drew ?_))); (case side2 => exact (Kd.N_reads' HO495.out).2.1); rintro e w34 ⟨rfl, hb⟩; have n0_ := Aside0.mk (Kd.N_below (by (with_reducible repeat (first | apply Kd.N_alloc | apply Kd.N_drewN | apply Kd.N_drew)); exact HO490.out) hb); have n1_ := Aside0.mk (Kd.N_below (by (with_reducible repeat (first | apply Kd.N_alloc | apply Kd.N_drewN | apply Kd.N_drew)); exact HO495.out) hb); have n2_ := Aside0.mk (below_step (by repeat (first | (with_reducible first | exact HB.out | apply below_alloc | apply pw_below_drewN | apply below_drew1) | exact HB.out)) hb); clear HO490; clear HO495; clear HB; have HO490 := n0_; have HO495 := n1_; have HB := n2_; clear n0_ n1_ n2_; (try clear hb); (try clear hb2); (try clear hk); (try clear hi)) | (go_at_call 26; (with_reducible refine (rows_Text.calls _ _ t493 (-1) t497 _ ?side1 ?side2 A13.out).mono ?_); (case side1 => repeat (first | exact (Kd.N_reads' HO495.out).2.2 | (with_reducible refine Kd.C_alloc ?_ _) | (with_reducible refine Kd.C_drewN ?_ _) | (with_reducible refine Kd.C_drew ?_))); (case side2 => exact (Kd.N_reads' HO495.out).2.1); rintro e w35 ⟨rfl, hb⟩; have n0_ := Aside0.mk (Kd.N_below (by (with_reducible repeat (first | apply Kd.N_alloc | apply Kd.N_drewN | apply Kd.N_drew)); exact HO490.out) hb); have n1_ := Aside0.mk (Kd.N_below (by (with_reducible repeat (first | apply Kd.N_alloc | apply Kd.N_drewN | apply Kd.N_drew)); exact HO495.out) hb); have n2_ := Aside0.mk (below_step (by repeat (first | (with_reducible first | exact HB.out | apply below_alloc | apply pw_below_drewN | apply below_drew1) | exact HB.out)) hb); clear HO490; clear HO495; clear HB; have HO490 := n0_; have HO495 := n1_; have HB := n2_; clear n0_ n1_ n2_; (try clear hb); (try clear hb2); (try clear hk); (try clear hi)) | (go_at_call 26; (with_reducible refine (rows_Text.calls _ _ t488 (-1) t498 _ ?side1 ?side2 A14.out).mono ?_); (case side1 => repeat (first | exact (Kd.N_reads' HO490.out).2.2 | (with_reducible refine Kd.C_alloc ?_ _) | (with_reducible refine Kd.C_drewN ?_ _) | (with_reducible refine Kd.C_drew ?_))); (case side2 => exact (Kd.N_reads' HO490.out).2.1); rintro e w36 ⟨rfl, hb⟩; have n0_ := Aside0.mk (Kd.N_below (by (with_reducible repeat (first | apply Kd.N_alloc | apply Kd.N_drewN | apply Kd.N_drew)); exact HO490.out) hb); have n1_ := Aside0.mk (Kd.N_below (by (with_reducible repeat (first | apply Kd.N_alloc | apply Kd.N_drewN | apply Kd.N_drew)); exact HO495.out) hb); have n2_ := Aside0.mk (below_step (by repeat (first | (with_reducible first | exact HB.out | apply below_alloc | apply pw_below_drewN | apply below_drew1) | exact HB.out)) hb); clear HO490; clear HO495; clear HB; have HO490 := n0_; have HO495 := n1_; have HB := n2_; clear n0_ n1_ n2_; (try clear hb); (try clear hb2); (try clear hk); (try clear hi)))
          repeat (go_quiet (first | (go_at_call 13; (with_reducible refine (rows_Check.calls k _ _ t493 t496 _ ?side1 ?side2 A11.out).mono ?_); (case side1 => repeat (first | exact (Kd.N_reads' HO495.out).2.2 | (with_reducible refine Kd.C_alloc ?_ _) | (with_reducible refine Kd.C_drewN ?_ _) | (with_reducible refine Kd.C_drew ?_))); (case side2 => exact (Kd.N_reads' HO495.out).2.1); rintro e w34 ⟨rfl, hb⟩; have n0_ := Aside0.mk (Kd.N_below (by (with_reducible repeat (first | apply Kd.N_alloc | apply Kd.N_drewN | apply Kd.N_drew)); exact HO490.out) hb); have n1_ := Aside0.mk (Kd.N_below (by (with_reducible repeat (first | apply Kd.N_alloc | apply Kd.N_drewN | apply Kd.N_drew)); exact HO495.out) hb); have n2_ := Aside0.mk (below_step (by repeat (first | (with_reducible first | exact HB.out | apply below_alloc | apply pw_below_drewN | apply below_drew1) | exact HB.out)) hb); clear HO490; clear HO495; clear HB; have HO490 := n0_; have HO495 := n1_; have HB := n2_; clear n0_ n1_ n2_; (try clear hb); (try clear hb2); (try clear hk); (try clear hi)) | (go_at_call 26; (with_reducible refine (rows_Text.calls _ _ t493 (-1) t497 _ ?side1 ?side2 A13.out).mono ?_); (case side1 => repeat (first | exact (Kd.N_reads' HO495.out).2.2 | (with_reducible refine Kd.C_alloc ?_ _) | (with_reducible refine Kd.C_drewN ?_ _) | (with_reducible refine Kd.C_drew ?_))); (case side2 => exact (Kd.N_reads' HO495.out).2.1); rintro e w35 ⟨rfl, hb⟩; have n0_ := Aside0.mk (Kd.N_below (by (with_reducible repeat (first | apply Kd.N_alloc | apply Kd.N_drewN | apply Kd.N_drew)); exact HO490.out) hb); have n1_ := Aside0.mk (Kd.N_below (by (with_reducible repeat (first | apply Kd.N_alloc | apply Kd.N_drewN | apply Kd.N_drew)); exact HO495.out) hb); have n2_ := Aside0.mk (below_step (by repeat (first | (with_reducible first | exact HB.out | apply below_alloc | apply pw_below_drewN | apply below_drew1) | exact HB.out)) hb); clear HO490; clear HO495; clear HB; have HO490 := n0_; have HO495 := n1_; have HB := n2_; clear n0_ n1_ n2_; (try clear hb); (try clear hb2); (try clear hk); (try clear hi)) | (go_at_call 26; (with_reducible refine (rows_Text.calls _ _ t488 (-1) t498 _ ?side1 ?side2 A14.out).mono ?_); (case side1 => repeat (first | exact (Kd.N_reads' HO490.out).2.2 | (with_reducible refine Kd.C_alloc ?_ _) | (with_reducible refine Kd.C_drewN ?_ _) | (with_reducible refine Kd.C_drew ?_))); (case side2 => exact (Kd.N_reads' HO490.out).2.1); rintro e w36 ⟨rfl, hb⟩; have n0_ := Aside0.mk (Kd.N_below (by (with_reducible repeat (first | apply Kd.N_alloc | apply Kd.N_drewN | apply Kd.N_drew)); exact HO490.out) hb); have n1_ := Aside0.mk (Kd.N_below (by (with_reducible repeat (first | apply Kd.N_alloc | apply Kd.N_drewN | apply Kd.N_drew)); exact HO495.out) hb); have n2_ := Aside0.mk (below_step (by repeat (first | (with_reducible first | exact HB.out | apply below_alloc | apply pw_below_drewN | apply below_drew1) | exact HB.out)) hb); clear HO490; clear HO495; clear HB; have HO490 := n0_; have HO495 := n1_; have HB := n2_; clear n0_ n1_ n2_; (try clear hb); (try clear hb2); (try clear hk); (try clear hi))); try go_wp2_with (first | (go_at_call 13; (with_reducible refine (rows_Check.calls k _ _ t493 t496 _ ?side1 ?side2 A11.out).mono ?_); (case side1 => repeat (first | exact (Kd.N_reads' HO495.out).2.2 | (with_reducible refine Kd.C_alloc ?_ _) | (with_reducible refine Kd.C_drewN ?_ _) | (with_reducible refine Kd.C_drew ?_))); (case side2 => exact (Kd.N_reads' HO495.out).2.1); rintro e w34 ⟨rfl, hb⟩; have n0_ := Aside0.mk (Kd.N_below (by (with_reducible repeat (first | apply Kd.N_alloc | apply Kd.N_drewN | apply Kd.N_drew)); exact HO490.out) hb); have n1_ := Aside0.mk (Kd.N_below (by (with_reducible repeat (first | apply Kd.N_alloc | apply Kd.N_drewN | apply Kd.N_drew)); exact HO495.out) hb); have n2_ := Aside0.mk (below_step (by repeat (first | (with_reducible first | exact HB.out | apply below_alloc | apply pw_below_drewN | apply below_drew1) | exact HB.out)) hb); clear HO490; clear HO495; clear HB; have HO490 := n0_; have HO495 := n1_; have HB := n2_; clear n0_ n1_ n2_; (try clear hb); (try clear hb2); (try clear hk); (try clear hi)) | (go_at_call 26; (with_reducible refine (rows_Text.calls _ _ t493 (-1) t497 _ ?side1 ?side2 A13.out).mono ?_); (case side1 => repeat (first | exact (Kd.N_reads' HO495.out).2.2 | (with_reducible refine Kd.C_alloc ?_ _) | (with_reducible refine Kd.C_drewN ?_ _) | (with_reducible refine Kd.C_drew ?_))); (case side2 => exact (Kd.N_reads' HO495.out).2.1); rintro e w35 ⟨rfl, hb⟩; have n0_ := Aside0.mk (Kd.N_below (by (with_reducible repeat (first | apply Kd.N_alloc | apply Kd.N_drewN | apply Kd.N_drew)); exact HO490.out) hb); have n1_ := Aside0.mk (Kd.N_below (by (with_reducible repeat (first | apply Kd.N_alloc | apply Kd.N_drewN | apply Kd.N_drew)); exact HO495.out) hb); have n2_ := Aside0.mk (below_step (by repeat (first | (with_reducible first | exact HB.out | apply below_alloc | apply pw_below_drewN | apply below_drew1) | exact HB.out)) hb); clear HO490; clear HO495; clear HB; have HO490 := n0_; have HO495 := n1_; have HB := n2_; clear n0_ n1_ n2_; (try clear hb); (try clear hb2); (try clear hk); (try clear hi)) | (go_at_call 26; (with_reducible refine (rows_Text.calls _ _ t488 (-1) t498 _ ?side1 ?side2 A14.out).mono ?_); (case side1 => repeat (first | exact (Kd.N_reads' HO490.out).2.2 | (with_reducible refine Kd.C_alloc ?_ _) | (with_reducible refine Kd.C_drewN ?_ _) | (with_reducible refine Kd.C_drew ?_))); (case side2 => exact (Kd.N_reads' HO490.out).2.1); rintro e w36 ⟨rfl, hb⟩; have n0_ := Aside0.mk (Kd.N_below (by (with_reducible repeat (first | apply Kd.N_alloc | apply Kd.N_drewN | apply Kd.N_drew)); exact HO490.out) hb); have n1_ := Aside0.mk (Kd.N_below (by (with_reducible repeat (first | apply Kd.N_alloc | apply Kd.N_drewN | apply Kd.N_drew)); exact HO495.out) hb); have n2_ := Aside0.mk (below_step (by repeat (first | (with_reducible first | exact HB.out | apply below_alloc | apply pw_below_drewN | apply below_drew1) | exact HB.out)) hb); clear HO490; clear HO495; clear HB; have HO490 := n0_; have HO495 := n1_; have HB := n2_; clear n0_ n1_ n2_; (try clear hb); (try clear hb2); (try clear hk); (try clear hi))))
          go_meet
          case rel => exact ⟨_, (true), (by first | rfl | (simp; done) | (congr 1; first | (with_reducible assumption) | (symm; with_reducible assumption)) | (simp [*]; done) | (simp only [ne_nil_empty]; done) | (rw [ne_nil_empty]; rfl)), H', ⟨by first | omega | exact Nat.le_refl _⟩, ⟨by (with_reducible repeat (first | apply Kd.N_alloc | apply Kd.N_drewN | apply Kd.N_drew)); exact Kd.N_mono HO495.out (fun _ hk => trivial)⟩, ⟨by repeat (first | (with_reducible first | exact HB.out | apply below_alloc | apply pw_below_drewN | apply below_drew1) | exact HB.out)⟩⟩
      · rw [if_neg c12] at H
        have c12b0 : (t496 == 0) = false := beq_eq_false_iff_ne.mpr c12
        have c12b1 : (t496 != 0) = true := bne_iff_ne.mpr c12
        (first | rw [c12b0] | (simp only [i64_w, i32_w]; rw [c12b0]) | skip)
        have H' := Aside0.mk H
        clear H
        obtain ⟨Ao37, co37, eo37⟩ := Kd.N_slice HO495.out
        subst eo37
        go_wp2_with (first | (go_at_call 13; (with_reducible refine (rows_Check.calls k _ _ t493 t496 _ ?side1 ?side2 A11.out).mono ?_); (case side1 => repeat (first | exact (Kd.N_reads' HO495.out).2.2 | (with_reducible refine Kd.C_alloc ?_ _) | (with_reducible refine Kd.C_drewN ?_ _) | (with_reducible refine Kd.C_drew ?_))); (case side2 => exact (Kd.N_reads' HO495.out).2.1); rintro e w38 ⟨rfl, hb⟩; have n0_ := Aside0.mk (Kd.N_below (by (with_reducible repeat (first | apply Kd.N_alloc | apply Kd.N_drewN | apply Kd.N_drew)); exact HO490.out) hb); have n1_ := Aside0.mk (Kd.N_below (by (with_reducible repeat (first | apply Kd.N_alloc | apply Kd.N_drewN | apply Kd.N_drew)); exact HO495.out) hb); have n2_ := Aside0.mk (below_step (by repeat (first | (with_reducible first | exact HB.out | apply below_alloc | apply pw_below_drewN | apply below_drew1) | exact HB.out)) hb); clear HO490; clear HO495; clear HB; have HO490 := n0_; have HO495 := n1_; have HB := n2_; clear n0_ n1_ n2_; (try clear hb); (try clear hb2); (try clear hk); (try clear hi)))
        repeat (go_quiet (first | (go_at_call 13; (with_reducible refine (rows_Check.calls k _ _ t493 t496 _ ?side1 ?side2 A11.out).mono ?_); (case side1 => repeat (first | exact (Kd.N_reads' HO495.out).2.2 | (with_reducible refine Kd.C_alloc ?_ _) | (with_reducible refine Kd.C_drewN ?_ _) | (with_reducible refine Kd.C_drew ?_))); (case side2 => exact (Kd.N_reads' HO495.out).2.1); rintro e w38 ⟨rfl, hb⟩; have n0_ := Aside0.mk (Kd.N_below (by (with_reducible repeat (first | apply Kd.N_alloc | apply Kd.N_drewN | apply Kd.N_drew)); exact HO490.out) hb); have n1_ := Aside0.mk (Kd.N_below (by (with_reducible repeat (first | apply Kd.N_alloc | apply Kd.N_drewN | apply Kd.N_drew)); exact HO495.out) hb); have n2_ := Aside0.mk (below_step (by repeat (first | (with_reducible first | exact HB.out | apply below_alloc | apply pw_below_drewN | apply below_drew1) | exact HB.out)) hb); clear HO490; clear HO495; clear HB; have HO490 := n0_; have HO495 := n1_; have HB := n2_; clear n0_ n1_ n2_; (try clear hb); (try clear hb2); (try clear hk); (try clear hi))); try go_wp2_with (first | (go_at_call 13; (with_reducible refine (rows_Check.calls k _ _ t493 t496 _ ?side1 ?side2 A11.out).mono ?_); (case side1 => repeat (first | exact (Kd.N_reads' HO495.out).2.2 | (with_reducible refine Kd.C_alloc ?_ _) | (with_reducible refine Kd.C_drewN ?_ _) | (with_reducible refine Kd.C_drew ?_))); (case side2 => exact (Kd.N_reads' HO495.out).2.1); rintro e w38 ⟨rfl, hb⟩; have n0_ := Aside0.mk (Kd.N_below (by (with_reducible repeat (first | apply Kd.N_alloc | apply Kd.N_drewN | apply Kd.N_drew)); exact HO490.out) hb); have n1_ := Aside0.mk (Kd.N_below (by (with_reducible repeat (first | apply Kd.N_alloc | apply Kd.N_drewN | apply Kd.N_drew)); exact HO495.out) hb); have n2_ := Aside0.mk (below_step (by repeat (first | (with_reducible first | exact HB.out | apply below_alloc | apply pw_below_drewN | apply below_drew1) | exact HB.out)) hb); clear HO490; clear HO495; clear HB; have HO490 := n0_; have HO495 := n1_; have HB := n2_; clear n0_ n1_ n2_; (try clear hb); (try clear hb2); (try clear hk); (try clear hi))))
        go_meet
        case rel => exact ⟨_, (true), (by first | rfl | (simp; done) | (congr 1; first | (with_reducible assumption) | (symm; with_reducible assumption)) | (simp [*]; done) | (simp only [ne_nil_empty]; done) | (rw [ne_nil_empty]; rfl)), H', ⟨by first | omega | exact Nat.le_refl _⟩, ⟨by (with_reducible repeat (first | apply Kd.N_alloc | apply Kd.N_drewN | apply Kd.N_drew)); exact Kd.N_mono HO495.out (fun _ hk => trivial)⟩, ⟨by repeat (first | (with_reducible first | exact HB.out | apply below_alloc | apply pw_below_drewN | apply below_drew1) | exact HB.out)⟩⟩
    case rest =>
      clear HC6
      try clear c1
      try clear p2
      try clear c4
      try clear c4b0
      try clear c4b1
      try clear c9
      try clear c12
      try clear c12b0
      try clear c12b1
      try clear c15
      try clear c15b0
      try clear c15b1
      try clear c18
      obtain ⟨kq, x36_5, rfl, HA, HJ5, HO_3, HB⟩ := hcut
      cases kq with
      | zero => exact absurd HA.out (by simp [boltinglaw04_RowsTexts.j0])
      | succ kj5 =>
        have H := HA.out
        clear HA
        simp only [boltinglaw04_RowsTexts.j0] at H
        by_cases c39 : x36_5 = true
        · subst c39
          have H1 : (some false) = some r := by rw [if_pos rfl] at H; exact H
          clear H
          have H := H1
          clear H1
          obtain rfl := Option.some.inj H
          go_wp2
          repeat (go_quiet (fail); try go_wp2)
          go_ret
          exact ⟨by first | rfl | (simp [errW_none, errW_some] <;> rfl) | (simp [*, errW_none, errW_some] <;> rfl), by repeat (first | (with_reducible first | exact HB.out | apply below_alloc | apply pw_below_drewN | apply below_drew1) | exact HB.out)⟩
        · replace c39 := Bool.eq_false_iff.mpr c39
          subst c39
          have H1 : (boltinglaw04_RowsTexts.l0 kj5 t493 0) = some r := by rw [if_neg (show ¬ (false = true) by decide)] at H; exact H
          clear H
          have H := H1
          clear H1
          have H' := Aside0.mk H
          clear H
          go_wp2
          repeat (go_quiet (fail); try go_wp2)
          go_loopg [4] kj5 (fun kq v4 w' => ∃ (x4_2 : Int), v4 = .int .i64 x4_2 ∧ Aside0 (boltinglaw04_RowsTexts.l0 kq t493 x4_2 = some r) ∧ Aside0 (kq ≤ kj5) ∧ Aside0 (Kd.N k43 43 w' w.heap.size (fun _ => True) v494 t493) ∧ Aside0 (Below w.heap.size w w'))
          case atStart => exact ⟨(0), (by first | rfl | (simp; done) | (congr 1; first | (with_reducible assumption) | (symm; with_reducible assumption)) | (simp [*]; done) | (simp only [ne_nil_empty]; done) | (rw [ne_nil_empty]; rfl)), H', ⟨Nat.le_refl _⟩, ⟨by (with_reducible repeat (first | apply Kd.N_alloc | apply Kd.N_drewN | apply Kd.N_drew)); exact HO_3.out⟩, ⟨by repeat (first | (with_reducible first | exact HB.out | apply below_alloc | apply pw_below_drewN | apply below_drew1) | exact HB.out)⟩⟩
          case round =>
            clear H'
            try clear c1
            try clear p2
            try clear c3
            try clear c4
            try clear c4b0
            try clear c4b1
            try clear c9
            try clear c12
            try clear c12b0
            try clear c12b1
            try clear c15
            try clear c15b0
            try clear c15b1
            try clear c18
            try clear c39
            try clear p2
            obtain ⟨x4_2, rfl, HA, HK2, HO_3, HB⟩ := hrel
            cases gk with
            | zero => exact absurd HA.out (by simp [boltinglaw04_RowsTexts.l0])
            | succ k2 =>
              have H := HA.out
              clear HA
              simp only [boltinglaw04_RowsTexts.l0] at H
              by_cases c40 : x4_2 < (t493.length : Int)
              · rw [if_pos c40] at H
                have c40b0 : decide (x4_2 < (t493.length : Int)) = true := decide_eq_true c40
                clear c40
                by_cases c41 : 0 ≤ x4_2
                · rw [if_pos c41] at H
                  have c41b0 : decide (0 ≤ x4_2) = true := decide_eq_true c41
                  clear c41
                  by_cases c42 : ((rd_T43 t493 x4_2).f1) = 1
                  · rw [if_pos c42] at H
                    have c42b0 : (((rd_T43 t493 x4_2).f1) == 1) = true := beq_iff_eq.mpr c42
                    have c42b1 : (((rd_T43 t493 x4_2).f1) != 1) = false := bne_eq_false_iff_eq.mpr c42
                    clear c42
                    by_cases c43 : ((rd_T43 t493 x4_2).f3).toList = ([] : List UInt8)
                    · rw [if_pos c43] at H
                      have c43b0 : (((rd_T43 t493 x4_2).f3).toList == ([] : List UInt8)) = true := beq_iff_eq.mpr c43
                      have c43b1 : (((rd_T43 t493 x4_2).f3).toList != ([] : List UInt8)) = false := bne_eq_false_iff_eq.mpr c43
                      clear c43
                      obtain rfl := Option.some.inj H
                      obtain ⟨Ao44, co44, eo44⟩ := Kd.N_slice HO_3.out
                      subst eo44
                      have p503 : 0 ≤ (x4_2 : Int) := of_decide_eq_true (by first | (with_reducible assumption) | assumption)
                      have q503 : x4_2 < (t493.length : Int) := of_decide_eq_true (by first | (with_reducible assumption) | assumption)
                      obtain ⟨ad503, A503_4, c503_4, e503, hx503_0, hx503_1, hx503_2, hx503_3, hx503_4, hl503_4, hi503_4⟩ := at_T43 (Kd.N_reads' HO_3.out).2.2 x4_2 p503 q503
                      cases e503
                      obtain ⟨ce503, hce503, hMe503, hcc503⟩ := Kd.N_get HO_3.out z43 x4_2 p503 (by first | exact q503 | exact of_decide_eq_true (by first | (with_reducible assumption) | assumption) | (have e_ := (Kd.N_reads' HO_3.out).1; omega))
                      obtain ⟨ua503_4, uc503_4, rfl, ul503_4, ge503_4⟩ := k43_openF hMe503
                      have hv503_4 := hcc503 4 _ rfl
                      rw [add_field _ _ 4 (by omega)] at hv503_4
                      replace hv503_4 := Option.some.inj (hv503_4.symm.trans hx503_4)
                      injection hv503_4 with hva_ hvn_ hvc_
                      rw [hva_] at ge503_4
                      rw [hvc_] at ul503_4
                      have HL503_4 := Aside0.mk (show Kd.V k46 46 _ w.heap.size _ _ ((rd_T43 t493 x4_2).f4) from Kd.V_mk ul503_4 ge503_4)
                      clear hva_ hvn_ hvc_ ge503_4 ul503_4
                      clear hcc503 hce503
                      have HR503_4 := Aside0.mk hi503_4
                      have HC503_4 := Aside0.mk hl503_4
                      clear hi503_4 hl503_4
                      replace p503 := eq_true p503
                      replace q503 := eq_true q503
                      have p504 : 0 ≤ (x4_2 : Int) := of_decide_eq_true (by first | (with_reducible assumption) | assumption)
                      have q504 : x4_2 < (t493.length : Int) := of_decide_eq_true (by first | (with_reducible assumption) | assumption)
                      obtain ⟨ad504, A504_4, c504_4, e504, hx504_0, hx504_1, hx504_2, hx504_3, hx504_4, hl504_4, hi504_4⟩ := at_T43 (Kd.N_reads' HO_3.out).2.2 x4_2 p504 q504
                      obtain rfl : ad503 = ad504 := (by injection e504)
                      obtain ⟨ce504, hce504, hMe504, hcc504⟩ := Kd.N_get HO_3.out z43 x4_2 p504 (by first | exact q504 | exact of_decide_eq_true (by first | (with_reducible assumption) | assumption) | (have e_ := (Kd.N_reads' HO_3.out).1; omega))
                      obtain ⟨ua504_4, uc504_4, rfl, ul504_4, ge504_4⟩ := k43_openF hMe504
                      have hv504_4 := hcc504 4 _ rfl
                      rw [add_field _ _ 4 (by omega)] at hv504_4
                      replace hv504_4 := Option.some.inj (hv504_4.symm.trans hx504_4)
                      injection hv504_4 with hva_ hvn_ hvc_
                      rw [hva_] at ge504_4
                      rw [hvc_] at ul504_4
                      have HL504_4 := Aside0.mk (show Kd.V k46 46 _ w.heap.size _ _ ((rd_T43 t493 x4_2).f4) from Kd.V_mk ul504_4 ge504_4)
                      clear hva_ hvn_ hvc_ ge504_4 ul504_4
                      clear hcc504 hce504
                      have HR504_4 := Aside0.mk hi504_4
                      have HC504_4 := Aside0.mk hl504_4
                      clear hi504_4 hl504_4
                      replace p504 := eq_true p504
                      replace q504 := eq_true q504
                      have ea_ := Option.some.inj (hx503_4.symm.trans hx504_4)
                      injection ea_ with ea_ en_ ec_
                      subst ea_
                      subst ec_
                      clear en_
                      go_wp2
                      repeat (go_quiet (fail); try go_wp2)
                      go_ret
                      exact ⟨by first | rfl | (simp [errW_none, errW_some] <;> rfl) | (simp [*, errW_none, errW_some] <;> rfl), by repeat (first | (with_reducible first | exact HB.out | apply below_alloc | apply pw_below_drewN | apply below_drew1) | exact HB.out)⟩
                    · rw [if_neg c43] at H
                      have c43b0 : (((rd_T43 t493 x4_2).f3).toList == ([] : List UInt8)) = false := beq_eq_false_iff_ne.mpr c43
                      have c43b1 : (((rd_T43 t493 x4_2).f3).toList != ([] : List UInt8)) = true := bne_iff_ne.mpr c43
                      by_cases c45 : x4_2 > 0
                      · rw [if_pos c45] at H
                        have c45b0 : decide (0 < x4_2) = true := decide_eq_true c45
                        clear c45
                        obtain ⟨ji46, hji46⟩ : ∃ j_ : Int, (wrap64 (x4_2 - 1)) = j_ := ⟨_, rfl⟩
                        replace H : (if 0 ≤ (ji46) then (if (ji46) < (t493.length : Int) then (if ((rd_T43 t493 (ji46)).f1) = 1 then (if ((rd_T43 t493 (ji46)).f0) = ((rd_T43 t493 x4_2).f0) then (some false) else (boltinglaw04_RowsTexts.l0 k2 t493 (wrap64 (x4_2 + 1)))) else (boltinglaw04_RowsTexts.l0 k2 t493 (wrap64 (x4_2 + 1)))) else (none)) else (none)) = some r := by first | (rw [hji46] at H; exact H) | (simp only [hji46] at H ⊢; exact H)
                        have hji46w : (IntKind.i64.wrap (x4_2 - 1)) = ji46 := (i64_w _).trans hji46
                        by_cases c47 : 0 ≤ (ji46)
                        · rw [if_pos c47] at H
                          have c47b0 : decide (0 ≤ (ji46)) = true := decide_eq_true c47
                          clear c47
                          by_cases c48 : (ji46) < (t493.length : Int)
                          · rw [if_pos c48] at H
                            have c48b0 : decide ((ji46) < (t493.length : Int)) = true := decide_eq_true c48
                            clear c48
                            by_cases c49 : ((rd_T43 t493 (ji46)).f1) = 1
                            · rw [if_pos c49] at H
                              have c49b0 : (((rd_T43 t493 (ji46)).f1) == 1) = true := beq_iff_eq.mpr c49
                              have c49b1 : (((rd_T43 t493 (ji46)).f1) != 1) = false := bne_eq_false_iff_eq.mpr c49
                              clear c49
                              by_cases c50 : ((rd_T43 t493 (ji46)).f0) = ((rd_T43 t493 x4_2).f0)
                              · rw [if_pos c50] at H
                                have c50b0 : (((rd_T43 t493 (ji46)).f0) == ((rd_T43 t493 x4_2).f0)) = true := beq_iff_eq.mpr c50
                                have c50b1 : (((rd_T43 t493 (ji46)).f0) != ((rd_T43 t493 x4_2).f0)) = false := bne_eq_false_iff_eq.mpr c50
                                clear c50
                                obtain rfl := Option.some.inj H
                                obtain ⟨Ao51, co51, eo51⟩ := Kd.N_slice HO_3.out
                                subst eo51
                                have p503 : 0 ≤ (x4_2 : Int) := of_decide_eq_true (by first | (with_reducible assumption) | assumption)
                                have q503 : x4_2 < (t493.length : Int) := of_decide_eq_true (by first | (with_reducible assumption) | assumption)
                                obtain ⟨ad503, A503_4, c503_4, e503, hx503_0, hx503_1, hx503_2, hx503_3, hx503_4, hl503_4, hi503_4⟩ := at_T43 (Kd.N_reads' HO_3.out).2.2 x4_2 p503 q503
                                cases e503
                                obtain ⟨ce503, hce503, hMe503, hcc503⟩ := Kd.N_get HO_3.out z43 x4_2 p503 (by first | exact q503 | exact of_decide_eq_true (by first | (with_reducible assumption) | assumption) | (have e_ := (Kd.N_reads' HO_3.out).1; omega))
                                obtain ⟨ua503_4, uc503_4, rfl, ul503_4, ge503_4⟩ := k43_openF hMe503
                                have hv503_4 := hcc503 4 _ rfl
                                rw [add_field _ _ 4 (by omega)] at hv503_4
                                replace hv503_4 := Option.some.inj (hv503_4.symm.trans hx503_4)
                                injection hv503_4 with hva_ hvn_ hvc_
                                rw [hva_] at ge503_4
                                rw [hvc_] at ul503_4
                                have HL503_4 := Aside0.mk (show Kd.V k46 46 _ w.heap.size _ _ ((rd_T43 t493 x4_2).f4) from Kd.V_mk ul503_4 ge503_4)
                                clear hva_ hvn_ hvc_ ge503_4 ul503_4
                                clear hcc503 hce503
                                have HR503_4 := Aside0.mk hi503_4
                                have HC503_4 := Aside0.mk hl503_4
                                clear hi503_4 hl503_4
                                replace p503 := eq_true p503
                                replace q503 := eq_true q503
                                have p504 : 0 ≤ (x4_2 : Int) := of_decide_eq_true (by first | (with_reducible assumption) | assumption)
                                have q504 : x4_2 < (t493.length : Int) := of_decide_eq_true (by first | (with_reducible assumption) | assumption)
                                obtain ⟨ad504, A504_4, c504_4, e504, hx504_0, hx504_1, hx504_2, hx504_3, hx504_4, hl504_4, hi504_4⟩ := at_T43 (Kd.N_reads' HO_3.out).2.2 x4_2 p504 q504
                                obtain rfl : ad503 = ad504 := (by injection e504)
                                obtain ⟨ce504, hce504, hMe504, hcc504⟩ := Kd.N_get HO_3.out z43 x4_2 p504 (by first | exact q504 | exact of_decide_eq_true (by first | (with_reducible assumption) | assumption) | (have e_ := (Kd.N_reads' HO_3.out).1; omega))
                                obtain ⟨ua504_4, uc504_4, rfl, ul504_4, ge504_4⟩ := k43_openF hMe504
                                have hv504_4 := hcc504 4 _ rfl
                                rw [add_field _ _ 4 (by omega)] at hv504_4
                                replace hv504_4 := Option.some.inj (hv504_4.symm.trans hx504_4)
                                injection hv504_4 with hva_ hvn_ hvc_
                                rw [hva_] at ge504_4
                                rw [hvc_] at ul504_4
                                have HL504_4 := Aside0.mk (show Kd.V k46 46 _ w.heap.size _ _ ((rd_T43 t493 x4_2).f4) from Kd.V_mk ul504_4 ge504_4)
                                clear hva_ hvn_ hvc_ ge504_4 ul504_4
                                clear hcc504 hce504
                                have HR504_4 := Aside0.mk hi504_4
                                have HC504_4 := Aside0.mk hl504_4
                                clear hi504_4 hl504_4
                                replace p504 := eq_true p504
                                replace q504 := eq_true q504
                                have ea_ := Option.some.inj (hx503_4.symm.trans hx504_4)
                                injection ea_ with ea_ en_ ec_
                                subst ea_
                                subst ec_
                                clear en_
                                have p505 : 0 ≤ ((ji46) : Int) := of_decide_eq_true (by first | (with_reducible assumption) | assumption)
                                have q505 : (ji46) < (t493.length : Int) := of_decide_eq_true (by first | (with_reducible assumption) | assumption)
                                obtain ⟨ad505, A505_4, c505_4, e505, hx505_0, hx505_1, hx505_2, hx505_3, hx505_4, hl505_4, hi505_4⟩ := at_T43 (Kd.N_reads' HO_3.out).2.2 (ji46) p505 q505
                                obtain rfl : ad503 = ad505 := (by injection e505)
                                obtain ⟨ce505, hce505, hMe505, hcc505⟩ := Kd.N_get HO_3.out z43 (ji46) p505 (by first | exact q505 | exact of_decide_eq_true (by first | (with_reducible assumption) | assumption) | (have e_ := (Kd.N_reads' HO_3.out).1; omega))
                                obtain ⟨ua505_4, uc505_4, rfl, ul505_4, ge505_4⟩ := k43_openF hMe505
                                have hv505_4 := hcc505 4 _ rfl
                                rw [add_field _ _ 4 (by omega)] at hv505_4
                                replace hv505_4 := Option.some.inj (hv505_4.symm.trans hx505_4)
                                injection hv505_4 with hva_ hvn_ hvc_
                                rw [hva_] at ge505_4
                                rw [hvc_] at ul505_4
                                have HL505_4 := Aside0.mk (show Kd.V k46 46 _ w.heap.size _ _ ((rd_T43 t493 (ji46)).f4) from Kd.V_mk ul505_4 ge505_4)
                                clear hva_ hvn_ hvc_ ge505_4 ul505_4
                                clear hcc505 hce505
                                have HR505_4 := Aside0.mk hi505_4
                                have HC505_4 := Aside0.mk hl505_4
                                clear hi505_4 hl505_4
                                replace p505 := eq_true p505
                                replace q505 := eq_true q505
                                have p506 : 0 ≤ ((ji46) : Int) := of_decide_eq_true (by first | (with_reducible assumption) | assumption)
                                have q506 : (ji46) < (t493.length : Int) := of_decide_eq_true (by first | (with_reducible assumption) | assumption)
                                obtain ⟨ad506, A506_4, c506_4, e506, hx506_0, hx506_1, hx506_2, hx506_3, hx506_4, hl506_4, hi506_4⟩ := at_T43 (Kd.N_reads' HO_3.out).2.2 (ji46) p506 q506
                                obtain rfl : ad503 = ad506 := (by injection e506)
                                obtain ⟨ce506, hce506, hMe506, hcc506⟩ := Kd.N_get HO_3.out z43 (ji46) p506 (by first | exact q506 | exact of_decide_eq_true (by first | (with_reducible assumption) | assumption) | (have e_ := (Kd.N_reads' HO_3.out).1; omega))
                                obtain ⟨ua506_4, uc506_4, rfl, ul506_4, ge506_4⟩ := k43_openF hMe506
                                have hv506_4 := hcc506 4 _ rfl
                                rw [add_field _ _ 4 (by omega)] at hv506_4
                                replace hv506_4 := Option.some.inj (hv506_4.symm.trans hx506_4)
                                injection hv506_4 with hva_ hvn_ hvc_
                                rw [hva_] at ge506_4
                                rw [hvc_] at ul506_4
                                have HL506_4 := Aside0.mk (show Kd.V k46 46 _ w.heap.size _ _ ((rd_T43 t493 (ji46)).f4) from Kd.V_mk ul506_4 ge506_4)
                                clear hva_ hvn_ hvc_ ge506_4 ul506_4
                                clear hcc506 hce506
                                have HR506_4 := Aside0.mk hi506_4
                                have HC506_4 := Aside0.mk hl506_4
                                clear hi506_4 hl506_4
                                replace p506 := eq_true p506
                                replace q506 := eq_true q506
                                have ea_ := Option.some.inj (hx505_4.symm.trans hx506_4)
                                injection ea_ with ea_ en_ ec_
                                subst ea_
                                subst ec_
                                clear en_
                                have p507 : 0 ≤ (x4_2 : Int) := of_decide_eq_true (by first | (with_reducible assumption) | assumption)
                                have q507 : x4_2 < (t493.length : Int) := of_decide_eq_true (by first | (with_reducible assumption) | assumption)
                                obtain ⟨ad507, A507_4, c507_4, e507, hx507_0, hx507_1, hx507_2, hx507_3, hx507_4, hl507_4, hi507_4⟩ := at_T43 (Kd.N_reads' HO_3.out).2.2 x4_2 p507 q507
                                obtain rfl : ad503 = ad507 := (by injection e507)
                                obtain ⟨ce507, hce507, hMe507, hcc507⟩ := Kd.N_get HO_3.out z43 x4_2 p507 (by first | exact q507 | exact of_decide_eq_true (by first | (with_reducible assumption) | assumption) | (have e_ := (Kd.N_reads' HO_3.out).1; omega))
                                obtain ⟨ua507_4, uc507_4, rfl, ul507_4, ge507_4⟩ := k43_openF hMe507
                                have hv507_4 := hcc507 4 _ rfl
                                rw [add_field _ _ 4 (by omega)] at hv507_4
                                replace hv507_4 := Option.some.inj (hv507_4.symm.trans hx507_4)
                                injection hv507_4 with hva_ hvn_ hvc_
                                rw [hva_] at ge507_4
                                rw [hvc_] at ul507_4
                                have HL507_4 := Aside0.mk (show Kd.V k46 46 _ w.heap.size _ _ ((rd_T43 t493 x4_2).f4) from Kd.V_mk ul507_4 ge507_4)
                                clear hva_ hvn_ hvc_ ge507_4 ul507_4
                                clear hcc507 hce507
                                have HR507_4 := Aside0.mk hi507_4
                                have HC507_4 := Aside0.mk hl507_4
                                clear hi507_4 hl507_4
                                replace p507 := eq_true p507
                                replace q507 := eq_true q507
                                have ea_ := Option.some.inj (hx503_4.symm.trans hx507_4)
                                injection ea_ with ea_ en_ ec_
                                subst ea_
                                subst ec_
                                clear en_
                                go_wp2
                                repeat (go_quiet (fail); try go_wp2)
                                go_ret
                                exact ⟨by first | rfl | (simp [errW_none, errW_some] <;> rfl) | (simp only [← hji46]; first | rfl | (simp [errW_none, errW_some] <;> rfl)) | (simp [*, errW_none, errW_some] <;> rfl), by repeat (first | (with_reducible first | exact HB.out | apply below_alloc | apply pw_below_drewN | apply below_drew1) | exact HB.out)⟩
                              · rw [if_neg c50] at H
                                have c50b0 : (((rd_T43 t493 (ji46)).f0) == ((rd_T43 t493 x4_2).f0)) = false := beq_eq_false_iff_ne.mpr c50
                                have c50b1 : (((rd_T43 t493 (ji46)).f0) != ((rd_T43 t493 x4_2).f0)) = true := bne_iff_ne.mpr c50
                                have H' := Aside0.mk H
                                clear H
                                obtain ⟨Ao52, co52, eo52⟩ := Kd.N_slice HO_3.out
                                subst eo52
                                have p503 : 0 ≤ (x4_2 : Int) := of_decide_eq_true (by first | (with_reducible assumption) | assumption)
                                have q503 : x4_2 < (t493.length : Int) := of_decide_eq_true (by first | (with_reducible assumption) | assumption)
                                obtain ⟨ad503, A503_4, c503_4, e503, hx503_0, hx503_1, hx503_2, hx503_3, hx503_4, hl503_4, hi503_4⟩ := at_T43 (Kd.N_reads' HO_3.out).2.2 x4_2 p503 q503
                                cases e503
                                obtain ⟨ce503, hce503, hMe503, hcc503⟩ := Kd.N_get HO_3.out z43 x4_2 p503 (by first | exact q503 | exact of_decide_eq_true (by first | (with_reducible assumption) | assumption) | (have e_ := (Kd.N_reads' HO_3.out).1; omega))
                                obtain ⟨ua503_4, uc503_4, rfl, ul503_4, ge503_4⟩ := k43_openF hMe503
                                have hv503_4 := hcc503 4 _ rfl
                                rw [add_field _ _ 4 (by omega)] at hv503_4
                                replace hv503_4 := Option.some.inj (hv503_4.symm.trans hx503_4)
                                injection hv503_4 with hva_ hvn_ hvc_
                                rw [hva_] at ge503_4
                                rw [hvc_] at ul503_4
                                have HL503_4 := Aside0.mk (show Kd.V k46 46 _ w.heap.size _ _ ((rd_T43 t493 x4_2).f4) from Kd.V_mk ul503_4 ge503_4)
                                clear hva_ hvn_ hvc_ ge503_4 ul503_4
                                clear hcc503 hce503
                                have HR503_4 := Aside0.mk hi503_4
                                have HC503_4 := Aside0.mk hl503_4
                                clear hi503_4 hl503_4
                                replace p503 := eq_true p503
                                replace q503 := eq_true q503
                                have p504 : 0 ≤ (x4_2 : Int) := of_decide_eq_true (by first | (with_reducible assumption) | assumption)
                                have q504 : x4_2 < (t493.length : Int) := of_decide_eq_true (by first | (with_reducible assumption) | assumption)
                                obtain ⟨ad504, A504_4, c504_4, e504, hx504_0, hx504_1, hx504_2, hx504_3, hx504_4, hl504_4, hi504_4⟩ := at_T43 (Kd.N_reads' HO_3.out).2.2 x4_2 p504 q504
                                obtain rfl : ad503 = ad504 := (by injection e504)
                                obtain ⟨ce504, hce504, hMe504, hcc504⟩ := Kd.N_get HO_3.out z43 x4_2 p504 (by first | exact q504 | exact of_decide_eq_true (by first | (with_reducible assumption) | assumption) | (have e_ := (Kd.N_reads' HO_3.out).1; omega))
                                obtain ⟨ua504_4, uc504_4, rfl, ul504_4, ge504_4⟩ := k43_openF hMe504
                                have hv504_4 := hcc504 4 _ rfl
                                rw [add_field _ _ 4 (by omega)] at hv504_4
                                replace hv504_4 := Option.some.inj (hv504_4.symm.trans hx504_4)
                                injection hv504_4 with hva_ hvn_ hvc_
                                rw [hva_] at ge504_4
                                rw [hvc_] at ul504_4
                                have HL504_4 := Aside0.mk (show Kd.V k46 46 _ w.heap.size _ _ ((rd_T43 t493 x4_2).f4) from Kd.V_mk ul504_4 ge504_4)
                                clear hva_ hvn_ hvc_ ge504_4 ul504_4
                                clear hcc504 hce504
                                have HR504_4 := Aside0.mk hi504_4
                                have HC504_4 := Aside0.mk hl504_4
                                clear hi504_4 hl504_4
                                replace p504 := eq_true p504
                                replace q504 := eq_true q504
                                have ea_ := Option.some.inj (hx503_4.symm.trans hx504_4)
                                injection ea_ with ea_ en_ ec_
                                subst ea_
                                subst ec_
                                clear en_
                                have p505 : 0 ≤ ((ji46) : Int) := of_decide_eq_true (by first | (with_reducible assumption) | assumption)
                                have q505 : (ji46) < (t493.length : Int) := of_decide_eq_true (by first | (with_reducible assumption) | assumption)
                                obtain ⟨ad505, A505_4, c505_4, e505, hx505_0, hx505_1, hx505_2, hx505_3, hx505_4, hl505_4, hi505_4⟩ := at_T43 (Kd.N_reads' HO_3.out).2.2 (ji46) p505 q505
                                obtain rfl : ad503 = ad505 := (by injection e505)
                                obtain ⟨ce505, hce505, hMe505, hcc505⟩ := Kd.N_get HO_3.out z43 (ji46) p505 (by first | exact q505 | exact of_decide_eq_true (by first | (with_reducible assumption) | assumption) | (have e_ := (Kd.N_reads' HO_3.out).1; omega))
                                obtain ⟨ua505_4, uc505_4, rfl, ul505_4, ge505_4⟩ := k43_openF hMe505
                                have hv505_4 := hcc505 4 _ rfl
                                rw [add_field _ _ 4 (by omega)] at hv505_4
                                replace hv505_4 := Option.some.inj (hv505_4.symm.trans hx505_4)
                                injection hv505_4 with hva_ hvn_ hvc_
                                rw [hva_] at ge505_4
                                rw [hvc_] at ul505_4
                                have HL505_4 := Aside0.mk (show Kd.V k46 46 _ w.heap.size _ _ ((rd_T43 t493 (ji46)).f4) from Kd.V_mk ul505_4 ge505_4)
                                clear hva_ hvn_ hvc_ ge505_4 ul505_4
                                clear hcc505 hce505
                                have HR505_4 := Aside0.mk hi505_4
                                have HC505_4 := Aside0.mk hl505_4
                                clear hi505_4 hl505_4
                                replace p505 := eq_true p505
                                replace q505 := eq_true q505
                                have p506 : 0 ≤ ((ji46) : Int) := of_decide_eq_true (by first | (with_reducible assumption) | assumption)
                                have q506 : (ji46) < (t493.length : Int) := of_decide_eq_true (by first | (with_reducible assumption) | assumption)
                                obtain ⟨ad506, A506_4, c506_4, e506, hx506_0, hx506_1, hx506_2, hx506_3, hx506_4, hl506_4, hi506_4⟩ := at_T43 (Kd.N_reads' HO_3.out).2.2 (ji46) p506 q506
                                obtain rfl : ad503 = ad506 := (by injection e506)
                                obtain ⟨ce506, hce506, hMe506, hcc506⟩ := Kd.N_get HO_3.out z43 (ji46) p506 (by first | exact q506 | exact of_decide_eq_true (by first | (with_reducible assumption) | assumption) | (have e_ := (Kd.N_reads' HO_3.out).1; omega))
                                obtain ⟨ua506_4, uc506_4, rfl, ul506_4, ge506_4⟩ := k43_openF hMe506
                                have hv506_4 := hcc506 4 _ rfl
                                rw [add_field _ _ 4 (by omega)] at hv506_4
                                replace hv506_4 := Option.some.inj (hv506_4.symm.trans hx506_4)
                                injection hv506_4 with hva_ hvn_ hvc_
                                rw [hva_] at ge506_4
                                rw [hvc_] at ul506_4
                                have HL506_4 := Aside0.mk (show Kd.V k46 46 _ w.heap.size _ _ ((rd_T43 t493 (ji46)).f4) from Kd.V_mk ul506_4 ge506_4)
                                clear hva_ hvn_ hvc_ ge506_4 ul506_4
                                clear hcc506 hce506
                                have HR506_4 := Aside0.mk hi506_4
                                have HC506_4 := Aside0.mk hl506_4
                                clear hi506_4 hl506_4
                                replace p506 := eq_true p506
                                replace q506 := eq_true q506
                                have ea_ := Option.some.inj (hx505_4.symm.trans hx506_4)
                                injection ea_ with ea_ en_ ec_
                                subst ea_
                                subst ec_
                                clear en_
                                have p507 : 0 ≤ (x4_2 : Int) := of_decide_eq_true (by first | (with_reducible assumption) | assumption)
                                have q507 : x4_2 < (t493.length : Int) := of_decide_eq_true (by first | (with_reducible assumption) | assumption)
                                obtain ⟨ad507, A507_4, c507_4, e507, hx507_0, hx507_1, hx507_2, hx507_3, hx507_4, hl507_4, hi507_4⟩ := at_T43 (Kd.N_reads' HO_3.out).2.2 x4_2 p507 q507
                                obtain rfl : ad503 = ad507 := (by injection e507)
                                obtain ⟨ce507, hce507, hMe507, hcc507⟩ := Kd.N_get HO_3.out z43 x4_2 p507 (by first | exact q507 | exact of_decide_eq_true (by first | (with_reducible assumption) | assumption) | (have e_ := (Kd.N_reads' HO_3.out).1; omega))
                                obtain ⟨ua507_4, uc507_4, rfl, ul507_4, ge507_4⟩ := k43_openF hMe507
                                have hv507_4 := hcc507 4 _ rfl
                                rw [add_field _ _ 4 (by omega)] at hv507_4
                                replace hv507_4 := Option.some.inj (hv507_4.symm.trans hx507_4)
                                injection hv507_4 with hva_ hvn_ hvc_
                                rw [hva_] at ge507_4
                                rw [hvc_] at ul507_4
                                have HL507_4 := Aside0.mk (show Kd.V k46 46 _ w.heap.size _ _ ((rd_T43 t493 x4_2).f4) from Kd.V_mk ul507_4 ge507_4)
                                clear hva_ hvn_ hvc_ ge507_4 ul507_4
                                clear hcc507 hce507
                                have HR507_4 := Aside0.mk hi507_4
                                have HC507_4 := Aside0.mk hl507_4
                                clear hi507_4 hl507_4
                                replace p507 := eq_true p507
                                replace q507 := eq_true q507
                                have ea_ := Option.some.inj (hx503_4.symm.trans hx507_4)
                                injection ea_ with ea_ en_ ec_
                                subst ea_
                                subst ec_
                                clear en_
                                go_wp2
                                repeat (go_quiet (fail); try go_wp2)
                                go_roundg k2
                                case measure => have := HJ5.out; have := HK2.out; omega
                                case rel => exact ⟨(wrap64 (x4_2 + 1)), (by first | rfl | (simp; done) | (congr 1; first | (with_reducible assumption) | (symm; with_reducible assumption)) | (simp [*]; done) | (simp only [ne_nil_empty]; done) | (rw [ne_nil_empty]; rfl)), H', ⟨by have := HJ5.out; have := HK2.out; omega⟩, ⟨by (with_reducible repeat (first | apply Kd.N_alloc | apply Kd.N_drewN | apply Kd.N_drew)); exact HO_3.out⟩, ⟨by repeat (first | (with_reducible first | exact HB.out | apply below_alloc | apply pw_below_drewN | apply below_drew1) | exact HB.out)⟩⟩
                            · rw [if_neg c49] at H
                              have c49b0 : (((rd_T43 t493 (ji46)).f1) == 1) = false := beq_eq_false_iff_ne.mpr c49
                              have c49b1 : (((rd_T43 t493 (ji46)).f1) != 1) = true := bne_iff_ne.mpr c49
                              have H' := Aside0.mk H
                              clear H
                              obtain ⟨Ao53, co53, eo53⟩ := Kd.N_slice HO_3.out
                              subst eo53
                              have p503 : 0 ≤ (x4_2 : Int) := of_decide_eq_true (by first | (with_reducible assumption) | assumption)
                              have q503 : x4_2 < (t493.length : Int) := of_decide_eq_true (by first | (with_reducible assumption) | assumption)
                              obtain ⟨ad503, A503_4, c503_4, e503, hx503_0, hx503_1, hx503_2, hx503_3, hx503_4, hl503_4, hi503_4⟩ := at_T43 (Kd.N_reads' HO_3.out).2.2 x4_2 p503 q503
                              cases e503
                              obtain ⟨ce503, hce503, hMe503, hcc503⟩ := Kd.N_get HO_3.out z43 x4_2 p503 (by first | exact q503 | exact of_decide_eq_true (by first | (with_reducible assumption) | assumption) | (have e_ := (Kd.N_reads' HO_3.out).1; omega))
                              obtain ⟨ua503_4, uc503_4, rfl, ul503_4, ge503_4⟩ := k43_openF hMe503
                              have hv503_4 := hcc503 4 _ rfl
                              rw [add_field _ _ 4 (by omega)] at hv503_4
                              replace hv503_4 := Option.some.inj (hv503_4.symm.trans hx503_4)
                              injection hv503_4 with hva_ hvn_ hvc_
                              rw [hva_] at ge503_4
                              rw [hvc_] at ul503_4
                              have HL503_4 := Aside0.mk (show Kd.V k46 46 _ w.heap.size _ _ ((rd_T43 t493 x4_2).f4) from Kd.V_mk ul503_4 ge503_4)
                              clear hva_ hvn_ hvc_ ge503_4 ul503_4
                              clear hcc503 hce503
                              have HR503_4 := Aside0.mk hi503_4
                              have HC503_4 := Aside0.mk hl503_4
                              clear hi503_4 hl503_4
                              replace p503 := eq_true p503
                              replace q503 := eq_true q503
                              have p504 : 0 ≤ (x4_2 : Int) := of_decide_eq_true (by first | (with_reducible assumption) | assumption)
                              have q504 : x4_2 < (t493.length : Int) := of_decide_eq_true (by first | (with_reducible assumption) | assumption)
                              obtain ⟨ad504, A504_4, c504_4, e504, hx504_0, hx504_1, hx504_2, hx504_3, hx504_4, hl504_4, hi504_4⟩ := at_T43 (Kd.N_reads' HO_3.out).2.2 x4_2 p504 q504
                              obtain rfl : ad503 = ad504 := (by injection e504)
                              obtain ⟨ce504, hce504, hMe504, hcc504⟩ := Kd.N_get HO_3.out z43 x4_2 p504 (by first | exact q504 | exact of_decide_eq_true (by first | (with_reducible assumption) | assumption) | (have e_ := (Kd.N_reads' HO_3.out).1; omega))
                              obtain ⟨ua504_4, uc504_4, rfl, ul504_4, ge504_4⟩ := k43_openF hMe504
                              have hv504_4 := hcc504 4 _ rfl
                              rw [add_field _ _ 4 (by omega)] at hv504_4
                              replace hv504_4 := Option.some.inj (hv504_4.symm.trans hx504_4)
                              injection hv504_4 with hva_ hvn_ hvc_
                              rw [hva_] at ge504_4
                              rw [hvc_] at ul504_4
                              have HL504_4 := Aside0.mk (show Kd.V k46 46 _ w.heap.size _ _ ((rd_T43 t493 x4_2).f4) from Kd.V_mk ul504_4 ge504_4)
                              clear hva_ hvn_ hvc_ ge504_4 ul504_4
                              clear hcc504 hce504
                              have HR504_4 := Aside0.mk hi504_4
                              have HC504_4 := Aside0.mk hl504_4
                              clear hi504_4 hl504_4
                              replace p504 := eq_true p504
                              replace q504 := eq_true q504
                              have ea_ := Option.some.inj (hx503_4.symm.trans hx504_4)
                              injection ea_ with ea_ en_ ec_
                              subst ea_
                              subst ec_
                              clear en_
                              have p505 : 0 ≤ ((ji46) : Int) := of_decide_eq_true (by first | (with_reducible assumption) | assumption)
                              have q505 : (ji46) < (t493.length : Int) := of_decide_eq_true (by first | (with_reducible assumption) | assumption)
                              obtain ⟨ad505, A505_4, c505_4, e505, hx505_0, hx505_1, hx505_2, hx505_3, hx505_4, hl505_4, hi505_4⟩ := at_T43 (Kd.N_reads' HO_3.out).2.2 (ji46) p505 q505
                              obtain rfl : ad503 = ad505 := (by injection e505)
                              obtain ⟨ce505, hce505, hMe505, hcc505⟩ := Kd.N_get HO_3.out z43 (ji46) p505 (by first | exact q505 | exact of_decide_eq_true (by first | (with_reducible assumption) | assumption) | (have e_ := (Kd.N_reads' HO_3.out).1; omega))
                              obtain ⟨ua505_4, uc505_4, rfl, ul505_4, ge505_4⟩ := k43_openF hMe505
                              have hv505_4 := hcc505 4 _ rfl
                              rw [add_field _ _ 4 (by omega)] at hv505_4
                              replace hv505_4 := Option.some.inj (hv505_4.symm.trans hx505_4)
                              injection hv505_4 with hva_ hvn_ hvc_
                              rw [hva_] at ge505_4
                              rw [hvc_] at ul505_4
                              have HL505_4 := Aside0.mk (show Kd.V k46 46 _ w.heap.size _ _ ((rd_T43 t493 (ji46)).f4) from Kd.V_mk ul505_4 ge505_4)
                              clear hva_ hvn_ hvc_ ge505_4 ul505_4
                              clear hcc505 hce505
                              have HR505_4 := Aside0.mk hi505_4
                              have HC505_4 := Aside0.mk hl505_4
                              clear hi505_4 hl505_4
                              replace p505 := eq_true p505
                              replace q505 := eq_true q505
                              go_wp2
                              repeat (go_quiet (fail); try go_wp2)
                              go_roundg k2
                              case measure => have := HJ5.out; have := HK2.out; omega
                              case rel => exact ⟨(wrap64 (x4_2 + 1)), (by first | rfl | (simp; done) | (congr 1; first | (with_reducible assumption) | (symm; with_reducible assumption)) | (simp [*]; done) | (simp only [ne_nil_empty]; done) | (rw [ne_nil_empty]; rfl)), H', ⟨by have := HJ5.out; have := HK2.out; omega⟩, ⟨by (with_reducible repeat (first | apply Kd.N_alloc | apply Kd.N_drewN | apply Kd.N_drew)); exact HO_3.out⟩, ⟨by repeat (first | (with_reducible first | exact HB.out | apply below_alloc | apply pw_below_drewN | apply below_drew1) | exact HB.out)⟩⟩
                          · rw [if_neg c48] at H
                            exact absurd H (by simp)
                        · rw [if_neg c47] at H
                          exact absurd H (by simp)
                      · rw [if_neg c45] at H
                        have c45b0 : decide (0 < x4_2) = false := decide_eq_false c45
                        clear c45
                        have H' := Aside0.mk H
                        clear H
                        obtain ⟨Ao54, co54, eo54⟩ := Kd.N_slice HO_3.out
                        subst eo54
                        have p503 : 0 ≤ (x4_2 : Int) := of_decide_eq_true (by first | (with_reducible assumption) | assumption)
                        have q503 : x4_2 < (t493.length : Int) := of_decide_eq_true (by first | (with_reducible assumption) | assumption)
                        obtain ⟨ad503, A503_4, c503_4, e503, hx503_0, hx503_1, hx503_2, hx503_3, hx503_4, hl503_4, hi503_4⟩ := at_T43 (Kd.N_reads' HO_3.out).2.2 x4_2 p503 q503
                        cases e503
                        obtain ⟨ce503, hce503, hMe503, hcc503⟩ := Kd.N_get HO_3.out z43 x4_2 p503 (by first | exact q503 | exact of_decide_eq_true (by first | (with_reducible assumption) | assumption) | (have e_ := (Kd.N_reads' HO_3.out).1; omega))
                        obtain ⟨ua503_4, uc503_4, rfl, ul503_4, ge503_4⟩ := k43_openF hMe503
                        have hv503_4 := hcc503 4 _ rfl
                        rw [add_field _ _ 4 (by omega)] at hv503_4
                        replace hv503_4 := Option.some.inj (hv503_4.symm.trans hx503_4)
                        injection hv503_4 with hva_ hvn_ hvc_
                        rw [hva_] at ge503_4
                        rw [hvc_] at ul503_4
                        have HL503_4 := Aside0.mk (show Kd.V k46 46 _ w.heap.size _ _ ((rd_T43 t493 x4_2).f4) from Kd.V_mk ul503_4 ge503_4)
                        clear hva_ hvn_ hvc_ ge503_4 ul503_4
                        clear hcc503 hce503
                        have HR503_4 := Aside0.mk hi503_4
                        have HC503_4 := Aside0.mk hl503_4
                        clear hi503_4 hl503_4
                        replace p503 := eq_true p503
                        replace q503 := eq_true q503
                        have p504 : 0 ≤ (x4_2 : Int) := of_decide_eq_true (by first | (with_reducible assumption) | assumption)
                        have q504 : x4_2 < (t493.length : Int) := of_decide_eq_true (by first | (with_reducible assumption) | assumption)
                        obtain ⟨ad504, A504_4, c504_4, e504, hx504_0, hx504_1, hx504_2, hx504_3, hx504_4, hl504_4, hi504_4⟩ := at_T43 (Kd.N_reads' HO_3.out).2.2 x4_2 p504 q504
                        obtain rfl : ad503 = ad504 := (by injection e504)
                        obtain ⟨ce504, hce504, hMe504, hcc504⟩ := Kd.N_get HO_3.out z43 x4_2 p504 (by first | exact q504 | exact of_decide_eq_true (by first | (with_reducible assumption) | assumption) | (have e_ := (Kd.N_reads' HO_3.out).1; omega))
                        obtain ⟨ua504_4, uc504_4, rfl, ul504_4, ge504_4⟩ := k43_openF hMe504
                        have hv504_4 := hcc504 4 _ rfl
                        rw [add_field _ _ 4 (by omega)] at hv504_4
                        replace hv504_4 := Option.some.inj (hv504_4.symm.trans hx504_4)
                        injection hv504_4 with hva_ hvn_ hvc_
                        rw [hva_] at ge504_4
                        rw [hvc_] at ul504_4
                        have HL504_4 := Aside0.mk (show Kd.V k46 46 _ w.heap.size _ _ ((rd_T43 t493 x4_2).f4) from Kd.V_mk ul504_4 ge504_4)
                        clear hva_ hvn_ hvc_ ge504_4 ul504_4
                        clear hcc504 hce504
                        have HR504_4 := Aside0.mk hi504_4
                        have HC504_4 := Aside0.mk hl504_4
                        clear hi504_4 hl504_4
                        replace p504 := eq_true p504
                        replace q504 := eq_true q504
                        have ea_ := Option.some.inj (hx503_4.symm.trans hx504_4)
                        injection ea_ with ea_ en_ ec_
                        subst ea_
                        subst ec_
                        clear en_
                        go_wp2
                        repeat (go_quiet (fail); try go_wp2)
                        go_roundg k2
                        case measure => have := HJ5.out; have := HK2.out; omega
                        case rel => exact ⟨(wrap64 (x4_2 + 1)), (by first | rfl | (simp; done) | (congr 1; first | (with_reducible assumption) | (symm; with_reducible assumption)) | (simp [*]; done) | (simp only [ne_nil_empty]; done) | (rw [ne_nil_empty]; rfl)), H', ⟨by have := HJ5.out; have := HK2.out; omega⟩, ⟨by (with_reducible repeat (first | apply Kd.N_alloc | apply Kd.N_drewN | apply Kd.N_drew)); exact HO_3.out⟩, ⟨by repeat (first | (with_reducible first | exact HB.out | apply below_alloc | apply pw_below_drewN | apply below_drew1) | exact HB.out)⟩⟩
                  · rw [if_neg c42] at H
                    have c42b0 : (((rd_T43 t493 x4_2).f1) == 1) = false := beq_eq_false_iff_ne.mpr c42
                    have c42b1 : (((rd_T43 t493 x4_2).f1) != 1) = true := bne_iff_ne.mpr c42
                    have H' := Aside0.mk H
                    clear H
                    obtain ⟨Ao55, co55, eo55⟩ := Kd.N_slice HO_3.out
                    subst eo55
                    have p503 : 0 ≤ (x4_2 : Int) := of_decide_eq_true (by first | (with_reducible assumption) | assumption)
                    have q503 : x4_2 < (t493.length : Int) := of_decide_eq_true (by first | (with_reducible assumption) | assumption)
                    obtain ⟨ad503, A503_4, c503_4, e503, hx503_0, hx503_1, hx503_2, hx503_3, hx503_4, hl503_4, hi503_4⟩ := at_T43 (Kd.N_reads' HO_3.out).2.2 x4_2 p503 q503
                    cases e503
                    obtain ⟨ce503, hce503, hMe503, hcc503⟩ := Kd.N_get HO_3.out z43 x4_2 p503 (by first | exact q503 | exact of_decide_eq_true (by first | (with_reducible assumption) | assumption) | (have e_ := (Kd.N_reads' HO_3.out).1; omega))
                    obtain ⟨ua503_4, uc503_4, rfl, ul503_4, ge503_4⟩ := k43_openF hMe503
                    have hv503_4 := hcc503 4 _ rfl
                    rw [add_field _ _ 4 (by omega)] at hv503_4
                    replace hv503_4 := Option.some.inj (hv503_4.symm.trans hx503_4)
                    injection hv503_4 with hva_ hvn_ hvc_
                    rw [hva_] at ge503_4
                    rw [hvc_] at ul503_4
                    have HL503_4 := Aside0.mk (show Kd.V k46 46 _ w.heap.size _ _ ((rd_T43 t493 x4_2).f4) from Kd.V_mk ul503_4 ge503_4)
                    clear hva_ hvn_ hvc_ ge503_4 ul503_4
                    clear hcc503 hce503
                    have HR503_4 := Aside0.mk hi503_4
                    have HC503_4 := Aside0.mk hl503_4
                    clear hi503_4 hl503_4
                    replace p503 := eq_true p503
                    replace q503 := eq_true q503
                    go_wp2
                    repeat (go_quiet (fail); try go_wp2)
                    go_roundg k2
                    case measure => have := HJ5.out; have := HK2.out; omega
                    case rel => exact ⟨(wrap64 (x4_2 + 1)), (by first | rfl | (simp; done) | (congr 1; first | (with_reducible assumption) | (symm; with_reducible assumption)) | (simp [*]; done) | (simp only [ne_nil_empty]; done) | (rw [ne_nil_empty]; rfl)), H', ⟨by have := HJ5.out; have := HK2.out; omega⟩, ⟨by (with_reducible repeat (first | apply Kd.N_alloc | apply Kd.N_drewN | apply Kd.N_drew)); exact HO_3.out⟩, ⟨by repeat (first | (with_reducible first | exact HB.out | apply below_alloc | apply pw_below_drewN | apply below_drew1) | exact HB.out)⟩⟩
                · rw [if_neg c41] at H
                  exact absurd H (by simp)
              · rw [if_neg c40] at H
                have c40b0 : decide (x4_2 < (t493.length : Int)) = false := decide_eq_false c40
                clear c40
                replace H := Option.bind_eq_some_iff.mp H
                obtain ⟨t508, A560, H⟩ := H
                replace H : (some t508) = some r := H
                have A56 := Aside0.mk A560
                clear A560
                obtain rfl := Option.some.inj H
                obtain ⟨Ao57, co57, eo57⟩ := Kd.N_slice HO_3.out
                subst eo57
                go_wp2_with (first | (go_at_call 12; (with_reducible refine (boltinglaw04_fixed.calls k2  t508 _ A56.out).mono ?_); rintro e w58 ⟨rfl, hb⟩; have n0_ := Aside0.mk (Kd.N_below (by (with_reducible repeat (first | apply Kd.N_alloc | apply Kd.N_drewN | apply Kd.N_drew)); exact HO_3.out) hb); have n1_ := Aside0.mk (below_step (by repeat (first | (with_reducible first | exact HB.out | apply below_alloc | apply pw_below_drewN | apply below_drew1) | exact HB.out)) hb); clear HO_3; clear HB; have HO_3 := n0_; have HB := n1_; clear n0_ n1_; (try clear hb); (try clear hb2); (try clear hk); (try clear hi)))
                repeat (go_quiet (first | (go_at_call 12; (with_reducible refine (boltinglaw04_fixed.calls k2  t508 _ A56.out).mono ?_); rintro e w58 ⟨rfl, hb⟩; have n0_ := Aside0.mk (Kd.N_below (by (with_reducible repeat (first | apply Kd.N_alloc | apply Kd.N_drewN | apply Kd.N_drew)); exact HO_3.out) hb); have n1_ := Aside0.mk (below_step (by repeat (first | (with_reducible first | exact HB.out | apply below_alloc | apply pw_below_drewN | apply below_drew1) | exact HB.out)) hb); clear HO_3; clear HB; have HO_3 := n0_; have HB := n1_; clear n0_ n1_; (try clear hb); (try clear hb2); (try clear hk); (try clear hi))); try go_wp2_with (first | (go_at_call 12; (with_reducible refine (boltinglaw04_fixed.calls k2  t508 _ A56.out).mono ?_); rintro e w58 ⟨rfl, hb⟩; have n0_ := Aside0.mk (Kd.N_below (by (with_reducible repeat (first | apply Kd.N_alloc | apply Kd.N_drewN | apply Kd.N_drew)); exact HO_3.out) hb); have n1_ := Aside0.mk (below_step (by repeat (first | (with_reducible first | exact HB.out | apply below_alloc | apply pw_below_drewN | apply below_drew1) | exact HB.out)) hb); clear HO_3; clear HB; have HO_3 := n0_; have HB := n1_; clear n0_ n1_; (try clear hb); (try clear hb2); (try clear hk); (try clear hi))))
                go_ret
                exact ⟨by first | rfl | (simp [errW_none, errW_some] <;> rfl) | (simp [*, errW_none, errW_some] <;> rfl), by repeat (first | (with_reducible first | exact HB.out | apply below_alloc | apply pw_below_drewN | apply below_drew1) | exact HB.out)⟩
  · rw [if_neg c4] at H
    have c4b0 : (t491 == 0) = false := beq_eq_false_iff_ne.mpr c4
    have c4b1 : (t491 != 0) = true := bne_iff_ne.mpr c4
    replace H := Option.bind_eq_some_iff.mp H
    obtain ⟨t492, A590, H⟩ := H
    replace H : (some t492) = some r := H
    have A59 := Aside0.mk A590
    clear A590
    obtain rfl := Option.some.inj H
    go_enter Try.func9, Try.ntmps9
    go_wp2_with (first | (go_at_call 11; (with_reducible refine (boltinglaw04_bound.calls k (fun k_ => k_ < w.heap.size) _ _ l0 t488 _ ?side1 A2.out).mono ?_); (case side1 => exact Kd.V_mk HC0.out (Kd.F_below (Kd.C_F k43_heap HR0.out) (by repeat (first | (with_reducible first | exact HB.out | apply below_alloc | apply pw_below_drewN | apply below_drew1) | exact HB.out)))); rintro e w60 ⟨v489, rfl, ho0, hb⟩; have n0_ := Aside0.mk (Kd.N_lower (Kd.N_mono (ok' := fun k_ => True) ho0 (fun k_ hk_ => trivial)) (below_size (by repeat (first | (with_reducible first | exact HB.out | apply below_alloc | apply pw_below_drewN | apply below_drew1) | exact HB.out)))); have n1_ := Aside0.mk (below_step (by repeat (first | (with_reducible first | exact HB.out | apply below_alloc | apply pw_below_drewN | apply below_drew1) | exact HB.out)) hb); clear HB; have HO490 := n0_; have HB := n1_; clear n0_ n1_; (try clear hb); (try clear hb2); (try clear hk); (try clear hi); (try clear ho0); obtain ⟨Ao61, co61, eo61⟩ := Kd.N_slice HO490.out; subst eo61) | (go_at_call 13; (with_reducible refine (rows_Check.calls k _ _ t488 t491 _ ?side1 ?side2 A3.out).mono ?_); (case side1 => repeat (first | exact (Kd.N_reads' HO490.out).2.2 | (with_reducible refine Kd.C_alloc ?_ _) | (with_reducible refine Kd.C_drewN ?_ _) | (with_reducible refine Kd.C_drew ?_))); (case side2 => exact (Kd.N_reads' HO490.out).2.1); rintro e w62 ⟨rfl, hb⟩; have n0_ := Aside0.mk (Kd.N_below (by (with_reducible repeat (first | apply Kd.N_alloc | apply Kd.N_drewN | apply Kd.N_drew)); exact HO490.out) hb); have n1_ := Aside0.mk (below_step (by repeat (first | (with_reducible first | exact HB.out | apply below_alloc | apply pw_below_drewN | apply below_drew1) | exact HB.out)) hb); clear HO490; clear HB; have HO490 := n0_; have HB := n1_; clear n0_ n1_; (try clear hb); (try clear hb2); (try clear hk); (try clear hi)) | (go_at_call 12; (with_reducible refine (boltinglaw04_fixed.calls k  t492 _ A59.out).mono ?_); rintro e w63 ⟨rfl, hb⟩; have n0_ := Aside0.mk (Kd.N_below (by (with_reducible repeat (first | apply Kd.N_alloc | apply Kd.N_drewN | apply Kd.N_drew)); exact HO490.out) hb); have n1_ := Aside0.mk (below_step (by repeat (first | (with_reducible first | exact HB.out | apply below_alloc | apply pw_below_drewN | apply below_drew1) | exact HB.out)) hb); clear HO490; clear HB; have HO490 := n0_; have HB := n1_; clear n0_ n1_; (try clear hb); (try clear hb2); (try clear hk); (try clear hi)))
    repeat (go_quiet (first | (go_at_call 11; (with_reducible refine (boltinglaw04_bound.calls k (fun k_ => k_ < w.heap.size) _ _ l0 t488 _ ?side1 A2.out).mono ?_); (case side1 => exact Kd.V_mk HC0.out (Kd.F_below (Kd.C_F k43_heap HR0.out) (by repeat (first | (with_reducible first | exact HB.out | apply below_alloc | apply pw_below_drewN | apply below_drew1) | exact HB.out)))); rintro e w60 ⟨v489, rfl, ho0, hb⟩; have n0_ := Aside0.mk (Kd.N_lower (Kd.N_mono (ok' := fun k_ => True) ho0 (fun k_ hk_ => trivial)) (below_size (by repeat (first | (with_reducible first | exact HB.out | apply below_alloc | apply pw_below_drewN | apply below_drew1) | exact HB.out)))); have n1_ := Aside0.mk (below_step (by repeat (first | (with_reducible first | exact HB.out | apply below_alloc | apply pw_below_drewN | apply below_drew1) | exact HB.out)) hb); clear HB; have HO490 := n0_; have HB := n1_; clear n0_ n1_; (try clear hb); (try clear hb2); (try clear hk); (try clear hi); (try clear ho0); obtain ⟨Ao61, co61, eo61⟩ := Kd.N_slice HO490.out; subst eo61) | (go_at_call 13; (with_reducible refine (rows_Check.calls k _ _ t488 t491 _ ?side1 ?side2 A3.out).mono ?_); (case side1 => repeat (first | exact (Kd.N_reads' HO490.out).2.2 | (with_reducible refine Kd.C_alloc ?_ _) | (with_reducible refine Kd.C_drewN ?_ _) | (with_reducible refine Kd.C_drew ?_))); (case side2 => exact (Kd.N_reads' HO490.out).2.1); rintro e w62 ⟨rfl, hb⟩; have n0_ := Aside0.mk (Kd.N_below (by (with_reducible repeat (first | apply Kd.N_alloc | apply Kd.N_drewN | apply Kd.N_drew)); exact HO490.out) hb); have n1_ := Aside0.mk (below_step (by repeat (first | (with_reducible first | exact HB.out | apply below_alloc | apply pw_below_drewN | apply below_drew1) | exact HB.out)) hb); clear HO490; clear HB; have HO490 := n0_; have HB := n1_; clear n0_ n1_; (try clear hb); (try clear hb2); (try clear hk); (try clear hi)) | (go_at_call 12; (with_reducible refine (boltinglaw04_fixed.calls k  t492 _ A59.out).mono ?_); rintro e w63 ⟨rfl, hb⟩; have n0_ := Aside0.mk (Kd.N_below (by (with_reducible repeat (first | apply Kd.N_alloc | apply Kd.N_drewN | apply Kd.N_drew)); exact HO490.out) hb); have n1_ := Aside0.mk (below_step (by repeat (first | (with_reducible first | exact HB.out | apply below_alloc | apply pw_below_drewN | apply below_drew1) | exact HB.out)) hb); clear HO490; clear HB; have HO490 := n0_; have HB := n1_; clear n0_ n1_; (try clear hb); (try clear hb2); (try clear hk); (try clear hi))); try go_wp2_with (first | (go_at_call 11; (with_reducible refine (boltinglaw04_bound.calls k (fun k_ => k_ < w.heap.size) _ _ l0 t488 _ ?side1 A2.out).mono ?_); (case side1 => exact Kd.V_mk HC0.out (Kd.F_below (Kd.C_F k43_heap HR0.out) (by repeat (first | (with_reducible first | exact HB.out | apply below_alloc | apply pw_below_drewN | apply below_drew1) | exact HB.out)))); rintro e w60 ⟨v489, rfl, ho0, hb⟩; have n0_ := Aside0.mk (Kd.N_lower (Kd.N_mono (ok' := fun k_ => True) ho0 (fun k_ hk_ => trivial)) (below_size (by repeat (first | (with_reducible first | exact HB.out | apply below_alloc | apply pw_below_drewN | apply below_drew1) | exact HB.out)))); have n1_ := Aside0.mk (below_step (by repeat (first | (with_reducible first | exact HB.out | apply below_alloc | apply pw_below_drewN | apply below_drew1) | exact HB.out)) hb); clear HB; have HO490 := n0_; have HB := n1_; clear n0_ n1_; (try clear hb); (try clear hb2); (try clear hk); (try clear hi); (try clear ho0); obtain ⟨Ao61, co61, eo61⟩ := Kd.N_slice HO490.out; subst eo61) | (go_at_call 13; (with_reducible refine (rows_Check.calls k _ _ t488 t491 _ ?side1 ?side2 A3.out).mono ?_); (case side1 => repeat (first | exact (Kd.N_reads' HO490.out).2.2 | (with_reducible refine Kd.C_alloc ?_ _) | (with_reducible refine Kd.C_drewN ?_ _) | (with_reducible refine Kd.C_drew ?_))); (case side2 => exact (Kd.N_reads' HO490.out).2.1); rintro e w62 ⟨rfl, hb⟩; have n0_ := Aside0.mk (Kd.N_below (by (with_reducible repeat (first | apply Kd.N_alloc | apply Kd.N_drewN | apply Kd.N_drew)); exact HO490.out) hb); have n1_ := Aside0.mk (below_step (by repeat (first | (with_reducible first | exact HB.out | apply below_alloc | apply pw_below_drewN | apply below_drew1) | exact HB.out)) hb); clear HO490; clear HB; have HO490 := n0_; have HB := n1_; clear n0_ n1_; (try clear hb); (try clear hb2); (try clear hk); (try clear hi)) | (go_at_call 12; (with_reducible refine (boltinglaw04_fixed.calls k  t492 _ A59.out).mono ?_); rintro e w63 ⟨rfl, hb⟩; have n0_ := Aside0.mk (Kd.N_below (by (with_reducible repeat (first | apply Kd.N_alloc | apply Kd.N_drewN | apply Kd.N_drew)); exact HO490.out) hb); have n1_ := Aside0.mk (below_step (by repeat (first | (with_reducible first | exact HB.out | apply below_alloc | apply pw_below_drewN | apply below_drew1) | exact HB.out)) hb); clear HO490; clear HB; have HO490 := n0_; have HB := n1_; clear n0_ n1_; (try clear hb); (try clear hb2); (try clear hk); (try clear hi))))
    go_ret
    exact ⟨by first | rfl | (simp [errW_none, errW_some] <;> rfl) | (simp [*, errW_none, errW_some] <;> rfl), by repeat (first | (with_reducible first | exact HB.out | apply below_alloc | apply pw_below_drewN | apply below_drew1) | exact HB.out)⟩

end Go.Proofs.Ytllggaogjcknoaa.QA
