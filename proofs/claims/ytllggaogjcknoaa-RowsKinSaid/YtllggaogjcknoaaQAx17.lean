-- Written by a program of this claim's own (wip/gen/gen.py), out of the translation; an ordinary proof text.
import Derived.Test.YtllggaogjcknoaaQAx0
import Derived.Test.YtllggaogjcknoaaQAx2
import Derived.Test.YtllggaogjcknoaaQAx4
import Derived.Test.YtllggaogjcknoaaQAx5
import Derived.Test.YtllggaogjcknoaaQAx6
import Derived.Test.YtllggaogjcknoaaQAx10
namespace Go.Proofs.Ytllggaogjcknoaa.QA
open Go.RowKit Go.Proofs.YtllggaogjcknoaaW.PrintWords Go.Proofs.YtllggaogjcknoaaW.PrintLast Go.Proofs.YtllggaogjcknoaaW.PrintMore
attribute [local go_sem] max2_int min2_int max_two min_two max_three min_three max_four min_four   -- for this text's walks alone
set_option linter.unusedVariables false
set_option linter.unusedSimpArgs false

/-! ### boltinglaw04_RowsKin: function 8 -/
mutual
def boltinglaw04_RowsKin.l0 : Nat → List (S43) → Int → Int → Option (Bool)
  | 0, _, _, _ => none
  | k + 1, x0, x3, x4 => if x4 < (x0.length : Int) then ((rows_Kids.f x0 x4).bind fun t479 => (if x4 ≥ 0 then ((rows_End.f k x0 x4).bind fun t482 => (boltinglaw04_RowsKin.j1 k x0 x3 x4 t479 (wrap64 (x4 + 1)) t482)) else (boltinglaw04_RowsKin.j1 k x0 x3 x4 t479 (wrap64 (x4 + 1)) (x0.length : Int)))) else (if x3 = (x0.length : Int) then ((boltinglaw04_fixed.f k).bind fun t478 => (some t478)) else (some false))
def boltinglaw04_RowsKin.j1 : Nat → List (S43) → Int → Int → List Int → Int → Int → Option (Bool)
  | 0, _, _, _, _, _, _ => none
  | k + 1, x0, x3, x4, x5, x6, x7 => boltinglaw04_RowsKin.l1 k x0 x3 x4 x5 x6 x7 0
def boltinglaw04_RowsKin.l1 : Nat → List (S43) → Int → Int → List Int → Int → Int → Int → Option (Bool)
  | 0, _, _, _, _, _, _, _ => none
  | k + 1, x0, x3, x4, x5, x6, x7, x8 => if x8 < (x5.length : Int) then (if 0 ≤ x8 then (if (rd x5 x8) = x6 then ((rows_Parent.f k x0 (rd x5 x8)).bind fun t485 => (if t485 = x4 then ((rows_End.f k x0 (rd x5 x8)).bind fun t487 => (boltinglaw04_RowsKin.l1 k x0 (wrap64 (x3 + 1)) x4 x5 t487 x7 (wrap64 (x8 + 1)))) else (some false))) else (some false)) else (none)) else (if x6 = x7 then (boltinglaw04_RowsKin.l0 k x0 x3 (wrap64 (x4 + 1))) else (some false))
end
def boltinglaw04_RowsKin.f (k : Nat) (l0 : List (S43)) : Option (Bool) := (boltinglaw04_bound.f k l0).bind fun t473 => ((rows_Check.f k t473).bind fun t476 => (if t476 = 0 then (boltinglaw04_RowsKin.l0 k t473 0 (-1)) else ((boltinglaw04_fixed.f k).bind fun t477 => (some t477))))
theorem boltinglaw04_RowsKin.mono_l : ∀ k, (∀ y0 y1 y2, LeO (boltinglaw04_RowsKin.l0 k y0 y1 y2) (boltinglaw04_RowsKin.l0 (k + 1) y0 y1 y2)) ∧ (∀ y0 y1 y2 y3 y4 y5, LeO (boltinglaw04_RowsKin.j1 k y0 y1 y2 y3 y4 y5) (boltinglaw04_RowsKin.j1 (k + 1) y0 y1 y2 y3 y4 y5)) ∧ (∀ y0 y1 y2 y3 y4 y5 y6, LeO (boltinglaw04_RowsKin.l1 k y0 y1 y2 y3 y4 y5 y6) (boltinglaw04_RowsKin.l1 (k + 1) y0 y1 y2 y3 y4 y5 y6))
  | 0 => ⟨fun _ _ _ r h => by simp [boltinglaw04_RowsKin.l0] at h, fun _ _ _ _ _ _ r h => by simp [boltinglaw04_RowsKin.j1] at h, fun _ _ _ _ _ _ _ r h => by simp [boltinglaw04_RowsKin.l1] at h⟩
  | k + 1 => by
    obtain ⟨ih0, ih1, ih2⟩ := boltinglaw04_RowsKin.mono_l k
    refine ⟨?_, ?_, ?_⟩
    · intro y0 y1 y2
      unfold boltinglaw04_RowsKin.l0
      repeat' first
      | (with_reducible exact ih0 _ _ _)
      | (with_reducible exact ih1 _ _ _ _ _ _)
      | (with_reducible exact ih2 _ _ _ _ _ _ _)
      | (with_reducible exact boltinglaw04_bound.mono _ _)
      | (with_reducible exact boltinglaw04_fixed.mono _)
      | (with_reducible exact rows_Check.mono _ _)
      | (with_reducible exact rows_End.mono _ _ _)
      | (with_reducible exact rows_Parent.mono _ _ _)
      | (with_reducible exact LeO.refl _)
      | (with_reducible exact LeO.none _)
      | (with_reducible refine LeO.ite ?_ ?_)
      | (with_reducible refine LeO.bind ?_ (fun _ => ?_))
      | exact ih0 _ _ _
      | exact ih1 _ _ _ _ _ _
      | exact ih2 _ _ _ _ _ _ _
      | exact boltinglaw04_bound.mono _ _
      | exact boltinglaw04_fixed.mono _
      | exact rows_Check.mono _ _
      | exact rows_End.mono _ _ _
      | exact rows_Parent.mono _ _ _
      | exact LeO.none _
      | refine LeO.ite ?_ ?_
      | refine LeO.bind ?_ (fun _ => ?_)
    · intro y0 y1 y2 y3 y4 y5
      unfold boltinglaw04_RowsKin.j1
      repeat' first
      | (with_reducible exact ih0 _ _ _)
      | (with_reducible exact ih1 _ _ _ _ _ _)
      | (with_reducible exact ih2 _ _ _ _ _ _ _)
      | (with_reducible exact boltinglaw04_bound.mono _ _)
      | (with_reducible exact boltinglaw04_fixed.mono _)
      | (with_reducible exact rows_Check.mono _ _)
      | (with_reducible exact rows_End.mono _ _ _)
      | (with_reducible exact rows_Parent.mono _ _ _)
      | (with_reducible exact LeO.refl _)
      | (with_reducible exact LeO.none _)
      | (with_reducible refine LeO.ite ?_ ?_)
      | (with_reducible refine LeO.bind ?_ (fun _ => ?_))
      | exact ih0 _ _ _
      | exact ih1 _ _ _ _ _ _
      | exact ih2 _ _ _ _ _ _ _
      | exact boltinglaw04_bound.mono _ _
      | exact boltinglaw04_fixed.mono _
      | exact rows_Check.mono _ _
      | exact rows_End.mono _ _ _
      | exact rows_Parent.mono _ _ _
      | exact LeO.none _
      | refine LeO.ite ?_ ?_
      | refine LeO.bind ?_ (fun _ => ?_)
    · intro y0 y1 y2 y3 y4 y5 y6
      unfold boltinglaw04_RowsKin.l1
      repeat' first
      | (with_reducible exact ih0 _ _ _)
      | (with_reducible exact ih1 _ _ _ _ _ _)
      | (with_reducible exact ih2 _ _ _ _ _ _ _)
      | (with_reducible exact boltinglaw04_bound.mono _ _)
      | (with_reducible exact boltinglaw04_fixed.mono _)
      | (with_reducible exact rows_Check.mono _ _)
      | (with_reducible exact rows_End.mono _ _ _)
      | (with_reducible exact rows_Parent.mono _ _ _)
      | (with_reducible exact LeO.refl _)
      | (with_reducible exact LeO.none _)
      | (with_reducible refine LeO.ite ?_ ?_)
      | (with_reducible refine LeO.bind ?_ (fun _ => ?_))
      | exact ih0 _ _ _
      | exact ih1 _ _ _ _ _ _
      | exact ih2 _ _ _ _ _ _ _
      | exact boltinglaw04_bound.mono _ _
      | exact boltinglaw04_fixed.mono _
      | exact rows_Check.mono _ _
      | exact rows_End.mono _ _ _
      | exact rows_Parent.mono _ _ _
      | exact LeO.none _
      | refine LeO.ite ?_ ?_
      | refine LeO.bind ?_ (fun _ => ?_)
theorem boltinglaw04_RowsKin.mono : ∀ a0 k, LeO (boltinglaw04_RowsKin.f k a0) (boltinglaw04_RowsKin.f (k + 1) a0) := by
  intro a0 k
  obtain ⟨ih0, ih1, ih2⟩ := boltinglaw04_RowsKin.mono_l k
  unfold boltinglaw04_RowsKin.f
  repeat' first
      | (with_reducible exact ih0 _ _ _)
      | (with_reducible exact ih1 _ _ _ _ _ _)
      | (with_reducible exact ih2 _ _ _ _ _ _ _)
      | (with_reducible exact boltinglaw04_bound.mono _ _)
      | (with_reducible exact boltinglaw04_fixed.mono _)
      | (with_reducible exact rows_Check.mono _ _)
      | (with_reducible exact rows_End.mono _ _ _)
      | (with_reducible exact rows_Parent.mono _ _ _)
      | (with_reducible exact LeO.refl _)
      | (with_reducible exact LeO.none _)
      | (with_reducible refine LeO.ite ?_ ?_)
      | (with_reducible refine LeO.bind ?_ (fun _ => ?_))
      | exact ih0 _ _ _
      | exact ih1 _ _ _ _ _ _
      | exact ih2 _ _ _ _ _ _ _
      | exact boltinglaw04_bound.mono _ _
      | exact boltinglaw04_fixed.mono _
      | exact rows_Check.mono _ _
      | exact rows_End.mono _ _ _
      | exact rows_Parent.mono _ _ _
      | exact LeO.none _
      | refine LeO.ite ?_ ?_
      | refine LeO.bind ?_ (fun _ => ?_)
set_option maxHeartbeats 8000000 in
set_option maxRecDepth 100000 in
theorem boltinglaw04_RowsKin.calls (k : Nat) (A0 : Option Addr) (c0 : Nat) (l0 : List (S43)) (r : Bool) (w : World) (hr0 : Kd.C k43 w A0 l0.length l0) (hc0 : l0.length ≤ c0) (h : boltinglaw04_RowsKin.f k l0 = some r) :
    Calls Try.prog 8 #[.slice A0 l0.length c0] w fun e w' => e = .returned (.bool r) ∧ Below w.heap.size w w' := by
  have HR0 := Aside0.mk hr0
  have HC0 := Aside0.mk hc0
  clear hr0 hc0
  have HB := Aside0.mk (Below.refl w.heap.size w)
  have H : ((boltinglaw04_bound.f k l0).bind fun t473 => ((rows_Check.f k t473).bind fun t476 => (if t476 = 0 then (boltinglaw04_RowsKin.l0 k t473 0 (-1)) else ((boltinglaw04_fixed.f k).bind fun t477 => (some t477))))) = some r := h
  clear h
  replace H := Option.bind_eq_some_iff.mp H
  obtain ⟨t473, A20, H⟩ := H
  replace H : ((rows_Check.f k t473).bind fun t476 => (if t476 = 0 then (boltinglaw04_RowsKin.l0 k t473 0 (-1)) else ((boltinglaw04_fixed.f k).bind fun t477 => (some t477)))) = some r := H
  have A2 := Aside0.mk A20
  clear A20
  replace H := Option.bind_eq_some_iff.mp H
  obtain ⟨t476, A30, H⟩ := H
  replace H : (if t476 = 0 then (boltinglaw04_RowsKin.l0 k t473 0 (-1)) else ((boltinglaw04_fixed.f k).bind fun t477 => (some t477))) = some r := H
  have A3 := Aside0.mk A30
  clear A30
  by_cases c4 : t476 = 0
  · rw [if_pos c4] at H
    have c4b0 : (t476 == 0) = true := beq_iff_eq.mpr c4
    have c4b1 : (t476 != 0) = false := bne_eq_false_iff_eq.mpr c4
    clear c4
    have H' := Aside0.mk H
    clear H
    go_enter Try.func8, Try.ntmps8
    go_wp2_with (first | ((with_reducible refine gate_callee (f := 11) rfl ?_); refine goesL_ (some 10) rfl rfl Try.func11 (by kernel_rfl) rfl #[.slice A0 l0.length c0] rfl (by (try simp only [List.map_toArray, List.map_cons, List.map_nil]); first | done | rfl | (simp only [List.length_drop, List.length_take]; rfl)) ?_; (with_reducible refine (boltinglaw04_bound.calls k (fun k_ => k_ < w.heap.size) _ _ l0 t473 _ ?side1 A2.out).mono ?_); (case side1 => exact Kd.V_mk HC0.out (Kd.F_below (Kd.C_F k43_heap HR0.out) (by repeat (first | (with_reducible first | exact HB.out | apply below_alloc | apply pw_below_drewN | apply below_drew1) | exact HB.out)))); rintro e w5 ⟨v474, rfl, ho0, hb⟩; refine ⟨_, rfl, ?_⟩; have n0_ := Aside0.mk (Kd.N_lower (Kd.N_mono (ok' := fun k_ => True) ho0 (fun k_ hk_ => trivial)) (below_size (by repeat (first | (with_reducible first | exact HB.out | apply below_alloc | apply pw_below_drewN | apply below_drew1) | exact HB.out)))); have n1_ := Aside0.mk (below_step (by repeat (first | (with_reducible first | exact HB.out | apply below_alloc | apply pw_below_drewN | apply below_drew1) | exact HB.out)) hb); clear HB; have HO475 := n0_; have HB := n1_; clear n0_ n1_; (try clear hb); (try clear hb2); (try clear hk); (try clear hi); (try clear ho0); obtain ⟨Ao6, co6, eo6⟩ := Kd.N_slice HO475.out; subst eo6) | ((with_reducible refine gate_callee (f := 13) rfl ?_); refine goesL_ (some 12) rfl rfl Try.func13 (by kernel_rfl) rfl #[.slice Ao6 t473.length co6] rfl (by (try simp only [List.map_toArray, List.map_cons, List.map_nil]); first | done | rfl | (simp only [List.length_drop, List.length_take]; rfl)) ?_; (with_reducible refine (rows_Check.calls k _ _ t473 t476 _ ?side1 ?side2 A3.out).mono ?_); (case side1 => repeat (first | exact (Kd.N_reads' HO475.out).2.2 | (with_reducible refine Kd.C_alloc ?_ _) | (with_reducible refine Kd.C_drewN ?_ _) | (with_reducible refine Kd.C_drew ?_))); (case side2 => exact (Kd.N_reads' HO475.out).2.1); rintro e w7 ⟨rfl, hb⟩; refine ⟨_, rfl, ?_⟩; have n0_ := Aside0.mk (Kd.N_below (by (with_reducible repeat (first | apply Kd.N_alloc | apply Kd.N_drewN | apply Kd.N_drew)); exact HO475.out) hb); have n1_ := Aside0.mk (below_step (by repeat (first | (with_reducible first | exact HB.out | apply below_alloc | apply pw_below_drewN | apply below_drew1) | exact HB.out)) hb); clear HO475; clear HB; have HO475 := n0_; have HB := n1_; clear n0_ n1_; (try clear hb); (try clear hb2); (try clear hk); (try clear hi)))
    go_loopg [3, 4] k (fun kq v3 v4 w' => ∃ (x3_1 : Int) (x4_1 : Int), v3 = .int .i64 x3_1 ∧ v4 = .int .i64 x4_1 ∧ Aside0 (boltinglaw04_RowsKin.l0 kq t473 x3_1 x4_1 = some r) ∧ Aside0 (kq ≤ k) ∧ Aside0 (Kd.N k43 43 w' w.heap.size (fun _ => True) (.slice Ao6 t473.length co6) t473) ∧ Aside0 (Below w.heap.size w w'))
    case atStart => exact ⟨(0), ((-1)), (by first | rfl | (simp; done) | (congr 1; first | (with_reducible assumption) | (symm; with_reducible assumption)) | (simp [*]; done) | (simp only [ne_nil_empty]; done) | (rw [ne_nil_empty]; rfl)), (by first | rfl | (simp; done) | (congr 1; first | (with_reducible assumption) | (symm; with_reducible assumption)) | (simp [*]; done) | (simp only [ne_nil_empty]; done) | (rw [ne_nil_empty]; rfl)), H', ⟨Nat.le_refl _⟩, ⟨by (with_reducible repeat (first | apply Kd.N_alloc | apply Kd.N_drewN | apply Kd.N_drew)); exact HO475.out⟩, ⟨by repeat (first | (with_reducible first | exact HB.out | apply below_alloc | apply pw_below_drewN | apply below_drew1) | exact HB.out)⟩⟩
    case round =>
      clear H'
      try clear c1
      try clear p2
      try clear c4
      try clear c4b0
      try clear c4b1
      obtain ⟨x3_1, x4_1, rfl, rfl, HA, HK1, HO_0, HB⟩ := hrel
      cases gk with
      | zero => exact absurd HA.out (by simp [boltinglaw04_RowsKin.l0])
      | succ k1 =>
        have H := HA.out
        clear HA
        simp only [boltinglaw04_RowsKin.l0] at H
        by_cases c8 : x4_1 < (t473.length : Int)
        · rw [if_pos c8] at H
          have c8b0 : decide (x4_1 < (t473.length : Int)) = true := decide_eq_true c8
          clear c8
          replace H := Option.bind_eq_some_iff.mp H
          obtain ⟨t479, A90, H⟩ := H
          replace H : (if x4_1 ≥ 0 then ((rows_End.f k1 t473 x4_1).bind fun t482 => (boltinglaw04_RowsKin.j1 k1 t473 x3_1 x4_1 t479 (wrap64 (x4_1 + 1)) t482)) else (boltinglaw04_RowsKin.j1 k1 t473 x3_1 x4_1 t479 (wrap64 (x4_1 + 1)) (t473.length : Int))) = some r := H
          have A9 := Aside0.mk A90
          clear A90
          have HC10 := Aside0.mk H
          clear H
          go_upto_if 29 with (first | ((with_reducible refine gate_callee (f := 24) rfl ?_); refine goesL_ (some 23) rfl rfl Try.func24 (by kernel_rfl) rfl #[.slice Ao6 t473.length co6, .int .i64 x4_1] rfl (by (try simp only [List.map_toArray, List.map_cons, List.map_nil]); first | done | rfl | (simp only [List.length_drop, List.length_take]; rfl)) ?_; (with_reducible refine (rows_Kids.calls _ _ t473 x4_1 t479 _ ?side1 ?side2 A9.out).mono ?_); (case side1 => repeat (first | exact (Kd.N_reads' HO_0.out).2.2 | (with_reducible refine Kd.C_alloc ?_ _) | (with_reducible refine Kd.C_drewN ?_ _) | (with_reducible refine Kd.C_drew ?_))); (case side2 => exact (Kd.N_reads' HO_0.out).2.1); rintro e w11 ⟨v480, rfl, ho0, hb⟩; refine ⟨_, rfl, ?_⟩; have n0_ := Aside0.mk (Kd.N_elder' (by (with_reducible repeat (first | apply Kd.N_alloc | apply Kd.N_drewN | apply Kd.N_drew)); exact HO_0.out) (Kd.R_base ho0) hb); have n1_ := Aside0.mk (Kd.R_lower ho0 (below_size (by repeat (first | (with_reducible first | exact HB.out | apply below_alloc | apply pw_below_drewN | apply below_drew1) | exact HB.out)))); have n2_ := Aside0.mk (below_step (by repeat (first | (with_reducible first | exact HB.out | apply below_alloc | apply pw_below_drewN | apply below_drew1) | exact HB.out)) hb); clear HO_0; clear HB; have HO_0 := n0_; have HO481 := n1_; have HB := n2_; clear n0_ n1_ n2_; (try clear hb); (try clear hb2); (try clear hk); (try clear hi); (try clear ho0)))
          (try simp only [Act.put, List.setIfInBounds_toArray, List.set_cons_zero, List.set_cons_succ])
          go_cut [7] (fun v7 wc => ∃ (kq : Nat) (x7_9 : Int), v7 = .int .i64 x7_9 ∧ Aside0 (boltinglaw04_RowsKin.j1 kq t473 x3_1 x4_1 t479 (wrap64 (x4_1 + 1)) x7_9 = some r) ∧ Aside0 (kq ≤ k1) ∧ Aside0 (Kd.N k43 43 wc w.heap.size (fun k_ => some k_ ≠ (v480 : Value).ownBlock) (.slice Ao6 t473.length co6) t473) ∧ Aside0 (Kd.R (Kd.int .i64) 3 wc w.heap.size (fun _ => True) v480 t479) ∧ Aside0 (Below w.heap.size w wc))
          case first =>
            have H := HC10.out
            clear HC10
            by_cases c12 : x4_1 ≥ 0
            · rw [if_pos c12] at H
              have c12b0 : decide (0 ≤ x4_1) = true := decide_eq_true c12
              clear c12
              (first | rw [c12b0] | (simp only [i64_w, i32_w]; rw [c12b0]) | skip)
              replace H := Option.bind_eq_some_iff.mp H
              obtain ⟨t482, A130, H⟩ := H
              replace H : (boltinglaw04_RowsKin.j1 k1 t473 x3_1 x4_1 t479 (wrap64 (x4_1 + 1)) t482) = some r := H
              have A13 := Aside0.mk A130
              clear A130
              have H' := Aside0.mk H
              clear H
              go_wp2_with (first | ((with_reducible refine gate_callee (f := 19) rfl ?_); refine goesL_ (some 32) rfl rfl Try.func19 (by kernel_rfl) rfl #[.slice Ao6 t473.length co6, .int .i64 x4_1] rfl (by (try simp only [List.map_toArray, List.map_cons, List.map_nil]); first | done | rfl | (simp only [List.length_drop, List.length_take]; rfl)) ?_; (with_reducible refine (rows_End.calls k1 _ _ t473 x4_1 t482 _ ?side1 ?side2 A13.out).mono ?_); (case side1 => repeat (first | exact (Kd.N_reads' HO_0.out).2.2 | (with_reducible refine Kd.C_alloc ?_ _) | (with_reducible refine Kd.C_drewN ?_ _) | (with_reducible refine Kd.C_drew ?_))); (case side2 => exact (Kd.N_reads' HO_0.out).2.1); rintro e w' ⟨rfl, ⟨nd, rfl⟩⟩; refine ⟨_, rfl, ?_⟩))
              go_meet
              case rel => exact ⟨_, (t482), (by first | rfl | (simp; done) | (congr 1; first | (with_reducible assumption) | (symm; with_reducible assumption)) | (simp [*]; done) | (simp only [ne_nil_empty]; done) | (rw [ne_nil_empty]; rfl)), H', ⟨by have := HK1.out; first | omega | exact Nat.le_refl _⟩, ⟨by (with_reducible repeat (first | apply Kd.N_alloc | apply Kd.N_drewN | apply Kd.N_drew)); exact Kd.N_mono HO_0.out (fun _ hk => hk.2)⟩, ⟨by (with_reducible repeat (first | apply Kd.R_alloc | apply Kd.R_drewN | apply Kd.R_drew)); exact HO481.out⟩, ⟨by repeat (first | (with_reducible first | exact HB.out | apply below_alloc | apply pw_below_drewN | apply below_drew1) | exact HB.out)⟩⟩
            · rw [if_neg c12] at H
              have c12b0 : decide (0 ≤ x4_1) = false := decide_eq_false c12
              clear c12
              (first | rw [c12b0] | (simp only [i64_w, i32_w]; rw [c12b0]) | skip)
              have H' := Aside0.mk H
              clear H
              go_wp2
              go_meet
              case rel => exact ⟨_, ((t473.length : Int)), (by first | rfl | (simp; done) | (congr 1; first | (with_reducible assumption) | (symm; with_reducible assumption)) | (simp [*]; done) | (simp only [ne_nil_empty]; done) | (rw [ne_nil_empty]; rfl)), H', ⟨by have := HK1.out; first | omega | exact Nat.le_refl _⟩, ⟨by (with_reducible repeat (first | apply Kd.N_alloc | apply Kd.N_drewN | apply Kd.N_drew)); exact Kd.N_mono HO_0.out (fun _ hk => hk.2)⟩, ⟨by (with_reducible repeat (first | apply Kd.R_alloc | apply Kd.R_drewN | apply Kd.R_drew)); exact HO481.out⟩, ⟨by repeat (first | (with_reducible first | exact HB.out | apply below_alloc | apply pw_below_drewN | apply below_drew1) | exact HB.out)⟩⟩
          case rest =>
            clear HC10
            try clear c1
            try clear c2
            try clear p2
            try clear c4
            try clear c4b0
            try clear c4b1
            try clear p6
            try clear c8
            try clear c8b0
            try clear c11
            try clear c12
            try clear c12b0
            try clear c13
            try clear p2
            obtain ⟨kq, x7_9, rfl, HA, HJ9, HO_0, HO_5, HB⟩ := hcut
            cases kq with
            | zero => exact absurd HA.out (by simp [boltinglaw04_RowsKin.j1])
            | succ kj9 =>
              have H := HA.out
              clear HA
              simp only [boltinglaw04_RowsKin.j1] at H
              have H' := Aside0.mk H
              clear H
              go_wp2
              go_loopg [3, 6, 8] kj9 (fun kq v3 v6 v8 w' => ∃ (x3_3 : Int) (x6_3 : Int) (x8_3 : Int), v3 = .int .i64 x3_3 ∧ v6 = .int .i64 x6_3 ∧ v8 = .int .i64 x8_3 ∧ Aside0 (boltinglaw04_RowsKin.l1 kq t473 x3_3 x4_1 t479 x6_3 x7_9 x8_3 = some r) ∧ Aside0 (kq ≤ kj9) ∧ Aside0 (Kd.N k43 43 w' w.heap.size (fun k_ => some k_ ≠ (v480 : Value).ownBlock) (.slice Ao6 t473.length co6) t473) ∧ Aside0 (Kd.R (Kd.int .i64) 3 w' w.heap.size (fun _ => True) v480 t479) ∧ Aside0 (Below w.heap.size w w'))
              case atStart => exact ⟨(x3_1), ((wrap64 (x4_1 + 1))), (0), (by first | rfl | (simp; done) | (congr 1; first | (with_reducible assumption) | (symm; with_reducible assumption)) | (simp [*]; done) | (simp only [ne_nil_empty]; done) | (rw [ne_nil_empty]; rfl)), (by first | rfl | (simp; done) | (congr 1; first | (with_reducible assumption) | (symm; with_reducible assumption)) | (simp [*]; done) | (simp only [ne_nil_empty]; done) | (rw [ne_nil_empty]; rfl)), (by first | rfl | (simp; done) | (congr 1; first | (with_reducible assumption) | (symm; with_reducible assumption)) | (simp [*]; done) | (simp only [ne_nil_empty]; done) | (rw [ne_nil_empty]; rfl)), H', ⟨Nat.le_refl _⟩, ⟨by (with_reducible repeat (first | apply Kd.N_alloc | apply Kd.N_drewN | apply Kd.N_drew)); exact HO_0.out⟩, ⟨by (with_reducible repeat (first | apply Kd.R_alloc | apply Kd.R_drewN | apply Kd.R_drew)); exact HO_5.out⟩, ⟨by repeat (first | (with_reducible first | exact HB.out | apply below_alloc | apply pw_below_drewN | apply below_drew1) | exact HB.out)⟩⟩
              case round =>
                clear H'
                try clear c1
                try clear c2
                try clear p2
                try clear c4
                try clear c4b0
                try clear c4b1
                try clear p6
                try clear c8
                try clear c8b0
                try clear c11
                try clear c12
                try clear c12b0
                try clear c13
                try clear p2
                try clear p6
                obtain ⟨x3_3, x6_3, x8_3, rfl, rfl, rfl, HA, HK3, HO_0, HO_5, HB⟩ := hrel
                cases gk with
                | zero => exact absurd HA.out (by simp [boltinglaw04_RowsKin.l1])
                | succ k3 =>
                  have H := HA.out
                  clear HA
                  simp only [boltinglaw04_RowsKin.l1] at H
                  by_cases c14 : x8_3 < (t479.length : Int)
                  · rw [if_pos c14] at H
                    have c14b0 : decide (x8_3 < (t479.length : Int)) = true := decide_eq_true c14
                    clear c14
                    by_cases c15 : 0 ≤ x8_3
                    · rw [if_pos c15] at H
                      have c15b0 : decide (0 ≤ x8_3) = true := decide_eq_true c15
                      clear c15
                      by_cases c16 : (rd t479 x8_3) = x6_3
                      · rw [if_pos c16] at H
                        have c16b0 : ((rd t479 x8_3) == x6_3) = true := beq_iff_eq.mpr c16
                        have c16b1 : ((rd t479 x8_3) != x6_3) = false := bne_eq_false_iff_eq.mpr c16
                        clear c16
                        replace H := Option.bind_eq_some_iff.mp H
                        obtain ⟨t485, A170, H⟩ := H
                        replace H : (if t485 = x4_1 then ((rows_End.f k3 t473 (rd t479 x8_3)).bind fun t487 => (boltinglaw04_RowsKin.l1 k3 t473 (wrap64 (x3_3 + 1)) x4_1 t479 t487 x7_9 (wrap64 (x8_3 + 1)))) else (some false)) = some r := H
                        have A17 := Aside0.mk A170
                        clear A170
                        by_cases c18 : t485 = x4_1
                        · rw [if_pos c18] at H
                          have c18b0 : (t485 == x4_1) = true := beq_iff_eq.mpr c18
                          have c18b1 : (t485 != x4_1) = false := bne_eq_false_iff_eq.mpr c18
                          clear c18
                          replace H := Option.bind_eq_some_iff.mp H
                          obtain ⟨t487, A190, H⟩ := H
                          replace H : (boltinglaw04_RowsKin.l1 k3 t473 (wrap64 (x3_3 + 1)) x4_1 t479 t487 x7_9 (wrap64 (x8_3 + 1))) = some r := H
                          have A19 := Aside0.mk A190
                          clear A190
                          have H' := Aside0.mk H
                          clear H
                          obtain ⟨Ao20, co20, eo20⟩ := Kd.R_slice HO_5.out
                          subst eo20
                          have p483 : 0 ≤ (x8_3 : Int) := of_decide_eq_true (by first | (with_reducible assumption) | assumption)
                          have q483 : x8_3 < (t479.length : Int) := of_decide_eq_true (by first | (with_reducible assumption) | assumption)
                          obtain ⟨ad483, e483, hx483_0⟩ := Kd.at_int (Kd.R_reads' HO_5.out).2.2 x8_3 p483 q483
                          cases e483
                          replace p483 := eq_true p483
                          replace q483 := eq_true q483
                          have p484 : 0 ≤ (x8_3 : Int) := of_decide_eq_true (by first | (with_reducible assumption) | assumption)
                          have q484 : x8_3 < (t479.length : Int) := of_decide_eq_true (by first | (with_reducible assumption) | assumption)
                          obtain ⟨ad484, e484, hx484_0⟩ := Kd.at_int (Kd.R_reads' HO_5.out).2.2 x8_3 p484 q484
                          obtain rfl : ad483 = ad484 := (by injection e484)
                          replace p484 := eq_true p484
                          replace q484 := eq_true q484
                          go_wp2_with (first | (go_at_call 21; (with_reducible refine (rows_Parent.calls k3 _ _ t473 (rd t479 x8_3) t485 _ ?side1 ?side2 A17.out).mono ?_); (case side1 => repeat (first | exact (Kd.N_reads' HO_0.out).2.2 | (with_reducible refine Kd.C_alloc ?_ _) | (with_reducible refine Kd.C_drewN ?_ _) | (with_reducible refine Kd.C_drew ?_))); (case side2 => exact (Kd.N_reads' HO_0.out).2.1); rintro e w' ⟨rfl, ⟨nd, rfl⟩⟩; have p486 : 0 ≤ (x8_3 : Int) := of_decide_eq_true (by first | (with_reducible assumption) | assumption); have q486 : x8_3 < (t479.length : Int) := of_decide_eq_true (by first | (with_reducible assumption) | assumption); obtain ⟨ad486, e486, hx486_0⟩ := Kd.at_int (Kd.R_reads' HO_5.out).2.2 x8_3 p486 q486; obtain rfl : ad483 = ad486 := (by injection e486); replace p486 := eq_true p486; replace q486 := eq_true q486) | ((with_reducible refine gate_callee (f := 19) rfl ?_); refine goesL_ (some 60) rfl rfl Try.func19 (by kernel_rfl) rfl #[.slice Ao6 t473.length co6, .int .i64 (rd t479 x8_3)] rfl (by (try simp only [List.map_toArray, List.map_cons, List.map_nil]); first | done | rfl | (simp only [List.length_drop, List.length_take]; rfl)) ?_; (with_reducible refine (rows_End.calls k3 _ _ t473 (rd t479 x8_3) t487 _ ?side1 ?side2 A19.out).mono ?_); (case side1 => repeat (first | exact (Kd.N_reads' HO_0.out).2.2 | (with_reducible refine Kd.C_alloc ?_ _) | (with_reducible refine Kd.C_drewN ?_ _) | (with_reducible refine Kd.C_drew ?_))); (case side2 => exact (Kd.N_reads' HO_0.out).2.1); rintro e w' ⟨rfl, ⟨nd, rfl⟩⟩; refine ⟨_, rfl, ?_⟩))
                          go_roundg k3
                          case measure => have := HK1.out; have := HJ9.out; have := HK3.out; omega
                          case rel => exact ⟨(wrap64 (x3_3 + 1)), (t487), (wrap64 (x8_3 + 1)), (by first | rfl | (simp; done) | (congr 1; first | (with_reducible assumption) | (symm; with_reducible assumption)) | (simp [*]; done) | (simp only [ne_nil_empty]; done) | (rw [ne_nil_empty]; rfl)), (by first | rfl | (simp; done) | (congr 1; first | (with_reducible assumption) | (symm; with_reducible assumption)) | (simp [*]; done) | (simp only [ne_nil_empty]; done) | (rw [ne_nil_empty]; rfl)), (by first | rfl | (simp; done) | (congr 1; first | (with_reducible assumption) | (symm; with_reducible assumption)) | (simp [*]; done) | (simp only [ne_nil_empty]; done) | (rw [ne_nil_empty]; rfl)), H', ⟨by have := HK1.out; have := HJ9.out; have := HK3.out; omega⟩, ⟨by (with_reducible repeat (first | apply Kd.N_alloc | apply Kd.N_drewN | apply Kd.N_drew)); exact HO_0.out⟩, ⟨by (with_reducible repeat (first | apply Kd.R_alloc | apply Kd.R_drewN | apply Kd.R_drew)); exact HO_5.out⟩, ⟨by repeat (first | (with_reducible first | exact HB.out | apply below_alloc | apply pw_below_drewN | apply below_drew1) | exact HB.out)⟩⟩
                        · rw [if_neg c18] at H
                          have c18b0 : (t485 == x4_1) = false := beq_eq_false_iff_ne.mpr c18
                          have c18b1 : (t485 != x4_1) = true := bne_iff_ne.mpr c18
                          obtain rfl := Option.some.inj H
                          obtain ⟨Ao21, co21, eo21⟩ := Kd.R_slice HO_5.out
                          subst eo21
                          have p483 : 0 ≤ (x8_3 : Int) := of_decide_eq_true (by first | (with_reducible assumption) | assumption)
                          have q483 : x8_3 < (t479.length : Int) := of_decide_eq_true (by first | (with_reducible assumption) | assumption)
                          obtain ⟨ad483, e483, hx483_0⟩ := Kd.at_int (Kd.R_reads' HO_5.out).2.2 x8_3 p483 q483
                          cases e483
                          replace p483 := eq_true p483
                          replace q483 := eq_true q483
                          have p484 : 0 ≤ (x8_3 : Int) := of_decide_eq_true (by first | (with_reducible assumption) | assumption)
                          have q484 : x8_3 < (t479.length : Int) := of_decide_eq_true (by first | (with_reducible assumption) | assumption)
                          obtain ⟨ad484, e484, hx484_0⟩ := Kd.at_int (Kd.R_reads' HO_5.out).2.2 x8_3 p484 q484
                          obtain rfl : ad483 = ad484 := (by injection e484)
                          replace p484 := eq_true p484
                          replace q484 := eq_true q484
                          go_wp2_with (first | (go_at_call 21; (with_reducible refine (rows_Parent.calls k3 _ _ t473 (rd t479 x8_3) t485 _ ?side1 ?side2 A17.out).mono ?_); (case side1 => repeat (first | exact (Kd.N_reads' HO_0.out).2.2 | (with_reducible refine Kd.C_alloc ?_ _) | (with_reducible refine Kd.C_drewN ?_ _) | (with_reducible refine Kd.C_drew ?_))); (case side2 => exact (Kd.N_reads' HO_0.out).2.1); rintro e w' ⟨rfl, ⟨nd, rfl⟩⟩))
                          go_ret
                          exact ⟨by first | rfl | (simp [errW_none, errW_some] <;> rfl) | (simp [*, errW_none, errW_some] <;> rfl), by repeat (first | (with_reducible first | exact HB.out | apply below_alloc | apply pw_below_drewN | apply below_drew1) | exact HB.out)⟩
                      · rw [if_neg c16] at H
                        have c16b0 : ((rd t479 x8_3) == x6_3) = false := beq_eq_false_iff_ne.mpr c16
                        have c16b1 : ((rd t479 x8_3) != x6_3) = true := bne_iff_ne.mpr c16
                        obtain rfl := Option.some.inj H
                        obtain ⟨Ao22, co22, eo22⟩ := Kd.R_slice HO_5.out
                        subst eo22
                        have p483 : 0 ≤ (x8_3 : Int) := of_decide_eq_true (by first | (with_reducible assumption) | assumption)
                        have q483 : x8_3 < (t479.length : Int) := of_decide_eq_true (by first | (with_reducible assumption) | assumption)
                        obtain ⟨ad483, e483, hx483_0⟩ := Kd.at_int (Kd.R_reads' HO_5.out).2.2 x8_3 p483 q483
                        cases e483
                        replace p483 := eq_true p483
                        replace q483 := eq_true q483
                        go_wp2
                        go_ret
                        exact ⟨by first | rfl | (simp [errW_none, errW_some] <;> rfl) | (simp [*, errW_none, errW_some] <;> rfl), by repeat (first | (with_reducible first | exact HB.out | apply below_alloc | apply pw_below_drewN | apply below_drew1) | exact HB.out)⟩
                    · rw [if_neg c15] at H
                      exact absurd H (by simp)
                  · rw [if_neg c14] at H
                    have c14b0 : decide (x8_3 < (t479.length : Int)) = false := decide_eq_false c14
                    clear c14
                    by_cases c23 : x6_3 = x7_9
                    · rw [if_pos c23] at H
                      have c23b0 : (x6_3 == x7_9) = true := beq_iff_eq.mpr c23
                      have c23b1 : (x6_3 != x7_9) = false := bne_eq_false_iff_eq.mpr c23
                      clear c23
                      have H' := Aside0.mk H
                      clear H
                      obtain ⟨Ao24, co24, eo24⟩ := Kd.R_slice HO_5.out
                      subst eo24
                      go_wp2
                      go_roundg k3
                      case measure => have := HK1.out; have := HJ9.out; have := HK3.out; omega
                      case rel => exact ⟨(x3_3), (wrap64 (x4_1 + 1)), (by first | rfl | (simp; done) | (congr 1; first | (with_reducible assumption) | (symm; with_reducible assumption)) | (simp [*]; done) | (simp only [ne_nil_empty]; done) | (rw [ne_nil_empty]; rfl)), (by first | rfl | (simp; done) | (congr 1; first | (with_reducible assumption) | (symm; with_reducible assumption)) | (simp [*]; done) | (simp only [ne_nil_empty]; done) | (rw [ne_nil_empty]; rfl)), H', ⟨by have := HK1.out; have := HJ9.out; have := HK3.out; omega⟩, ⟨by (with_reducible repeat (first | apply Kd.N_alloc | apply Kd.N_drewN | apply Kd.N_drew)); exact Kd.N_mono HO_0.out (fun _ hk => trivial)⟩, ⟨by repeat (first | (with_reducible first | exact HB.out | apply below_alloc | apply pw_below_drewN | apply below_drew1) | exact HB.out)⟩⟩
                    · rw [if_neg c23] at H
                      have c23b0 : (x6_3 == x7_9) = false := beq_eq_false_iff_ne.mpr c23
                      have c23b1 : (x6_3 != x7_9) = true := bne_iff_ne.mpr c23
                      obtain rfl := Option.some.inj H
                      obtain ⟨Ao25, co25, eo25⟩ := Kd.R_slice HO_5.out
                      subst eo25
                      go_wp2
                      go_ret
                      exact ⟨by first | rfl | (simp [errW_none, errW_some] <;> rfl) | (simp [*, errW_none, errW_some] <;> rfl), by repeat (first | (with_reducible first | exact HB.out | apply below_alloc | apply pw_below_drewN | apply below_drew1) | exact HB.out)⟩
        · rw [if_neg c8] at H
          have c8b0 : decide (x4_1 < (t473.length : Int)) = false := decide_eq_false c8
          clear c8
          by_cases c26 : x3_1 = (t473.length : Int)
          · rw [if_pos c26] at H
            have c26b0 : (x3_1 == (t473.length : Int)) = true := beq_iff_eq.mpr c26
            have c26b1 : (x3_1 != (t473.length : Int)) = false := bne_eq_false_iff_eq.mpr c26
            clear c26
            replace H := Option.bind_eq_some_iff.mp H
            obtain ⟨t478, A270, H⟩ := H
            replace H : (some t478) = some r := H
            have A27 := Aside0.mk A270
            clear A270
            obtain rfl := Option.some.inj H
            go_wp2_with (first | (go_at_call 12; (with_reducible refine (boltinglaw04_fixed.calls k1  t478 _ A27.out).mono ?_); rintro e w28 ⟨rfl, hb⟩; have n0_ := Aside0.mk (Kd.N_below (by (with_reducible repeat (first | apply Kd.N_alloc | apply Kd.N_drewN | apply Kd.N_drew)); exact HO_0.out) hb); have n1_ := Aside0.mk (below_step (by repeat (first | (with_reducible first | exact HB.out | apply below_alloc | apply pw_below_drewN | apply below_drew1) | exact HB.out)) hb); clear HO_0; clear HB; have HO_0 := n0_; have HB := n1_; clear n0_ n1_; (try clear hb); (try clear hb2); (try clear hk); (try clear hi)))
            go_ret
            exact ⟨by first | rfl | (simp [errW_none, errW_some] <;> rfl) | (simp [*, errW_none, errW_some] <;> rfl), by repeat (first | (with_reducible first | exact HB.out | apply below_alloc | apply pw_below_drewN | apply below_drew1) | exact HB.out)⟩
          · rw [if_neg c26] at H
            have c26b0 : (x3_1 == (t473.length : Int)) = false := beq_eq_false_iff_ne.mpr c26
            have c26b1 : (x3_1 != (t473.length : Int)) = true := bne_iff_ne.mpr c26
            obtain rfl := Option.some.inj H
            go_wp2
            go_ret
            exact ⟨by first | rfl | (simp [errW_none, errW_some] <;> rfl) | (simp [*, errW_none, errW_some] <;> rfl), by repeat (first | (with_reducible first | exact HB.out | apply below_alloc | apply pw_below_drewN | apply below_drew1) | exact HB.out)⟩
  · rw [if_neg c4] at H
    have c4b0 : (t476 == 0) = false := beq_eq_false_iff_ne.mpr c4
    have c4b1 : (t476 != 0) = true := bne_iff_ne.mpr c4
    replace H := Option.bind_eq_some_iff.mp H
    obtain ⟨t477, A290, H⟩ := H
    replace H : (some t477) = some r := H
    have A29 := Aside0.mk A290
    clear A290
    obtain rfl := Option.some.inj H
    go_enter Try.func8, Try.ntmps8
    go_wp2_with (first | ((with_reducible refine gate_callee (f := 11) rfl ?_); refine goesL_ (some 10) rfl rfl Try.func11 (by kernel_rfl) rfl #[.slice A0 l0.length c0] rfl (by (try simp only [List.map_toArray, List.map_cons, List.map_nil]); first | done | rfl | (simp only [List.length_drop, List.length_take]; rfl)) ?_; (with_reducible refine (boltinglaw04_bound.calls k (fun k_ => k_ < w.heap.size) _ _ l0 t473 _ ?side1 A2.out).mono ?_); (case side1 => exact Kd.V_mk HC0.out (Kd.F_below (Kd.C_F k43_heap HR0.out) (by repeat (first | (with_reducible first | exact HB.out | apply below_alloc | apply pw_below_drewN | apply below_drew1) | exact HB.out)))); rintro e w30 ⟨v474, rfl, ho0, hb⟩; refine ⟨_, rfl, ?_⟩; have n0_ := Aside0.mk (Kd.N_lower (Kd.N_mono (ok' := fun k_ => True) ho0 (fun k_ hk_ => trivial)) (below_size (by repeat (first | (with_reducible first | exact HB.out | apply below_alloc | apply pw_below_drewN | apply below_drew1) | exact HB.out)))); have n1_ := Aside0.mk (below_step (by repeat (first | (with_reducible first | exact HB.out | apply below_alloc | apply pw_below_drewN | apply below_drew1) | exact HB.out)) hb); clear HB; have HO475 := n0_; have HB := n1_; clear n0_ n1_; (try clear hb); (try clear hb2); (try clear hk); (try clear hi); (try clear ho0); obtain ⟨Ao31, co31, eo31⟩ := Kd.N_slice HO475.out; subst eo31) | ((with_reducible refine gate_callee (f := 13) rfl ?_); refine goesL_ (some 12) rfl rfl Try.func13 (by kernel_rfl) rfl #[.slice Ao31 t473.length co31] rfl (by (try simp only [List.map_toArray, List.map_cons, List.map_nil]); first | done | rfl | (simp only [List.length_drop, List.length_take]; rfl)) ?_; (with_reducible refine (rows_Check.calls k _ _ t473 t476 _ ?side1 ?side2 A3.out).mono ?_); (case side1 => repeat (first | exact (Kd.N_reads' HO475.out).2.2 | (with_reducible refine Kd.C_alloc ?_ _) | (with_reducible refine Kd.C_drewN ?_ _) | (with_reducible refine Kd.C_drew ?_))); (case side2 => exact (Kd.N_reads' HO475.out).2.1); rintro e w32 ⟨rfl, hb⟩; refine ⟨_, rfl, ?_⟩; have n0_ := Aside0.mk (Kd.N_below (by (with_reducible repeat (first | apply Kd.N_alloc | apply Kd.N_drewN | apply Kd.N_drew)); exact HO475.out) hb); have n1_ := Aside0.mk (below_step (by repeat (first | (with_reducible first | exact HB.out | apply below_alloc | apply pw_below_drewN | apply below_drew1) | exact HB.out)) hb); clear HO475; clear HB; have HO475 := n0_; have HB := n1_; clear n0_ n1_; (try clear hb); (try clear hb2); (try clear hk); (try clear hi)) | ((with_reducible refine gate_callee (f := 12) rfl ?_); refine goesL_ (some 14) rfl rfl Try.func12 (by kernel_rfl) rfl #[] rfl (by (try simp only [List.map_toArray, List.map_cons, List.map_nil]); first | done | rfl | (simp only [List.length_drop, List.length_take]; rfl)) ?_; (with_reducible refine (boltinglaw04_fixed.calls k  t477 _ A29.out).mono ?_); rintro e w33 ⟨rfl, hb⟩; refine ⟨_, rfl, ?_⟩; have n0_ := Aside0.mk (Kd.N_below (by (with_reducible repeat (first | apply Kd.N_alloc | apply Kd.N_drewN | apply Kd.N_drew)); exact HO475.out) hb); have n1_ := Aside0.mk (below_step (by repeat (first | (with_reducible first | exact HB.out | apply below_alloc | apply pw_below_drewN | apply below_drew1) | exact HB.out)) hb); clear HO475; clear HB; have HO475 := n0_; have HB := n1_; clear n0_ n1_; (try clear hb); (try clear hb2); (try clear hk); (try clear hi)))
    go_ret
    exact ⟨by first | rfl | (simp [errW_none, errW_some] <;> rfl) | (simp [*, errW_none, errW_some] <;> rfl), by repeat (first | (with_reducible first | exact HB.out | apply below_alloc | apply pw_below_drewN | apply below_drew1) | exact HB.out)⟩

end Go.Proofs.Ytllggaogjcknoaa.QA
