-- Written by a program of this claim's own (wip/gen/gen.py), out of the translation; an ordinary proof text.
import Derived.Test.YtllggaogjcknoaaQAx0
import Derived.Test.YtllggaogjcknoaaQAx2
import Derived.Test.YtllggaogjcknoaaQAx4
import Derived.Test.YtllggaogjcknoaaQAx5
import Derived.Test.YtllggaogjcknoaaQAx6
import Derived.Test.YtllggaogjcknoaaQAx7
namespace Go.Proofs.Ytllggaogjcknoaa.QA
open Go.RowKit Go.Proofs.YtllggaogjcknoaaW.PrintWords Go.Proofs.YtllggaogjcknoaaW.PrintLast Go.Proofs.YtllggaogjcknoaaW.PrintMore
attribute [local go_sem] max2_int min2_int max_two min_two max_three min_three max_four min_four   -- for this text's walks alone
set_option linter.unusedVariables false
set_option linter.unusedSimpArgs false

/-! ### rows_Put: function 28 -/
mutual
def rows_Put.j0 : Nat → List (S43) → Int → Int → List (S43) → Int → Int → Option ((List (S43)) × Int)
 | 0, _, _, _, _, _, _ => none
 | k + 1, x0, x1, x2, x3, x10, x11 => (rows_Kids.f x0 x1).bind fun t152 => (if t152.length < 17592186044416 then ((some (t152 ++ [x11] : List Int)).bind fun y155 => (if x2 < 0 then (rows_Put.j1 k x0 x2 x3 x10 y155 true) else (rows_Put.j1 k x0 x2 x3 x10 y155 (decide (x2 ≥ (y155.length : Int)))))) else (none))
def rows_Put.j1 : Nat → List (S43) → Int → List (S43) → Int → List Int → Bool → Option ((List (S43)) × Int)
 | 0, _, _, _, _, _, _ => none
 | k + 1, x0, x2, x3, x10, x12, x53 => if x53 = true then (some (([] : List (S43)), 1)) else ((rows_right.f k x3).bind fun t158 => (if t158 = true then (if 0 ≤ x2 then (if x2 < (x12.length : Int) then (if 0 ≤ (rd x12 x2) then (if (rd x12 x2) ≤ (x0.length : Int) then ((rows_moved.f k (x0.take ((rd x12 x2) : Int).toNat) 0).bind fun t164 => ((rows_moved.f k x3 x10).bind fun t167 => ((rows_moved.f k (x0.drop ((rd x12 x2) : Int).toNat) 0).bind fun t174 => (if t167.length + t174.length < 1954687338268 then ((some (t167 ++ t174 : List (S43))).bind fun y177 => (if t164.length + y177.length < 1954687338268 then ((some (t164 ++ y177 : List (S43))).bind fun y180 => ((rows_big.f y180).bind fun t183 => (if t183 = true then (some (([] : List (S43)), 2)) else (some (y180, 0))))) else (none))) else (none))))) else (none)) else (none)) else (none)) else (none)) else (some (([] : List (S43)), 40))))
end
def rows_Put.f (k : Nat) (l0 : List (S43)) (a1 : Int) (a2 : Int) (l3 : List (S43)) : Option ((List (S43)) × Int) := if a1 = (-1) then (rows_Put.j0 k l0 a1 a2 l3 0 (l0.length : Int)) else ((rows_is.f l0 a1).bind fun t148 => (if t148 = true then (if 0 ≤ a1 then (if a1 < (l0.length : Int) then (if ((rd_T43 l0 a1).f1) = 0 then ((rows_End.f k l0 a1).bind fun t151 => (rows_Put.j0 k l0 a1 a2 l3 (wrap64 (((rd_T43 l0 a1).f0) + 1)) t151)) else (some (([] : List (S43)), 41))) else (none)) else (none)) else (some (([] : List (S43)), 41))))
theorem rows_Put.mono_l : ∀ k, (∀ y0 y1 y2 y3 y4 y5, LeO (rows_Put.j0 k y0 y1 y2 y3 y4 y5) (rows_Put.j0 (k + 1) y0 y1 y2 y3 y4 y5)) ∧ (∀ y0 y1 y2 y3 y4 y5, LeO (rows_Put.j1 k y0 y1 y2 y3 y4 y5) (rows_Put.j1 (k + 1) y0 y1 y2 y3 y4 y5))
 | 0 => ⟨fun _ _ _ _ _ _ r h => by simp [rows_Put.j0] at h, fun _ _ _ _ _ _ r h => by simp [rows_Put.j1] at h⟩
 | k + 1 => by
  obtain ⟨ih0, ih1⟩ := rows_Put.mono_l k
  refine ⟨?_, ?_⟩
  ·intro y0 y1 y2 y3 y4 y5
   unfold rows_Put.j0
   repeat' first
   | (with_reducible exact ih0 _ _ _ _ _ _)
   | (with_reducible exact ih1 _ _ _ _ _ _)
   | (with_reducible exact rows_End.mono _ _ _)
   | (with_reducible exact rows_moved.mono _ _ _)
   | (with_reducible exact rows_right.mono _ _)
   | (with_reducible exact LeO.refl _)
   | (with_reducible exact LeO.none _)
   | (with_reducible refine LeO.ite ?_ ?_)
   | (with_reducible refine LeO.bind ?_ (fun _ => ?_))
   | exact ih0 _ _ _ _ _ _
   | exact ih1 _ _ _ _ _ _
   | exact rows_End.mono _ _ _
   | exact rows_moved.mono _ _ _
   | exact rows_right.mono _ _
   | exact LeO.none _
   | refine LeO.ite ?_ ?_
   | refine LeO.bind ?_ (fun _ => ?_)
  ·intro y0 y1 y2 y3 y4 y5
   unfold rows_Put.j1
   repeat' first
   | (with_reducible exact ih0 _ _ _ _ _ _)
   | (with_reducible exact ih1 _ _ _ _ _ _)
   | (with_reducible exact rows_End.mono _ _ _)
   | (with_reducible exact rows_moved.mono _ _ _)
   | (with_reducible exact rows_right.mono _ _)
   | (with_reducible exact LeO.refl _)
   | (with_reducible exact LeO.none _)
   | (with_reducible refine LeO.ite ?_ ?_)
   | (with_reducible refine LeO.bind ?_ (fun _ => ?_))
   | exact ih0 _ _ _ _ _ _
   | exact ih1 _ _ _ _ _ _
   | exact rows_End.mono _ _ _
   | exact rows_moved.mono _ _ _
   | exact rows_right.mono _ _
   | exact LeO.none _
   | refine LeO.ite ?_ ?_
   | refine LeO.bind ?_ (fun _ => ?_)
theorem rows_Put.mono : ∀ a0 a1 a2 a3 k, LeO (rows_Put.f k a0 a1 a2 a3) (rows_Put.f (k + 1) a0 a1 a2 a3) := by
 intro a0 a1 a2 a3 k
 obtain ⟨ih0, ih1⟩ := rows_Put.mono_l k
 unfold rows_Put.f
 repeat' first
   | (with_reducible exact ih0 _ _ _ _ _ _)
   | (with_reducible exact ih1 _ _ _ _ _ _)
   | (with_reducible exact rows_End.mono _ _ _)
   | (with_reducible exact rows_moved.mono _ _ _)
   | (with_reducible exact rows_right.mono _ _)
   | (with_reducible exact LeO.refl _)
   | (with_reducible exact LeO.none _)
   | (with_reducible refine LeO.ite ?_ ?_)
   | (with_reducible refine LeO.bind ?_ (fun _ => ?_))
   | exact ih0 _ _ _ _ _ _
   | exact ih1 _ _ _ _ _ _
   | exact rows_End.mono _ _ _
   | exact rows_moved.mono _ _ _
   | exact rows_right.mono _ _
   | exact LeO.none _
   | refine LeO.ite ?_ ?_
   | refine LeO.bind ?_ (fun _ => ?_)
def rows_Put.T5 : Bool × List (List Nat × List Nat) := (true, [([], []), ([], []), ([0, 1], [0, 1]), ([2], [2]), ([3], [3]), ([4], [4]), ([], []), ([], []), ([6, 7], [6, 7]), ([5, 8, 0, 1, 2, 3, 4, 5], [5]), ([8, 9, 0, 1, 2, 3, 4, 5, 6, 7, 8, 9], [8])])
def rows_Put.B5 : List Nat := [0, 0, 3, 7, 15, 31, 0, 0, 192, 511, 1023]
theorem rows_Put.tab5 : rtab .any (opsOf Try.f28 5) = rows_Put.T5 := by kernel_rfl
theorem rows_Put.bits5 : waitsOk rows_Put.T5.2 rows_Put.B5 = true := by kernel_rfl
def rows_Put.T12 : Bool × List (List Nat × List Nat) := (true, [([], []), ([], []), ([0, 1], [0, 1]), ([2], [2]), ([], []), ([], []), ([4, 5, 3], [4, 5]), ([], []), ([], []), ([7, 8], [7, 8]), ([9, 6], [9]), ([6, 10, 10], [6, 10]), ([3, 11, 11], [3, 11]), ([12, 12, 0, 1, 2, 3, 4, 5, 6, 7, 8, 9, 10, 11, 12], [12])])
def rows_Put.B12 : List Nat := [0, 0, 3, 7, 0, 0, 63, 0, 0, 384, 1023, 2047, 4095, 8191]
theorem rows_Put.tab12 : rtab .any (opsOf Try.f28 12) = rows_Put.T12 := by kernel_rfl
theorem rows_Put.bits12 : waitsOk rows_Put.T12.2 rows_Put.B12 = true := by kernel_rfl
set_option maxHeartbeats 8000000 in
set_option maxRecDepth 100000 in
theorem rows_Put.callsT (k : Nat) (A0 : Option Addr) (c0 : Nat) (l0 : List (S43)) (a1 : Int) (a2 : Int) (A3 : Option Addr) (c3 : Nat) (l3 : List (S43)) (r1 : List (S43)) (r2 : Int) (w : World) (hr0 : Kd.C k43 w A0 l0.length l0) (hc0 : l0.length ≤ c0) (hr3 : Kd.C k43 w A3 l3.length l3) (hc3 : l3.length ≤ c3) (h : rows_Put.f k l0 a1 a2 l3 = some (r1, r2)) :
  Calls Try.prog 28 #[.slice A0 l0.length c0, .int .i64 a1, .int .i64 a2, .slice A3 l3.length c3] w fun e w' => ∃ v0_ : Value, e = .returned (.tuple #[v0_, .int .i64 r2]) ∧ Kd.N kT43 43 w' w.heap.size (fun k_ => (w.heap.size ≤ k_)) v0_ r1 ∧ Below w.heap.size w w' := by
 have HR0 := Aside0.mk hr0
 have HC0 := Aside0.mk hc0
 clear hr0 hc0
 have HR3 := Aside0.mk hr3
 have HC3 := Aside0.mk hc3
 clear hr3 hc3
 have HB := Aside0.mk (Below.refl w.heap.size w)
 have H : (if a1 = (-1) then (rows_Put.j0 k l0 a1 a2 l3 0 (l0.length : Int)) else ((rows_is.f l0 a1).bind fun t148 => (if t148 = true then (if 0 ≤ a1 then (if a1 < (l0.length : Int) then (if ((rd_T43 l0 a1).f1) = 0 then ((rows_End.f k l0 a1).bind fun t151 => (rows_Put.j0 k l0 a1 a2 l3 (wrap64 (((rd_T43 l0 a1).f0) + 1)) t151)) else (some (([] : List (S43)), 41))) else (none)) else (none)) else (some (([] : List (S43)), 41))))) = some (r1, r2) := h
 clear h
 have HC5 := Aside0.mk H
 clear H
 go_enter Try.func28, Try.ntmps28
 go_upto_if 18 with (fail)
 go_cut [10, 11] (fun v10 v11 wc => ∃ (kq : Nat) (x10_4 : Int) (x11_4 : Int), v10 = .int .i64 x10_4 ∧ v11 = .int .i64 x11_4 ∧ Aside0 (rows_Put.j0 kq l0 a1 a2 l3 x10_4 x11_4 = some (r1, r2)) ∧ Aside0 (kq ≤ k) ∧ Aside0 (Below w.heap.size w wc))
 case first =>
  have H := HC5.out
  clear HC5
  by_cases c6 : a1 = (-1)
  ·rw [if_pos c6] at H
   have c6b0 : (a1 == (-1)) = true := beq_iff_eq.mpr c6
   have c6b1 : (a1 != (-1)) = false := bne_eq_false_iff_eq.mpr c6
   clear c6
   (first | rw [c6b0] | (simp only [i64_w, i32_w]; rw [c6b0]) | skip)
   have H' := Aside0.mk H
   clear H
   go_wp2
   go_meet
   case rel => exact ⟨_, (0), ((l0.length : Int)), aE, aE, H', ⟨by first | omega | exact Nat.le_refl _⟩, ⟨aB HB⟩⟩
  ·rw [if_neg c6] at H
   have c6b0 : (a1 == (-1)) = false := beq_eq_false_iff_ne.mpr c6
   have c6b1 : (a1 != (-1)) = true := bne_iff_ne.mpr c6
   (first | rw [c6b0] | (simp only [i64_w, i32_w]; rw [c6b0]) | skip)
   replace H := Option.bind_eq_some_iff.mp H
   obtain ⟨t148, A70, H⟩ := H
   replace H : (if t148 = true then (if 0 ≤ a1 then (if a1 < (l0.length : Int) then (if ((rd_T43 l0 a1).f1) = 0 then ((rows_End.f k l0 a1).bind fun t151 => (rows_Put.j0 k l0 a1 a2 l3 (wrap64 (((rd_T43 l0 a1).f0) + 1)) t151)) else (some (([] : List (S43)), 41))) else (none)) else (none)) else (some (([] : List (S43)), 41))) = some (r1, r2) := H
   have A7 := Aside0.mk A70
   clear A70
   by_cases c8 : t148 = true
   ·subst c8
    have H1 : (if 0 ≤ a1 then (if a1 < (l0.length : Int) then (if ((rd_T43 l0 a1).f1) = 0 then ((rows_End.f k l0 a1).bind fun t151 => (rows_Put.j0 k l0 a1 a2 l3 (wrap64 (((rd_T43 l0 a1).f0) + 1)) t151)) else (some (([] : List (S43)), 41))) else (none)) else (none)) = some (r1, r2) := by rw [if_pos rfl] at H; exact H
    clear H
    have H := H1
    clear H1
    by_cases c9 : 0 ≤ a1
    ·rw [if_pos c9] at H
     have c9b0 : decide (0 ≤ a1) = true := decide_eq_true c9
     clear c9
     by_cases c10 : a1 < (l0.length : Int)
     ·rw [if_pos c10] at H
      have c10b0 : decide (a1 < (l0.length : Int)) = true := decide_eq_true c10
      clear c10
      by_cases c11 : ((rd_T43 l0 a1).f1) = 0
      ·rw [if_pos c11] at H
       have c11b0 : (((rd_T43 l0 a1).f1) == 0) = true := beq_iff_eq.mpr c11
       have c11b1 : (((rd_T43 l0 a1).f1) != 0) = false := bne_eq_false_iff_eq.mpr c11
       clear c11
       replace H := Option.bind_eq_some_iff.mp H
       obtain ⟨t151, A120, H⟩ := H
       replace H : (rows_Put.j0 k l0 a1 a2 l3 (wrap64 (((rd_T43 l0 a1).f0) + 1)) t151) = some (r1, r2) := H
       have A12 := Aside0.mk A120
       clear A120
       have H' := Aside0.mk H
       clear H
       try go_wp2_with (first | ((with_reducible refine gate_callee (f := 44) rfl ?_); refine goesL_ (some 21) rfl rfl Try.func44 (by kernel_rfl) rfl #[.slice A0 l0.length c0, .int .i64 a1] rfl (by (try simp only [List.map_toArray, List.map_cons, List.map_nil]); first | done | rfl | (simp only [List.length_drop, List.length_take]; rfl)) ?_; (with_reducible refine (rows_is.calls _ _ l0 a1 true _ ?side1 ?side2 A7.out).mono ?_); (case side1 => exact aC (Kd.C_below HR0.out HB.out)); (case side2 => exact HC0.out); rintro e w' ⟨rfl, ⟨nd, rfl⟩⟩; refine ⟨_, rfl, ?_⟩; have p149 : 0 ≤ (a1 : Int) := of_decide_eq_true aA; have q149 : a1 < (l0.length : Int) := of_decide_eq_true aA; obtain ⟨ad149, A149_4, c149_4, e149, hx149_0, hx149_1, hx149_2, hx149_3, hx149_4, hl149_4, hi149_4⟩ := at_T43 HR0.out a1 p149 q149; cases e149; replace hx149_0 := (HB.out.cell (World.block_lt_of_cell? w _ hx149_0)).trans hx149_0; replace hx149_1 := (HB.out.cell (World.block_lt_of_cell? w _ hx149_1)).trans hx149_1; replace hx149_2 := (HB.out.cell (World.block_lt_of_cell? w _ hx149_2)).trans hx149_2; replace hx149_3 := (HB.out.cell (World.block_lt_of_cell? w _ hx149_3)).trans hx149_3; replace hx149_4 := (HB.out.cell (World.block_lt_of_cell? w _ hx149_4)).trans hx149_4; have HR149_4 := Aside0.mk hi149_4; have HC149_4 := Aside0.mk hl149_4; clear hi149_4 hl149_4; replace p149 := eq_true p149; replace q149 := eq_true q149))
       generalize hq_ : World.drewN w _ = w13
       have n0_ : Aside0 (Below w.heap.size w w13) := ⟨by rw [← hq_]; exact (aB HB)⟩
       clear HB hq_
       have HB := n0_
       clear n0_
       have n0_ := Aside0.mk (below_drew1 HB.out)
       clear HB
       have HB := n0_
       clear n0_
       have p150 : 0 ≤ (a1 : Int) := of_decide_eq_true aA
       have q150 : a1 < (l0.length : Int) := of_decide_eq_true aA
       obtain ⟨ad150, A150_4, c150_4, e150, hx150_0, hx150_1, hx150_2, hx150_3, hx150_4, hl150_4, hi150_4⟩ := at_T43 HR0.out a1 p150 q150
       have hw150_4 := hx150_4
       have hw150_3 := hx150_3
       have hw150_2 := hx150_2
       have hw150_1 := hx150_1
       have hw150_0 := hx150_0
       obtain rfl : ad149 = ad150 := (by injection e150)
       replace hx150_0 := (HB.out.cell (World.block_lt_of_cell? w _ hx150_0)).trans hx150_0
       replace hx150_1 := (HB.out.cell (World.block_lt_of_cell? w _ hx150_1)).trans hx150_1
       replace hx150_2 := (HB.out.cell (World.block_lt_of_cell? w _ hx150_2)).trans hx150_2
       replace hx150_3 := (HB.out.cell (World.block_lt_of_cell? w _ hx150_3)).trans hx150_3
       replace hx150_4 := (HB.out.cell (World.block_lt_of_cell? w _ hx150_4)).trans hx150_4
       have HR150_4 := Aside0.mk hi150_4
       have HC150_4 := Aside0.mk hl150_4
       clear hi150_4 hl150_4
       replace p150 := eq_true p150
       replace q150 := eq_true q150
       refine start_ (n := 11) (S := fun w' => w'.cell? (ad149.add ((a1).toNat * 5)) = some (.int .i64 ((rd_T43 l0 a1).f0)) ∧ w'.cell? ⟨(ad149.add ((a1).toNat * 5)).block, (ad149.add ((a1).toNat * 5)).off + 1, none⟩ = some (.int .i64 ((rd_T43 l0 a1).f1)) ∧ w'.cell? ⟨(ad149.add ((a1).toNat * 5)).block, (ad149.add ((a1).toNat * 5)).off + 2, none⟩ = some (.string ((rd_T43 l0 a1).f2)) ∧ w'.cell? ⟨(ad149.add ((a1).toNat * 5)).block, (ad149.add ((a1).toNat * 5)).off + 3, none⟩ = some (.string ((rd_T43 l0 a1).f3)) ∧ w'.cell? ⟨(ad149.add ((a1).toNat * 5)).block, (ad149.add ((a1).toNat * 5)).off + 4, none⟩ = some (.slice A150_4 ((rd_T43 l0 a1).f4).length c150_4)) (ds := []) #[Z, Z, Z, Z, Z, Z, Z, Z, Z, Z, Z] (by kernel_rfl) rfl rfl ⟨((HB.out.cell (World.block_lt_of_cell? w _ hw150_0)).trans hw150_0), ((HB.out.cell (World.block_lt_of_cell? w _ hw150_1)).trans hw150_1), ((HB.out.cell (World.block_lt_of_cell? w _ hw150_2)).trans hw150_2), ((HB.out.cell (World.block_lt_of_cell? w _ hw150_3)).trans hw150_3), ((HB.out.cell (World.block_lt_of_cell? w _ hw150_4)).trans hw150_4)⟩ (fun hHeld => ?_); refine with_tabW rows_Put.tab5 rows_Put.bits5 (fun HT_ HW_ => ?_)
       generalize w13.drew = w14 at HB HR150_4 hx150_0 hx150_1 hx150_2 hx150_3 hx150_4 hHeld ⊢
       refine pA 0 31 #[Y, Z, Z, Z, Z, Z, Z, Z, Z, Z, Z] HT_ ?_
       refine pA 1 32 #[Y, Y, Z, Z, Z, Z, Z, Z, Z, Z, Z] HT_ ?_
       refine pA 2 33 #[Y, Y, Y, Z, Z, Z, Z, Z, Z, Z, Z] HT_ ?_
       refine pA 3 34 #[Y, Y, Y, Y, Z, Z, Z, Z, Z, Z, Z] HT_ ?_
       refine pA 6 37 #[Y, Y, Y, Y, Z, Z, Y, Z, Z, Z, Z] HT_ ?_
       refine pA 7 38 #[Y, Y, Y, Y, Z, Z, Y, Y, Z, Z, Z] HT_ ?_
       refine take_ (i := 4) (N := some 35) (v := ?_) (a' := ?_) #[Y, Y, Y, Y, Y, Z, Y, Y, Z, Z, Z] rfl rfl (take_ofW HT_.out HW_.out (by kernel_rfl)) (fun _ _ _ h => h) (Or.inl ⟨by rfl, ?_⟩) hHeld ?_ ?_
       rotate_left
       ·rintro w' ⟨s0, s1, s2, s3, s4⟩
        go_simp
        with_reducible rfl
       rotate_left
       ·simp only [Act.put, List.setIfInBounds_toArray, List.set_cons_zero, List.set_cons_succ, i64_w, i32_w]
        rfl
       refine pA 5 36 #[Y, Y, Y, Y, Y, Y, Y, Y, Z, Z, Z] HT_ ?_
       refine one_ (i := 8) (N := some 39) #[Y, Y, Y, Y, Y, Y, Y, Y, Y, Z, Z] rfl rfl (one_of HT_.out (by kernel_rfl)) (by decide) (fun K hK => ?_)
       refine goes_ Try.func19 (by kernel_rfl) rfl #[.slice (some ad149) l0.length c0, .int .i64 a1] (by rfl) rfl rfl (by (try simp only [List.map_toArray, List.map_cons, List.map_nil]); first | done | rfl | (simp only [List.length_drop, List.length_take]; rfl)) ?_
       with_reducible refine (rows_End.calls k _ _ l0 a1 t151 _ ?side1 ?side2 A12.out).mono ?_
       (case side1 => exact aC (Kd.C_below HR0.out HB.out))
       (case side2 => exact HC0.out)
       rintro e w' ⟨rfl, ⟨nd, rfl⟩⟩
       refine ⟨_, rfl, ?_⟩
       refine hK.out _ _ ⟨((HB.out.cell (World.block_lt_of_cell? w _ hw150_0)).trans hw150_0), ((HB.out.cell (World.block_lt_of_cell? w _ hw150_1)).trans hw150_1), ((HB.out.cell (World.block_lt_of_cell? w _ hw150_2)).trans hw150_2), ((HB.out.cell (World.block_lt_of_cell? w _ hw150_3)).trans hw150_3), ((HB.out.cell (World.block_lt_of_cell? w _ hw150_4)).trans hw150_4)⟩ (fun hHeld => ?_)
       clear hK K
       refine norm_ (a' := ?_) ?_ ?_
       rotate_left
       ·show Act.put _ (some 39) _ = _
        simp only [Act.put, List.setIfInBounds_toArray, List.set_cons_zero, List.set_cons_succ, i64_w, i32_w]
        rfl
       refine pA 9 10 #[Y, Y, Y, Y, Y, Y, Y, Y, Y, Y, Z] HT_ ?_
       refine pA 10 11 #[Y, Y, Y, Y, Y, Y, Y, Y, Y, Y, Y] HT_ ?_
       refine done_ (done_of HT_.out (by kernel_rfl)) ?_
       try go_wp2
       go_meet
       case rel => exact ⟨_, (wrap64 (((rd_T43 l0 a1).f0) + 1)), (t151), aE, aE, H', ⟨by first | omega | exact Nat.le_refl _⟩, ⟨aB HB⟩⟩
      ·rw [if_neg c11] at H
       have c11b0 : (((rd_T43 l0 a1).f1) == 0) = false := beq_eq_false_iff_ne.mpr c11
       have c11b1 : (((rd_T43 l0 a1).f1) != 0) = true := bne_iff_ne.mpr c11
       simp only [Option.some.injEq, Prod.mk.injEq] at H
       obtain ⟨rfl, rfl⟩ := H
       go_wp2_with (first | ((with_reducible refine gate_callee (f := 44) rfl ?_); refine goesL_ (some 21) rfl rfl Try.func44 (by kernel_rfl) rfl #[.slice A0 l0.length c0, .int .i64 a1] rfl (by (try simp only [List.map_toArray, List.map_cons, List.map_nil]); first | done | rfl | (simp only [List.length_drop, List.length_take]; rfl)) ?_; (with_reducible refine (rows_is.calls _ _ l0 a1 true _ ?side1 ?side2 A7.out).mono ?_); (case side1 => exact aC (Kd.C_below HR0.out HB.out)); (case side2 => exact HC0.out); rintro e w' ⟨rfl, ⟨nd, rfl⟩⟩; refine ⟨_, rfl, ?_⟩; have p149 : 0 ≤ (a1 : Int) := of_decide_eq_true aA; have q149 : a1 < (l0.length : Int) := of_decide_eq_true aA; obtain ⟨ad149, A149_4, c149_4, e149, hx149_0, hx149_1, hx149_2, hx149_3, hx149_4, hl149_4, hi149_4⟩ := at_T43 HR0.out a1 p149 q149; cases e149; replace hx149_0 := (HB.out.cell (World.block_lt_of_cell? w _ hx149_0)).trans hx149_0; replace hx149_1 := (HB.out.cell (World.block_lt_of_cell? w _ hx149_1)).trans hx149_1; replace hx149_2 := (HB.out.cell (World.block_lt_of_cell? w _ hx149_2)).trans hx149_2; replace hx149_3 := (HB.out.cell (World.block_lt_of_cell? w _ hx149_3)).trans hx149_3; replace hx149_4 := (HB.out.cell (World.block_lt_of_cell? w _ hx149_4)).trans hx149_4; have HR149_4 := Aside0.mk hi149_4; have HC149_4 := Aside0.mk hl149_4; clear hi149_4 hl149_4; replace p149 := eq_true p149; replace q149 := eq_true q149))
       go_ret2
       exact ⟨_, by first | rfl | (simp [errW_none, errW_some] <;> rfl) | (simp [*, errW_none, errW_some] <;> rfl), by first | exact Kd.S_nil _ _ _ _ _ | exact Kd.N_nil _ _ _ _ _ | exact Kd.V_nil _ _ _ _ _ | exact Kd.Q_nil _ _ _ _ _ | exact Kd.R_nil _ _ _ _ _, aB HB⟩
     ·rw [if_neg c10] at H
      exact absurd H (by simp)
    ·rw [if_neg c9] at H
     exact absurd H (by simp)
   ·replace c8 := Bool.eq_false_iff.mpr c8
    subst c8
    have H1 : (some (([] : List (S43)), 41)) = some (r1, r2) := by rw [if_neg (show ¬ (false = true) by decide)] at H; exact H
    clear H
    have H := H1
    clear H1
    simp only [Option.some.injEq, Prod.mk.injEq] at H
    obtain ⟨rfl, rfl⟩ := H
    go_wp2_with (first | ((with_reducible refine gate_callee (f := 44) rfl ?_); refine goesL_ (some 21) rfl rfl Try.func44 (by kernel_rfl) rfl #[.slice A0 l0.length c0, .int .i64 a1] rfl (by (try simp only [List.map_toArray, List.map_cons, List.map_nil]); first | done | rfl | (simp only [List.length_drop, List.length_take]; rfl)) ?_; (with_reducible refine (rows_is.calls _ _ l0 a1 false _ ?side1 ?side2 A7.out).mono ?_); (case side1 => exact aC (Kd.C_below HR0.out HB.out)); (case side2 => exact HC0.out); rintro e w' ⟨rfl, ⟨nd, rfl⟩⟩; refine ⟨_, rfl, ?_⟩))
    go_ret2
    exact ⟨_, by first | rfl | (simp [errW_none, errW_some] <;> rfl) | (simp [*, errW_none, errW_some] <;> rfl), by first | exact Kd.S_nil _ _ _ _ _ | exact Kd.N_nil _ _ _ _ _ | exact Kd.V_nil _ _ _ _ _ | exact Kd.Q_nil _ _ _ _ _ | exact Kd.R_nil _ _ _ _ _, aB HB⟩
 case rest =>
  clear HC5
  try clear c1
  try clear p1
  try clear q1
  try clear hx1
  try clear c2
  try clear p2
  try clear c3
  try clear c4
  try clear c6
  try clear c6b0
  try clear c6b1
  try clear p6
  try clear c8
  try clear c9
  try clear c9b0
  try clear c10
  try clear c10b0
  try clear c11
  try clear c11b0
  try clear c11b1
  try clear c14
  try clear p14
  try clear q14
  try clear hx14
  try clear hx149_0
  try clear hx149_1
  try clear hx149_2
  try clear hx149_3
  try clear hx149_4
  try clear hx150_0
  try clear hx150_1
  try clear hx150_2
  try clear hx150_3
  try clear hx150_4
  try clear p149
  try clear p150
  try clear q149
  try clear q150
  obtain ⟨kq, x10_4, x11_4, rfl, rfl, HA, HJ4, HB⟩ := hcut
  cases kq with
  | zero => exact absurd HA.out (by simp [rows_Put.j0])
  | succ kj4 =>
   have H := HA.out
   clear HA
   simp only [rows_Put.j0] at H
   replace H := Option.bind_eq_some_iff.mp H
   obtain ⟨t152, A150, H⟩ := H
   replace H : (if t152.length < 17592186044416 then ((some (t152 ++ [x11_4] : List Int)).bind fun y155 => (if a2 < 0 then (rows_Put.j1 kj4 l0 a2 l3 x10_4 y155 true) else (rows_Put.j1 kj4 l0 a2 l3 x10_4 y155 (decide (a2 ≥ (y155.length : Int)))))) else (none)) = some (r1, r2) := H
   have A15 := Aside0.mk A150
   clear A150
   by_cases c16 : t152.length < 17592186044416
   ·rw [if_pos c16] at H
    have LMc16 := Aside0.mk c16
    clear c16
    obtain ⟨y155, hy155⟩ : ∃ y_ : List Int, y_ = (t152 ++ [x11_4]) := ⟨_, rfl⟩
    replace H : (if a2 < 0 then (rows_Put.j1 kj4 l0 a2 l3 x10_4 y155 true) else (rows_Put.j1 kj4 l0 a2 l3 x10_4 y155 (decide (a2 ≥ (y155.length : Int))))) = some (r1, r2) := by first | (rw [hy155]; with_reducible exact H) | (have H2_ := (Option.bind_some _ _).symm.trans H; rw [hy155]; with_reducible exact H2_) | (have H2_ := (Option.bind_some _ _).symm.trans H; with_reducible exact H2_) | with_reducible exact H | (rw [hy155]; exact H) | exact H
    have Ny155 := Aside0.mk hy155
    clear hy155
    have HC17 := Aside0.mk H
    clear H
    go_upto_region 7 with (first | ((with_reducible refine gate_callee (f := 24) rfl ?_); refine goesL_ (some 42) rfl rfl Try.func24 (by kernel_rfl) rfl #[.slice A0 l0.length c0, .int .i64 a1] rfl (by (try simp only [List.map_toArray, List.map_cons, List.map_nil]); first | done | rfl | (simp only [List.length_drop, List.length_take]; rfl)) ?_; (with_reducible refine (rows_Kids.calls _ _ l0 a1 t152 _ ?side1 ?side2 A15.out).mono ?_); (case side1 => exact aC (Kd.C_below HR0.out HB.out)); (case side2 => exact HC0.out); rintro e w18 ⟨v153, rfl, ho0, hb⟩; refine ⟨_, rfl, ?_⟩; have n0_ := Aside0.mk (Kd.R_lower (Kd.R_newM (M := fun k_ => (w.heap.size ≤ k_)) ho0 (below_size (aB HB)) (fun k_ h_ => h_)) (below_size (aB HB))); have n1_ := Aside0.mk (below_step (aB HB) hb); clear HB; have HO154 := n0_; have HB := n1_; clear n0_ n1_; (try clear hb); (try clear hb2); (try clear hk); (try clear hi); (try clear ho0)) | ((with_reducible refine gate_builtin (b := .append) (xs := #[.tmp 42, .tmp 44]) rfl ?_); (try (refine gate_guard (by rfl) ?_; dsimp only)); at_builtin; refine Kd.R_append (Kd.int .i64) (w0 := w) w.heap.size rfl (.tmp 42) (.tmp 44) 32 3 (.int .i64 0) 8 rfl Try.underlying32 info3 rfl (by decide) (by omega) v153 t152 x11_4 [.int .i64 x11_4] (fun k_ => (w.heap.size ≤ k_)) (fun _ => False) rfl rfl ?aP (fun _ hk => hk.elim) ?aF ?aO ?aB ?aS ?aL ?_; (case aP => exact rfl); (case aB => exact (aB HB)); (case aF => exact (fun k_ hk => (Nat.le_trans (below_size (aB HB)) hk))); (case aO => exact (by (with_reducible repeat (first | apply Kd.R_alloc | apply Kd.R_drewN | apply Kd.R_drew)); exact Kd.R_mono HO154.out (fun _ hk => hk.1))); (case aS => exact (below_size (aB HB))); (case aL => have := LMc16.out; omega); intro v156 w19 ho hb hg hat; rw [← Ny155.out] at ho; have n0_ := Aside0.mk (hb); have n1_ := Aside0.mk (ho); clear HB; clear HO154; have HB := n0_; have HO157 := n1_; clear n0_ n1_; clear ho hb hg hat))
    (try simp only [Act.put, List.setIfInBounds_toArray, List.set_cons_zero, List.set_cons_succ])
    go_cut [53] (fun v53 wc => ∃ (kq : Nat) (x53_16 : Bool), v53 = .bool x53_16 ∧ Aside0 (rows_Put.j1 kq l0 a2 l3 x10_4 y155 x53_16 = some (r1, r2)) ∧ Aside0 (kq ≤ kj4) ∧ Aside0 (Kd.R (Kd.int .i64) 3 wc w.heap.size (fun k_ => (w.heap.size ≤ k_)) v156 y155) ∧ Aside0 (Below w.heap.size w wc))
    case first =>
     have H := HC17.out
     clear HC17
     by_cases c20 : a2 < 0
     ·rw [if_pos c20] at H
      have c20b0 : decide (a2 < 0) = true := decide_eq_true c20
      clear c20
      (first | rw [c20b0] | (simp only [i64_w, i32_w]; rw [c20b0]) | skip)
      have H' := Aside0.mk H
      clear H
      go_wp2
      go_meet
      case rel => exact ⟨_, (true), aE, H', ⟨by have := HJ4.out; first | omega | exact Nat.le_refl _⟩, ⟨aR HO157⟩, ⟨aB HB⟩⟩
     ·rw [if_neg c20] at H
      have c20b0 : decide (a2 < 0) = false := decide_eq_false c20
      clear c20
      (first | rw [c20b0] | (simp only [i64_w, i32_w]; rw [c20b0]) | skip)
      have H' := Aside0.mk H
      clear H
      obtain ⟨Ao21, co21, eo21⟩ := Kd.R_slice HO157.out
      subst eo21
      go_wp2
      go_meet
      case rel => exact ⟨_, (decide (a2 ≥ (y155.length : Int))), aE, H', ⟨by have := HJ4.out; first | omega | exact Nat.le_refl _⟩, ⟨aR HO157⟩, ⟨aB HB⟩⟩
    case rest =>
     clear HC17
     try clear c1
     try clear p1
     try clear q1
     try clear hx1
     try clear c2
     try clear p2
     try clear c3
     try clear c4
     try clear c6
     try clear c6b0
     try clear c6b1
     try clear p6
     try clear c8
     try clear c9
     try clear c9b0
     try clear c10
     try clear c10b0
     try clear c11
     try clear c11b0
     try clear c11b1
     try clear c14
     try clear p14
     try clear q14
     try clear hx14
     try clear c15
     try clear p15
     try clear q15
     try clear hx15
     try clear c16
     try clear c19
     try clear c20
     try clear c20b0
     try clear hx149_0
     try clear hx149_1
     try clear hx149_2
     try clear hx149_3
     try clear hx149_4
     try clear hx150_0
     try clear hx150_1
     try clear hx150_2
     try clear hx150_3
     try clear hx150_4
     try clear p1
     try clear p14
     try clear p149
     try clear p150
     try clear p2
     try clear p6
     try clear q1
     try clear q14
     try clear q149
     try clear q150
     obtain ⟨kq, x53_16, rfl, HA, HJ16, HO_12, HB⟩ := hcut
     cases kq with
     | zero => exact absurd HA.out (by simp [rows_Put.j1])
     | succ kj16 =>
      have H := HA.out
      clear HA
      simp only [rows_Put.j1] at H
      by_cases c22 : x53_16 = true
      ·subst c22
       have H1 : (some (([] : List (S43)), 1)) = some (r1, r2) := by rw [if_pos rfl] at H; exact H
       clear H
       have H := H1
       clear H1
       simp only [Option.some.injEq, Prod.mk.injEq] at H
       obtain ⟨rfl, rfl⟩ := H
       go_wp2
       go_ret2
       exact ⟨_, by first | rfl | (simp [errW_none, errW_some] <;> rfl) | (simp [*, errW_none, errW_some] <;> rfl), by first | exact Kd.S_nil _ _ _ _ _ | exact Kd.N_nil _ _ _ _ _ | exact Kd.V_nil _ _ _ _ _ | exact Kd.Q_nil _ _ _ _ _ | exact Kd.R_nil _ _ _ _ _, aB HB⟩
      ·replace c22 := Bool.eq_false_iff.mpr c22
       subst c22
       have H1 : ((rows_right.f kj16 l3).bind fun t158 => (if t158 = true then (if 0 ≤ a2 then (if a2 < (y155.length : Int) then (if 0 ≤ (rd y155 a2) then (if (rd y155 a2) ≤ (l0.length : Int) then ((rows_moved.f kj16 (l0.take ((rd y155 a2) : Int).toNat) 0).bind fun t164 => ((rows_moved.f kj16 l3 x10_4).bind fun t167 => ((rows_moved.f kj16 (l0.drop ((rd y155 a2) : Int).toNat) 0).bind fun t174 => (if t167.length + t174.length < 1954687338268 then ((some (t167 ++ t174 : List (S43))).bind fun y177 => (if t164.length + y177.length < 1954687338268 then ((some (t164 ++ y177 : List (S43))).bind fun y180 => ((rows_big.f y180).bind fun t183 => (if t183 = true then (some (([] : List (S43)), 2)) else (some (y180, 0))))) else (none))) else (none))))) else (none)) else (none)) else (none)) else (none)) else (some (([] : List (S43)), 40)))) = some (r1, r2) := by rw [if_neg (show ¬ (false = true) by decide)] at H; exact H
       clear H
       have H := H1
       clear H1
       replace H := Option.bind_eq_some_iff.mp H
       obtain ⟨t158, A230, H⟩ := H
       replace H : (if t158 = true then (if 0 ≤ a2 then (if a2 < (y155.length : Int) then (if 0 ≤ (rd y155 a2) then (if (rd y155 a2) ≤ (l0.length : Int) then ((rows_moved.f kj16 (l0.take ((rd y155 a2) : Int).toNat) 0).bind fun t164 => ((rows_moved.f kj16 l3 x10_4).bind fun t167 => ((rows_moved.f kj16 (l0.drop ((rd y155 a2) : Int).toNat) 0).bind fun t174 => (if t167.length + t174.length < 1954687338268 then ((some (t167 ++ t174 : List (S43))).bind fun y177 => (if t164.length + y177.length < 1954687338268 then ((some (t164 ++ y177 : List (S43))).bind fun y180 => ((rows_big.f y180).bind fun t183 => (if t183 = true then (some (([] : List (S43)), 2)) else (some (y180, 0))))) else (none))) else (none))))) else (none)) else (none)) else (none)) else (none)) else (some (([] : List (S43)), 40))) = some (r1, r2) := H
       have A23 := Aside0.mk A230
       clear A230
       by_cases c24 : t158 = true
       ·subst c24
        have H1 : (if 0 ≤ a2 then (if a2 < (y155.length : Int) then (if 0 ≤ (rd y155 a2) then (if (rd y155 a2) ≤ (l0.length : Int) then ((rows_moved.f kj16 (l0.take ((rd y155 a2) : Int).toNat) 0).bind fun t164 => ((rows_moved.f kj16 l3 x10_4).bind fun t167 => ((rows_moved.f kj16 (l0.drop ((rd y155 a2) : Int).toNat) 0).bind fun t174 => (if t167.length + t174.length < 1954687338268 then ((some (t167 ++ t174 : List (S43))).bind fun y177 => (if t164.length + y177.length < 1954687338268 then ((some (t164 ++ y177 : List (S43))).bind fun y180 => ((rows_big.f y180).bind fun t183 => (if t183 = true then (some (([] : List (S43)), 2)) else (some (y180, 0))))) else (none))) else (none))))) else (none)) else (none)) else (none)) else (none)) = some (r1, r2) := by rw [if_pos rfl] at H; exact H
        clear H
        have H := H1
        clear H1
        by_cases c25 : 0 ≤ a2
        ·rw [if_pos c25] at H
         have c25b0 : decide (0 ≤ a2) = true := decide_eq_true c25
         clear c25
         by_cases c26 : a2 < (y155.length : Int)
         ·rw [if_pos c26] at H
          have c26b0 : decide (a2 < (y155.length : Int)) = true := decide_eq_true c26
          clear c26
          by_cases c27 : 0 ≤ (rd y155 a2)
          ·rw [if_pos c27] at H
           have c27b0 := eq_true c27
           have c27b1 : decide (0 ≤ (rd y155 a2)) = true := decide_eq_true c27
           clear c27
           by_cases c28 : (rd y155 a2) ≤ (l0.length : Int)
           ·rw [if_pos c28] at H
            have c28b0 := eq_true c28
            have c28b1 : decide ((rd y155 a2) ≤ (l0.length : Int)) = true := decide_eq_true c28
            clear c28
            obtain ⟨y160, hy160⟩ : ∃ y_ : List (S43), y_ = (l0.take ((rd y155 a2) : Int).toNat) := ⟨_, rfl⟩
            replace H : ((rows_moved.f kj16 y160 0).bind fun t164 => ((rows_moved.f kj16 l3 x10_4).bind fun t167 => ((rows_moved.f kj16 (l0.drop ((rd y155 a2) : Int).toNat) 0).bind fun t174 => (if t167.length + t174.length < 1954687338268 then ((some (t167 ++ t174 : List (S43))).bind fun y177 => (if t164.length + y177.length < 1954687338268 then ((some (t164 ++ y177 : List (S43))).bind fun y180 => ((rows_big.f y180).bind fun t183 => (if t183 = true then (some (([] : List (S43)), 2)) else (some (y180, 0))))) else (none))) else (none))))) = some (r1, r2) := by first | (rw [hy160]; with_reducible exact H) | (have H2_ := (Option.bind_some _ _).symm.trans H; rw [hy160]; with_reducible exact H2_) | (have H2_ := (Option.bind_some _ _).symm.trans H; with_reducible exact H2_) | with_reducible exact H | (rw [hy160]; exact H) | exact H
            have Ny160 := Aside0.mk hy160
            clear hy160
            replace H := Option.bind_eq_some_iff.mp H
            obtain ⟨t164, A290, H⟩ := H
            replace H : ((rows_moved.f kj16 l3 x10_4).bind fun t167 => ((rows_moved.f kj16 (l0.drop ((rd y155 a2) : Int).toNat) 0).bind fun t174 => (if t167.length + t174.length < 1954687338268 then ((some (t167 ++ t174 : List (S43))).bind fun y177 => (if t164.length + y177.length < 1954687338268 then ((some (t164 ++ y177 : List (S43))).bind fun y180 => ((rows_big.f y180).bind fun t183 => (if t183 = true then (some (([] : List (S43)), 2)) else (some (y180, 0))))) else (none))) else (none)))) = some (r1, r2) := H
            have A29 := Aside0.mk A290
            clear A290
            replace H := Option.bind_eq_some_iff.mp H
            obtain ⟨t167, A300, H⟩ := H
            replace H : ((rows_moved.f kj16 (l0.drop ((rd y155 a2) : Int).toNat) 0).bind fun t174 => (if t167.length + t174.length < 1954687338268 then ((some (t167 ++ t174 : List (S43))).bind fun y177 => (if t164.length + y177.length < 1954687338268 then ((some (t164 ++ y177 : List (S43))).bind fun y180 => ((rows_big.f y180).bind fun t183 => (if t183 = true then (some (([] : List (S43)), 2)) else (some (y180, 0))))) else (none))) else (none))) = some (r1, r2) := H
            have A30 := Aside0.mk A300
            clear A300
            have c31b0 := eq_true (of_decide_eq_true aA : 0 ≤ (rd y155 a2))
            have c32b0 := eq_true (of_decide_eq_true aA : (rd y155 a2) ≤ (l0.length : Int))
            obtain ⟨y170, hy170⟩ : ∃ y_ : List (S43), y_ = (l0.drop ((rd y155 a2) : Int).toNat) := ⟨_, rfl⟩
            replace H : ((rows_moved.f kj16 y170 0).bind fun t174 => (if t167.length + t174.length < 1954687338268 then ((some (t167 ++ t174 : List (S43))).bind fun y177 => (if t164.length + y177.length < 1954687338268 then ((some (t164 ++ y177 : List (S43))).bind fun y180 => ((rows_big.f y180).bind fun t183 => (if t183 = true then (some (([] : List (S43)), 2)) else (some (y180, 0))))) else (none))) else (none))) = some (r1, r2) := by first | (rw [hy170]; with_reducible exact H) | (have H2_ := (Option.bind_some _ _).symm.trans H; rw [hy170]; with_reducible exact H2_) | (have H2_ := (Option.bind_some _ _).symm.trans H; with_reducible exact H2_) | with_reducible exact H | (rw [hy170]; exact H) | exact H
            have Ny170 := Aside0.mk hy170
            clear hy170
            replace H := Option.bind_eq_some_iff.mp H
            obtain ⟨t174, A330, H⟩ := H
            replace H : (if t167.length + t174.length < 1954687338268 then ((some (t167 ++ t174 : List (S43))).bind fun y177 => (if t164.length + y177.length < 1954687338268 then ((some (t164 ++ y177 : List (S43))).bind fun y180 => ((rows_big.f y180).bind fun t183 => (if t183 = true then (some (([] : List (S43)), 2)) else (some (y180, 0))))) else (none))) else (none)) = some (r1, r2) := H
            have A33 := Aside0.mk A330
            clear A330
            by_cases c34 : t167.length + t174.length < 1954687338268
            ·rw [if_pos c34] at H
             have LMc34 := Aside0.mk c34
             clear c34
             obtain ⟨y177, hy177⟩ : ∃ y_ : List (S43), y_ = (t167 ++ t174) := ⟨_, rfl⟩
             replace H : (if t164.length + y177.length < 1954687338268 then ((some (t164 ++ y177 : List (S43))).bind fun y180 => ((rows_big.f y180).bind fun t183 => (if t183 = true then (some (([] : List (S43)), 2)) else (some (y180, 0))))) else (none)) = some (r1, r2) := by first | (rw [hy177]; with_reducible exact H) | (have H2_ := (Option.bind_some _ _).symm.trans H; rw [hy177]; with_reducible exact H2_) | (have H2_ := (Option.bind_some _ _).symm.trans H; with_reducible exact H2_) | with_reducible exact H | (rw [hy177]; exact H) | exact H
             have Ny177 := Aside0.mk hy177
             clear hy177
             by_cases c35 : t164.length + y177.length < 1954687338268
             ·rw [if_pos c35] at H
              have LMc35 := Aside0.mk c35
              clear c35
              obtain ⟨y180, hy180⟩ : ∃ y_ : List (S43), y_ = (t164 ++ y177) := ⟨_, rfl⟩
              replace H : ((rows_big.f y180).bind fun t183 => (if t183 = true then (some (([] : List (S43)), 2)) else (some (y180, 0)))) = some (r1, r2) := by first | (rw [hy180]; with_reducible exact H) | (have H2_ := (Option.bind_some _ _).symm.trans H; rw [hy180]; with_reducible exact H2_) | (have H2_ := (Option.bind_some _ _).symm.trans H; with_reducible exact H2_) | with_reducible exact H | (rw [hy180]; exact H) | exact H
              have Ny180 := Aside0.mk hy180
              clear hy180
              replace H := Option.bind_eq_some_iff.mp H
              obtain ⟨t183, A360, H⟩ := H
              replace H : (if t183 = true then (some (([] : List (S43)), 2)) else (some (y180, 0))) = some (r1, r2) := H
              have A36 := Aside0.mk A360
              clear A360
              by_cases c37 : t183 = true
              ·subst c37
               have H1 : (some (([] : List (S43)), 2)) = some (r1, r2) := by rw [if_pos rfl] at H; exact H
               clear H
               have H := H1
               clear H1
               simp only [Option.some.injEq, Prod.mk.injEq] at H
               obtain ⟨rfl, rfl⟩ := H
               try go_wp2_with (first | ((with_reducible refine gate_callee (f := 37) rfl ?_); refine goesL_ (some 55) rfl rfl Try.func37 (by kernel_rfl) rfl #[.slice A3 l3.length c3] rfl (by (try simp only [List.map_toArray, List.map_cons, List.map_nil]); first | done | rfl | (simp only [List.length_drop, List.length_take]; rfl)) ?_; (with_reducible refine (rows_right.calls kj16 _ _ l3 true _ ?side1 ?side2 A23.out).mono ?_); (case side1 => exact aC (Kd.C_below HR3.out HB.out)); (case side2 => exact HC3.out); rintro e w38 ⟨rfl, hb⟩; refine ⟨_, rfl, ?_⟩; have n0_ := Aside0.mk (Kd.R_below (aR HO_12) hb); have n1_ := Aside0.mk (below_step (aB HB) hb); clear HO_12; clear HB; have HO_12 := n0_; have HB := n1_; clear n0_ n1_; (try clear hb); (try clear hb2); (try clear hk); (try clear hi); obtain ⟨Ao39, co39, eo39⟩ := Kd.R_slice HO_12.out; subst eo39; have p159 : 0 ≤ (a2 : Int) := of_decide_eq_true aA; have q159 : a2 < (y155.length : Int) := of_decide_eq_true aA; obtain ⟨ad159, e159, hx159_0⟩ := Kd.at_int (Kd.R_reads' HO_12.out).2.2 a2 p159 q159; cases e159; replace p159 := eq_true p159; replace q159 := eq_true q159))
               have n0_ := Aside0.mk (Kd.R_drew HO_12.out)
               have n1_ := Aside0.mk (below_drew1 HB.out)
               clear HO_12
               clear HB
               have HO_12 := n0_
               have HB := n1_
               clear n0_ n1_
               have q41 : ((rd y155 a2) : Int) ≤ ((l0.length : Int) : Int) := of_decide_eq_true aA
               obtain ⟨i041, hi041, _, hsz41, _⟩ := info_parts info43
               have hroom41 : l0.length ≤ c0 := HC0.out
               have hC41 : Kd.C k43 _ A0 l0.length l0 := HR0.out
               have hcut41 := cut_to (P := Try.prog) 22 43 .i64 Try.underlying22 hi041 A0 l0.length c0 (rd y155 a2) (of_decide_eq_true aA) q41 hroom41
               have hr41 := Kd.C_take (m := ((rd y155 a2) : Int).toNat) hC41 (by omega)
               have hy41 : y160.length = ((rd y155 a2) : Int).toNat := (by rw [Ny160.out, List.length_take]; omega)
               rw [← Ny160.out] at hr41
               rw [← hy41] at hcut41
               have HR163 := Aside0.mk hr41
               have HC163 := Aside0.mk (show y160.length ≤ c0 from by omega)
               clear hr41 hC41 hroom41 hi041 hsz41
               have KY41 := Aside0.mk hy41
               clear hy41
               replace q41 := eq_true q41
               have q42 : ((rd y155 a2) : Int) ≤ ((l0.length : Int) : Int) := of_decide_eq_true aA
               obtain ⟨i042, hi042, _, hsz42, _⟩ := info_parts info43
               have hroom42 : l0.length ≤ c0 := HC0.out
               have hC42 : Kd.C k43 _ A0 l0.length l0 := HR0.out
               have q042 : (0 : Int) ≤ ((rd y155 a2) : Int) := of_decide_eq_true aA
               have hcut42 := cut_from (P := Try.prog) 22 43 .i64 Try.underlying22 hi042 5 hsz42 A0 l0.length c0 (rd y155 a2) q042 q42
               have hr42 := Kd.C_drop (m := ((rd y155 a2) : Int).toNat) (c := c0) hC42 (by omega) hroom42
               obtain ⟨A42, hA42⟩ : ∃ A1, A1 = (if c0 = ((rd y155 a2) : Int).toNat then A0 else (A0 : Option Addr).map (·.add (((rd y155 a2) : Int).toNat * 5))) := ⟨_, rfl⟩
               obtain ⟨c42, hc42⟩ : ∃ c1, c1 = c0 - ((rd y155 a2) : Int).toNat := ⟨_, rfl⟩
               have hy42 : y170.length = l0.length - ((rd y155 a2) : Int).toNat := (by rw [Ny170.out, List.length_drop] <;> omega)
               rw [show (l0).drop ((rd y155 a2) : Int).toNat = y170 from Ny170.out.symm] at hr42
               replace hr42 : Kd.C k43 _ A42 y170.length y170 := (by rw [hA42]; exact hr42)
               rw [← hy42, ← hA42, ← hc42] at hcut42
               have HR173 := Aside0.mk hr42
               have HC173 := Aside0.mk (show y170.length ≤ c42 from by rw [hy42, hc42]; exact Nat.sub_le_sub_right hroom42 _)
               clear hr42 hC42 hroom42 hi042 hsz42 hc42
               have KY42 := Aside0.mk hy42
               have KA42 := Aside0.mk hA42
               clear hy42 hA42
               replace q42 := eq_true q42
               refine start_ (n := 14) (S := fun w' => True) (ds := []) #[Z, Z, Z, Z, Z, Z, Z, Z, Z, Z, Z, Z, Z, Z] (by kernel_rfl) rfl rfl trivial (fun hHeld => ?_); refine with_tabW rows_Put.tab12 rows_Put.bits12 (fun HT_ HW_ => ?_)
               generalize w38.drew = w40 at HO_12 HB HR163 HR173 hHeld ⊢
               refine pA 0 61 #[Y, Z, Z, Z, Z, Z, Z, Z, Z, Z, Z, Z, Z, Z] HT_ ?_
               refine pA 1 62 #[Y, Y, Z, Z, Z, Z, Z, Z, Z, Z, Z, Z, Z, Z] HT_ ?_
               refine pA 2 63 #[Y, Y, Y, Z, Z, Z, Z, Z, Z, Z, Z, Z, Z, Z] HT_ ?_
               refine pA 4 65 #[Y, Y, Y, Z, Y, Z, Z, Z, Z, Z, Z, Z, Z, Z] HT_ ?_
               refine pA 5 66 #[Y, Y, Y, Z, Y, Y, Z, Z, Z, Z, Z, Z, Z, Z] HT_ ?_
               refine pA 7 68 #[Y, Y, Y, Z, Y, Y, Z, Y, Z, Z, Z, Z, Z, Z] HT_ ?_
               refine pA 8 69 #[Y, Y, Y, Z, Y, Y, Z, Y, Y, Z, Z, Z, Z, Z] HT_ ?_
               refine pA 9 70 #[Y, Y, Y, Z, Y, Y, Z, Y, Y, Y, Z, Z, Z, Z] HT_ ?_
               refine one_ (i := 3) (N := some 64) #[Y, Y, Y, Y, Y, Y, Z, Y, Y, Y, Z, Z, Z, Z] rfl rfl (one_of HT_.out (by kernel_rfl)) (by decide) (fun K hK => ?_)
               refine goes_ Try.func48 (by kernel_rfl) rfl #[.slice A0 y160.length c0, .int .i64 0] (by rfl) rfl rfl (by (try simp only [List.map_toArray, List.map_cons, List.map_nil]); first | done | rfl | (simp only [List.length_drop, List.length_take]; rfl)) ?_
               with_reducible refine (rows_moved.calls kj16 _ _ y160 0 t164 _ ?side1 ?side2 A29.out).mono ?_
               (case side1 => exact aC (Kd.C_below HR163.out HB.out))
               (case side2 => exact HC163.out)
               rintro e w43 ⟨v165, rfl, ho0, hb⟩
               refine ⟨_, rfl, ?_⟩
               have n0_ := Aside0.mk (Kd.R_below (aR HO_12) hb)
               have n1_ := Aside0.mk (Kd.N_lower (Kd.N_mono (ok' := fun k_ => (w.heap.size ≤ k_) ∧ some k_ ≠ (.slice (some ad159) y155.length co39 : Value).ownBlock) (Kd.S_N (Kd.S_bound (sT ho0))) (fun k_ hk_ => ⟨(Nat.le_trans (below_size (aB HB)) hk_.2.1), (Kd.fresh' (Kd.R_lt (aR HO_12)) k_ hk_.2.1)⟩)) (below_size (aB HB)))
               have n2_ := Aside0.mk (below_step (aB HB) hb)
               clear HO_12
               clear HB
               have HO_12 := n0_
               have HO166 := n1_
               have HB := n2_
               clear n0_ n1_ n2_
               (try clear hb)
               (try clear hb2)
               (try clear hk)
               (try clear hi)
               (try clear ho0)
               refine hK.out _ _ trivial (fun hHeld => ?_)
               clear hK K
               refine norm_ (a' := ?_) ?_ ?_
               rotate_left
               ·show Act.put _ (some 64) _ = _
                simp only [Act.put, List.setIfInBounds_toArray, List.set_cons_zero, List.set_cons_succ, i64_w, i32_w]
                rfl
               refine one_ (i := 6) (N := some 67) #[Y, Y, Y, Y, Y, Y, Y, Y, Y, Y, Z, Z, Z, Z] rfl rfl (one_of HT_.out (by kernel_rfl)) (by decide) (fun K hK => ?_)
               refine goes_ Try.func48 (by kernel_rfl) rfl #[.slice A3 l3.length c3, .int .i64 x10_4] (by rfl) rfl rfl (by (try simp only [List.map_toArray, List.map_cons, List.map_nil]); first | done | rfl | (simp only [List.length_drop, List.length_take]; rfl)) ?_
               with_reducible refine (rows_moved.calls kj16 _ _ l3 x10_4 t167 _ ?side1 ?side2 A30.out).mono ?_
               (case side1 => exact aC (Kd.C_below HR3.out HB.out))
               (case side2 => exact HC3.out)
               rintro e w44 ⟨v168, rfl, ho0, hb⟩
               refine ⟨_, rfl, ?_⟩
               have n0_ := Aside0.mk (Kd.R_below (aR HO_12) hb)
               have n1_ := Aside0.mk (Kd.N_elder' (aN HO166) (aS ho0) hb)
               have n2_ := Aside0.mk (Kd.N_lower (Kd.N_mono (ok' := fun k_ => (w.heap.size ≤ k_) ∧ some k_ ≠ (.slice (some ad159) y155.length co39 : Value).ownBlock ∧ some k_ ≠ (v165 : Value).ownBlock) (Kd.S_N (Kd.S_bound (sT ho0))) (fun k_ hk_ => ⟨(Nat.le_trans (below_size (aB HB)) hk_.2.1), (Kd.fresh' (Kd.R_lt (aR HO_12)) k_ hk_.2.1), (Kd.fresh' (Kd.N_lt (aN HO166)) k_ hk_.2.1)⟩)) (below_size (aB HB)))
               have n3_ := Aside0.mk (below_step (aB HB) hb)
               clear HO_12
               clear HO166
               clear HB
               have HO_12 := n0_
               have HO166 := n1_
               have HO169 := n2_
               have HB := n3_
               clear n0_ n1_ n2_ n3_
               (try clear hb)
               (try clear hb2)
               (try clear hk)
               (try clear hi)
               (try clear ho0)
               refine hK.out _ _ trivial (fun hHeld => ?_)
               clear hK K
               refine norm_ (a' := ?_) ?_ ?_
               rotate_left
               ·show Act.put _ (some 67) _ = _
                simp only [Act.put, List.setIfInBounds_toArray, List.set_cons_zero, List.set_cons_succ, i64_w, i32_w]
                rfl
               refine one_ (i := 10) (N := some 71) #[Y, Y, Y, Y, Y, Y, Y, Y, Y, Y, Y, Z, Z, Z] rfl rfl (one_of HT_.out (by kernel_rfl)) (by decide) (fun K hK => ?_)
               refine goes_ Try.func48 (by kernel_rfl) rfl #[.slice A42 y170.length c42, .int .i64 0] (by rfl) rfl rfl (by (try simp only [List.map_toArray, List.map_cons, List.map_nil]); first | done | rfl | (simp only [List.length_drop, List.length_take]; rfl)) ?_
               with_reducible refine (rows_moved.calls kj16 _ _ y170 0 t174 _ ?side1 ?side2 A33.out).mono ?_
               (case side1 => exact aC (Kd.C_below HR173.out HB.out))
               (case side2 => exact HC173.out)
               rintro e w45 ⟨v175, rfl, ho0, hb⟩
               refine ⟨_, rfl, ?_⟩
               have n0_ := Aside0.mk (Kd.R_below (aR HO_12) hb)
               have n1_ := Aside0.mk (Kd.N_elder' (aN HO166) (aS ho0) hb)
               have n2_ := Aside0.mk (Kd.N_elder' (aN HO169) (aS ho0) hb)
               have n3_ := Aside0.mk (Kd.N_lower (Kd.N_mono (ok' := fun k_ => (w.heap.size ≤ k_) ∧ some k_ ≠ (.slice (some ad159) y155.length co39 : Value).ownBlock ∧ some k_ ≠ (v165 : Value).ownBlock ∧ some k_ ≠ (v168 : Value).ownBlock) (Kd.S_N (Kd.S_bound (sT ho0))) (fun k_ hk_ => ⟨(Nat.le_trans (below_size (aB HB)) hk_.2.1), (Kd.fresh' (Kd.R_lt (aR HO_12)) k_ hk_.2.1), (Kd.fresh' (Kd.N_lt (aN HO166)) k_ hk_.2.1), (Kd.fresh' (Kd.N_lt (aN HO169)) k_ hk_.2.1)⟩)) (below_size (aB HB)))
               have n4_ := Aside0.mk (below_step (aB HB) hb)
               clear HO_12
               clear HO166
               clear HO169
               clear HB
               have HO_12 := n0_
               have HO166 := n1_
               have HO169 := n2_
               have HO176 := n3_
               have HB := n4_
               clear n0_ n1_ n2_ n3_ n4_
               (try clear hb)
               (try clear hb2)
               (try clear hk)
               (try clear hi)
               (try clear ho0)
               obtain ⟨Ao47, co47, eo47⟩ := Kd.N_slice HO176.out
               (first | subst eo47 | (injection eo47 with f1_ f2_ f3_; have f4_ := f1_.symm; have f5_ := f3_.symm; clear f1_ f2_ f3_; subst f4_; subst f5_))
               refine hK.out _ _ trivial (fun hHeld => ?_)
               clear hK K
               refine norm_ (a' := ?_) ?_ ?_
               rotate_left
               ·show Act.put _ (some 71) _ = _
                simp only [Act.put, List.setIfInBounds_toArray, List.set_cons_zero, List.set_cons_succ, i64_w, i32_w]
                rfl
               refine one_ (i := 11) (N := some 72) #[Y, Y, Y, Y, Y, Y, Y, Y, Y, Y, Y, Y, Z, Z] rfl rfl (one_of HT_.out (by kernel_rfl)) (by decide) (fun K hK => ?_)
               refine Kd.N_append_rows_step kT43 (w0 := w) w.heap.size (by rfl) (.tmp 67) (.tmp 71) 22 43 (.agg #[(.int .i64 0), (.int .i64 0), (.string ⟨#[]⟩), (.string ⟨#[]⟩), (.slice none 0 0)]) 72 rfl Try.underlying22 info43 rfl (by decide) (by omega) v168 t167 t174 _ _ _ (fun k_ => (w.heap.size ≤ k_) ∧ some k_ ≠ (.slice (some ad159) y155.length co39 : Value).ownBlock ∧ some k_ ≠ (v165 : Value).ownBlock) (fun k_ => ((fun k_ => (w.heap.size ≤ k_) ∧ some k_ ≠ (.slice (some ad159) y155.length co39 : Value).ownBlock ∧ some k_ ≠ (v165 : Value).ownBlock)) k_ ∧ some k_ ≠ (v168 : Value).ownBlock) rfl rfl ?aO ?aR (fun _ hk => hk) ?aF ?aB ?aS ?aL ?_
               (case aR => exact (by skip; exact Kd.N_F (Kd.N_mono (ok' := (fun k_ => ((fun k_ => (w.heap.size ≤ k_) ∧ some k_ ≠ (.slice (some ad159) y155.length co39 : Value).ownBlock ∧ some k_ ≠ (v165 : Value).ownBlock)) k_ ∧ some k_ ≠ (v168 : Value).ownBlock)) (HO176.out) (fun k_ hk => ⟨⟨hk.1, ⟨hk.2.1, hk.2.2.1⟩⟩, hk.2.2.2⟩))))
               (case aB => exact (aB HB))
               (case aF => exact (fun k_ hk => ⟨(Nat.le_trans (below_size (aB HB)) hk), Kd.fresh' (Kd.R_lt (aR HO_12)) k_ hk, Kd.fresh' (Kd.N_lt (aN HO166)) k_ hk⟩))
               (case aO => exact (by (with_reducible repeat (first | apply Kd.N_alloc | apply Kd.N_drewN | apply Kd.N_drew)); exact Kd.N_mono HO169.out (fun _ hk => ⟨hk.1.1, ⟨hk.1.2.1, hk.1.2.2⟩⟩)))
               (case aS => exact (below_size (aB HB)))
               (case aL => have := LMc34.out; omega)
               intro v178 w46 ho hb hg hat
               rw [← Ny177.out] at ho
               have n0_ := Aside0.mk (Kd.R_over' (aR HO_12) (Kd.N_typed (aN HO169)) (by decide) hg)
               have n1_ := Aside0.mk (Kd.N_afterv (ok := (fun k_ => (w.heap.size ≤ k_) ∧ some k_ ≠ (.slice (some ad159) y155.length co39 : Value).ownBlock ∧ some k_ ≠ (.slice Ao47 t174.length co47 : Value).ownBlock)) (by (with_reducible repeat (first | apply Kd.N_alloc | apply Kd.N_drewN | apply Kd.N_drew)); exact Kd.N_mono HO166.out (fun _ hk => ⟨⟨hk.1.1.1, ⟨hk.1.1.2, hk.2⟩⟩, hk.1.2⟩)) hg hat)
               have n2_ := Aside0.mk (Kd.N_afterv (ok := (fun k_ => (w.heap.size ≤ k_) ∧ some k_ ≠ (.slice (some ad159) y155.length co39 : Value).ownBlock ∧ some k_ ≠ (v165 : Value).ownBlock)) (by (with_reducible repeat (first | apply Kd.N_alloc | apply Kd.N_drewN | apply Kd.N_drew)); exact Kd.N_mono HO176.out (fun _ hk => ⟨⟨hk.1, ⟨hk.2.1, hk.2.2.1⟩⟩, hk.2.2.2⟩)) hg hat)
               have n3_ := Aside0.mk (hb)
               have n4_ := Aside0.mk (ho)
               clear HO_12
               clear HO166
               clear HO176
               clear HB
               clear HO169
               have HO_12 := n0_
               have HO166 := n1_
               have HO176 := n2_
               have HB := n3_
               have HO179 := n4_
               clear n0_ n1_ n2_ n3_ n4_
               clear ho hb hg hat
               obtain ⟨Ao49, co49, eo49⟩ := Kd.N_slice HO179.out
               (first | subst eo49 | (injection eo49 with f1_ f2_ f3_; have f4_ := f1_.symm; have f5_ := f3_.symm; clear f1_ f2_ f3_; subst f4_; subst f5_))
               refine hK.out _ _ trivial (fun hHeld => ?_)
               clear hK K
               refine norm_ (a' := ?_) ?_ ?_
               rotate_left
               ·show Act.put _ (some 72) _ = _
                simp only [Act.put, List.setIfInBounds_toArray, List.set_cons_zero, List.set_cons_succ, i64_w, i32_w]
                rfl
               refine one_ (i := 12) (N := some 73) #[Y, Y, Y, Y, Y, Y, Y, Y, Y, Y, Y, Y, Y, Z] rfl rfl (one_of HT_.out (by kernel_rfl)) (by decide) (fun K hK => ?_)
               refine Kd.N_append_rows_step kT43 (w0 := w) w.heap.size (by rfl) (.tmp 64) (.tmp 72) 22 43 (.agg #[(.int .i64 0), (.int .i64 0), (.string ⟨#[]⟩), (.string ⟨#[]⟩), (.slice none 0 0)]) 72 rfl Try.underlying22 info43 rfl (by decide) (by omega) v165 t164 y177 _ _ _ (fun k_ => (w.heap.size ≤ k_) ∧ some k_ ≠ (.slice (some ad159) y155.length co39 : Value).ownBlock) (fun k_ => ((fun k_ => (w.heap.size ≤ k_) ∧ some k_ ≠ (.slice (some ad159) y155.length co39 : Value).ownBlock)) k_ ∧ some k_ ≠ (v165 : Value).ownBlock) rfl rfl ?aO ?aR (fun _ hk => hk) ?aF ?aB ?aS ?aL ?_
               (case aR => exact (by skip; exact Kd.N_F (Kd.N_mono (ok' := (fun k_ => ((fun k_ => (w.heap.size ≤ k_) ∧ some k_ ≠ (.slice (some ad159) y155.length co39 : Value).ownBlock)) k_ ∧ some k_ ≠ (v165 : Value).ownBlock)) (HO179.out) (fun k_ hk => ⟨⟨hk.1, hk.2.1⟩, hk.2.2⟩))))
               (case aB => exact (aB HB))
               (case aF => exact (fun k_ hk => ⟨(Nat.le_trans (below_size (aB HB)) hk), Kd.fresh' (Kd.R_lt (aR HO_12)) k_ hk⟩))
               (case aO => exact (by (with_reducible repeat (first | apply Kd.N_alloc | apply Kd.N_drewN | apply Kd.N_drew)); exact Kd.N_mono HO166.out (fun _ hk => ⟨hk.1.1, hk.1.2.1⟩)))
               (case aS => exact (below_size (aB HB)))
               (case aL => have := LMc35.out; omega)
               intro v181 w48 ho hb hg hat
               rw [← Ny180.out] at ho
               have n0_ := Aside0.mk (Kd.R_over' (aR HO_12) (Kd.N_typed (aN HO166)) (by decide) hg)
               have n1_ := Aside0.mk (Kd.N_afterv (ok := (fun k_ => (w.heap.size ≤ k_) ∧ some k_ ≠ (.slice (some ad159) y155.length co39 : Value).ownBlock ∧ some k_ ≠ (.slice Ao49 y177.length co49 : Value).ownBlock)) (by (with_reducible repeat (first | apply Kd.N_alloc | apply Kd.N_drewN | apply Kd.N_drew)); exact Kd.N_mono HO176.out (fun _ hk => ⟨⟨hk.1.1, ⟨hk.1.2.1, hk.2⟩⟩, hk.1.2.2⟩)) hg hat)
               have n2_ := Aside0.mk (Kd.N_afterv (ok := (fun k_ => (w.heap.size ≤ k_) ∧ some k_ ≠ (.slice (some ad159) y155.length co39 : Value).ownBlock)) (by (with_reducible repeat (first | apply Kd.N_alloc | apply Kd.N_drewN | apply Kd.N_drew)); exact Kd.N_mono HO179.out (fun _ hk => ⟨⟨hk.1, hk.2.1⟩, hk.2.2⟩)) hg hat)
               have n3_ := Aside0.mk (hb)
               have n4_ := Aside0.mk (ho)
               clear HO_12
               clear HO176
               clear HO179
               clear HB
               clear HO166
               have HO_12 := n0_
               have HO176 := n1_
               have HO179 := n2_
               have HB := n3_
               have HO182 := n4_
               clear n0_ n1_ n2_ n3_ n4_
               clear ho hb hg hat
               refine hK.out _ _ trivial (fun hHeld => ?_)
               clear hK K
               refine norm_ (a' := ?_) ?_ ?_
               rotate_left
               ·show Act.put _ (some 73) _ = _
                simp only [Act.put, List.setIfInBounds_toArray, List.set_cons_zero, List.set_cons_succ, i64_w, i32_w]
                rfl
               refine pA 13 14 #[Y, Y, Y, Y, Y, Y, Y, Y, Y, Y, Y, Y, Y, Y] HT_ ?_
               refine done_ (done_of HT_.out (by kernel_rfl)) ?_
               obtain ⟨Ao50, co50, eo50⟩ := Kd.N_slice HO182.out
               subst eo50
               try go_wp2_with (first | ((with_reducible refine gate_callee (f := 36) rfl ?_); refine goesL_ (some 75) rfl rfl Try.func36 (by kernel_rfl) rfl #[.slice Ao50 y180.length co50] rfl (by (try simp only [List.map_toArray, List.map_cons, List.map_nil]); first | done | rfl | (simp only [List.length_drop, List.length_take]; rfl)) ?_; (with_reducible refine (rows_big.calls _ _ y180 true _ ?side1 ?side2 A36.out).mono ?_); (case side1 => exact aC (cT (Kd.N_reads' HO182.out).2.2)); (case side2 => exact (Kd.N_reads' HO182.out).2.1); rintro e w51 ⟨rfl, hb⟩; refine ⟨_, rfl, ?_⟩; have n0_ := Aside0.mk (Kd.R_below (aR HO_12) hb); have n1_ := Aside0.mk (Kd.N_below (aN HO176) hb); have n2_ := Aside0.mk (Kd.N_below (aN HO179) hb); have n3_ := Aside0.mk (Kd.N_below (aN HO182) hb); have n4_ := Aside0.mk (below_step (aB HB) hb); clear HO_12; clear HO176; clear HO179; clear HO182; clear HB; have HO_12 := n0_; have HO176 := n1_; have HO179 := n2_; have HO182 := n3_; have HB := n4_; clear n0_ n1_ n2_ n3_ n4_; (try clear hb); (try clear hb2); (try clear hk); (try clear hi)))
               go_ret2
               exact ⟨_, by first | rfl | (simp [errW_none, errW_some] <;> rfl) | (simp [*, errW_none, errW_some] <;> rfl), by first | exact Kd.S_nil _ _ _ _ _ | exact Kd.N_nil _ _ _ _ _ | exact Kd.V_nil _ _ _ _ _ | exact Kd.Q_nil _ _ _ _ _ | exact Kd.R_nil _ _ _ _ _, aB HB⟩
              ·replace c37 := Bool.eq_false_iff.mpr c37
               subst c37
               have H1 : (some (y180, 0)) = some (r1, r2) := by rw [if_neg (show ¬ (false = true) by decide)] at H; exact H
               clear H
               have H := H1
               clear H1
               simp only [Option.some.injEq, Prod.mk.injEq] at H
               obtain ⟨rfl, rfl⟩ := H
               try go_wp2_with (first | ((with_reducible refine gate_callee (f := 37) rfl ?_); refine goesL_ (some 55) rfl rfl Try.func37 (by kernel_rfl) rfl #[.slice A3 l3.length c3] rfl (by (try simp only [List.map_toArray, List.map_cons, List.map_nil]); first | done | rfl | (simp only [List.length_drop, List.length_take]; rfl)) ?_; (with_reducible refine (rows_right.calls kj16 _ _ l3 true _ ?side1 ?side2 A23.out).mono ?_); (case side1 => exact aC (Kd.C_below HR3.out HB.out)); (case side2 => exact HC3.out); rintro e w52 ⟨rfl, hb⟩; refine ⟨_, rfl, ?_⟩; have n0_ := Aside0.mk (Kd.R_below (aR HO_12) hb); have n1_ := Aside0.mk (below_step (aB HB) hb); clear HO_12; clear HB; have HO_12 := n0_; have HB := n1_; clear n0_ n1_; (try clear hb); (try clear hb2); (try clear hk); (try clear hi); obtain ⟨Ao53, co53, eo53⟩ := Kd.R_slice HO_12.out; subst eo53; have p159 : 0 ≤ (a2 : Int) := of_decide_eq_true aA; have q159 : a2 < (y155.length : Int) := of_decide_eq_true aA; obtain ⟨ad159, e159, hx159_0⟩ := Kd.at_int (Kd.R_reads' HO_12.out).2.2 a2 p159 q159; cases e159; replace p159 := eq_true p159; replace q159 := eq_true q159))
               have n0_ := Aside0.mk (Kd.R_drew HO_12.out)
               have n1_ := Aside0.mk (below_drew1 HB.out)
               clear HO_12
               clear HB
               have HO_12 := n0_
               have HB := n1_
               clear n0_ n1_
               have q55 : ((rd y155 a2) : Int) ≤ ((l0.length : Int) : Int) := of_decide_eq_true aA
               obtain ⟨i055, hi055, _, hsz55, _⟩ := info_parts info43
               have hroom55 : l0.length ≤ c0 := HC0.out
               have hC55 : Kd.C k43 _ A0 l0.length l0 := HR0.out
               have hcut55 := cut_to (P := Try.prog) 22 43 .i64 Try.underlying22 hi055 A0 l0.length c0 (rd y155 a2) (of_decide_eq_true aA) q55 hroom55
               have hr55 := Kd.C_take (m := ((rd y155 a2) : Int).toNat) hC55 (by omega)
               have hy55 : y160.length = ((rd y155 a2) : Int).toNat := (by rw [Ny160.out, List.length_take]; omega)
               rw [← Ny160.out] at hr55
               rw [← hy55] at hcut55
               have HR163 := Aside0.mk hr55
               have HC163 := Aside0.mk (show y160.length ≤ c0 from by omega)
               clear hr55 hC55 hroom55 hi055 hsz55
               have KY55 := Aside0.mk hy55
               clear hy55
               replace q55 := eq_true q55
               have q56 : ((rd y155 a2) : Int) ≤ ((l0.length : Int) : Int) := of_decide_eq_true aA
               obtain ⟨i056, hi056, _, hsz56, _⟩ := info_parts info43
               have hroom56 : l0.length ≤ c0 := HC0.out
               have hC56 : Kd.C k43 _ A0 l0.length l0 := HR0.out
               have q056 : (0 : Int) ≤ ((rd y155 a2) : Int) := of_decide_eq_true aA
               have hcut56 := cut_from (P := Try.prog) 22 43 .i64 Try.underlying22 hi056 5 hsz56 A0 l0.length c0 (rd y155 a2) q056 q56
               have hr56 := Kd.C_drop (m := ((rd y155 a2) : Int).toNat) (c := c0) hC56 (by omega) hroom56
               obtain ⟨A56, hA56⟩ : ∃ A1, A1 = (if c0 = ((rd y155 a2) : Int).toNat then A0 else (A0 : Option Addr).map (·.add (((rd y155 a2) : Int).toNat * 5))) := ⟨_, rfl⟩
               obtain ⟨c56, hc56⟩ : ∃ c1, c1 = c0 - ((rd y155 a2) : Int).toNat := ⟨_, rfl⟩
               have hy56 : y170.length = l0.length - ((rd y155 a2) : Int).toNat := (by rw [Ny170.out, List.length_drop] <;> omega)
               rw [show (l0).drop ((rd y155 a2) : Int).toNat = y170 from Ny170.out.symm] at hr56
               replace hr56 : Kd.C k43 _ A56 y170.length y170 := (by rw [hA56]; exact hr56)
               rw [← hy56, ← hA56, ← hc56] at hcut56
               have HR173 := Aside0.mk hr56
               have HC173 := Aside0.mk (show y170.length ≤ c56 from by rw [hy56, hc56]; exact Nat.sub_le_sub_right hroom56 _)
               clear hr56 hC56 hroom56 hi056 hsz56 hc56
               have KY56 := Aside0.mk hy56
               have KA56 := Aside0.mk hA56
               clear hy56 hA56
               replace q56 := eq_true q56
               refine start_ (n := 14) (S := fun w' => True) (ds := []) #[Z, Z, Z, Z, Z, Z, Z, Z, Z, Z, Z, Z, Z, Z] (by kernel_rfl) rfl rfl trivial (fun hHeld => ?_); refine with_tabW rows_Put.tab12 rows_Put.bits12 (fun HT_ HW_ => ?_)
               generalize w52.drew = w54 at HO_12 HB HR163 HR173 hHeld ⊢
               refine pA 0 61 #[Y, Z, Z, Z, Z, Z, Z, Z, Z, Z, Z, Z, Z, Z] HT_ ?_
               refine pA 1 62 #[Y, Y, Z, Z, Z, Z, Z, Z, Z, Z, Z, Z, Z, Z] HT_ ?_
               refine pA 2 63 #[Y, Y, Y, Z, Z, Z, Z, Z, Z, Z, Z, Z, Z, Z] HT_ ?_
               refine pA 4 65 #[Y, Y, Y, Z, Y, Z, Z, Z, Z, Z, Z, Z, Z, Z] HT_ ?_
               refine pA 5 66 #[Y, Y, Y, Z, Y, Y, Z, Z, Z, Z, Z, Z, Z, Z] HT_ ?_
               refine pA 7 68 #[Y, Y, Y, Z, Y, Y, Z, Y, Z, Z, Z, Z, Z, Z] HT_ ?_
               refine pA 8 69 #[Y, Y, Y, Z, Y, Y, Z, Y, Y, Z, Z, Z, Z, Z] HT_ ?_
               refine pA 9 70 #[Y, Y, Y, Z, Y, Y, Z, Y, Y, Y, Z, Z, Z, Z] HT_ ?_
               refine one_ (i := 3) (N := some 64) #[Y, Y, Y, Y, Y, Y, Z, Y, Y, Y, Z, Z, Z, Z] rfl rfl (one_of HT_.out (by kernel_rfl)) (by decide) (fun K hK => ?_)
               refine goes_ Try.func48 (by kernel_rfl) rfl #[.slice A0 y160.length c0, .int .i64 0] (by rfl) rfl rfl (by (try simp only [List.map_toArray, List.map_cons, List.map_nil]); first | done | rfl | (simp only [List.length_drop, List.length_take]; rfl)) ?_
               with_reducible refine (rows_moved.calls kj16 _ _ y160 0 t164 _ ?side1 ?side2 A29.out).mono ?_
               (case side1 => exact aC (Kd.C_below HR163.out HB.out))
               (case side2 => exact HC163.out)
               rintro e w57 ⟨v165, rfl, ho0, hb⟩
               refine ⟨_, rfl, ?_⟩
               have n0_ := Aside0.mk (Kd.R_below (aR HO_12) hb)
               have n1_ := Aside0.mk (Kd.N_lower (Kd.N_mono (ok' := fun k_ => (w.heap.size ≤ k_) ∧ some k_ ≠ (.slice (some ad159) y155.length co53 : Value).ownBlock) (Kd.S_N (Kd.S_bound (sT ho0))) (fun k_ hk_ => ⟨(Nat.le_trans (below_size (aB HB)) hk_.2.1), (Kd.fresh' (Kd.R_lt (aR HO_12)) k_ hk_.2.1)⟩)) (below_size (aB HB)))
               have n2_ := Aside0.mk (below_step (aB HB) hb)
               clear HO_12
               clear HB
               have HO_12 := n0_
               have HO166 := n1_
               have HB := n2_
               clear n0_ n1_ n2_
               (try clear hb)
               (try clear hb2)
               (try clear hk)
               (try clear hi)
               (try clear ho0)
               refine hK.out _ _ trivial (fun hHeld => ?_)
               clear hK K
               refine norm_ (a' := ?_) ?_ ?_
               rotate_left
               ·show Act.put _ (some 64) _ = _
                simp only [Act.put, List.setIfInBounds_toArray, List.set_cons_zero, List.set_cons_succ, i64_w, i32_w]
                rfl
               refine one_ (i := 6) (N := some 67) #[Y, Y, Y, Y, Y, Y, Y, Y, Y, Y, Z, Z, Z, Z] rfl rfl (one_of HT_.out (by kernel_rfl)) (by decide) (fun K hK => ?_)
               refine goes_ Try.func48 (by kernel_rfl) rfl #[.slice A3 l3.length c3, .int .i64 x10_4] (by rfl) rfl rfl (by (try simp only [List.map_toArray, List.map_cons, List.map_nil]); first | done | rfl | (simp only [List.length_drop, List.length_take]; rfl)) ?_
               with_reducible refine (rows_moved.calls kj16 _ _ l3 x10_4 t167 _ ?side1 ?side2 A30.out).mono ?_
               (case side1 => exact aC (Kd.C_below HR3.out HB.out))
               (case side2 => exact HC3.out)
               rintro e w58 ⟨v168, rfl, ho0, hb⟩
               refine ⟨_, rfl, ?_⟩
               have n0_ := Aside0.mk (Kd.R_below (aR HO_12) hb)
               have n1_ := Aside0.mk (Kd.N_elder' (aN HO166) (aS ho0) hb)
               have n2_ := Aside0.mk (Kd.N_lower (Kd.N_mono (ok' := fun k_ => (w.heap.size ≤ k_) ∧ some k_ ≠ (.slice (some ad159) y155.length co53 : Value).ownBlock ∧ some k_ ≠ (v165 : Value).ownBlock) (Kd.S_N (Kd.S_bound (sT ho0))) (fun k_ hk_ => ⟨(Nat.le_trans (below_size (aB HB)) hk_.2.1), (Kd.fresh' (Kd.R_lt (aR HO_12)) k_ hk_.2.1), (Kd.fresh' (Kd.N_lt (aN HO166)) k_ hk_.2.1)⟩)) (below_size (aB HB)))
               have n3_ := Aside0.mk (below_step (aB HB) hb)
               clear HO_12
               clear HO166
               clear HB
               have HO_12 := n0_
               have HO166 := n1_
               have HO169 := n2_
               have HB := n3_
               clear n0_ n1_ n2_ n3_
               (try clear hb)
               (try clear hb2)
               (try clear hk)
               (try clear hi)
               (try clear ho0)
               refine hK.out _ _ trivial (fun hHeld => ?_)
               clear hK K
               refine norm_ (a' := ?_) ?_ ?_
               rotate_left
               ·show Act.put _ (some 67) _ = _
                simp only [Act.put, List.setIfInBounds_toArray, List.set_cons_zero, List.set_cons_succ, i64_w, i32_w]
                rfl
               refine one_ (i := 10) (N := some 71) #[Y, Y, Y, Y, Y, Y, Y, Y, Y, Y, Y, Z, Z, Z] rfl rfl (one_of HT_.out (by kernel_rfl)) (by decide) (fun K hK => ?_)
               refine goes_ Try.func48 (by kernel_rfl) rfl #[.slice A56 y170.length c56, .int .i64 0] (by rfl) rfl rfl (by (try simp only [List.map_toArray, List.map_cons, List.map_nil]); first | done | rfl | (simp only [List.length_drop, List.length_take]; rfl)) ?_
               with_reducible refine (rows_moved.calls kj16 _ _ y170 0 t174 _ ?side1 ?side2 A33.out).mono ?_
               (case side1 => exact aC (Kd.C_below HR173.out HB.out))
               (case side2 => exact HC173.out)
               rintro e w59 ⟨v175, rfl, ho0, hb⟩
               refine ⟨_, rfl, ?_⟩
               have n0_ := Aside0.mk (Kd.R_below (aR HO_12) hb)
               have n1_ := Aside0.mk (Kd.N_elder' (aN HO166) (aS ho0) hb)
               have n2_ := Aside0.mk (Kd.N_elder' (aN HO169) (aS ho0) hb)
               have n3_ := Aside0.mk (Kd.N_lower (Kd.N_mono (ok' := fun k_ => (w.heap.size ≤ k_) ∧ some k_ ≠ (.slice (some ad159) y155.length co53 : Value).ownBlock ∧ some k_ ≠ (v165 : Value).ownBlock ∧ some k_ ≠ (v168 : Value).ownBlock) (Kd.S_N (Kd.S_bound (sT ho0))) (fun k_ hk_ => ⟨(Nat.le_trans (below_size (aB HB)) hk_.2.1), (Kd.fresh' (Kd.R_lt (aR HO_12)) k_ hk_.2.1), (Kd.fresh' (Kd.N_lt (aN HO166)) k_ hk_.2.1), (Kd.fresh' (Kd.N_lt (aN HO169)) k_ hk_.2.1)⟩)) (below_size (aB HB)))
               have n4_ := Aside0.mk (below_step (aB HB) hb)
               clear HO_12
               clear HO166
               clear HO169
               clear HB
               have HO_12 := n0_
               have HO166 := n1_
               have HO169 := n2_
               have HO176 := n3_
               have HB := n4_
               clear n0_ n1_ n2_ n3_ n4_
               (try clear hb)
               (try clear hb2)
               (try clear hk)
               (try clear hi)
               (try clear ho0)
               obtain ⟨Ao61, co61, eo61⟩ := Kd.N_slice HO176.out
               (first | subst eo61 | (injection eo61 with f1_ f2_ f3_; have f4_ := f1_.symm; have f5_ := f3_.symm; clear f1_ f2_ f3_; subst f4_; subst f5_))
               refine hK.out _ _ trivial (fun hHeld => ?_)
               clear hK K
               refine norm_ (a' := ?_) ?_ ?_
               rotate_left
               ·show Act.put _ (some 71) _ = _
                simp only [Act.put, List.setIfInBounds_toArray, List.set_cons_zero, List.set_cons_succ, i64_w, i32_w]
                rfl
               refine one_ (i := 11) (N := some 72) #[Y, Y, Y, Y, Y, Y, Y, Y, Y, Y, Y, Y, Z, Z] rfl rfl (one_of HT_.out (by kernel_rfl)) (by decide) (fun K hK => ?_)
               refine Kd.N_append_rows_step kT43 (w0 := w) w.heap.size (by rfl) (.tmp 67) (.tmp 71) 22 43 (.agg #[(.int .i64 0), (.int .i64 0), (.string ⟨#[]⟩), (.string ⟨#[]⟩), (.slice none 0 0)]) 72 rfl Try.underlying22 info43 rfl (by decide) (by omega) v168 t167 t174 _ _ _ (fun k_ => (w.heap.size ≤ k_) ∧ some k_ ≠ (.slice (some ad159) y155.length co53 : Value).ownBlock ∧ some k_ ≠ (v165 : Value).ownBlock) (fun k_ => ((fun k_ => (w.heap.size ≤ k_) ∧ some k_ ≠ (.slice (some ad159) y155.length co53 : Value).ownBlock ∧ some k_ ≠ (v165 : Value).ownBlock)) k_ ∧ some k_ ≠ (v168 : Value).ownBlock) rfl rfl ?aO ?aR (fun _ hk => hk) ?aF ?aB ?aS ?aL ?_
               (case aR => exact (by skip; exact Kd.N_F (Kd.N_mono (ok' := (fun k_ => ((fun k_ => (w.heap.size ≤ k_) ∧ some k_ ≠ (.slice (some ad159) y155.length co53 : Value).ownBlock ∧ some k_ ≠ (v165 : Value).ownBlock)) k_ ∧ some k_ ≠ (v168 : Value).ownBlock)) (HO176.out) (fun k_ hk => ⟨⟨hk.1, ⟨hk.2.1, hk.2.2.1⟩⟩, hk.2.2.2⟩))))
               (case aB => exact (aB HB))
               (case aF => exact (fun k_ hk => ⟨(Nat.le_trans (below_size (aB HB)) hk), Kd.fresh' (Kd.R_lt (aR HO_12)) k_ hk, Kd.fresh' (Kd.N_lt (aN HO166)) k_ hk⟩))
               (case aO => exact (by (with_reducible repeat (first | apply Kd.N_alloc | apply Kd.N_drewN | apply Kd.N_drew)); exact Kd.N_mono HO169.out (fun _ hk => ⟨hk.1.1, ⟨hk.1.2.1, hk.1.2.2⟩⟩)))
               (case aS => exact (below_size (aB HB)))
               (case aL => have := LMc34.out; omega)
               intro v178 w60 ho hb hg hat
               rw [← Ny177.out] at ho
               have n0_ := Aside0.mk (Kd.R_over' (aR HO_12) (Kd.N_typed (aN HO169)) (by decide) hg)
               have n1_ := Aside0.mk (Kd.N_afterv (ok := (fun k_ => (w.heap.size ≤ k_) ∧ some k_ ≠ (.slice (some ad159) y155.length co53 : Value).ownBlock ∧ some k_ ≠ (.slice Ao61 t174.length co61 : Value).ownBlock)) (by (with_reducible repeat (first | apply Kd.N_alloc | apply Kd.N_drewN | apply Kd.N_drew)); exact Kd.N_mono HO166.out (fun _ hk => ⟨⟨hk.1.1.1, ⟨hk.1.1.2, hk.2⟩⟩, hk.1.2⟩)) hg hat)
               have n2_ := Aside0.mk (Kd.N_afterv (ok := (fun k_ => (w.heap.size ≤ k_) ∧ some k_ ≠ (.slice (some ad159) y155.length co53 : Value).ownBlock ∧ some k_ ≠ (v165 : Value).ownBlock)) (by (with_reducible repeat (first | apply Kd.N_alloc | apply Kd.N_drewN | apply Kd.N_drew)); exact Kd.N_mono HO176.out (fun _ hk => ⟨⟨hk.1, ⟨hk.2.1, hk.2.2.1⟩⟩, hk.2.2.2⟩)) hg hat)
               have n3_ := Aside0.mk (hb)
               have n4_ := Aside0.mk (ho)
               clear HO_12
               clear HO166
               clear HO176
               clear HB
               clear HO169
               have HO_12 := n0_
               have HO166 := n1_
               have HO176 := n2_
               have HB := n3_
               have HO179 := n4_
               clear n0_ n1_ n2_ n3_ n4_
               clear ho hb hg hat
               obtain ⟨Ao63, co63, eo63⟩ := Kd.N_slice HO179.out
               (first | subst eo63 | (injection eo63 with f1_ f2_ f3_; have f4_ := f1_.symm; have f5_ := f3_.symm; clear f1_ f2_ f3_; subst f4_; subst f5_))
               refine hK.out _ _ trivial (fun hHeld => ?_)
               clear hK K
               refine norm_ (a' := ?_) ?_ ?_
               rotate_left
               ·show Act.put _ (some 72) _ = _
                simp only [Act.put, List.setIfInBounds_toArray, List.set_cons_zero, List.set_cons_succ, i64_w, i32_w]
                rfl
               refine one_ (i := 12) (N := some 73) #[Y, Y, Y, Y, Y, Y, Y, Y, Y, Y, Y, Y, Y, Z] rfl rfl (one_of HT_.out (by kernel_rfl)) (by decide) (fun K hK => ?_)
               refine Kd.N_append_rows_step kT43 (w0 := w) w.heap.size (by rfl) (.tmp 64) (.tmp 72) 22 43 (.agg #[(.int .i64 0), (.int .i64 0), (.string ⟨#[]⟩), (.string ⟨#[]⟩), (.slice none 0 0)]) 72 rfl Try.underlying22 info43 rfl (by decide) (by omega) v165 t164 y177 _ _ _ (fun k_ => (w.heap.size ≤ k_) ∧ some k_ ≠ (.slice (some ad159) y155.length co53 : Value).ownBlock) (fun k_ => ((fun k_ => (w.heap.size ≤ k_) ∧ some k_ ≠ (.slice (some ad159) y155.length co53 : Value).ownBlock)) k_ ∧ some k_ ≠ (v165 : Value).ownBlock) rfl rfl ?aO ?aR (fun _ hk => hk) ?aF ?aB ?aS ?aL ?_
               (case aR => exact (by skip; exact Kd.N_F (Kd.N_mono (ok' := (fun k_ => ((fun k_ => (w.heap.size ≤ k_) ∧ some k_ ≠ (.slice (some ad159) y155.length co53 : Value).ownBlock)) k_ ∧ some k_ ≠ (v165 : Value).ownBlock)) (HO179.out) (fun k_ hk => ⟨⟨hk.1, hk.2.1⟩, hk.2.2⟩))))
               (case aB => exact (aB HB))
               (case aF => exact (fun k_ hk => ⟨(Nat.le_trans (below_size (aB HB)) hk), Kd.fresh' (Kd.R_lt (aR HO_12)) k_ hk⟩))
               (case aO => exact (by (with_reducible repeat (first | apply Kd.N_alloc | apply Kd.N_drewN | apply Kd.N_drew)); exact Kd.N_mono HO166.out (fun _ hk => ⟨hk.1.1, hk.1.2.1⟩)))
               (case aS => exact (below_size (aB HB)))
               (case aL => have := LMc35.out; omega)
               intro v181 w62 ho hb hg hat
               rw [← Ny180.out] at ho
               have n0_ := Aside0.mk (Kd.R_over' (aR HO_12) (Kd.N_typed (aN HO166)) (by decide) hg)
               have n1_ := Aside0.mk (Kd.N_afterv (ok := (fun k_ => (w.heap.size ≤ k_) ∧ some k_ ≠ (.slice (some ad159) y155.length co53 : Value).ownBlock ∧ some k_ ≠ (.slice Ao63 y177.length co63 : Value).ownBlock)) (by (with_reducible repeat (first | apply Kd.N_alloc | apply Kd.N_drewN | apply Kd.N_drew)); exact Kd.N_mono HO176.out (fun _ hk => ⟨⟨hk.1.1, ⟨hk.1.2.1, hk.2⟩⟩, hk.1.2.2⟩)) hg hat)
               have n2_ := Aside0.mk (Kd.N_afterv (ok := (fun k_ => (w.heap.size ≤ k_) ∧ some k_ ≠ (.slice (some ad159) y155.length co53 : Value).ownBlock)) (by (with_reducible repeat (first | apply Kd.N_alloc | apply Kd.N_drewN | apply Kd.N_drew)); exact Kd.N_mono HO179.out (fun _ hk => ⟨⟨hk.1, hk.2.1⟩, hk.2.2⟩)) hg hat)
               have n3_ := Aside0.mk (hb)
               have n4_ := Aside0.mk (ho)
               clear HO_12
               clear HO176
               clear HO179
               clear HB
               clear HO166
               have HO_12 := n0_
               have HO176 := n1_
               have HO179 := n2_
               have HB := n3_
               have HO182 := n4_
               clear n0_ n1_ n2_ n3_ n4_
               clear ho hb hg hat
               refine hK.out _ _ trivial (fun hHeld => ?_)
               clear hK K
               refine norm_ (a' := ?_) ?_ ?_
               rotate_left
               ·show Act.put _ (some 73) _ = _
                simp only [Act.put, List.setIfInBounds_toArray, List.set_cons_zero, List.set_cons_succ, i64_w, i32_w]
                rfl
               refine pA 13 14 #[Y, Y, Y, Y, Y, Y, Y, Y, Y, Y, Y, Y, Y, Y] HT_ ?_
               refine done_ (done_of HT_.out (by kernel_rfl)) ?_
               obtain ⟨Ao64, co64, eo64⟩ := Kd.N_slice HO182.out
               subst eo64
               try go_wp2_with (first | ((with_reducible refine gate_callee (f := 36) rfl ?_); refine goesL_ (some 75) rfl rfl Try.func36 (by kernel_rfl) rfl #[.slice Ao64 y180.length co64] rfl (by (try simp only [List.map_toArray, List.map_cons, List.map_nil]); first | done | rfl | (simp only [List.length_drop, List.length_take]; rfl)) ?_; (with_reducible refine (rows_big.calls _ _ y180 false _ ?side1 ?side2 A36.out).mono ?_); (case side1 => exact aC (cT (Kd.N_reads' HO182.out).2.2)); (case side2 => exact (Kd.N_reads' HO182.out).2.1); rintro e w65 ⟨rfl, hb⟩; refine ⟨_, rfl, ?_⟩; have n0_ := Aside0.mk (Kd.R_below (aR HO_12) hb); have n1_ := Aside0.mk (Kd.N_below (aN HO176) hb); have n2_ := Aside0.mk (Kd.N_below (aN HO179) hb); have n3_ := Aside0.mk (Kd.N_below (aN HO182) hb); have n4_ := Aside0.mk (below_step (aB HB) hb); clear HO_12; clear HO176; clear HO179; clear HO182; clear HB; have HO_12 := n0_; have HO176 := n1_; have HO179 := n2_; have HO182 := n3_; have HB := n4_; clear n0_ n1_ n2_ n3_ n4_; (try clear hb); (try clear hb2); (try clear hk); (try clear hi)))
               go_ret2
               exact ⟨_, by first | rfl | (simp [errW_none, errW_some] <;> rfl) | (simp [*, errW_none, errW_some] <;> rfl), by (with_reducible repeat (first | apply Kd.N_alloc | apply Kd.N_drewN | apply Kd.N_drew)); exact Kd.N_mono HO182.out (fun _ hk => hk.1), aB HB⟩
             ·rw [if_neg c35] at H
              exact absurd H (by simp)
            ·rw [if_neg c34] at H
             exact absurd H (by simp)
           ·rw [if_neg c28] at H
            exact absurd H (by simp)
          ·rw [if_neg c27] at H
           exact absurd H (by simp)
         ·rw [if_neg c26] at H
          exact absurd H (by simp)
        ·rw [if_neg c25] at H
         exact absurd H (by simp)
       ·replace c24 := Bool.eq_false_iff.mpr c24
        subst c24
        have H1 : (some (([] : List (S43)), 40)) = some (r1, r2) := by rw [if_neg (show ¬ (false = true) by decide)] at H; exact H
        clear H
        have H := H1
        clear H1
        simp only [Option.some.injEq, Prod.mk.injEq] at H
        obtain ⟨rfl, rfl⟩ := H
        go_wp2_with (first | ((with_reducible refine gate_callee (f := 37) rfl ?_); refine goesL_ (some 55) rfl rfl Try.func37 (by kernel_rfl) rfl #[.slice A3 l3.length c3] rfl (by (try simp only [List.map_toArray, List.map_cons, List.map_nil]); first | done | rfl | (simp only [List.length_drop, List.length_take]; rfl)) ?_; (with_reducible refine (rows_right.calls kj16 _ _ l3 false _ ?side1 ?side2 A23.out).mono ?_); (case side1 => exact aC (Kd.C_below HR3.out HB.out)); (case side2 => exact HC3.out); rintro e w66 ⟨rfl, hb⟩; refine ⟨_, rfl, ?_⟩; have n0_ := Aside0.mk (Kd.R_below (aR HO_12) hb); have n1_ := Aside0.mk (below_step (aB HB) hb); clear HO_12; clear HB; have HO_12 := n0_; have HB := n1_; clear n0_ n1_; (try clear hb); (try clear hb2); (try clear hk); (try clear hi)))
        go_ret2
        exact ⟨_, by first | rfl | (simp [errW_none, errW_some] <;> rfl) | (simp [*, errW_none, errW_some] <;> rfl), by first | exact Kd.S_nil _ _ _ _ _ | exact Kd.N_nil _ _ _ _ _ | exact Kd.V_nil _ _ _ _ _ | exact Kd.Q_nil _ _ _ _ _ | exact Kd.R_nil _ _ _ _ _, aB HB⟩
   ·rw [if_neg c16] at H
    exact absurd H (by simp)

theorem rows_Put.calls (k : Nat) (A0 : Option Addr) (c0 : Nat) (l0 : List (S43)) (a1 : Int) (a2 : Int) (A3 : Option Addr) (c3 : Nat) (l3 : List (S43)) (r1 : List (S43)) (r2 : Int) (w : World) (hr0 : Kd.C k43 w A0 l0.length l0) (hc0 : l0.length ≤ c0) (hr3 : Kd.C k43 w A3 l3.length l3) (hc3 : l3.length ≤ c3) (h : rows_Put.f k l0 a1 a2 l3 = some (r1, r2)) :
  Calls Try.prog 28 #[.slice A0 l0.length c0, .int .i64 a1, .int .i64 a2, .slice A3 l3.length c3] w fun e w' => ∃ v0_ : Value, e = .returned (.tuple #[v0_, .int .i64 r2]) ∧ Kd.N k43 43 w' w.heap.size (fun k_ => (w.heap.size ≤ k_)) v0_ r1 ∧ Below w.heap.size w w' :=
  (rows_Put.callsT k A0 c0 l0 a1 a2 A3 c3 l3 r1 r2 w hr0 hc0 hr3 hc3 h).mono fun e w' ⟨v0, he, hn, hb⟩ => ⟨v0, he, nT hn, hb⟩

end Go.Proofs.Ytllggaogjcknoaa.QA
