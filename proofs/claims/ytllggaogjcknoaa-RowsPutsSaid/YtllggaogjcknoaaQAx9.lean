-- Written by a program of this claim's own (wip/gen/gen.py), out of the translation; an ordinary proof text.
import Derived.Test.YtllggaogjcknoaaQAx0
import Derived.Test.YtllggaogjcknoaaQAx5
import Derived.Test.YtllggaogjcknoaaQAx7
namespace Go.Proofs.Ytllggaogjcknoaa.QA
open Go.RowKit Go.Proofs.YtllggaogjcknoaaW.PrintWords Go.Proofs.YtllggaogjcknoaaW.PrintLast Go.Proofs.YtllggaogjcknoaaW.PrintMore
attribute [local go_sem] max2_int min2_int max_two min_two max_three min_three max_four min_four   -- for this text's walks alone
set_option linter.unusedVariables false
set_option linter.unusedSimpArgs false

/-! ### rows_Take: function 30 -/
def rows_Take.f (k : Nat) (l0 : List (S43)) (a1 : Int) : Option ((List (S43)) × Int) := (rows_is.f l0 a1).bind fun t184 => (if t184 = true then ((rows_End.f k l0 a1).bind fun t185 => (if 0 ≤ a1 then (if a1 ≤ t185 then (if t185 ≤ (l0.length : Int) then (if a1 < (l0.length : Int) then ((rows_moved.f k ((l0.take (t185 : Int).toNat).drop (a1 : Int).toNat) (wrap64 (-((rd_T43 l0 a1).f0)))).bind fun t191 => (some (t191, 0))) else (none)) else (none)) else (none)) else (none))) else (some (([] : List (S43)), 41)))
theorem rows_Take.mono : ∀ a0 a1 k, LeO (rows_Take.f k a0 a1) (rows_Take.f (k + 1) a0 a1) := by
 intro a0 a1 k
 unfold rows_Take.f
 repeat' first
   | (with_reducible exact rows_End.mono _ _ _)
   | (with_reducible exact rows_moved.mono _ _ _)
   | (with_reducible exact LeO.refl _)
   | (with_reducible exact LeO.none _)
   | (with_reducible refine LeO.ite ?_ ?_)
   | (with_reducible refine LeO.bind ?_ (fun _ => ?_))
   | exact rows_End.mono _ _ _
   | exact rows_moved.mono _ _ _
   | exact LeO.none _
   | refine LeO.ite ?_ ?_
   | refine LeO.bind ?_ (fun _ => ?_)
def rows_Take.T3 : Bool × List (List Nat × List Nat) := (true, [([], []), ([], []), ([], []), ([], []), ([2, 3], [2, 3]), ([0, 1, 4], [0, 1, 4]), ([], []), ([], []), ([6, 7], [6, 7]), ([8], [8]), ([9], [9]), ([10], [10]), ([5, 11, 4], [5, 11]), ([12, 12, 0, 1, 2, 3, 4, 5, 6, 7, 8, 9, 10, 11, 12], [12]), ([13, 0, 1, 2, 3, 4, 5, 6, 7, 8, 9, 10, 11, 12, 13], [])])
def rows_Take.B3 : List Nat := [0, 0, 0, 0, 12, 31, 0, 0, 192, 448, 960, 1984, 4095, 8191, 16383]
theorem rows_Take.tab3 : rtab .any (opsOf Try.f30 3) = rows_Take.T3 := by kernel_rfl
theorem rows_Take.bits3 : waitsOk rows_Take.T3.2 rows_Take.B3 = true := by kernel_rfl
set_option maxHeartbeats 8000000 in
set_option maxRecDepth 100000 in
theorem rows_Take.calls (k : Nat) (A0 : Option Addr) (c0 : Nat) (l0 : List (S43)) (a1 : Int) (r1 : List (S43)) (r2 : Int) (w : World) (hr0 : Kd.C k43 w A0 l0.length l0) (hc0 : l0.length ≤ c0) (h : rows_Take.f k l0 a1 = some (r1, r2)) :
  Calls Try.prog 30 #[.slice A0 l0.length c0, .int .i64 a1] w fun e w' => ∃ v0_ : Value, e = .returned (.tuple #[v0_, .int .i64 r2]) ∧ Kd.S k43 43 w' w.heap.size (fun _ => True) v0_ r1 ∧ Below w.heap.size w w' := by
 have HR0 := Aside0.mk hr0
 have HC0 := Aside0.mk hc0
 clear hr0 hc0
 have HB := Aside0.mk (Below.refl w.heap.size w)
 have H : ((rows_is.f l0 a1).bind fun t184 => (if t184 = true then ((rows_End.f k l0 a1).bind fun t185 => (if 0 ≤ a1 then (if a1 ≤ t185 then (if t185 ≤ (l0.length : Int) then (if a1 < (l0.length : Int) then ((rows_moved.f k ((l0.take (t185 : Int).toNat).drop (a1 : Int).toNat) (wrap64 (-((rd_T43 l0 a1).f0)))).bind fun t191 => (some (t191, 0))) else (none)) else (none)) else (none)) else (none))) else (some (([] : List (S43)), 41)))) = some (r1, r2) := h
 clear h
 replace H := Option.bind_eq_some_iff.mp H
 obtain ⟨t184, A30, H⟩ := H
 replace H : (if t184 = true then ((rows_End.f k l0 a1).bind fun t185 => (if 0 ≤ a1 then (if a1 ≤ t185 then (if t185 ≤ (l0.length : Int) then (if a1 < (l0.length : Int) then ((rows_moved.f k ((l0.take (t185 : Int).toNat).drop (a1 : Int).toNat) (wrap64 (-((rd_T43 l0 a1).f0)))).bind fun t191 => (some (t191, 0))) else (none)) else (none)) else (none)) else (none))) else (some (([] : List (S43)), 41))) = some (r1, r2) := H
 have A3 := Aside0.mk A30
 clear A30
 by_cases c4 : t184 = true
 ·subst c4
  have H1 : ((rows_End.f k l0 a1).bind fun t185 => (if 0 ≤ a1 then (if a1 ≤ t185 then (if t185 ≤ (l0.length : Int) then (if a1 < (l0.length : Int) then ((rows_moved.f k ((l0.take (t185 : Int).toNat).drop (a1 : Int).toNat) (wrap64 (-((rd_T43 l0 a1).f0)))).bind fun t191 => (some (t191, 0))) else (none)) else (none)) else (none)) else (none))) = some (r1, r2) := by rw [if_pos rfl] at H; exact H
  clear H
  have H := H1
  clear H1
  replace H := Option.bind_eq_some_iff.mp H
  obtain ⟨t185, A50, H⟩ := H
  replace H : (if 0 ≤ a1 then (if a1 ≤ t185 then (if t185 ≤ (l0.length : Int) then (if a1 < (l0.length : Int) then ((rows_moved.f k ((l0.take (t185 : Int).toNat).drop (a1 : Int).toNat) (wrap64 (-((rd_T43 l0 a1).f0)))).bind fun t191 => (some (t191, 0))) else (none)) else (none)) else (none)) else (none)) = some (r1, r2) := H
  have A5 := Aside0.mk A50
  clear A50
  by_cases c6 : 0 ≤ a1
  ·rw [if_pos c6] at H
   have c6b0 := eq_true c6
   have c6b1 : decide (0 ≤ a1) = true := decide_eq_true c6
   clear c6
   by_cases c7 : a1 ≤ t185
   ·rw [if_pos c7] at H
    have c7b0 := eq_true c7
    have c7b1 : decide (a1 ≤ t185) = true := decide_eq_true c7
    clear c7
    by_cases c8 : t185 ≤ (l0.length : Int)
    ·rw [if_pos c8] at H
     have c8b0 := eq_true c8
     have c8b1 : decide (t185 ≤ (l0.length : Int)) = true := decide_eq_true c8
     clear c8
     obtain ⟨y186, hy186⟩ : ∃ y_ : List (S43), y_ = ((l0.take (t185 : Int).toNat).drop (a1 : Int).toNat) := ⟨_, rfl⟩
     replace H : (if a1 < (l0.length : Int) then ((rows_moved.f k y186 (wrap64 (-((rd_T43 l0 a1).f0)))).bind fun t191 => (some (t191, 0))) else (none)) = some (r1, r2) := by first | (rw [hy186]; with_reducible exact H) | (have H2_ := (Option.bind_some _ _).symm.trans H; rw [hy186]; with_reducible exact H2_) | (have H2_ := (Option.bind_some _ _).symm.trans H; with_reducible exact H2_) | with_reducible exact H | (rw [hy186]; exact H) | exact H
     have Ny186 := Aside0.mk hy186
     clear hy186
     by_cases c9 : a1 < (l0.length : Int)
     ·rw [if_pos c9] at H
      have c9b0 : decide (a1 < (l0.length : Int)) = true := decide_eq_true c9
      clear c9
      replace H := Option.bind_eq_some_iff.mp H
      obtain ⟨t191, A100, H⟩ := H
      replace H : (some (t191, 0)) = some (r1, r2) := H
      have A10 := Aside0.mk A100
      clear A100
      simp only [Option.some.injEq, Prod.mk.injEq] at H
      obtain ⟨rfl, rfl⟩ := H
      go_enter Try.func30, Try.ntmps30
      try go_wp2_with (first | ((with_reducible refine gate_callee (f := 44) rfl ?_); refine goesL_ (some 8) rfl rfl Try.func44 (by kernel_rfl) rfl #[.slice A0 l0.length c0, .int .i64 a1] rfl (by (try simp only [List.map_toArray, List.map_cons, List.map_nil]); first | done | rfl | (simp only [List.length_drop, List.length_take]; rfl)) ?_; (with_reducible refine (rows_is.calls _ _ l0 a1 true _ ?side1 ?side2 A3.out).mono ?_); (case side1 => exact aC HR0.out); (case side2 => exact HC0.out); rintro e w' ⟨rfl, ⟨nd, rfl⟩⟩; refine ⟨_, rfl, ?_⟩))
      generalize hq_ : World.drewN w _ = w11
      have n0_ : Aside0 (Below w.heap.size w w11) := ⟨by rw [← hq_]; exact (aB HB)⟩
      clear HB hq_
      have HB := n0_
      clear n0_
      have n0_ := Aside0.mk (below_drew1 HB.out)
      clear HB
      have HB := n0_
      clear n0_
      have p190 : 0 ≤ (a1 : Int) := of_decide_eq_true aA
      have q190 : a1 < (l0.length : Int) := of_decide_eq_true aA
      obtain ⟨ad190, A190_4, c190_4, e190, hx190_0, hx190_1, hx190_2, hx190_3, hx190_4, hl190_4, hi190_4⟩ := at_T43 HR0.out a1 p190 q190
      have hw190_4 := hx190_4
      have hw190_3 := hx190_3
      have hw190_2 := hx190_2
      have hw190_1 := hx190_1
      have hw190_0 := hx190_0
      cases e190
      replace hx190_0 := (HB.out.cell (World.block_lt_of_cell? w _ hx190_0)).trans hx190_0
      replace hx190_1 := (HB.out.cell (World.block_lt_of_cell? w _ hx190_1)).trans hx190_1
      replace hx190_2 := (HB.out.cell (World.block_lt_of_cell? w _ hx190_2)).trans hx190_2
      replace hx190_3 := (HB.out.cell (World.block_lt_of_cell? w _ hx190_3)).trans hx190_3
      replace hx190_4 := (HB.out.cell (World.block_lt_of_cell? w _ hx190_4)).trans hx190_4
      have HR190_4 := Aside0.mk hi190_4
      have HC190_4 := Aside0.mk hl190_4
      clear hi190_4 hl190_4
      replace p190 := eq_true p190
      replace q190 := eq_true q190
      refine start_ (n := 15) (S := fun w' => w'.cell? (ad190.add ((a1).toNat * 5)) = some (.int .i64 ((rd_T43 l0 a1).f0)) ∧ w'.cell? ⟨(ad190.add ((a1).toNat * 5)).block, (ad190.add ((a1).toNat * 5)).off + 1, none⟩ = some (.int .i64 ((rd_T43 l0 a1).f1)) ∧ w'.cell? ⟨(ad190.add ((a1).toNat * 5)).block, (ad190.add ((a1).toNat * 5)).off + 2, none⟩ = some (.string ((rd_T43 l0 a1).f2)) ∧ w'.cell? ⟨(ad190.add ((a1).toNat * 5)).block, (ad190.add ((a1).toNat * 5)).off + 3, none⟩ = some (.string ((rd_T43 l0 a1).f3)) ∧ w'.cell? ⟨(ad190.add ((a1).toNat * 5)).block, (ad190.add ((a1).toNat * 5)).off + 4, none⟩ = some (.slice A190_4 ((rd_T43 l0 a1).f4).length c190_4)) (ds := []) #[Z, Z, Z, Z, Z, Z, Z, Z, Z, Z, Z, Z, Z, Z, Z] (by kernel_rfl) rfl rfl ⟨((HB.out.cell (World.block_lt_of_cell? w _ hw190_0)).trans hw190_0), ((HB.out.cell (World.block_lt_of_cell? w _ hw190_1)).trans hw190_1), ((HB.out.cell (World.block_lt_of_cell? w _ hw190_2)).trans hw190_2), ((HB.out.cell (World.block_lt_of_cell? w _ hw190_3)).trans hw190_3), ((HB.out.cell (World.block_lt_of_cell? w _ hw190_4)).trans hw190_4)⟩ (fun hHeld => ?_); refine with_tabW rows_Take.tab3 rows_Take.bits3 (fun HT_ HW_ => ?_)
      generalize w11.drew = w12 at HB HR190_4 hx190_0 hx190_1 hx190_2 hx190_3 hx190_4 hHeld ⊢
      refine pA 0 10 #[Y, Z, Z, Z, Z, Z, Z, Z, Z, Z, Z, Z, Z, Z, Z] HT_ ?_
      refine pA 1 11 #[Y, Y, Z, Z, Z, Z, Z, Z, Z, Z, Z, Z, Z, Z, Z] HT_ ?_
      refine pA 2 12 #[Y, Y, Y, Z, Z, Z, Z, Z, Z, Z, Z, Z, Z, Z, Z] HT_ ?_
      refine pA 3 13 #[Y, Y, Y, Y, Z, Z, Z, Z, Z, Z, Z, Z, Z, Z, Z] HT_ ?_
      refine pA 6 16 #[Y, Y, Y, Y, Z, Z, Y, Z, Z, Z, Z, Z, Z, Z, Z] HT_ ?_
      refine pA 7 17 #[Y, Y, Y, Y, Z, Z, Y, Y, Z, Z, Z, Z, Z, Z, Z] HT_ ?_
      refine pA 8 18 #[Y, Y, Y, Y, Z, Z, Y, Y, Y, Z, Z, Z, Z, Z, Z] HT_ ?_
      refine pA 9 19 #[Y, Y, Y, Y, Z, Z, Y, Y, Y, Y, Z, Z, Z, Z, Z] HT_ ?_
      refine take_ (i := 10) (N := some 20) (v := ?_) (a' := ?_) #[Y, Y, Y, Y, Z, Z, Y, Y, Y, Y, Y, Z, Z, Z, Z] rfl rfl (take_ofW HT_.out HW_.out (by kernel_rfl)) (fun _ _ _ h => h) (Or.inl ⟨by rfl, ?_⟩) hHeld ?_ ?_
      rotate_left
      ·rintro w' ⟨s0, s1, s2, s3, s4⟩
       go_simp
       with_reducible rfl
      rotate_left
      ·simp only [Act.put, List.setIfInBounds_toArray, List.set_cons_zero, List.set_cons_succ, i64_w, i32_w]
       rfl
      refine pA 11 21 #[Y, Y, Y, Y, Z, Z, Y, Y, Y, Y, Y, Y, Z, Z, Z] HT_ ?_
      refine one_ (i := 4) (N := some 14) #[Y, Y, Y, Y, Y, Z, Y, Y, Y, Y, Y, Y, Z, Z, Z] rfl rfl (one_of HT_.out (by kernel_rfl)) (by decide) (fun K hK => ?_)
      refine goes_ Try.func19 (by kernel_rfl) rfl #[.slice (some ad190) l0.length c0, .int .i64 a1] (by rfl) rfl rfl (by (try simp only [List.map_toArray, List.map_cons, List.map_nil]); first | done | rfl | (simp only [List.length_drop, List.length_take]; rfl)) ?_
      with_reducible refine (rows_End.calls k _ _ l0 a1 t185 _ ?side1 ?side2 A5.out).mono ?_
      (case side1 => exact aC (Kd.C_below HR0.out HB.out))
      (case side2 => exact HC0.out)
      rintro e w' ⟨rfl, ⟨nd, rfl⟩⟩
      refine ⟨_, rfl, ?_⟩
      have q13 : (t185 : Int) ≤ ((l0.length : Int) : Int) := of_decide_eq_true aA
      obtain ⟨i013, hi013, _, hsz13, _⟩ := info_parts info43
      have hroom13 : l0.length ≤ c0 := HC0.out
      have hC13 : Kd.C k43 _ (some ad190) l0.length l0 := HR0.out
      have ql13 : (a1 : Int) ≤ (t185 : Int) := of_decide_eq_true aA
      have q013 : (0 : Int) ≤ (a1 : Int) := of_decide_eq_true aA
      have hcut13 := cut_mid (P := Try.prog) 22 43 .i64 .i64 Try.underlying22 hi013 5 hsz13 (some ad190) l0.length c0 a1 t185 q013 ql13 q13 hroom13
      have hr13 := Kd.C_mid (lo := (a1 : Int).toNat) (hi := (t185 : Int).toNat) (c := c0) hC13 (by omega) (by omega) hroom13
      obtain ⟨A13, hA13⟩ : ∃ A1, A1 = (if c0 = (a1 : Int).toNat then (some ad190) else ((some ad190) : Option Addr).map (·.add ((a1 : Int).toNat * 5))) := ⟨_, rfl⟩
      obtain ⟨c13, hc13⟩ : ∃ c1, c1 = c0 - (a1 : Int).toNat := ⟨_, rfl⟩
      have hy13 : y186.length = (t185 : Int).toNat - (a1 : Int).toNat := (by rw [Ny186.out, List.length_drop, List.length_take] <;> omega)
      rw [show ((l0).take (t185 : Int).toNat).drop (a1 : Int).toNat = y186 from Ny186.out.symm] at hr13
      replace hr13 : Kd.C k43 _ A13 y186.length y186 := (by rw [hA13]; exact hr13)
      rw [← hy13, ← hA13, ← hc13] at hcut13
      have HR189 := Aside0.mk hr13
      have HC189 := Aside0.mk (show y186.length ≤ c13 from by rw [hy13, hc13]; exact Nat.sub_le_sub_right (Nat.le_trans (by omega) hroom13) _)
      clear hr13 hC13 hroom13 hi013 hsz13 hc13
      have KY13 := Aside0.mk hy13
      have KA13 := Aside0.mk hA13
      clear hy13 hA13
      replace q13 := eq_true q13
      refine hK.out _ _ ⟨((HB.out.cell (World.block_lt_of_cell? w _ hw190_0)).trans hw190_0), ((HB.out.cell (World.block_lt_of_cell? w _ hw190_1)).trans hw190_1), ((HB.out.cell (World.block_lt_of_cell? w _ hw190_2)).trans hw190_2), ((HB.out.cell (World.block_lt_of_cell? w _ hw190_3)).trans hw190_3), ((HB.out.cell (World.block_lt_of_cell? w _ hw190_4)).trans hw190_4)⟩ (fun hHeld => ?_)
      clear hK K
      refine norm_ (a' := ?_) ?_ ?_
      rotate_left
      ·show Act.put _ (some 14) _ = _
       simp only [Act.put, List.setIfInBounds_toArray, List.set_cons_zero, List.set_cons_succ, i64_w, i32_w]
       rfl
      refine pA 5 15 #[Y, Y, Y, Y, Y, Y, Y, Y, Y, Y, Y, Y, Z, Z, Z] HT_ ?_
      refine one_ (i := 12) (N := some 22) #[Y, Y, Y, Y, Y, Y, Y, Y, Y, Y, Y, Y, Y, Z, Z] rfl rfl (one_of HT_.out (by kernel_rfl)) (by decide) (fun K hK => ?_)
      refine goes_ Try.func48 (by kernel_rfl) rfl #[.slice A13 y186.length c13, .int .i64 (wrap64 (-((rd_T43 l0 a1).f0)))] (by rfl) rfl rfl (by (try simp only [List.map_toArray, List.map_cons, List.map_nil]); first | done | rfl | (simp only [List.length_drop, List.length_take]; rfl)) ?_
      with_reducible refine (rows_moved.calls k _ _ y186 (wrap64 (-((rd_T43 l0 a1).f0))) t191 _ ?side1 ?side2 A10.out).mono ?_
      (case side1 => exact aC (Kd.C_below HR189.out (aB HB)))
      (case side2 => exact HC189.out)
      rintro e w14 ⟨v192, rfl, ho0, hb⟩
      refine ⟨_, rfl, ?_⟩
      have n0_ := Aside0.mk (Kd.S_lower ho0 (below_size (aB HB)))
      have n1_ := Aside0.mk (below_step (aB HB) hb)
      clear HB
      have HO193 := n0_
      have HB := n1_
      clear n0_ n1_
      (try clear hb)
      (try clear hb2)
      (try clear hk)
      (try clear hi)
      (try clear ho0)
      refine hK.out _ _ ⟨((HB.out.cell (World.block_lt_of_cell? w _ hw190_0)).trans hw190_0), ((HB.out.cell (World.block_lt_of_cell? w _ hw190_1)).trans hw190_1), ((HB.out.cell (World.block_lt_of_cell? w _ hw190_2)).trans hw190_2), ((HB.out.cell (World.block_lt_of_cell? w _ hw190_3)).trans hw190_3), ((HB.out.cell (World.block_lt_of_cell? w _ hw190_4)).trans hw190_4)⟩ (fun hHeld => ?_)
      clear hK K
      refine norm_ (a' := ?_) ?_ ?_
      rotate_left
      ·show Act.put _ (some 22) _ = _
       simp only [Act.put, List.setIfInBounds_toArray, List.set_cons_zero, List.set_cons_succ, i64_w, i32_w]
       rfl
      refine pA 13 4 #[Y, Y, Y, Y, Y, Y, Y, Y, Y, Y, Y, Y, Y, Y, Z] HT_ ?_
      refine pA 14 5 #[Y, Y, Y, Y, Y, Y, Y, Y, Y, Y, Y, Y, Y, Y, Y] HT_ ?_
      refine done_ (done_of HT_.out (by kernel_rfl)) ?_
      try go_wp2
      go_ret2
      exact ⟨_, by first | rfl | (simp [errW_none, errW_some] <;> rfl) | (simp [*, errW_none, errW_some] <;> rfl), by (with_reducible repeat (first | apply Kd.S_alloc | apply Kd.S_drewN | apply Kd.S_drew)); exact HO193.out, aB HB⟩
     ·rw [if_neg c9] at H
      exact absurd H (by simp)
    ·rw [if_neg c8] at H
     exact absurd H (by simp)
   ·rw [if_neg c7] at H
    exact absurd H (by simp)
  ·rw [if_neg c6] at H
   exact absurd H (by simp)
 ·replace c4 := Bool.eq_false_iff.mpr c4
  subst c4
  have H1 : (some (([] : List (S43)), 41)) = some (r1, r2) := by rw [if_neg (show ¬ (false = true) by decide)] at H; exact H
  clear H
  have H := H1
  clear H1
  simp only [Option.some.injEq, Prod.mk.injEq] at H
  obtain ⟨rfl, rfl⟩ := H
  go_enter Try.func30, Try.ntmps30
  go_wp2_with (first | ((with_reducible refine gate_callee (f := 44) rfl ?_); refine goesL_ (some 8) rfl rfl Try.func44 (by kernel_rfl) rfl #[.slice A0 l0.length c0, .int .i64 a1] rfl (by (try simp only [List.map_toArray, List.map_cons, List.map_nil]); first | done | rfl | (simp only [List.length_drop, List.length_take]; rfl)) ?_; (with_reducible refine (rows_is.calls _ _ l0 a1 false _ ?side1 ?side2 A3.out).mono ?_); (case side1 => exact aC HR0.out); (case side2 => exact HC0.out); rintro e w' ⟨rfl, ⟨nd, rfl⟩⟩; refine ⟨_, rfl, ?_⟩))
  go_ret2
  exact ⟨_, by first | rfl | (simp [errW_none, errW_some] <;> rfl) | (simp [*, errW_none, errW_some] <;> rfl), by first | exact Kd.S_nil _ _ _ _ _ | exact Kd.N_nil _ _ _ _ _ | exact Kd.V_nil _ _ _ _ _ | exact Kd.Q_nil _ _ _ _ _ | exact Kd.R_nil _ _ _ _ _, aB HB⟩

/-! ### rows_Drop: function 31 -/
def rows_Drop.f (k : Nat) (l0 : List (S43)) (a1 : Int) : Option ((List (S43)) × Int) := (rows_is.f l0 a1).bind fun t194 => (if t194 = true then (if 0 ≤ a1 then (if a1 ≤ (l0.length : Int) then ((rows_moved.f k (l0.take (a1 : Int).toNat) 0).bind fun t199 => ((rows_End.f k l0 a1).bind fun t202 => (if 0 ≤ t202 then (if t202 ≤ (l0.length : Int) then ((rows_moved.f k (l0.drop (t202 : Int).toNat) 0).bind fun t207 => (if t199.length + t207.length < 1954687338268 then (some ((t199 ++ t207), 0)) else (none))) else (none)) else (none)))) else (none)) else (none)) else (some (([] : List (S43)), 41)))
theorem rows_Drop.mono : ∀ a0 a1 k, LeO (rows_Drop.f k a0 a1) (rows_Drop.f (k + 1) a0 a1) := by
 intro a0 a1 k
 unfold rows_Drop.f
 repeat' first
   | (with_reducible exact rows_End.mono _ _ _)
   | (with_reducible exact rows_moved.mono _ _ _)
   | (with_reducible exact LeO.refl _)
   | (with_reducible exact LeO.none _)
   | (with_reducible refine LeO.ite ?_ ?_)
   | (with_reducible refine LeO.bind ?_ (fun _ => ?_))
   | exact rows_End.mono _ _ _
   | exact rows_moved.mono _ _ _
   | exact LeO.none _
   | refine LeO.ite ?_ ?_
   | refine LeO.bind ?_ (fun _ => ?_)
set_option maxHeartbeats 8000000 in
set_option maxRecDepth 100000 in
theorem rows_Drop.calls (k : Nat) (A0 : Option Addr) (c0 : Nat) (l0 : List (S43)) (a1 : Int) (r1 : List (S43)) (r2 : Int) (w : World) (hr0 : Kd.C k43 w A0 l0.length l0) (hc0 : l0.length ≤ c0) (h : rows_Drop.f k l0 a1 = some (r1, r2)) :
  Calls Try.prog 31 #[.slice A0 l0.length c0, .int .i64 a1] w fun e w' => ∃ v0_ : Value, e = .returned (.tuple #[v0_, .int .i64 r2]) ∧ Kd.N k43 43 w' w.heap.size (fun k_ => (w.heap.size ≤ k_)) v0_ r1 ∧ Below w.heap.size w w' := by
 have HR0 := Aside0.mk hr0
 have HC0 := Aside0.mk hc0
 clear hr0 hc0
 have HB := Aside0.mk (Below.refl w.heap.size w)
 have H : ((rows_is.f l0 a1).bind fun t194 => (if t194 = true then (if 0 ≤ a1 then (if a1 ≤ (l0.length : Int) then ((rows_moved.f k (l0.take (a1 : Int).toNat) 0).bind fun t199 => ((rows_End.f k l0 a1).bind fun t202 => (if 0 ≤ t202 then (if t202 ≤ (l0.length : Int) then ((rows_moved.f k (l0.drop (t202 : Int).toNat) 0).bind fun t207 => (if t199.length + t207.length < 1954687338268 then (some ((t199 ++ t207), 0)) else (none))) else (none)) else (none)))) else (none)) else (none)) else (some (([] : List (S43)), 41)))) = some (r1, r2) := h
 clear h
 replace H := Option.bind_eq_some_iff.mp H
 obtain ⟨t194, A30, H⟩ := H
 replace H : (if t194 = true then (if 0 ≤ a1 then (if a1 ≤ (l0.length : Int) then ((rows_moved.f k (l0.take (a1 : Int).toNat) 0).bind fun t199 => ((rows_End.f k l0 a1).bind fun t202 => (if 0 ≤ t202 then (if t202 ≤ (l0.length : Int) then ((rows_moved.f k (l0.drop (t202 : Int).toNat) 0).bind fun t207 => (if t199.length + t207.length < 1954687338268 then (some ((t199 ++ t207), 0)) else (none))) else (none)) else (none)))) else (none)) else (none)) else (some (([] : List (S43)), 41))) = some (r1, r2) := H
 have A3 := Aside0.mk A30
 clear A30
 by_cases c4 : t194 = true
 ·subst c4
  have H1 : (if 0 ≤ a1 then (if a1 ≤ (l0.length : Int) then ((rows_moved.f k (l0.take (a1 : Int).toNat) 0).bind fun t199 => ((rows_End.f k l0 a1).bind fun t202 => (if 0 ≤ t202 then (if t202 ≤ (l0.length : Int) then ((rows_moved.f k (l0.drop (t202 : Int).toNat) 0).bind fun t207 => (if t199.length + t207.length < 1954687338268 then (some ((t199 ++ t207), 0)) else (none))) else (none)) else (none)))) else (none)) else (none)) = some (r1, r2) := by rw [if_pos rfl] at H; exact H
  clear H
  have H := H1
  clear H1
  by_cases c5 : 0 ≤ a1
  ·rw [if_pos c5] at H
   have c5b0 := eq_true c5
   have c5b1 : decide (0 ≤ a1) = true := decide_eq_true c5
   clear c5
   by_cases c6 : a1 ≤ (l0.length : Int)
   ·rw [if_pos c6] at H
    have c6b0 := eq_true c6
    have c6b1 : decide (a1 ≤ (l0.length : Int)) = true := decide_eq_true c6
    clear c6
    obtain ⟨y195, hy195⟩ : ∃ y_ : List (S43), y_ = (l0.take (a1 : Int).toNat) := ⟨_, rfl⟩
    replace H : ((rows_moved.f k y195 0).bind fun t199 => ((rows_End.f k l0 a1).bind fun t202 => (if 0 ≤ t202 then (if t202 ≤ (l0.length : Int) then ((rows_moved.f k (l0.drop (t202 : Int).toNat) 0).bind fun t207 => (if t199.length + t207.length < 1954687338268 then (some ((t199 ++ t207), 0)) else (none))) else (none)) else (none)))) = some (r1, r2) := by first | (rw [hy195]; with_reducible exact H) | (have H2_ := (Option.bind_some _ _).symm.trans H; rw [hy195]; with_reducible exact H2_) | (have H2_ := (Option.bind_some _ _).symm.trans H; with_reducible exact H2_) | with_reducible exact H | (rw [hy195]; exact H) | exact H
    have Ny195 := Aside0.mk hy195
    clear hy195
    replace H := Option.bind_eq_some_iff.mp H
    obtain ⟨t199, A70, H⟩ := H
    replace H : ((rows_End.f k l0 a1).bind fun t202 => (if 0 ≤ t202 then (if t202 ≤ (l0.length : Int) then ((rows_moved.f k (l0.drop (t202 : Int).toNat) 0).bind fun t207 => (if t199.length + t207.length < 1954687338268 then (some ((t199 ++ t207), 0)) else (none))) else (none)) else (none))) = some (r1, r2) := H
    have A7 := Aside0.mk A70
    clear A70
    replace H := Option.bind_eq_some_iff.mp H
    obtain ⟨t202, A80, H⟩ := H
    replace H : (if 0 ≤ t202 then (if t202 ≤ (l0.length : Int) then ((rows_moved.f k (l0.drop (t202 : Int).toNat) 0).bind fun t207 => (if t199.length + t207.length < 1954687338268 then (some ((t199 ++ t207), 0)) else (none))) else (none)) else (none)) = some (r1, r2) := H
    have A8 := Aside0.mk A80
    clear A80
    by_cases c9 : 0 ≤ t202
    ·rw [if_pos c9] at H
     have c9b0 := eq_true c9
     have c9b1 : decide (0 ≤ t202) = true := decide_eq_true c9
     clear c9
     by_cases c10 : t202 ≤ (l0.length : Int)
     ·rw [if_pos c10] at H
      have c10b0 := eq_true c10
      have c10b1 : decide (t202 ≤ (l0.length : Int)) = true := decide_eq_true c10
      clear c10
      obtain ⟨y203, hy203⟩ : ∃ y_ : List (S43), y_ = (l0.drop (t202 : Int).toNat) := ⟨_, rfl⟩
      replace H : ((rows_moved.f k y203 0).bind fun t207 => (if t199.length + t207.length < 1954687338268 then (some ((t199 ++ t207), 0)) else (none))) = some (r1, r2) := by first | (rw [hy203]; with_reducible exact H) | (have H2_ := (Option.bind_some _ _).symm.trans H; rw [hy203]; with_reducible exact H2_) | (have H2_ := (Option.bind_some _ _).symm.trans H; with_reducible exact H2_) | with_reducible exact H | (rw [hy203]; exact H) | exact H
      have Ny203 := Aside0.mk hy203
      clear hy203
      replace H := Option.bind_eq_some_iff.mp H
      obtain ⟨t207, A110, H⟩ := H
      replace H : (if t199.length + t207.length < 1954687338268 then (some ((t199 ++ t207), 0)) else (none)) = some (r1, r2) := H
      have A11 := Aside0.mk A110
      clear A110
      by_cases c12 : t199.length + t207.length < 1954687338268
      ·rw [if_pos c12] at H
       have LMc12 := Aside0.mk c12
       clear c12
       obtain ⟨y210, hy210⟩ : ∃ y_ : List (S43), y_ = (t199 ++ t207) := ⟨_, rfl⟩
       replace H : (some (y210, 0)) = some (r1, r2) := by first | (rw [hy210]; with_reducible exact H) | (have H2_ := (Option.bind_some _ _).symm.trans H; rw [hy210]; with_reducible exact H2_) | (have H2_ := (Option.bind_some _ _).symm.trans H; with_reducible exact H2_) | with_reducible exact H | (rw [hy210]; exact H) | exact H
       have Ny210 := Aside0.mk hy210
       clear hy210
       simp only [Option.some.injEq, Prod.mk.injEq] at H
       obtain ⟨rfl, rfl⟩ := H
       go_enter Try.func31, Try.ntmps31
       go_wp2_with (first | ((with_reducible refine gate_callee (f := 44) rfl ?_); refine goesL_ (some 8) rfl rfl Try.func44 (by kernel_rfl) rfl #[.slice A0 l0.length c0, .int .i64 a1] rfl (by (try simp only [List.map_toArray, List.map_cons, List.map_nil]); first | done | rfl | (simp only [List.length_drop, List.length_take]; rfl)) ?_; (with_reducible refine (rows_is.calls _ _ l0 a1 true _ ?side1 ?side2 A3.out).mono ?_); (case side1 => exact aC HR0.out); (case side2 => exact HC0.out); rintro e w' ⟨rfl, ⟨nd, rfl⟩⟩; refine ⟨_, rfl, ?_⟩; have q13 : (a1 : Int) ≤ ((l0.length : Int) : Int) := of_decide_eq_true aA; obtain ⟨i013, hi013, _, hsz13, _⟩ := info_parts info43; have hroom13 : l0.length ≤ c0 := HC0.out; have hC13 : Kd.C k43 _ A0 l0.length l0 := HR0.out; have hcut13 := cut_to (P := Try.prog) 22 43 .i64 Try.underlying22 hi013 A0 l0.length c0 a1 (of_decide_eq_true aA) q13 hroom13; have hr13 := Kd.C_take (m := (a1 : Int).toNat) hC13 (by omega); have hy13 : y195.length = (a1 : Int).toNat := (by rw [Ny195.out, List.length_take]; omega); rw [← Ny195.out] at hr13; rw [← hy13] at hcut13; have HR198 := Aside0.mk hr13; have HC198 := Aside0.mk (show y195.length ≤ c0 from by omega); clear hr13 hC13 hroom13 hi013 hsz13; have KY13 := Aside0.mk hy13; clear hy13; replace q13 := eq_true q13) | ((with_reducible refine gate_callee (f := 48) rfl ?_); refine goesL_ (some 13) rfl rfl Try.func48 (by kernel_rfl) rfl #[.slice A0 y195.length c0, .int .i64 0] rfl (by (try simp only [List.map_toArray, List.map_cons, List.map_nil]); first | done | rfl | (simp only [List.length_drop, List.length_take]; rfl)) ?_; (with_reducible refine (rows_moved.calls k _ _ y195 0 t199 _ ?side1 ?side2 A7.out).mono ?_); (case side1 => exact aC HR198.out); (case side2 => exact HC198.out); rintro e w14 ⟨v200, rfl, ho0, hb⟩; refine ⟨_, rfl, ?_⟩; have n0_ := Aside0.mk (Kd.N_lower (Kd.N_mono (ok' := fun k_ => (w.heap.size ≤ k_)) (Kd.S_N (Kd.S_bound ho0)) (fun k_ hk_ => (Nat.le_trans (below_size (aB HB)) hk_.2.1))) (below_size (aB HB))); have n1_ := Aside0.mk (below_step (aB HB) hb); clear HB; have HO201 := n0_; have HB := n1_; clear n0_ n1_; (try clear hb); (try clear hb2); (try clear hk); (try clear hi); (try clear ho0)) | ((with_reducible refine gate_callee (f := 19) rfl ?_); refine goesL_ (some 17) rfl rfl Try.func19 (by kernel_rfl) rfl #[.slice A0 l0.length c0, .int .i64 a1] rfl (by (try simp only [List.map_toArray, List.map_cons, List.map_nil]); first | done | rfl | (simp only [List.length_drop, List.length_take]; rfl)) ?_; (with_reducible refine (rows_End.calls k _ _ l0 a1 t202 _ ?side1 ?side2 A8.out).mono ?_); (case side1 => exact aC (Kd.C_below HR0.out HB.out)); (case side2 => exact HC0.out); rintro e w' ⟨rfl, ⟨nd, rfl⟩⟩; refine ⟨_, rfl, ?_⟩; have q15 : (t202 : Int) ≤ ((l0.length : Int) : Int) := of_decide_eq_true aA; obtain ⟨i015, hi015, _, hsz15, _⟩ := info_parts info43; have hroom15 : l0.length ≤ c0 := HC0.out; have hC15 : Kd.C k43 _ A0 l0.length l0 := HR0.out; have q015 : (0 : Int) ≤ (t202 : Int) := of_decide_eq_true aA; have hcut15 := cut_from (P := Try.prog) 22 43 .i64 Try.underlying22 hi015 5 hsz15 A0 l0.length c0 t202 q015 q15; have hr15 := Kd.C_drop (m := (t202 : Int).toNat) (c := c0) hC15 (by omega) hroom15; obtain ⟨A15, hA15⟩ : ∃ A1, A1 = (if c0 = (t202 : Int).toNat then A0 else (A0 : Option Addr).map (·.add ((t202 : Int).toNat * 5))) := ⟨_, rfl⟩; obtain ⟨c15, hc15⟩ : ∃ c1, c1 = c0 - (t202 : Int).toNat := ⟨_, rfl⟩; have hy15 : y203.length = l0.length - (t202 : Int).toNat := (by rw [Ny203.out, List.length_drop] <;> omega); rw [show (l0).drop (t202 : Int).toNat = y203 from Ny203.out.symm] at hr15; replace hr15 : Kd.C k43 _ A15 y203.length y203 := (by rw [hA15]; exact hr15); rw [← hy15, ← hA15, ← hc15] at hcut15; have HR206 := Aside0.mk hr15; have HC206 := Aside0.mk (show y203.length ≤ c15 from by rw [hy15, hc15]; exact Nat.sub_le_sub_right hroom15 _); clear hr15 hC15 hroom15 hi015 hsz15 hc15; have KY15 := Aside0.mk hy15; have KA15 := Aside0.mk hA15; clear hy15 hA15; replace q15 := eq_true q15) | ((with_reducible refine gate_callee (f := 48) rfl ?_); refine goesL_ (some 19) rfl rfl Try.func48 (by kernel_rfl) rfl #[.slice A15 y203.length c15, .int .i64 0] rfl (by (try simp only [List.map_toArray, List.map_cons, List.map_nil]); first | done | rfl | (simp only [List.length_drop, List.length_take]; rfl)) ?_; (with_reducible refine (rows_moved.calls k _ _ y203 0 t207 _ ?side1 ?side2 A11.out).mono ?_); (case side1 => exact aC (Kd.C_below HR206.out (aB HB))); (case side2 => exact HC206.out); rintro e w16 ⟨v208, rfl, ho0, hb⟩; refine ⟨_, rfl, ?_⟩; have n0_ := Aside0.mk (Kd.N_elder' (aN HO201) (aS ho0) hb); have n1_ := Aside0.mk (Kd.N_lower (Kd.N_mono (ok' := fun k_ => (w.heap.size ≤ k_) ∧ some k_ ≠ (v200 : Value).ownBlock) (Kd.S_N (Kd.S_bound ho0)) (fun k_ hk_ => ⟨(Nat.le_trans (below_size (aB HB)) hk_.2.1), (Kd.fresh' (Kd.N_lt (aN HO201)) k_ hk_.2.1)⟩)) (below_size (aB HB))); have n2_ := Aside0.mk (below_step (aB HB) hb); clear HO201; clear HB; have HO201 := n0_; have HO209 := n1_; have HB := n2_; clear n0_ n1_ n2_; (try clear hb); (try clear hb2); (try clear hk); (try clear hi); (try clear ho0); obtain ⟨Ao18, co18, eo18⟩ := Kd.N_slice HO209.out; subst eo18) | ((with_reducible refine gate_builtin (b := .append) (xs := #[.tmp 13, .tmp 19]) rfl ?_); at_builtin; refine Kd.N_append_rows k43 (w0 := w) w.heap.size rfl (.tmp 13) (.tmp 19) 22 43 (.agg #[(.int .i64 0), (.int .i64 0), (.string ⟨#[]⟩), (.string ⟨#[]⟩), (.slice none 0 0)]) 72 rfl Try.underlying22 info43 rfl (by decide) (by omega) v200 t199 t207 _ _ _ (fun k_ => (w.heap.size ≤ k_)) (fun k_ => ((fun k_ => (w.heap.size ≤ k_))) k_ ∧ some k_ ≠ (v200 : Value).ownBlock) rfl rfl ?aO ?aR (fun _ hk => hk) ?aF ?aB ?aS ?aL ?_; (case aR => exact (by skip; exact Kd.N_F (Kd.N_mono (ok' := (fun k_ => ((fun k_ => (w.heap.size ≤ k_))) k_ ∧ some k_ ≠ (v200 : Value).ownBlock)) (HO209.out) (fun k_ hk => ⟨hk.1, hk.2⟩)))); (case aB => exact (aB HB)); (case aF => exact (fun k_ hk => (Nat.le_trans (below_size (aB HB)) hk))); (case aO => exact (by (with_reducible repeat (first | apply Kd.N_alloc | apply Kd.N_drewN | apply Kd.N_drew)); exact Kd.N_mono HO201.out (fun _ hk => hk.1))); (case aS => exact (below_size (aB HB))); (case aL => have := LMc12.out; omega); intro v211 w17 ho hb hg hat; rw [← Ny210.out] at ho; have n0_ := Aside0.mk (Kd.N_afterv (ok := (fun k_ => (w.heap.size ≤ k_))) (aN HO209) hg hat); have n1_ := Aside0.mk (hb); have n2_ := Aside0.mk (ho); clear HO209; clear HB; clear HO201; have HO209 := n0_; have HB := n1_; have HO212 := n2_; clear n0_ n1_ n2_; clear ho hb hg hat))
       go_ret2
       exact ⟨_, by first | rfl | (simp [errW_none, errW_some] <;> rfl) | (simp [*, errW_none, errW_some] <;> rfl), by (with_reducible repeat (first | apply Kd.N_alloc | apply Kd.N_drewN | apply Kd.N_drew)); exact HO212.out, aB HB⟩
      ·rw [if_neg c12] at H
       exact absurd H (by simp)
     ·rw [if_neg c10] at H
      exact absurd H (by simp)
    ·rw [if_neg c9] at H
     exact absurd H (by simp)
   ·rw [if_neg c6] at H
    exact absurd H (by simp)
  ·rw [if_neg c5] at H
   exact absurd H (by simp)
 ·replace c4 := Bool.eq_false_iff.mpr c4
  subst c4
  have H1 : (some (([] : List (S43)), 41)) = some (r1, r2) := by rw [if_neg (show ¬ (false = true) by decide)] at H; exact H
  clear H
  have H := H1
  clear H1
  simp only [Option.some.injEq, Prod.mk.injEq] at H
  obtain ⟨rfl, rfl⟩ := H
  go_enter Try.func31, Try.ntmps31
  go_wp2_with (first | ((with_reducible refine gate_callee (f := 44) rfl ?_); refine goesL_ (some 8) rfl rfl Try.func44 (by kernel_rfl) rfl #[.slice A0 l0.length c0, .int .i64 a1] rfl (by (try simp only [List.map_toArray, List.map_cons, List.map_nil]); first | done | rfl | (simp only [List.length_drop, List.length_take]; rfl)) ?_; (with_reducible refine (rows_is.calls _ _ l0 a1 false _ ?side1 ?side2 A3.out).mono ?_); (case side1 => exact aC HR0.out); (case side2 => exact HC0.out); rintro e w' ⟨rfl, ⟨nd, rfl⟩⟩; refine ⟨_, rfl, ?_⟩))
  go_ret2
  exact ⟨_, by first | rfl | (simp [errW_none, errW_some] <;> rfl) | (simp [*, errW_none, errW_some] <;> rfl), by first | exact Kd.S_nil _ _ _ _ _ | exact Kd.N_nil _ _ _ _ _ | exact Kd.V_nil _ _ _ _ _ | exact Kd.Q_nil _ _ _ _ _ | exact Kd.R_nil _ _ _ _ _, aB HB⟩

/-! ### rows_Normal: function 33 -/
def normStep (out : List S43) (x : S43) : Option (List S43) :=
 if x.f1 = 1 ∧ x.f3.size = 0 then some out
 else if x.f1 = 1 ∧ 0 < out.length ∧ (rd_T43 out ((out.length - 1 : Nat) : Int)).f1 = 1 ∧ (rd_T43 out ((out.length - 1 : Nat) : Int)).f0 = x.f0 then
  if (rd_T43 out ((out.length - 1 : Nat) : Int)).f3.size + x.f3.size ≤ 9223372036854775807 then some (out.set (out.length - 1) ⟨(rd_T43 out ((out.length - 1 : Nat) : Int)).f0, (rd_T43 out ((out.length - 1 : Nat) : Int)).f1, (rd_T43 out ((out.length - 1 : Nat) : Int)).f2, (rd_T43 out ((out.length - 1 : Nat) : Int)).f3 ++ x.f3, (rd_T43 out ((out.length - 1 : Nat) : Int)).f4⟩) else none
 else if out.length < 1954687338268 then some (out ++ [x]) else none
def normGo : List S43 → List S43 → Option (List S43)
 | out, [] => some out
 | out, x :: l => (normStep out x).bind fun o => normGo o l
/-- What holds at a round: the moved rows, each with attributes of its own (f tells them apart), and what was laid out of them. -/
def NormI (f : Nat → Nat) (n0 n1 : Nat) (vM : Value) (xs : List S43) (kk : Nat) (vO : Value) (out : List S43) (W : World) : Prop :=
 (Kd.tag f k43).R 43 W n0 (fun k => k < n1) vM xs.zipIdx ∧ Kd.S k43 43 W n0 (fun k => n1 ≤ k ∨ (k < n1 ∧ f k < kk)) vO out ∧ ∀ k, vO.ownBlock = some k → n1 ≤ k
theorem normI_below {f : Nat → Nat} {n0 n1 : Nat} {vM : Value} {xs : List S43} {kk : Nat} {vO : Value} {out : List S43} {W W1 : World} (h : NormI f n0 n1 vM xs kk vO out W) (hb : Below W.heap.size W W1) : NormI f n0 n1 vM xs kk vO out W1 :=
 ⟨Kd.R_below h.1 hb, Kd.S_below h.2.1 hb, h.2.2⟩
theorem normI_next {f : Nat → Nat} {n0 n1 : Nat} {vM : Value} {xs : List S43} {kk : Nat} {vO : Value} {out : List S43} {W : World} (h : NormI f n0 n1 vM xs kk vO out W) : NormI f n0 n1 vM xs (kk + 1) vO out W :=
 ⟨h.1, Kd.S_mono h.2.1 (fun k hk => by omega), h.2.2⟩
theorem normI_at {f : Nat → Nat} {n0 n1 : Nat} {A : Option Addr} {n c : Nat} {xs : List S43} {kk : Nat} {vO : Value} {out : List S43} {W : World} (h : NormI f n0 n1 (.slice A n c) xs kk vO out W) (hk : kk < xs.length) :
  ∃ ad v4, A = some ad ∧ k46.R 46 W n0 (fun k => k < n1 ∧ f k = kk) v4 (rd_T43 xs (kk : Int)).f4 ∧
   (∀ j u, [Value.int .i64 (rd_T43 xs (kk : Int)).f0, .int .i64 (rd_T43 xs (kk : Int)).f1, .string (rd_T43 xs (kk : Int)).f2, .string (rd_T43 xs (kk : Int)).f3, v4][j]? = some u → W.cell? (ad.add (kk * 5 + j)) = some u) := by
 have hn : n = xs.zipIdx.length := (Kd.R_reads' h.1).1
 rw [List.length_zipIdx] at hn
 have hA : ∃ ad, A = some ad := by
  obtain ⟨g, cap, e, _⟩ := Kd.R_form h.1 (by rw [List.length_zipIdx]; omega)
  injection e with e1
  exact ⟨_, e1⟩
 obtain ⟨ad, rfl⟩ := hA
 obtain ⟨cs, hl, hM, hc⟩ := Kd.R_getA h.1 (z43, 0) (kk : Int) (by omega) (by omega)
 rw [Int.toNat_natCast] at hM hc
 have he : xs.zipIdx.getD kk (z43, 0) = (rd_T43 xs (kk : Int), kk) := by
  simp [rd_T43, List.getElem?_zipIdx, List.getElem?_eq_getElem hk]
 rw [he] at hM
 obtain ⟨v4, rfl, hR⟩ := k43_openM hM
 exact ⟨ad, v4, rfl, Kd.R_mono hR (fun k hk => ⟨hk.1.1, hk.2⟩), hc⟩
theorem bytes_empty (b : ByteArray) : b.toList.isEmpty = decide (b.size = 0) := by
 rw [ByteArray.toList_eq]
 obtain ⟨⟨l⟩⟩ := b
 cases l <;> rfl
theorem norm_put {W : World} {base g n cap : Nat} {ok : Nat → Prop} {out : List S43} (h : Kd.S k43 43 W base ok (.slice (some ⟨g, 0, none⟩) n cap) out) (i : Nat) (hi : i < n) (s : ByteArray) :
  Kd.S k43 43 (W.setCell ⟨g, i * 5 + 3, none⟩ (.string s)) base ok (.slice (some ⟨g, 0, none⟩) n cap) (out.set i ⟨(rd_T43 out (i : Int)).f0, (rd_T43 out (i : Int)).f1, (rd_T43 out (i : Int)).f2, s, (rd_T43 out (i : Int)).f4⟩) ∧ W.grownBy (W.setCell ⟨g, i * 5 + 3, none⟩ (.string s)) (some g) := by
 obtain ⟨oki, c, hcl, hM, hcc, hfr, hoki, hH⟩ := Kd.S_elem h z43 (i : Int) (by omega) (by omega)
 obtain ⟨v4, rfl, hR⟩ := k43_openM hM
 have h2 := Kd.S_seg (okg := fun _ => False) (okp := oki) (Kd.H_mono hH (fun k hk => ⟨hk, fun h => h⟩)) (by omega) (by omega) (seg := [.string s]) (j := 3) (by show 4 ≤ 5; omega) (x' := ⟨(rd_T43 out (i : Int)).f0, (rd_T43 out (i : Int)).f1, (rd_T43 out (i : Int)).f2, s, (rd_T43 out (i : Int)).f4⟩) (k43_mkM W base oki ⟨(rd_T43 out (i : Int)).f0, (rd_T43 out (i : Int)).f1, (rd_T43 out (i : Int)).f2, s, (rd_T43 out (i : Int)).f4⟩ hR) (fun k hk => .inl hk) (fun k hk => hk.elim)
 exact h2
theorem norm_last {W : World} {base : Nat} {ok : Nat → Prop} {A : Option Addr} {n cap : Nat} {out : List S43} (h : Kd.S k43 43 W base ok (.slice A n cap) out) (i : Nat) (hi : i < out.length) :
  ∃ ad g v4, A = some ad ∧ ad = ⟨g, 0, none⟩ ∧ n = out.length ∧ (∀ j u, [Value.int .i64 (rd_T43 out (i : Int)).f0, .int .i64 (rd_T43 out (i : Int)).f1, .string (rd_T43 out (i : Int)).f2, .string (rd_T43 out (i : Int)).f3, v4][j]? = some u → W.cell? (ad.add (i * 5 + j)) = some u) ∧ ∀ j, W.frozen? (ad.add (i * 5 + j)) = false := by
 obtain ⟨g, cap', he, _⟩ := Kd.S_form h (by omega)
 injection he with e1 e2 e3
 subst e1; subst e2; subst e3
 obtain ⟨oki, c, hcl, hM, hcc, hfr, hoki, hH⟩ := Kd.S_elem h z43 (i : Int) (by omega) (by omega)
 obtain ⟨v4, rfl, hR⟩ := k43_openM hM
 refine ⟨_, g, v4, rfl, rfl, rfl, fun j u hu => ?_, fun j => ?_⟩
 ·rw [add_at, Nat.zero_add]; exact hcc j u hu
 ·rw [add_at, Nat.zero_add]; exact hfr j
set_option maxHeartbeats 4000000 in
set_option maxRecDepth 100000 in
theorem normal_calls (A0 : Option Addr) (c0 : Nat) (l0 : List (S43)) (xs r : List S43) (w : World) (hr0 : Kd.C k43 w A0 l0.length l0) (hc0 : l0.length ≤ c0) (hx : rows_moved.f (l0.length + 1) l0 0 = some xs) (hgo : normGo [] xs = some r) :
  Calls Try.prog 33 #[.slice A0 l0.length c0] w fun e w' => ∃ v, e = .returned v ∧ Kd.S k43 43 w' w.heap.size (fun _ => True) v r ∧ Below w.heap.size w w' := by
 have hcall := rows_moved.calls (l0.length + 1) A0 c0 l0 0 xs w hr0 hc0 hx
 have HGO := Aside0.mk hgo
 clear hr0 hc0 hgo hx
 go_enter Try.func33, Try.ntmps33
 go_wp2_with (go_at_call 48; refine hcall.mono ?_; rintro e w1 ⟨v1, rfl, hS, hb⟩; obtain ⟨A1, c1, rfl⟩ := Kd.S_slice hS)
 have hm : xs.length ≤ 9223372036854775807 := by
  obtain ⟨_, _, hC⟩ := Kd.S_reads' hS
  exact Kd.C_max hC
 obtain ⟨f, hR⟩ := Kd.S_bound hS
 have HI0 : Aside0 (NormI f w.heap.size w1.heap.size (.slice A1 xs.length c1) xs 0 (.slice none 0 0) [] w1) := ⟨Kd.R_mono hR (fun k hk => hk.2.2.1), Kd.S_nil _ _ _ _ _, fun k hk => by simp [Value.ownBlock] at hk⟩
 have HB0 := Aside0.mk hb
 clear hS hR hb hcall
 go_loopg [3, 10] xs.length (fun gg v3 v10 w' => ∃ (kk : Nat) (out : List S43), kk ≤ xs.length ∧ xs.length - kk ≤ gg ∧ v10 = .int .i64 kk ∧ Aside0 (normGo out (xs.drop kk) = some r) ∧ Aside0 (NormI f w.heap.size w1.heap.size (.slice A1 xs.length c1) xs kk v3 out w') ∧ Aside0 (Below w.heap.size w w' ∧ w1.heap.size ≤ w'.heap.size))
 case atStart => exact ⟨0, [], Nat.zero_le _, by omega, rfl, HGO, HI0, ⟨HB0.out, Nat.le_refl _⟩⟩
 case round =>
  clear HGO HI0 HB0
  obtain ⟨kk, out, hkk, hg, rfl, HG, HI, HB⟩ := hrel
  by_cases hlt : kk < xs.length
  ·have hltz : (kk : Int) < (xs.length : Int) := by omega
   obtain ⟨ad, v4, rfl, hR4, hcx⟩ := normI_at HI.out hlt
   obtain ⟨A4, c4, rfl⟩ := Kd.R_slice hR4
   have hx0 : wr.cell? (ad.add (kk * 5)) = some (.int .i64 (rd_T43 xs (kk : Int)).f0) := hcx 0 _ rfl
   have hx1 : wr.cell? ⟨(ad.add (kk * 5)).block, (ad.add (kk * 5)).off + 1, none⟩ = some (.int .i64 (rd_T43 xs (kk : Int)).f1) := by rw [← add_field _ _ 1 (by omega)]; exact hcx 1 _ rfl
   have hx2 : wr.cell? ⟨(ad.add (kk * 5)).block, (ad.add (kk * 5)).off + 2, none⟩ = some (.string (rd_T43 xs (kk : Int)).f2) := by rw [← add_field _ _ 2 (by omega)]; exact hcx 2 _ rfl
   have hx3 : wr.cell? ⟨(ad.add (kk * 5)).block, (ad.add (kk * 5)).off + 3, none⟩ = some (.string (rd_T43 xs (kk : Int)).f3) := by rw [← add_field _ _ 3 (by omega)]; exact hcx 3 _ rfl
   have hx4 : wr.cell? ⟨(ad.add (kk * 5)).block, (ad.add (kk * 5)).off + 4, none⟩ = some (.slice A4 (rd_T43 xs (kk : Int)).f4.length c4) := by rw [← add_field _ _ 4 (by omega)]; exact hcx 4 _ rfl
   have HR4 := Aside0.mk hR4
   clear hcx hR4
   obtain ⟨AO, cO, rfl⟩ : ∃ AO cO, u3 = .slice AO out.length cO := Kd.S_slice HI.out.2.1
   have HGS : Aside0 ((normStep out (rd_T43 xs (kk : Int))).bind (fun o => normGo o (xs.drop (kk + 1))) = some r) := ⟨by
    have h := HG.out
    rw [List.drop_eq_getElem_cons hlt, ← rd_T43_at xs kk hlt] at h
    exact h⟩
   clear HG
   by_cases h1 : (rd_T43 xs (kk : Int)).f1 = 1
   rotate_left
   ·have b1 : ((rd_T43 xs (kk : Int)).f1 == 1) = false := beq_eq_false_iff_ne.2 h1
    have d1 : decide ((rd_T43 xs (kk : Int)).f1 = 1) = false := decide_eq_false h1
    have HST : Aside0 (normStep out (rd_T43 xs (kk : Int)) = if out.length < 1954687338268 then some (out ++ [(rd_T43 xs (kk : Int))]) else none) := ⟨by unfold normStep; rw [if_neg (fun e => h1 e.1), if_neg (fun e => h1 e.1)]⟩
    clear h1
    by_cases hfit : out.length < 1954687338268
    rotate_left
    ·exact absurd HGS.out (by rw [HST.out, if_neg hfit]; simp)
    have HFIT := Aside0.mk hfit
    clear hfit
    have HGN : Aside0 (normGo (out ++ [(rd_T43 xs (kk : Int))]) (xs.drop (kk + 1)) = some r) := ⟨by have h := HGS.out; rw [HST.out, if_pos HFIT.out] at h; exact h⟩
    clear HGS HST
    go_wp2_with (first | ((with_reducible refine gate_dst (N := 5) rfl ?_); refine box_event ?hg (N := 5) ?hd (cs := #[.int .i64 0, .int .i64 0, .string (⟨#[]⟩ : ByteArray), .string (⟨#[]⟩ : ByteArray), .slice none 0 0]) (t := 43) ?hr ?_; (case hd => rfl); (case hg => rfl); (case hr => first | (go_simp; done) | (go_simp; rfl)); intro gb hg w8 hbox hb; have HBX := Aside0.mk hbox; have HGB := Aside0.mk hg; have HB8 := Aside0.mk hb; clear hbox hg hb; have hz0 : w8.cell? ⟨gb, 0, none⟩ = some (.int .i64 0) := (blk_cell HBX.out 0).trans rfl; have hz1 : w8.cell? ⟨gb, 1, none⟩ = some (.int .i64 0) := (blk_cell HBX.out 1).trans rfl; have hz2 : w8.cell? ⟨gb, 2, none⟩ = some (.string (⟨#[]⟩ : ByteArray)) := (blk_cell HBX.out 2).trans rfl; have hz3 : w8.cell? ⟨gb, 3, none⟩ = some (.string (⟨#[]⟩ : ByteArray)) := (blk_cell HBX.out 3).trans rfl; have hz4 : w8.cell? ⟨gb, 4, none⟩ = some (.slice none 0 0) := (blk_cell HBX.out 4).trans rfl; have hf0 := blk_frozen HBX.out 0; have hf1 := blk_frozen HBX.out 1; have hf2 := blk_frozen HBX.out 2; have hf3 := blk_frozen HBX.out 3; have hf4 := blk_frozen HBX.out 4))
    
    generalize hwx : World.setCell (World.setCell (World.setCell (World.setCell (World.setCell w8 _ _) _ _) _ _) _ _) _ _ = wx
    have HBW : Aside0 (wx.heap[gb]? = some (.cells #[.int .i64 (rd_T43 xs (kk : Int)).f0, .int .i64 (rd_T43 xs (kk : Int)).f1, .string (rd_T43 xs (kk : Int)).f2, .string (rd_T43 xs (kk : Int)).f3, .slice A4 (rd_T43 xs (kk : Int)).f4.length c4] 43 (0, 0))) := ⟨by
     rw [← hwx]
     refine blk_put (cs := #[.int .i64 (rd_T43 xs (kk : Int)).f0, .int .i64 (rd_T43 xs (kk : Int)).f1, .string (rd_T43 xs (kk : Int)).f2, .string (rd_T43 xs (kk : Int)).f3, .slice none 0 0]) ?_ 4 _ rfl
     refine blk_put (cs := #[.int .i64 (rd_T43 xs (kk : Int)).f0, .int .i64 (rd_T43 xs (kk : Int)).f1, .string (rd_T43 xs (kk : Int)).f2, .string (⟨#[]⟩ : ByteArray), .slice none 0 0]) ?_ 3 _ rfl
     refine blk_put (cs := #[.int .i64 (rd_T43 xs (kk : Int)).f0, .int .i64 (rd_T43 xs (kk : Int)).f1, .string (⟨#[]⟩ : ByteArray), .string (⟨#[]⟩ : ByteArray), .slice none 0 0]) ?_ 2 _ rfl
     refine blk_put (cs := #[.int .i64 (rd_T43 xs (kk : Int)).f0, .int .i64 0, .string (⟨#[]⟩ : ByteArray), .string (⟨#[]⟩ : ByteArray), .slice none 0 0]) ?_ 1 _ rfl
     refine blk_put (cs := #[.int .i64 0, .int .i64 0, .string (⟨#[]⟩ : ByteArray), .string (⟨#[]⟩ : ByteArray), .slice none 0 0]) ?_ 0 _ rfl
     exact HBX.out⟩
    have HB5 : Aside0 (Below wr.heap.size wr wx) := ⟨by
     rw [← hwx]
     repeat (first | exact HB8.out | refine below_set ?_ (Nat.le_of_eq HGB.out.symm))⟩
    clear hwx HBX HB8 hz0 hz1 hz2 hz3 hz4 hf0 hf1 hf2 hf3 hf4
    
    have hy0 : wx.cell? ⟨gb, 0, none⟩ = some (.int .i64 (rd_T43 xs (kk : Int)).f0) := (blk_cell HBW.out 0).trans rfl
    have hy1 : wx.cell? ⟨gb, 1, none⟩ = some (.int .i64 (rd_T43 xs (kk : Int)).f1) := (blk_cell HBW.out 1).trans rfl
    have hy2 : wx.cell? ⟨gb, 2, none⟩ = some (.string (rd_T43 xs (kk : Int)).f2) := (blk_cell HBW.out 2).trans rfl
    have hy3 : wx.cell? ⟨gb, 3, none⟩ = some (.string (rd_T43 xs (kk : Int)).f3) := (blk_cell HBW.out 3).trans rfl
    have hy4 : wx.cell? ⟨gb, 4, none⟩ = some (.slice A4 (rd_T43 xs (kk : Int)).f4.length c4) := (blk_cell HBW.out 4).trans rfl
    go_quiet (fail)
    go_wp2_with ((with_reducible refine gate_builtin (b := .append) (xs := #[.tmp 16, .tmp 18]) rfl ?_); at_builtin; refine Kd.S_append k43 (w0 := w) w.heap.size rfl (.tmp 16) (.tmp 18) 22 43 (.agg #[(.int .i64 0), (.int .i64 0), (.string ⟨#[]⟩), (.string ⟨#[]⟩), (.slice none 0 0)]) 72 rfl Try.underlying22 info43 rfl (by decide) (by omega) (.slice AO out.length cO) out (rd_T43 xs (kk : Int)) [.int .i64 (rd_T43 xs (kk : Int)).f0, .int .i64 (rd_T43 xs (kk : Int)).f1, .string (rd_T43 xs (kk : Int)).f2, .string (rd_T43 xs (kk : Int)).f3, .slice A4 (rd_T43 xs (kk : Int)).f4.length c4] (fun k => w1.heap.size ≤ k ∨ (k < w1.heap.size ∧ f k < kk + 1)) (fun k => k < w1.heap.size ∧ f k = kk) rfl rfl ?aP (fun k hk => ⟨.inr ⟨hk.1, by omega⟩, fun e => by have := HI.out.2.2 k e.symm; omega⟩) ?aF ?aO ?aB ?aS ?aL ?_; (case aP => exact k43_mkM _ _ _ (rd_T43 xs (kk : Int)) (Kd.R_below HR4.out (by repeat (first | exact HB5.out | apply below_alloc | apply pw_below_drewN | apply below_drew1)))); (case aB => exact below_step HB.out.1 (by repeat (first | exact HB5.out | apply below_alloc | apply pw_below_drewN | apply below_drew1))); (case aF => exact (fun k hk => .inl (Nat.le_trans HB.out.2 (Nat.le_trans (below_size (w := wr) (by repeat (first | exact HB5.out | apply below_alloc | apply pw_below_drewN | apply below_drew1))) hk)))); (case aO => exact Kd.S_mono (Kd.S_below HI.out.2.1 (by repeat (first | exact HB5.out | apply below_alloc | apply pw_below_drewN | apply below_drew1))) (fun k hk => ⟨by omega, by omega⟩)); (case aS => exact below_size (below_step HB.out.1 (by repeat (first | exact HB5.out | apply below_alloc | apply pw_below_drewN | apply below_drew1)))); (case aL => have := HFIT.out; omega); intro v9 w9 ho hb hg9 hat; have HO9 := Aside0.mk ho; have HB9 := Aside0.mk hb; have HG9 := Aside0.mk hg9; have HA9 := Aside0.mk hat; clear ho hb hg9 hat)
    go_roundg (xs.length - (kk + 1))
    case measure => omega
    case rel =>
     refine ⟨kk + 1, out ++ [(rd_T43 xs (kk : Int))], by omega, by omega, by go_num, HGN, ⟨?_, HO9.out, ?_⟩, ⟨HB9.out, ?_⟩⟩
     ·exact Kd.R_grown (Kd.R_below HI.out.1 (by repeat (first | exact HB5.out | apply below_alloc | apply pw_below_drewN | apply below_drew1))) HG9.out (fun k hk e => by have := HI.out.2.2 k e.symm; omega)
     ·intro k hk
      rcases HA9.out with h | ⟨b, h, hb⟩
      ·exact HI.out.2.2 k (h ▸ hk)
      ·have : b = k := by rw [h] at hk; injection hk
       subst this
       exact Nat.le_trans HB.out.2 (Nat.le_trans (below_size (w := wr) (by repeat (first | exact HB5.out | apply below_alloc | apply pw_below_drewN | apply below_drew1))) hb)
     ·exact Nat.le_trans HB.out.2 (Nat.le_trans (below_size (w := wr) (by repeat (first | exact HB5.out | apply below_alloc | apply pw_below_drewN | apply below_drew1))) HG9.out.size)
   have b1 : ((rd_T43 xs (kk : Int)).f1 == 1) = true := beq_iff_eq.2 h1
   have d1 : decide ((rd_T43 xs (kk : Int)).f1 = 1) = true := decide_eq_true h1
   by_cases h2 : (rd_T43 xs (kk : Int)).f3.size = 0
   ·have e2 : (rd_T43 xs (kk : Int)).f3.toList.isEmpty = true := by rw [bytes_empty]; exact decide_eq_true h2
    have HST : Aside0 (normStep out (rd_T43 xs (kk : Int)) = some out) := ⟨by unfold normStep; rw [if_pos ⟨h1, h2⟩]⟩
    clear h1 h2
    go_wp2_with (first | ((with_reducible refine gate_dst (N := 5) rfl ?_); refine box_event ?hg (N := 5) ?hd (cs := #[.int .i64 0, .int .i64 0, .string (⟨#[]⟩ : ByteArray), .string (⟨#[]⟩ : ByteArray), .slice none 0 0]) (t := 43) ?hr ?_; (case hd => rfl); (case hg => rfl); (case hr => first | (go_simp; done) | (go_simp; rfl)); intro gb hg w8 hbox hb; have HBX := Aside0.mk hbox; have HGB := Aside0.mk hg; have HB8 := Aside0.mk hb; clear hbox hg hb; have hz0 : w8.cell? ⟨gb, 0, none⟩ = some (.int .i64 0) := (blk_cell HBX.out 0).trans rfl; have hz1 : w8.cell? ⟨gb, 1, none⟩ = some (.int .i64 0) := (blk_cell HBX.out 1).trans rfl; have hz2 : w8.cell? ⟨gb, 2, none⟩ = some (.string (⟨#[]⟩ : ByteArray)) := (blk_cell HBX.out 2).trans rfl; have hz3 : w8.cell? ⟨gb, 3, none⟩ = some (.string (⟨#[]⟩ : ByteArray)) := (blk_cell HBX.out 3).trans rfl; have hz4 : w8.cell? ⟨gb, 4, none⟩ = some (.slice none 0 0) := (blk_cell HBX.out 4).trans rfl; have hf0 := blk_frozen HBX.out 0; have hf1 := blk_frozen HBX.out 1; have hf2 := blk_frozen HBX.out 2; have hf3 := blk_frozen HBX.out 3; have hf4 := blk_frozen HBX.out 4))
    
    generalize hwx : World.setCell (World.setCell (World.setCell (World.setCell (World.setCell w8 _ _) _ _) _ _) _ _) _ _ = wx
    have HBW : Aside0 (wx.heap[gb]? = some (.cells #[.int .i64 (rd_T43 xs (kk : Int)).f0, .int .i64 (rd_T43 xs (kk : Int)).f1, .string (rd_T43 xs (kk : Int)).f2, .string (rd_T43 xs (kk : Int)).f3, .slice A4 (rd_T43 xs (kk : Int)).f4.length c4] 43 (0, 0))) := ⟨by
     rw [← hwx]
     refine blk_put (cs := #[.int .i64 (rd_T43 xs (kk : Int)).f0, .int .i64 (rd_T43 xs (kk : Int)).f1, .string (rd_T43 xs (kk : Int)).f2, .string (rd_T43 xs (kk : Int)).f3, .slice none 0 0]) ?_ 4 _ rfl
     refine blk_put (cs := #[.int .i64 (rd_T43 xs (kk : Int)).f0, .int .i64 (rd_T43 xs (kk : Int)).f1, .string (rd_T43 xs (kk : Int)).f2, .string (⟨#[]⟩ : ByteArray), .slice none 0 0]) ?_ 3 _ rfl
     refine blk_put (cs := #[.int .i64 (rd_T43 xs (kk : Int)).f0, .int .i64 (rd_T43 xs (kk : Int)).f1, .string (⟨#[]⟩ : ByteArray), .string (⟨#[]⟩ : ByteArray), .slice none 0 0]) ?_ 2 _ rfl
     refine blk_put (cs := #[.int .i64 (rd_T43 xs (kk : Int)).f0, .int .i64 0, .string (⟨#[]⟩ : ByteArray), .string (⟨#[]⟩ : ByteArray), .slice none 0 0]) ?_ 1 _ rfl
     refine blk_put (cs := #[.int .i64 0, .int .i64 0, .string (⟨#[]⟩ : ByteArray), .string (⟨#[]⟩ : ByteArray), .slice none 0 0]) ?_ 0 _ rfl
     exact HBX.out⟩
    have HB5 : Aside0 (Below wr.heap.size wr wx) := ⟨by
     rw [← hwx]
     repeat (first | exact HB8.out | refine below_set ?_ (Nat.le_of_eq HGB.out.symm))⟩
    clear hwx HBX HB8 hz0 hz1 hz2 hz3 hz4 hf0 hf1 hf2 hf3 hf4
    
    have HGN : Aside0 (normGo out (xs.drop (kk + 1)) = some r) := ⟨by have h := HGS.out; rw [HST.out] at h; exact h⟩
    go_roundg (xs.length - (kk + 1))
    case measure => omega
    case rel => exact ⟨kk + 1, out, by omega, by omega, by go_num, HGN, ⟨normI_next (normI_below HI.out HB5.out)⟩, ⟨below_step HB.out.1 HB5.out, Nat.le_trans HB.out.2 HB5.out.size⟩⟩
   have e2 : (rd_T43 xs (kk : Int)).f3.toList.isEmpty = false := by rw [bytes_empty]; exact decide_eq_false h2
   have HH1 := Aside0.mk h1
   have HH2 := Aside0.mk h2
   clear h1 h2
   by_cases h3 : 0 < out.length
   rotate_left
   ·have p0 : decide ((out.length : Int) > 0) = false := decide_eq_false (by omega)
    have p1 : decide (0 < (out.length : Int)) = false := decide_eq_false (by omega)
    have p2 : decide (0 < out.length) = false := decide_eq_false h3
    have HST : Aside0 (normStep out (rd_T43 xs (kk : Int)) = if out.length < 1954687338268 then some (out ++ [(rd_T43 xs (kk : Int))]) else none) := ⟨by unfold normStep; rw [if_neg (fun e => HH2.out e.2), if_neg (fun e => h3 e.2.1)]⟩
    clear h3
    by_cases hfit : out.length < 1954687338268
    rotate_left
    ·exact absurd HGS.out (by rw [HST.out, if_neg hfit]; simp)
    have HFIT := Aside0.mk hfit
    clear hfit
    have HGN : Aside0 (normGo (out ++ [(rd_T43 xs (kk : Int))]) (xs.drop (kk + 1)) = some r) := ⟨by have h := HGS.out; rw [HST.out, if_pos HFIT.out] at h; exact h⟩
    clear HGS HST
    go_wp2_with (first | ((with_reducible refine gate_dst (N := 5) rfl ?_); refine box_event ?hg (N := 5) ?hd (cs := #[.int .i64 0, .int .i64 0, .string (⟨#[]⟩ : ByteArray), .string (⟨#[]⟩ : ByteArray), .slice none 0 0]) (t := 43) ?hr ?_; (case hd => rfl); (case hg => rfl); (case hr => first | (go_simp; done) | (go_simp; rfl)); intro gb hg w8 hbox hb; have HBX := Aside0.mk hbox; have HGB := Aside0.mk hg; have HB8 := Aside0.mk hb; clear hbox hg hb; have hz0 : w8.cell? ⟨gb, 0, none⟩ = some (.int .i64 0) := (blk_cell HBX.out 0).trans rfl; have hz1 : w8.cell? ⟨gb, 1, none⟩ = some (.int .i64 0) := (blk_cell HBX.out 1).trans rfl; have hz2 : w8.cell? ⟨gb, 2, none⟩ = some (.string (⟨#[]⟩ : ByteArray)) := (blk_cell HBX.out 2).trans rfl; have hz3 : w8.cell? ⟨gb, 3, none⟩ = some (.string (⟨#[]⟩ : ByteArray)) := (blk_cell HBX.out 3).trans rfl; have hz4 : w8.cell? ⟨gb, 4, none⟩ = some (.slice none 0 0) := (blk_cell HBX.out 4).trans rfl; have hf0 := blk_frozen HBX.out 0; have hf1 := blk_frozen HBX.out 1; have hf2 := blk_frozen HBX.out 2; have hf3 := blk_frozen HBX.out 3; have hf4 := blk_frozen HBX.out 4))
    
    generalize hwx : World.setCell (World.setCell (World.setCell (World.setCell (World.setCell w8 _ _) _ _) _ _) _ _) _ _ = wx
    have HBW : Aside0 (wx.heap[gb]? = some (.cells #[.int .i64 (rd_T43 xs (kk : Int)).f0, .int .i64 (rd_T43 xs (kk : Int)).f1, .string (rd_T43 xs (kk : Int)).f2, .string (rd_T43 xs (kk : Int)).f3, .slice A4 (rd_T43 xs (kk : Int)).f4.length c4] 43 (0, 0))) := ⟨by
     rw [← hwx]
     refine blk_put (cs := #[.int .i64 (rd_T43 xs (kk : Int)).f0, .int .i64 (rd_T43 xs (kk : Int)).f1, .string (rd_T43 xs (kk : Int)).f2, .string (rd_T43 xs (kk : Int)).f3, .slice none 0 0]) ?_ 4 _ rfl
     refine blk_put (cs := #[.int .i64 (rd_T43 xs (kk : Int)).f0, .int .i64 (rd_T43 xs (kk : Int)).f1, .string (rd_T43 xs (kk : Int)).f2, .string (⟨#[]⟩ : ByteArray), .slice none 0 0]) ?_ 3 _ rfl
     refine blk_put (cs := #[.int .i64 (rd_T43 xs (kk : Int)).f0, .int .i64 (rd_T43 xs (kk : Int)).f1, .string (⟨#[]⟩ : ByteArray), .string (⟨#[]⟩ : ByteArray), .slice none 0 0]) ?_ 2 _ rfl
     refine blk_put (cs := #[.int .i64 (rd_T43 xs (kk : Int)).f0, .int .i64 0, .string (⟨#[]⟩ : ByteArray), .string (⟨#[]⟩ : ByteArray), .slice none 0 0]) ?_ 1 _ rfl
     refine blk_put (cs := #[.int .i64 0, .int .i64 0, .string (⟨#[]⟩ : ByteArray), .string (⟨#[]⟩ : ByteArray), .slice none 0 0]) ?_ 0 _ rfl
     exact HBX.out⟩
    have HB5 : Aside0 (Below wr.heap.size wr wx) := ⟨by
     rw [← hwx]
     repeat (first | exact HB8.out | refine below_set ?_ (Nat.le_of_eq HGB.out.symm))⟩
    clear hwx HBX HB8 hz0 hz1 hz2 hz3 hz4 hf0 hf1 hf2 hf3 hf4
    
    have hy0 : wx.cell? ⟨gb, 0, none⟩ = some (.int .i64 (rd_T43 xs (kk : Int)).f0) := (blk_cell HBW.out 0).trans rfl
    have hy1 : wx.cell? ⟨gb, 1, none⟩ = some (.int .i64 (rd_T43 xs (kk : Int)).f1) := (blk_cell HBW.out 1).trans rfl
    have hy2 : wx.cell? ⟨gb, 2, none⟩ = some (.string (rd_T43 xs (kk : Int)).f2) := (blk_cell HBW.out 2).trans rfl
    have hy3 : wx.cell? ⟨gb, 3, none⟩ = some (.string (rd_T43 xs (kk : Int)).f3) := (blk_cell HBW.out 3).trans rfl
    have hy4 : wx.cell? ⟨gb, 4, none⟩ = some (.slice A4 (rd_T43 xs (kk : Int)).f4.length c4) := (blk_cell HBW.out 4).trans rfl
    go_quiet (fail)
    go_wp2_with ((with_reducible refine gate_builtin (b := .append) (xs := #[.tmp 16, .tmp 18]) rfl ?_); at_builtin; refine Kd.S_append k43 (w0 := w) w.heap.size rfl (.tmp 16) (.tmp 18) 22 43 (.agg #[(.int .i64 0), (.int .i64 0), (.string ⟨#[]⟩), (.string ⟨#[]⟩), (.slice none 0 0)]) 72 rfl Try.underlying22 info43 rfl (by decide) (by omega) (.slice AO out.length cO) out (rd_T43 xs (kk : Int)) [.int .i64 (rd_T43 xs (kk : Int)).f0, .int .i64 (rd_T43 xs (kk : Int)).f1, .string (rd_T43 xs (kk : Int)).f2, .string (rd_T43 xs (kk : Int)).f3, .slice A4 (rd_T43 xs (kk : Int)).f4.length c4] (fun k => w1.heap.size ≤ k ∨ (k < w1.heap.size ∧ f k < kk + 1)) (fun k => k < w1.heap.size ∧ f k = kk) rfl rfl ?aP (fun k hk => ⟨.inr ⟨hk.1, by omega⟩, fun e => by have := HI.out.2.2 k e.symm; omega⟩) ?aF ?aO ?aB ?aS ?aL ?_; (case aP => exact k43_mkM _ _ _ (rd_T43 xs (kk : Int)) (Kd.R_below HR4.out (by repeat (first | exact HB5.out | apply below_alloc | apply pw_below_drewN | apply below_drew1)))); (case aB => exact below_step HB.out.1 (by repeat (first | exact HB5.out | apply below_alloc | apply pw_below_drewN | apply below_drew1))); (case aF => exact (fun k hk => .inl (Nat.le_trans HB.out.2 (Nat.le_trans (below_size (w := wr) (by repeat (first | exact HB5.out | apply below_alloc | apply pw_below_drewN | apply below_drew1))) hk)))); (case aO => exact Kd.S_mono (Kd.S_below HI.out.2.1 (by repeat (first | exact HB5.out | apply below_alloc | apply pw_below_drewN | apply below_drew1))) (fun k hk => ⟨by omega, by omega⟩)); (case aS => exact below_size (below_step HB.out.1 (by repeat (first | exact HB5.out | apply below_alloc | apply pw_below_drewN | apply below_drew1)))); (case aL => have := HFIT.out; omega); intro v9 w9 ho hb hg9 hat; have HO9 := Aside0.mk ho; have HB9 := Aside0.mk hb; have HG9 := Aside0.mk hg9; have HA9 := Aside0.mk hat; clear ho hb hg9 hat)
    go_roundg (xs.length - (kk + 1))
    case measure => omega
    case rel =>
     refine ⟨kk + 1, out ++ [(rd_T43 xs (kk : Int))], by omega, by omega, by go_num, HGN, ⟨?_, HO9.out, ?_⟩, ⟨HB9.out, ?_⟩⟩
     ·exact Kd.R_grown (Kd.R_below HI.out.1 (by repeat (first | exact HB5.out | apply below_alloc | apply pw_below_drewN | apply below_drew1))) HG9.out (fun k hk e => by have := HI.out.2.2 k e.symm; omega)
     ·intro k hk
      rcases HA9.out with h | ⟨b, h, hb⟩
      ·exact HI.out.2.2 k (h ▸ hk)
      ·have : b = k := by rw [h] at hk; injection hk
       subst this
       exact Nat.le_trans HB.out.2 (Nat.le_trans (below_size (w := wr) (by repeat (first | exact HB5.out | apply below_alloc | apply pw_below_drewN | apply below_drew1))) hb)
     ·exact Nat.le_trans HB.out.2 (Nat.le_trans (below_size (w := wr) (by repeat (first | exact HB5.out | apply below_alloc | apply pw_below_drewN | apply below_drew1))) HG9.out.size)
   obtain ⟨m, hm1⟩ : ∃ m, out.length = m + 1 := ⟨out.length - 1, by omega⟩
   obtain ⟨ao, go, vl, rfl, hao, hno, hlc, hlf⟩ := norm_last HI.out.2.1 m (by omega)
   have HAO := Aside0.mk hao
   clear hao hno
   have hl0 : wr.cell? (ao.add (m * 5)) = some (.int .i64 (rd_T43 out (m : Int)).f0) := hlc 0 _ rfl
   have hl1 : wr.cell? ⟨(ao.add (m * 5)).block, (ao.add (m * 5)).off + 1, none⟩ = some (.int .i64 (rd_T43 out (m : Int)).f1) := by rw [← add_field _ _ 1 (by omega)]; exact hlc 1 _ rfl
   have hl3 : wr.cell? ⟨(ao.add (m * 5)).block, (ao.add (m * 5)).off + 3, none⟩ = some (.string (rd_T43 out (m : Int)).f3) := by rw [← add_field _ _ 3 (by omega)]; exact hlc 3 _ rfl
   have hlf3 : wr.frozen? ⟨(ao.add (m * 5)).block, (ao.add (m * 5)).off + 3, none⟩ = false := by rw [← add_field _ _ 3 (by omega)]; exact hlf 3
   have HL0 := Aside0.mk hl0
   have HL1 := Aside0.mk hl1
   have HL3 := Aside0.mk hl3
   have HLF := Aside0.mk hlf3
   clear hlc hlf hl0 hl1 hl3 hlf3
   have hom : (rd_T43 out ((out.length - 1 : Nat) : Int)) = rd_T43 out (m : Int) := by rw [hm1]; rfl
   have HOM := Aside0.mk hom
   clear hom
   have hw : IntKind.i64.wrap ((out.length : Int) - 1) = (m : Int) := by
    have := Kd.C_max (Kd.S_reads' HI.out.2.1).2.2
    rw [IntWalk.i64_in _ (by omega)]; omega
   have hmn : (m : Int) < (out.length : Int) := by omega
   have HM1 := Aside0.mk hm1
   clear hm1
   have p0 : decide ((out.length : Int) > 0) = true := decide_eq_true (by omega)
   have p1 : decide (0 < (out.length : Int)) = true := decide_eq_true (by omega)
   have p2 : decide (0 < out.length) = true := decide_eq_true h3
   by_cases h4 : (rd_T43 out (m : Int)).f1 = 1
   rotate_left
   ·have b4 : ((rd_T43 out (m : Int)).f1 == 1) = false := beq_eq_false_iff_ne.2 h4
    have d4 : decide ((rd_T43 out (m : Int)).f1 = 1) = false := decide_eq_false h4
    have HST : Aside0 (normStep out (rd_T43 xs (kk : Int)) = if out.length < 1954687338268 then some (out ++ [(rd_T43 xs (kk : Int))]) else none) := ⟨by unfold normStep; rw [HOM.out, if_neg (fun e => HH2.out e.2), if_neg (fun e => h4 e.2.2.1)]⟩
    clear h4
    by_cases hfit : out.length < 1954687338268
    rotate_left
    ·exact absurd HGS.out (by rw [HST.out, if_neg hfit]; simp)
    have HFIT := Aside0.mk hfit
    clear hfit
    have HGN : Aside0 (normGo (out ++ [(rd_T43 xs (kk : Int))]) (xs.drop (kk + 1)) = some r) := ⟨by have h := HGS.out; rw [HST.out, if_pos HFIT.out] at h; exact h⟩
    clear HGS HST
    go_wp2_with (first | ((with_reducible refine gate_dst (N := 5) rfl ?_); refine box_event ?hg (N := 5) ?hd (cs := #[.int .i64 0, .int .i64 0, .string (⟨#[]⟩ : ByteArray), .string (⟨#[]⟩ : ByteArray), .slice none 0 0]) (t := 43) ?hr ?_; (case hd => rfl); (case hg => rfl); (case hr => first | (go_simp; done) | (go_simp; rfl)); intro gb hg w8 hbox hb; have HBX := Aside0.mk hbox; have HGB := Aside0.mk hg; have HB8 := Aside0.mk hb; clear hbox hg hb; have hz0 : w8.cell? ⟨gb, 0, none⟩ = some (.int .i64 0) := (blk_cell HBX.out 0).trans rfl; have hz1 : w8.cell? ⟨gb, 1, none⟩ = some (.int .i64 0) := (blk_cell HBX.out 1).trans rfl; have hz2 : w8.cell? ⟨gb, 2, none⟩ = some (.string (⟨#[]⟩ : ByteArray)) := (blk_cell HBX.out 2).trans rfl; have hz3 : w8.cell? ⟨gb, 3, none⟩ = some (.string (⟨#[]⟩ : ByteArray)) := (blk_cell HBX.out 3).trans rfl; have hz4 : w8.cell? ⟨gb, 4, none⟩ = some (.slice none 0 0) := (blk_cell HBX.out 4).trans rfl; have hf0 := blk_frozen HBX.out 0; have hf1 := blk_frozen HBX.out 1; have hf2 := blk_frozen HBX.out 2; have hf3 := blk_frozen HBX.out 3; have hf4 := blk_frozen HBX.out 4))
    
    generalize hwx : World.setCell (World.setCell (World.setCell (World.setCell (World.setCell w8 _ _) _ _) _ _) _ _) _ _ = wx
    have HBW : Aside0 (wx.heap[gb]? = some (.cells #[.int .i64 (rd_T43 xs (kk : Int)).f0, .int .i64 (rd_T43 xs (kk : Int)).f1, .string (rd_T43 xs (kk : Int)).f2, .string (rd_T43 xs (kk : Int)).f3, .slice A4 (rd_T43 xs (kk : Int)).f4.length c4] 43 (0, 0))) := ⟨by
     rw [← hwx]
     refine blk_put (cs := #[.int .i64 (rd_T43 xs (kk : Int)).f0, .int .i64 (rd_T43 xs (kk : Int)).f1, .string (rd_T43 xs (kk : Int)).f2, .string (rd_T43 xs (kk : Int)).f3, .slice none 0 0]) ?_ 4 _ rfl
     refine blk_put (cs := #[.int .i64 (rd_T43 xs (kk : Int)).f0, .int .i64 (rd_T43 xs (kk : Int)).f1, .string (rd_T43 xs (kk : Int)).f2, .string (⟨#[]⟩ : ByteArray), .slice none 0 0]) ?_ 3 _ rfl
     refine blk_put (cs := #[.int .i64 (rd_T43 xs (kk : Int)).f0, .int .i64 (rd_T43 xs (kk : Int)).f1, .string (⟨#[]⟩ : ByteArray), .string (⟨#[]⟩ : ByteArray), .slice none 0 0]) ?_ 2 _ rfl
     refine blk_put (cs := #[.int .i64 (rd_T43 xs (kk : Int)).f0, .int .i64 0, .string (⟨#[]⟩ : ByteArray), .string (⟨#[]⟩ : ByteArray), .slice none 0 0]) ?_ 1 _ rfl
     refine blk_put (cs := #[.int .i64 0, .int .i64 0, .string (⟨#[]⟩ : ByteArray), .string (⟨#[]⟩ : ByteArray), .slice none 0 0]) ?_ 0 _ rfl
     exact HBX.out⟩
    have HB5 : Aside0 (Below wr.heap.size wr wx) := ⟨by
     rw [← hwx]
     repeat (first | exact HB8.out | refine below_set ?_ (Nat.le_of_eq HGB.out.symm))⟩
    clear hwx HBX HB8 hz0 hz1 hz2 hz3 hz4 hf0 hf1 hf2 hf3 hf4
    
    have hy0 : wx.cell? ⟨gb, 0, none⟩ = some (.int .i64 (rd_T43 xs (kk : Int)).f0) := (blk_cell HBW.out 0).trans rfl
    have hy1 : wx.cell? ⟨gb, 1, none⟩ = some (.int .i64 (rd_T43 xs (kk : Int)).f1) := (blk_cell HBW.out 1).trans rfl
    have hy2 : wx.cell? ⟨gb, 2, none⟩ = some (.string (rd_T43 xs (kk : Int)).f2) := (blk_cell HBW.out 2).trans rfl
    have hy3 : wx.cell? ⟨gb, 3, none⟩ = some (.string (rd_T43 xs (kk : Int)).f3) := (blk_cell HBW.out 3).trans rfl
    have hy4 : wx.cell? ⟨gb, 4, none⟩ = some (.slice A4 (rd_T43 xs (kk : Int)).f4.length c4) := (blk_cell HBW.out 4).trans rfl
    
    have hq0 := (HB5.out.cell (World.block_lt_of_cell? wr _ HL0.out)).trans HL0.out
    have hq1 := (HB5.out.cell (World.block_lt_of_cell? wr _ HL1.out)).trans HL1.out
    have hq3 := (HB5.out.cell (World.block_lt_of_cell? wr _ HL3.out)).trans HL3.out
    
    go_quiet (fail)
    go_wp2_with ((with_reducible refine gate_builtin (b := .append) (xs := #[.tmp 16, .tmp 18]) rfl ?_); at_builtin; refine Kd.S_append k43 (w0 := w) w.heap.size rfl (.tmp 16) (.tmp 18) 22 43 (.agg #[(.int .i64 0), (.int .i64 0), (.string ⟨#[]⟩), (.string ⟨#[]⟩), (.slice none 0 0)]) 72 rfl Try.underlying22 info43 rfl (by decide) (by omega) (.slice (some ao) out.length cO) out (rd_T43 xs (kk : Int)) [.int .i64 (rd_T43 xs (kk : Int)).f0, .int .i64 (rd_T43 xs (kk : Int)).f1, .string (rd_T43 xs (kk : Int)).f2, .string (rd_T43 xs (kk : Int)).f3, .slice A4 (rd_T43 xs (kk : Int)).f4.length c4] (fun k => w1.heap.size ≤ k ∨ (k < w1.heap.size ∧ f k < kk + 1)) (fun k => k < w1.heap.size ∧ f k = kk) rfl rfl ?aP (fun k hk => ⟨.inr ⟨hk.1, by omega⟩, fun e => by have := HI.out.2.2 k e.symm; omega⟩) ?aF ?aO ?aB ?aS ?aL ?_; (case aP => exact k43_mkM _ _ _ (rd_T43 xs (kk : Int)) (Kd.R_below HR4.out (by repeat (first | exact HB5.out | apply below_alloc | apply pw_below_drewN | apply below_drew1)))); (case aB => exact below_step HB.out.1 (by repeat (first | exact HB5.out | apply below_alloc | apply pw_below_drewN | apply below_drew1))); (case aF => exact (fun k hk => .inl (Nat.le_trans HB.out.2 (Nat.le_trans (below_size (w := wr) (by repeat (first | exact HB5.out | apply below_alloc | apply pw_below_drewN | apply below_drew1))) hk)))); (case aO => exact Kd.S_mono (Kd.S_below HI.out.2.1 (by repeat (first | exact HB5.out | apply below_alloc | apply pw_below_drewN | apply below_drew1))) (fun k hk => ⟨by omega, by omega⟩)); (case aS => exact below_size (below_step HB.out.1 (by repeat (first | exact HB5.out | apply below_alloc | apply pw_below_drewN | apply below_drew1)))); (case aL => have := HFIT.out; omega); intro v9 w9 ho hb hg9 hat; have HO9 := Aside0.mk ho; have HB9 := Aside0.mk hb; have HG9 := Aside0.mk hg9; have HA9 := Aside0.mk hat; clear ho hb hg9 hat)
    go_roundg (xs.length - (kk + 1))
    case measure => omega
    case rel =>
     refine ⟨kk + 1, out ++ [(rd_T43 xs (kk : Int))], by omega, by omega, by go_num, HGN, ⟨?_, HO9.out, ?_⟩, ⟨HB9.out, ?_⟩⟩
     ·exact Kd.R_grown (Kd.R_below HI.out.1 (by repeat (first | exact HB5.out | apply below_alloc | apply pw_below_drewN | apply below_drew1))) HG9.out (fun k hk e => by have := HI.out.2.2 k e.symm; omega)
     ·intro k hk
      rcases HA9.out with h | ⟨b, h, hb⟩
      ·exact HI.out.2.2 k (h ▸ hk)
      ·have : b = k := by rw [h] at hk; injection hk
       subst this
       exact Nat.le_trans HB.out.2 (Nat.le_trans (below_size (w := wr) (by repeat (first | exact HB5.out | apply below_alloc | apply pw_below_drewN | apply below_drew1))) hb)
     ·exact Nat.le_trans HB.out.2 (Nat.le_trans (below_size (w := wr) (by repeat (first | exact HB5.out | apply below_alloc | apply pw_below_drewN | apply below_drew1))) HG9.out.size)
   have b4 : ((rd_T43 out (m : Int)).f1 == 1) = true := beq_iff_eq.2 h4
   have d4 : decide ((rd_T43 out (m : Int)).f1 = 1) = true := decide_eq_true h4
   by_cases h5 : (rd_T43 out (m : Int)).f0 = (rd_T43 xs (kk : Int)).f0
   rotate_left
   ·have b5 : ((rd_T43 out (m : Int)).f0 == (rd_T43 xs (kk : Int)).f0) = false := beq_eq_false_iff_ne.2 h5
    have d5 : decide ((rd_T43 out (m : Int)).f0 = (rd_T43 xs (kk : Int)).f0) = false := decide_eq_false h5
    have HST : Aside0 (normStep out (rd_T43 xs (kk : Int)) = if out.length < 1954687338268 then some (out ++ [(rd_T43 xs (kk : Int))]) else none) := ⟨by unfold normStep; rw [HOM.out, if_neg (fun e => HH2.out e.2), if_neg (fun e => h5 e.2.2.2)]⟩
    clear h4 h5
    by_cases hfit : out.length < 1954687338268
    rotate_left
    ·exact absurd HGS.out (by rw [HST.out, if_neg hfit]; simp)
    have HFIT := Aside0.mk hfit
    clear hfit
    have HGN : Aside0 (normGo (out ++ [(rd_T43 xs (kk : Int))]) (xs.drop (kk + 1)) = some r) := ⟨by have h := HGS.out; rw [HST.out, if_pos HFIT.out] at h; exact h⟩
    clear HGS HST
    go_wp2_with (first | ((with_reducible refine gate_dst (N := 5) rfl ?_); refine box_event ?hg (N := 5) ?hd (cs := #[.int .i64 0, .int .i64 0, .string (⟨#[]⟩ : ByteArray), .string (⟨#[]⟩ : ByteArray), .slice none 0 0]) (t := 43) ?hr ?_; (case hd => rfl); (case hg => rfl); (case hr => first | (go_simp; done) | (go_simp; rfl)); intro gb hg w8 hbox hb; have HBX := Aside0.mk hbox; have HGB := Aside0.mk hg; have HB8 := Aside0.mk hb; clear hbox hg hb; have hz0 : w8.cell? ⟨gb, 0, none⟩ = some (.int .i64 0) := (blk_cell HBX.out 0).trans rfl; have hz1 : w8.cell? ⟨gb, 1, none⟩ = some (.int .i64 0) := (blk_cell HBX.out 1).trans rfl; have hz2 : w8.cell? ⟨gb, 2, none⟩ = some (.string (⟨#[]⟩ : ByteArray)) := (blk_cell HBX.out 2).trans rfl; have hz3 : w8.cell? ⟨gb, 3, none⟩ = some (.string (⟨#[]⟩ : ByteArray)) := (blk_cell HBX.out 3).trans rfl; have hz4 : w8.cell? ⟨gb, 4, none⟩ = some (.slice none 0 0) := (blk_cell HBX.out 4).trans rfl; have hf0 := blk_frozen HBX.out 0; have hf1 := blk_frozen HBX.out 1; have hf2 := blk_frozen HBX.out 2; have hf3 := blk_frozen HBX.out 3; have hf4 := blk_frozen HBX.out 4))
    
    generalize hwx : World.setCell (World.setCell (World.setCell (World.setCell (World.setCell w8 _ _) _ _) _ _) _ _) _ _ = wx
    have HBW : Aside0 (wx.heap[gb]? = some (.cells #[.int .i64 (rd_T43 xs (kk : Int)).f0, .int .i64 (rd_T43 xs (kk : Int)).f1, .string (rd_T43 xs (kk : Int)).f2, .string (rd_T43 xs (kk : Int)).f3, .slice A4 (rd_T43 xs (kk : Int)).f4.length c4] 43 (0, 0))) := ⟨by
     rw [← hwx]
     refine blk_put (cs := #[.int .i64 (rd_T43 xs (kk : Int)).f0, .int .i64 (rd_T43 xs (kk : Int)).f1, .string (rd_T43 xs (kk : Int)).f2, .string (rd_T43 xs (kk : Int)).f3, .slice none 0 0]) ?_ 4 _ rfl
     refine blk_put (cs := #[.int .i64 (rd_T43 xs (kk : Int)).f0, .int .i64 (rd_T43 xs (kk : Int)).f1, .string (rd_T43 xs (kk : Int)).f2, .string (⟨#[]⟩ : ByteArray), .slice none 0 0]) ?_ 3 _ rfl
     refine blk_put (cs := #[.int .i64 (rd_T43 xs (kk : Int)).f0, .int .i64 (rd_T43 xs (kk : Int)).f1, .string (⟨#[]⟩ : ByteArray), .string (⟨#[]⟩ : ByteArray), .slice none 0 0]) ?_ 2 _ rfl
     refine blk_put (cs := #[.int .i64 (rd_T43 xs (kk : Int)).f0, .int .i64 0, .string (⟨#[]⟩ : ByteArray), .string (⟨#[]⟩ : ByteArray), .slice none 0 0]) ?_ 1 _ rfl
     refine blk_put (cs := #[.int .i64 0, .int .i64 0, .string (⟨#[]⟩ : ByteArray), .string (⟨#[]⟩ : ByteArray), .slice none 0 0]) ?_ 0 _ rfl
     exact HBX.out⟩
    have HB5 : Aside0 (Below wr.heap.size wr wx) := ⟨by
     rw [← hwx]
     repeat (first | exact HB8.out | refine below_set ?_ (Nat.le_of_eq HGB.out.symm))⟩
    clear hwx HBX HB8 hz0 hz1 hz2 hz3 hz4 hf0 hf1 hf2 hf3 hf4
    
    have hy0 : wx.cell? ⟨gb, 0, none⟩ = some (.int .i64 (rd_T43 xs (kk : Int)).f0) := (blk_cell HBW.out 0).trans rfl
    have hy1 : wx.cell? ⟨gb, 1, none⟩ = some (.int .i64 (rd_T43 xs (kk : Int)).f1) := (blk_cell HBW.out 1).trans rfl
    have hy2 : wx.cell? ⟨gb, 2, none⟩ = some (.string (rd_T43 xs (kk : Int)).f2) := (blk_cell HBW.out 2).trans rfl
    have hy3 : wx.cell? ⟨gb, 3, none⟩ = some (.string (rd_T43 xs (kk : Int)).f3) := (blk_cell HBW.out 3).trans rfl
    have hy4 : wx.cell? ⟨gb, 4, none⟩ = some (.slice A4 (rd_T43 xs (kk : Int)).f4.length c4) := (blk_cell HBW.out 4).trans rfl
    
    have hq0 := (HB5.out.cell (World.block_lt_of_cell? wr _ HL0.out)).trans HL0.out
    have hq1 := (HB5.out.cell (World.block_lt_of_cell? wr _ HL1.out)).trans HL1.out
    have hq3 := (HB5.out.cell (World.block_lt_of_cell? wr _ HL3.out)).trans HL3.out
    
    go_quiet (fail)
    go_wp2_with ((with_reducible refine gate_builtin (b := .append) (xs := #[.tmp 16, .tmp 18]) rfl ?_); at_builtin; refine Kd.S_append k43 (w0 := w) w.heap.size rfl (.tmp 16) (.tmp 18) 22 43 (.agg #[(.int .i64 0), (.int .i64 0), (.string ⟨#[]⟩), (.string ⟨#[]⟩), (.slice none 0 0)]) 72 rfl Try.underlying22 info43 rfl (by decide) (by omega) (.slice (some ao) out.length cO) out (rd_T43 xs (kk : Int)) [.int .i64 (rd_T43 xs (kk : Int)).f0, .int .i64 (rd_T43 xs (kk : Int)).f1, .string (rd_T43 xs (kk : Int)).f2, .string (rd_T43 xs (kk : Int)).f3, .slice A4 (rd_T43 xs (kk : Int)).f4.length c4] (fun k => w1.heap.size ≤ k ∨ (k < w1.heap.size ∧ f k < kk + 1)) (fun k => k < w1.heap.size ∧ f k = kk) rfl rfl ?aP (fun k hk => ⟨.inr ⟨hk.1, by omega⟩, fun e => by have := HI.out.2.2 k e.symm; omega⟩) ?aF ?aO ?aB ?aS ?aL ?_; (case aP => exact k43_mkM _ _ _ (rd_T43 xs (kk : Int)) (Kd.R_below HR4.out (by repeat (first | exact HB5.out | apply below_alloc | apply pw_below_drewN | apply below_drew1)))); (case aB => exact below_step HB.out.1 (by repeat (first | exact HB5.out | apply below_alloc | apply pw_below_drewN | apply below_drew1))); (case aF => exact (fun k hk => .inl (Nat.le_trans HB.out.2 (Nat.le_trans (below_size (w := wr) (by repeat (first | exact HB5.out | apply below_alloc | apply pw_below_drewN | apply below_drew1))) hk)))); (case aO => exact Kd.S_mono (Kd.S_below HI.out.2.1 (by repeat (first | exact HB5.out | apply below_alloc | apply pw_below_drewN | apply below_drew1))) (fun k hk => ⟨by omega, by omega⟩)); (case aS => exact below_size (below_step HB.out.1 (by repeat (first | exact HB5.out | apply below_alloc | apply pw_below_drewN | apply below_drew1)))); (case aL => have := HFIT.out; omega); intro v9 w9 ho hb hg9 hat; have HO9 := Aside0.mk ho; have HB9 := Aside0.mk hb; have HG9 := Aside0.mk hg9; have HA9 := Aside0.mk hat; clear ho hb hg9 hat)
    go_roundg (xs.length - (kk + 1))
    case measure => omega
    case rel =>
     refine ⟨kk + 1, out ++ [(rd_T43 xs (kk : Int))], by omega, by omega, by go_num, HGN, ⟨?_, HO9.out, ?_⟩, ⟨HB9.out, ?_⟩⟩
     ·exact Kd.R_grown (Kd.R_below HI.out.1 (by repeat (first | exact HB5.out | apply below_alloc | apply pw_below_drewN | apply below_drew1))) HG9.out (fun k hk e => by have := HI.out.2.2 k e.symm; omega)
     ·intro k hk
      rcases HA9.out with h | ⟨b, h, hb⟩
      ·exact HI.out.2.2 k (h ▸ hk)
      ·have : b = k := by rw [h] at hk; injection hk
       subst this
       exact Nat.le_trans HB.out.2 (Nat.le_trans (below_size (w := wr) (by repeat (first | exact HB5.out | apply below_alloc | apply pw_below_drewN | apply below_drew1))) hb)
     ·exact Nat.le_trans HB.out.2 (Nat.le_trans (below_size (w := wr) (by repeat (first | exact HB5.out | apply below_alloc | apply pw_below_drewN | apply below_drew1))) HG9.out.size)
   have b5 : ((rd_T43 out (m : Int)).f0 == (rd_T43 xs (kk : Int)).f0) = true := beq_iff_eq.2 h5
   have d5 : decide ((rd_T43 out (m : Int)).f0 = (rd_T43 xs (kk : Int)).f0) = true := decide_eq_true h5
   by_cases h6 : (rd_T43 out (m : Int)).f3.size + (rd_T43 xs (kk : Int)).f3.size ≤ 9223372036854775807
   rotate_left
   ·exact absurd HGS.out (by unfold normStep; rw [HOM.out, if_neg (fun e => HH2.out e.2), if_pos ⟨HH1.out, h3, h4, h5⟩, if_neg h6]; simp)
   have HGN : Aside0 (normGo (out.set m ⟨(rd_T43 out (m : Int)).f0, (rd_T43 out (m : Int)).f1, (rd_T43 out (m : Int)).f2, (rd_T43 out (m : Int)).f3 ++ (rd_T43 xs (kk : Int)).f3, (rd_T43 out (m : Int)).f4⟩) (xs.drop (kk + 1)) = some r) := ⟨by
    have h := HGS.out
    unfold normStep at h
    rw [HOM.out, if_neg (fun e => HH2.out e.2), if_pos ⟨HH1.out, h3, h4, h5⟩, if_pos h6] at h
    rw [show out.length - 1 = m from by have := HM1.out; omega] at h
    exact h⟩
   have h6n : ¬ 9223372036854775807 < (rd_T43 out (m : Int)).f3.size + (rd_T43 xs (kk : Int)).f3.size := Nat.not_lt.2 h6
   clear HGS h4 h5 h6
   go_wp2_with (first | ((with_reducible refine gate_dst (N := 5) rfl ?_); refine box_event ?hg (N := 5) ?hd (cs := #[.int .i64 0, .int .i64 0, .string (⟨#[]⟩ : ByteArray), .string (⟨#[]⟩ : ByteArray), .slice none 0 0]) (t := 43) ?hr ?_; (case hd => rfl); (case hg => rfl); (case hr => first | (go_simp; done) | (go_simp; rfl)); intro gb hg w8 hbox hb; have HBX := Aside0.mk hbox; have HGB := Aside0.mk hg; have HB8 := Aside0.mk hb; clear hbox hg hb; have hz0 : w8.cell? ⟨gb, 0, none⟩ = some (.int .i64 0) := (blk_cell HBX.out 0).trans rfl; have hz1 : w8.cell? ⟨gb, 1, none⟩ = some (.int .i64 0) := (blk_cell HBX.out 1).trans rfl; have hz2 : w8.cell? ⟨gb, 2, none⟩ = some (.string (⟨#[]⟩ : ByteArray)) := (blk_cell HBX.out 2).trans rfl; have hz3 : w8.cell? ⟨gb, 3, none⟩ = some (.string (⟨#[]⟩ : ByteArray)) := (blk_cell HBX.out 3).trans rfl; have hz4 : w8.cell? ⟨gb, 4, none⟩ = some (.slice none 0 0) := (blk_cell HBX.out 4).trans rfl; have hf0 := blk_frozen HBX.out 0; have hf1 := blk_frozen HBX.out 1; have hf2 := blk_frozen HBX.out 2; have hf3 := blk_frozen HBX.out 3; have hf4 := blk_frozen HBX.out 4))
   
   generalize hwx : World.setCell (World.setCell (World.setCell (World.setCell (World.setCell w8 _ _) _ _) _ _) _ _) _ _ = wx
   have HBW : Aside0 (wx.heap[gb]? = some (.cells #[.int .i64 (rd_T43 xs (kk : Int)).f0, .int .i64 (rd_T43 xs (kk : Int)).f1, .string (rd_T43 xs (kk : Int)).f2, .string (rd_T43 xs (kk : Int)).f3, .slice A4 (rd_T43 xs (kk : Int)).f4.length c4] 43 (0, 0))) := ⟨by
    rw [← hwx]
    refine blk_put (cs := #[.int .i64 (rd_T43 xs (kk : Int)).f0, .int .i64 (rd_T43 xs (kk : Int)).f1, .string (rd_T43 xs (kk : Int)).f2, .string (rd_T43 xs (kk : Int)).f3, .slice none 0 0]) ?_ 4 _ rfl
    refine blk_put (cs := #[.int .i64 (rd_T43 xs (kk : Int)).f0, .int .i64 (rd_T43 xs (kk : Int)).f1, .string (rd_T43 xs (kk : Int)).f2, .string (⟨#[]⟩ : ByteArray), .slice none 0 0]) ?_ 3 _ rfl
    refine blk_put (cs := #[.int .i64 (rd_T43 xs (kk : Int)).f0, .int .i64 (rd_T43 xs (kk : Int)).f1, .string (⟨#[]⟩ : ByteArray), .string (⟨#[]⟩ : ByteArray), .slice none 0 0]) ?_ 2 _ rfl
    refine blk_put (cs := #[.int .i64 (rd_T43 xs (kk : Int)).f0, .int .i64 0, .string (⟨#[]⟩ : ByteArray), .string (⟨#[]⟩ : ByteArray), .slice none 0 0]) ?_ 1 _ rfl
    refine blk_put (cs := #[.int .i64 0, .int .i64 0, .string (⟨#[]⟩ : ByteArray), .string (⟨#[]⟩ : ByteArray), .slice none 0 0]) ?_ 0 _ rfl
    exact HBX.out⟩
   have HB5 : Aside0 (Below wr.heap.size wr wx) := ⟨by
    rw [← hwx]
    repeat (first | exact HB8.out | refine below_set ?_ (Nat.le_of_eq HGB.out.symm))⟩
   clear hwx HBX HB8 hz0 hz1 hz2 hz3 hz4 hf0 hf1 hf2 hf3 hf4
   
   have hy0 : wx.cell? ⟨gb, 0, none⟩ = some (.int .i64 (rd_T43 xs (kk : Int)).f0) := (blk_cell HBW.out 0).trans rfl
   have hy1 : wx.cell? ⟨gb, 1, none⟩ = some (.int .i64 (rd_T43 xs (kk : Int)).f1) := (blk_cell HBW.out 1).trans rfl
   have hy3 : wx.cell? ⟨gb, 3, none⟩ = some (.string (rd_T43 xs (kk : Int)).f3) := (blk_cell HBW.out 3).trans rfl
   
   have hq0 := (HB5.out.cell (World.block_lt_of_cell? wr _ HL0.out)).trans HL0.out
   have hq1 := (HB5.out.cell (World.block_lt_of_cell? wr _ HL1.out)).trans HL1.out
   have hq3 := (HB5.out.cell (World.block_lt_of_cell? wr _ HL3.out)).trans HL3.out
   
   have hqf : wx.frozen? ⟨(ao.add (m * 5)).block, (ao.add (m * 5)).off + 3, none⟩ = false := (HB5.out.frozen (World.block_lt_of_cell? wr _ HL3.out)).trans HLF.out
   go_quiet (fail)
   go_wp2
   refine wp_region_still_tail 9 (by kernel_rfl) (by kernel_rfl) ?_
   simp only [List.take_succ_cons, List.take_zero, List.drop_succ_cons, List.drop_zero]
   generalize hwy : World.mk (World.heap _) (World.tape _) (_ + 1) (World.os _) (World.output _) = wy
   have HWY : Aside0 (Below wr.heap.size wr wy ∧ wy.heap = wx.heap) := ⟨by rw [← hwy]; exact ⟨by repeat (first | exact HB5.out | apply below_drew1 | apply pw_below_drewN | apply below_drew), rfl⟩⟩
   have hc : ∀ p, wy.cell? p = wx.cell? p := fun p => by rw [← hwy]; rfl
   have hcf : ∀ p, wy.frozen? p = wx.frozen? p := fun p => by rw [← hwy]; rfl
   replace hy0 := (hc _).trans hy0
   replace hy1 := (hc _).trans hy1
   replace hy3 := (hc _).trans hy3
   replace hq0 := (hc _).trans hq0
   replace hq1 := (hc _).trans hq1
   replace hq3 := (hc _).trans hq3
   replace hqf := (hcf _).trans hqf
   clear hc hcf hwy
   repeat still_step
   refine wpStill_nil ?_
   go_wp2
   obtain rfl := HAO.out
   simp only [add_at, Nat.zero_add]
   have hp := norm_put (Kd.S_below HI.out.2.1 HWY.out.1) m (by omega) ((rd_T43 out (m : Int)).f3 ++ (rd_T43 xs (kk : Int)).f3)
   have hgo : w1.heap.size ≤ go := HI.out.2.2 go rfl
   go_roundg (xs.length - (kk + 1))
   case measure => omega
   case rel =>
    refine ⟨kk + 1, _, by omega, by omega, by go_num, HGN, ⟨?_, Kd.S_mono hp.1 (fun k hk => by omega), HI.out.2.2⟩, ⟨below_set (below_step HB.out.1 HWY.out.1) (Kd.S_base HI.out.2.1 go rfl), ?_⟩⟩
    ·exact Kd.R_grown (Kd.R_below HI.out.1 HWY.out.1) hp.2 (fun k hk e => by injection e; omega)
    ·exact Nat.le_trans HB.out.2 (Nat.le_trans (below_size (w := wr) HWY.out.1) hp.2.size)
  ·have hltz : ¬ (kk : Int) < (xs.length : Int) := by omega
   obtain rfl : kk = xs.length := by omega
   have HG2 : Aside0 (out = r) := ⟨by have h := HG.out; rw [List.drop_length] at h; exact Option.some.inj h⟩
   clear HG
   go_wp2
   go_ret
   exact ⟨_, rfl, by rw [← HG2.out]; exact Kd.S_mono HI.out.2.1 (fun _ _ => trivial), HB.out.1⟩
def rows_Normal.f (l0 : List (S43)) : Option (List (S43)) := (rows_moved.f (l0.length + 1) l0 0).bind fun xs => normGo [] xs
theorem rows_Normal.calls (A0 : Option Addr) (c0 : Nat) (l0 : List (S43)) (r : List (S43)) (w : World) (hr0 : Kd.C k43 w A0 l0.length l0) (hc0 : l0.length ≤ c0) (h : rows_Normal.f l0 = some r) :
  Calls Try.prog 33 #[.slice A0 l0.length c0] w fun e w' => ∃ v0_ : Value, e = .returned (v0_) ∧ Kd.S k43 43 w' w.heap.size (fun _ => True) v0_ r ∧ Below w.heap.size w w' := by
 obtain ⟨xs, hx, hgo⟩ := Option.bind_eq_some_iff.mp h
 exact normal_calls A0 c0 l0 xs r w hr0 hc0 hx hgo


/-! ### boltinglaw04_div: function 35 -/
def boltinglaw04_div.f  : Option ((List (S43))) := some (([(⟨0, 0, (⟨#[100, 105, 118]⟩ : ByteArray), (⟨#[]⟩ : ByteArray), ([] : List (S46))⟩ : S43), (⟨1, 1, (⟨#[]⟩ : ByteArray), (⟨#[97]⟩ : ByteArray), ([] : List (S46))⟩ : S43), (⟨1, 1, (⟨#[]⟩ : ByteArray), (⟨#[98]⟩ : ByteArray), ([] : List (S46))⟩ : S43)] : List (S43)))
set_option maxHeartbeats 8000000 in
set_option maxRecDepth 100000 in
theorem boltinglaw04_div.calls  (r : List (S43)) (w : World) (h : boltinglaw04_div.f  = some r) :
  Calls Try.prog 35 #[] w fun e w' => ∃ v0_ : Value, e = .returned (v0_) ∧ Kd.S k43 43 w' w.heap.size (fun _ => True) v0_ r ∧ Below w.heap.size w w' := by
 have hu43 := Try.underlying43
 have HB := Aside0.mk (Below.refl w.heap.size w)
 have H : (some (([(⟨0, 0, (⟨#[100, 105, 118]⟩ : ByteArray), (⟨#[]⟩ : ByteArray), ([] : List (S46))⟩ : S43), (⟨1, 1, (⟨#[]⟩ : ByteArray), (⟨#[97]⟩ : ByteArray), ([] : List (S46))⟩ : S43), (⟨1, 1, (⟨#[]⟩ : ByteArray), (⟨#[98]⟩ : ByteArray), ([] : List (S46))⟩ : S43)] : List (S43)))) = some r := h
 clear h
 obtain ⟨y213, hy213⟩ : ∃ y_ : List (S43), y_ = (([(⟨0, 0, (⟨#[100, 105, 118]⟩ : ByteArray), (⟨#[]⟩ : ByteArray), ([] : List (S46))⟩ : S43), (⟨1, 1, (⟨#[]⟩ : ByteArray), (⟨#[97]⟩ : ByteArray), ([] : List (S46))⟩ : S43), (⟨1, 1, (⟨#[]⟩ : ByteArray), (⟨#[98]⟩ : ByteArray), ([] : List (S46))⟩ : S43)] : List (S43))) := ⟨_, rfl⟩
 replace H : (some y213) = some r := by first | (rw [hy213]; with_reducible exact H) | (have H2_ := (Option.bind_some _ _).symm.trans H; rw [hy213]; with_reducible exact H2_) | (have H2_ := (Option.bind_some _ _).symm.trans H; with_reducible exact H2_) | with_reducible exact H | (rw [hy213]; exact H) | exact H
 have Ny213 := Aside0.mk hy213
 clear hy213
 obtain rfl := Option.some.inj H
 go_enter Try.func35, Try.ntmps35
 go_wp2_with (first | ((with_reducible refine gate_dst (N := 4) rfl ?_); refine Kd.S_lit k43 _ 43 ?hg (N := 4) ?hd (xs := ([(⟨0, 0, (⟨#[100, 105, 118]⟩ : ByteArray), (⟨#[]⟩ : ByteArray), ([] : List (S46))⟩ : S43), (⟨1, 1, (⟨#[]⟩ : ByteArray), (⟨#[97]⟩ : ByteArray), ([] : List (S46))⟩ : S43), (⟨1, 1, (⟨#[]⟩ : ByteArray), (⟨#[98]⟩ : ByteArray), ([] : List (S46))⟩ : S43)] : List (S43))) (inner := [.int .i64 0, .int .i64 0, .string (⟨#[100, 105, 118]⟩ : ByteArray), .string (⟨#[]⟩ : ByteArray), .slice none 0 0, .int .i64 1, .int .i64 1, .string (⟨#[]⟩ : ByteArray), .string (⟨#[97]⟩ : ByteArray), .slice none 0 0, .int .i64 1, .int .i64 1, .string (⟨#[]⟩ : ByteArray), .string (⟨#[98]⟩ : ByteArray), .slice none 0 0]) (ok := fun _ => True) (okp := fun _ => True) ?hr ?hp (fun _ hk => hk) trivial (Below.refl _ _) (Nat.le_refl _) (by simp) ?_; (case hd => rfl); (case hg => rfl); (case hr => first | (go_simp; done) | (go_simp; rfl)); (case hp => exact (Reps.c5 (show Kd.M k43 _ _ _ (⟨0, 0, (⟨#[100, 105, 118]⟩ : ByteArray), (⟨#[]⟩ : ByteArray), ([] : List (S46))⟩ : S43) [.int .i64 0, .int .i64 0, .string (⟨#[100, 105, 118]⟩ : ByteArray), .string (⟨#[]⟩ : ByteArray), .slice none 0 0] from (k43_mkM _ _ _ (⟨0, 0, (⟨#[100, 105, 118]⟩ : ByteArray), (⟨#[]⟩ : ByteArray), ([] : List (S46))⟩ : S43) (Kd.R_nil _ _ _ _ _))) (Reps.c5 (show Kd.M k43 _ _ _ (⟨1, 1, (⟨#[]⟩ : ByteArray), (⟨#[97]⟩ : ByteArray), ([] : List (S46))⟩ : S43) [.int .i64 1, .int .i64 1, .string (⟨#[]⟩ : ByteArray), .string (⟨#[97]⟩ : ByteArray), .slice none 0 0] from (k43_mkM _ _ _ (⟨1, 1, (⟨#[]⟩ : ByteArray), (⟨#[97]⟩ : ByteArray), ([] : List (S46))⟩ : S43) (Kd.R_nil _ _ _ _ _))) (Reps.c5 (show Kd.M k43 _ _ _ (⟨1, 1, (⟨#[]⟩ : ByteArray), (⟨#[98]⟩ : ByteArray), ([] : List (S46))⟩ : S43) [.int .i64 1, .int .i64 1, .string (⟨#[]⟩ : ByteArray), .string (⟨#[98]⟩ : ByteArray), .slice none 0 0] from (k43_mkM _ _ _ (⟨1, 1, (⟨#[]⟩ : ByteArray), (⟨#[98]⟩ : ByteArray), ([] : List (S46))⟩ : S43) (Kd.R_nil _ _ _ _ _))) (Reps.none _ _))))); intro v214 w1 ho2 hb hg_ hnew_; clear hg_ hnew_; (first | rw [← Ny213.out] at ho2 | (simp only [Int.reduceToNat] at ho2; rw [← Ny213.out] at ho2)); have n0_ := Aside0.mk (Kd.S_lower ho2 (below_size (aB HB))); have n1_ := Aside0.mk (below_step (aB HB) hb); clear HB; have HO215 := n0_; have HB := n1_; clear n0_ n1_; clear hb ho2))
 go_ret
 exact ⟨_, by first | rfl | (simp [errW_none, errW_some] <;> rfl) | (simp [*, errW_none, errW_some] <;> rfl), by (with_reducible repeat (first | apply Kd.S_alloc | apply Kd.S_drewN | apply Kd.S_drew)); exact HO215.out, aB HB⟩

end Go.Proofs.Ytllggaogjcknoaa.QA
