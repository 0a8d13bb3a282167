-- Written by a program of this claim's own (wip/gen/gen.py), out of the translation; an ordinary proof text.
import Derived.Test.YtpkaliaaffgbdaaQAx0
import Derived.Test.YtpkaliaaffgbdaaQAx4
import Derived.Test.YtpkaliaaffgbdaaQAx5
namespace Go.Proofs.Ytpkaliaaffgbdaa.QA
open Go.RowKit Go.Proofs.YtpkaliaaffgbdaaW.PrintWords Go.Proofs.YtpkaliaaffgbdaaW.PrintLast Go.Proofs.YtpkaliaaffgbdaaW.PrintMore
attribute [local go_sem] max2_int min2_int max_two min_two max_three min_three max_four min_four   -- for this text's walks alone
set_option linter.unusedVariables false
set_option linter.unusedSimpArgs false

/-! ### rows_right: function 80 -/
mutual
def rows_right.l0 : Nat → Int → List (S54) → Int → Int → Option (Bool)
 | 0, _, _, _, _ => none
 | k + 1, x3, x6, x7, x8 => if x8 < x7 then (if 0 ≤ x8 then (if x8 < (x6.length : Int) then (if ((rd_T54 x6 x8).f0) < 0 then (rows_right.j1 k x6 x7 x8 true ((rd_T54 x6 x8).f0) ((rd_T54 x6 x8).f1) ((rd_T54 x6 x8).f2) ((rd_T54 x6 x8).f3) ((rd_T54 x6 x8).f4)) else (if ((rd_T54 x6 x8).f0) > x3 then (rows_right.j1 k x6 x7 x8 true ((rd_T54 x6 x8).f0) ((rd_T54 x6 x8).f1) ((rd_T54 x6 x8).f2) ((rd_T54 x6 x8).f3) ((rd_T54 x6 x8).f4)) else ((rows_row.f k ((rd_T54 x6 x8).f0) ((rd_T54 x6 x8).f1) ((rd_T54 x6 x8).f2) ((rd_T54 x6 x8).f3) ((rd_T54 x6 x8).f4)).bind fun t186 => (rows_right.j1 k x6 x7 x8 (!t186) ((rd_T54 x6 x8).f0) ((rd_T54 x6 x8).f1) ((rd_T54 x6 x8).f2) ((rd_T54 x6 x8).f3) ((rd_T54 x6 x8).f4))))) else (none)) else (none)) else (some true)
def rows_right.j1 : Nat → List (S54) → Int → Int → Bool → Int → Int → ByteArray → ByteArray → List (S52) → Option (Bool)
 | 0, _, _, _, _, _, _, _, _, _ => none
 | k + 1, x6, x7, x8, x25, x186000, x186001, x186002, x186003, x186004 => if x25 = true then (some false) else (if x186001 = 0 then (rows_right.l0 k (wrap64 (x186000 + 1)) x6 x7 (wrap64 (x8 + 1))) else (rows_right.l0 k x186000 x6 x7 (wrap64 (x8 + 1))))
end
def rows_right.f (k : Nat) (l0 : List (S54)) : Option (Bool) := rows_right.l0 k 0 l0 (l0.length : Int) 0
theorem rows_right.mono_l : ∀ k, (∀ y0 y1 y2 y3, LeO (rows_right.l0 k y0 y1 y2 y3) (rows_right.l0 (k + 1) y0 y1 y2 y3)) ∧ (∀ y0 y1 y2 y3 y4 y5 y6 y7 y8, LeO (rows_right.j1 k y0 y1 y2 y3 y4 y5 y6 y7 y8) (rows_right.j1 (k + 1) y0 y1 y2 y3 y4 y5 y6 y7 y8))
 | 0 => ⟨fun _ _ _ _ r h => by simp [rows_right.l0] at h, fun _ _ _ _ _ _ _ _ _ r h => by simp [rows_right.j1] at h⟩
 | k + 1 => by
  obtain ⟨ih0, ih1⟩ := rows_right.mono_l k
  refine ⟨?_, ?_⟩
  ·intro y0 y1 y2 y3
   unfold rows_right.l0
   repeat' first
   | (with_reducible exact ih0 _ _ _ _)
   | (with_reducible exact ih1 _ _ _ _ _ _ _ _ _)
   | (with_reducible exact rows_row.mono _ _ _ _ _ _)
   | (with_reducible exact LeO.refl _)
   | (with_reducible exact LeO.none _)
   | (with_reducible refine LeO.ite ?_ ?_)
   | (with_reducible refine LeO.bind ?_ (fun _ => ?_))
   | exact ih0 _ _ _ _
   | exact ih1 _ _ _ _ _ _ _ _ _
   | exact rows_row.mono _ _ _ _ _ _
   | exact LeO.none _
   | refine LeO.ite ?_ ?_
   | refine LeO.bind ?_ (fun _ => ?_)
  ·intro y0 y1 y2 y3 y4 y5 y6 y7 y8
   unfold rows_right.j1
   repeat' first
   | (with_reducible exact ih0 _ _ _ _)
   | (with_reducible exact ih1 _ _ _ _ _ _ _ _ _)
   | (with_reducible exact rows_row.mono _ _ _ _ _ _)
   | (with_reducible exact LeO.refl _)
   | (with_reducible exact LeO.none _)
   | (with_reducible refine LeO.ite ?_ ?_)
   | (with_reducible refine LeO.bind ?_ (fun _ => ?_))
   | exact ih0 _ _ _ _
   | exact ih1 _ _ _ _ _ _ _ _ _
   | exact rows_row.mono _ _ _ _ _ _
   | exact LeO.none _
   | refine LeO.ite ?_ ?_
   | refine LeO.bind ?_ (fun _ => ?_)
theorem rows_right.mono : ∀ a0 k, LeO (rows_right.f k a0) (rows_right.f (k + 1) a0) := by
 intro a0 k
 obtain ⟨ih0, ih1⟩ := rows_right.mono_l k
 unfold rows_right.f
 repeat' first
   | (with_reducible exact ih0 _ _ _ _)
   | (with_reducible exact ih1 _ _ _ _ _ _ _ _ _)
   | (with_reducible exact rows_row.mono _ _ _ _ _ _)
   | (with_reducible exact LeO.refl _)
   | (with_reducible exact LeO.none _)
   | (with_reducible refine LeO.ite ?_ ?_)
   | (with_reducible refine LeO.bind ?_ (fun _ => ?_))
   | exact ih0 _ _ _ _
   | exact ih1 _ _ _ _ _ _ _ _ _
   | exact rows_row.mono _ _ _ _ _ _
   | exact LeO.none _
   | refine LeO.ite ?_ ?_
   | refine LeO.bind ?_ (fun _ => ?_)
set_option maxHeartbeats 8000000 in
set_option maxRecDepth 100000 in
theorem rows_right.calls (k : Nat) (A0 : Option Addr) (c0 : Nat) (l0 : List (S54)) (r : Bool) (w : World) (hr0 : Kd.C k54 w A0 l0.length l0) (hc0 : l0.length ≤ c0) (h : rows_right.f k l0 = some r) :
  Calls Try.prog 80 #[.slice A0 l0.length c0] w fun e w' => e = .returned (.bool r) ∧ Below w.heap.size w w' := by
 have hu54 := Try.underlying54
 have HR0 := Aside0.mk hr0
 have HC0 := Aside0.mk hc0
 clear hr0 hc0
 have HB := Aside0.mk (Below.refl w.heap.size w)
 have H : (rows_right.l0 k 0 l0 (l0.length : Int) 0) = some r := h
 clear h
 have H' := Aside0.mk H
 clear H
 go_enter Try.func80, Try.ntmps80
 go_wp2
 go_loopg [3, 8] k (fun kq v3 v8 w' => ∃ (x3_1 : Int) (x8_1 : Int), v3 = .int .i64 x3_1 ∧ v8 = .int .i64 x8_1 ∧ Aside0 (rows_right.l0 kq x3_1 l0 (l0.length : Int) x8_1 = some r) ∧ Aside0 (kq ≤ k) ∧ Aside0 (Below w.heap.size w w'))
 case atStart => exact ⟨(0), (0), aE, aE, H', ⟨Nat.le_refl _⟩, ⟨aB HB⟩⟩
 case round =>
  clear H'
  obtain ⟨x3_1, x8_1, rfl, rfl, HA, HK1, HB⟩ := hrel
  cases gk with
  | zero => exact absurd HA.out (by simp [rows_right.l0])
  | succ k1 =>
   have H := HA.out
   clear HA
   simp only [rows_right.l0] at H
   by_cases c2 : x8_1 < (l0.length : Int)
   ·rw [if_pos c2] at H
    have c2b0 : decide (x8_1 < (l0.length : Int)) = true := decide_eq_true c2
    clear c2
    by_cases c3 : 0 ≤ x8_1
    ·rw [if_pos c3] at H
     have c3b0 : decide (0 ≤ x8_1) = true := decide_eq_true c3
     clear c3
     by_cases c4 : x8_1 < (l0.length : Int)
     ·rw [if_pos c4] at H
      have c4b0 : decide (x8_1 < (l0.length : Int)) = true := decide_eq_true c4
      clear c4
      have HC5 := Aside0.mk H
      clear H
      have p184 : 0 ≤ (x8_1 : Int) := of_decide_eq_true aA
      have q184 : x8_1 < (l0.length : Int) := of_decide_eq_true aA
      obtain ⟨ad184, A184_4, c184_4, e184, hx184_0, hx184_1, hx184_2, hx184_3, hx184_4, hl184_4, hi184_4⟩ := at_T54 HR0.out x8_1 p184 q184
      cases e184
      replace hx184_0 := (HB.out.cell (World.block_lt_of_cell? w _ hx184_0)).trans hx184_0
      replace hx184_1 := (HB.out.cell (World.block_lt_of_cell? w _ hx184_1)).trans hx184_1
      replace hx184_2 := (HB.out.cell (World.block_lt_of_cell? w _ hx184_2)).trans hx184_2
      replace hx184_3 := (HB.out.cell (World.block_lt_of_cell? w _ hx184_3)).trans hx184_3
      replace hx184_4 := (HB.out.cell (World.block_lt_of_cell? w _ hx184_4)).trans hx184_4
      have HR184_4 := Aside0.mk hi184_4
      have HC184_4 := Aside0.mk hl184_4
      clear hi184_4 hl184_4
      replace p184 := eq_true p184
      replace q184 := eq_true q184
      go_upto_region 5 with (first | ((with_reducible refine gate_dst (N := 5) rfl ?_); refine box_event ?hg (N := 5) ?hd (cs := #[.int .i64 0, .int .i64 0, .string (⟨#[]⟩ : ByteArray), .string (⟨#[]⟩ : ByteArray), .slice none 0 0]) (t := 54) ?hr ?_; (case hd => rfl); (case hg => rfl); (case hr => first | (go_simp; done) | (go_simp; rfl)); intro gb185 hg w6 hbox hb; have n0_ := Aside0.mk (below_step (aB HB) hb); have n1_ := Aside0.mk (hbox); have n2_ := Aside0.mk ((by rw [hg]; exact (below_size (aB HB)) : w.heap.size ≤ gb185)); have n3_ := Aside0.mk ((by rw [hg]; exact (below_size (aB HB)) : w.heap.size ≤ gb185)); clear HB; have HB := n0_; have BK185 := n1_; have GW185 := n2_; have GE185 := n3_; clear n0_ n1_ n2_ n3_; clear hb hbox hg; have hcz7_0 : w6.cell? ⟨gb185, 0, none⟩ = some (.int .i64 0) := (blk_cell BK185.out 0).trans rfl; have hcz7_1 : w6.cell? ⟨gb185, 1, none⟩ = some (.int .i64 0) := (blk_cell BK185.out 1).trans rfl; have hcz7_2 : w6.cell? ⟨gb185, 2, none⟩ = some (.string (⟨#[]⟩ : ByteArray)) := (blk_cell BK185.out 2).trans rfl; have hcz7_3 : w6.cell? ⟨gb185, 3, none⟩ = some (.string (⟨#[]⟩ : ByteArray)) := (blk_cell BK185.out 3).trans rfl; have hcz7_4 : w6.cell? ⟨gb185, 4, none⟩ = some (.slice none 0 0) := (blk_cell BK185.out 4).trans rfl; have hfz7_0 := blk_frozen BK185.out 0; have hfz7_1 := blk_frozen BK185.out 1; have hfz7_2 := blk_frozen BK185.out 2; have hfz7_3 := blk_frozen BK185.out 3; have hfz7_4 := blk_frozen BK185.out 4))
      (try simp only [Act.put, List.setIfInBounds_toArray, List.set_cons_zero, List.set_cons_succ])
      go_cut [25] (fun v25 wc => ∃ (kq : Nat) (x25_4 : Bool), v25 = .bool x25_4 ∧ Aside0 (rows_right.j1 kq l0 (l0.length : Int) x8_1 x25_4 ((rd_T54 l0 x8_1).f0) ((rd_T54 l0 x8_1).f1) ((rd_T54 l0 x8_1).f2) ((rd_T54 l0 x8_1).f3) ((rd_T54 l0 x8_1).f4) = some r) ∧ Aside0 (kq ≤ k1) ∧ Aside0 (wc.heap[gb185]? = some (.cells #[.int .i64 ((rd_T54 l0 x8_1).f0), .int .i64 ((rd_T54 l0 x8_1).f1), .string ((rd_T54 l0 x8_1).f2), .string ((rd_T54 l0 x8_1).f3), (.slice A184_4 ((rd_T54 l0 x8_1).f4).length c184_4)] 54 (0, 0))) ∧ Aside0 (Below w.heap.size w wc))
      case first =>
       have H := HC5.out
       clear HC5
       by_cases c8 : ((rd_T54 l0 x8_1).f0) < 0
       ·rw [if_pos c8] at H
        have c8b0 : decide (((rd_T54 l0 x8_1).f0) < 0) = true := decide_eq_true c8
        clear c8
        (first | rw [c8b0] | (simp only [i64_w, i32_w]; rw [c8b0]) | skip)
        have H' := Aside0.mk H
        clear H
        have hcz9_0 : w6.cell? ⟨gb185, 0, none⟩ = some (.int .i64 0) := (blk_cell BK185.out 0).trans rfl
        have hcz9_1 : w6.cell? ⟨gb185, 1, none⟩ = some (.int .i64 0) := (blk_cell BK185.out 1).trans rfl
        have hcz9_2 : w6.cell? ⟨gb185, 2, none⟩ = some (.string (⟨#[]⟩ : ByteArray)) := (blk_cell BK185.out 2).trans rfl
        have hcz9_3 : w6.cell? ⟨gb185, 3, none⟩ = some (.string (⟨#[]⟩ : ByteArray)) := (blk_cell BK185.out 3).trans rfl
        have hcz9_4 : w6.cell? ⟨gb185, 4, none⟩ = some (.slice none 0 0) := (blk_cell BK185.out 4).trans rfl
        have hfz9_0 := blk_frozen BK185.out 0
        have hfz9_1 := blk_frozen BK185.out 1
        have hfz9_2 := blk_frozen BK185.out 2
        have hfz9_3 := blk_frozen BK185.out 3
        have hfz9_4 := blk_frozen BK185.out 4
        go_wp2
        go_meet
        case rel => exact ⟨_, (true), aE, H', ⟨by have := HK1.out; first | omega | exact Nat.le_refl _⟩, ⟨by (with_reducible repeat (first | refine blk_drewN ?_ _ | refine blk_drew ?_ | refine blk_alloc ?_ _)); refine blk_put (cs := #[.int .i64 ((rd_T54 l0 x8_1).f0), .int .i64 ((rd_T54 l0 x8_1).f1), .string ((rd_T54 l0 x8_1).f2), .string ((rd_T54 l0 x8_1).f3), .slice none 0 0]) ?_ 4 _ rfl; (with_reducible repeat (first | refine blk_drewN ?_ _ | refine blk_drew ?_ | refine blk_alloc ?_ _)); refine blk_put (cs := #[.int .i64 ((rd_T54 l0 x8_1).f0), .int .i64 ((rd_T54 l0 x8_1).f1), .string ((rd_T54 l0 x8_1).f2), .string (⟨#[]⟩ : ByteArray), .slice none 0 0]) ?_ 3 _ rfl; (with_reducible repeat (first | refine blk_drewN ?_ _ | refine blk_drew ?_ | refine blk_alloc ?_ _)); refine blk_put (cs := #[.int .i64 ((rd_T54 l0 x8_1).f0), .int .i64 ((rd_T54 l0 x8_1).f1), .string (⟨#[]⟩ : ByteArray), .string (⟨#[]⟩ : ByteArray), .slice none 0 0]) ?_ 2 _ rfl; (with_reducible repeat (first | refine blk_drewN ?_ _ | refine blk_drew ?_ | refine blk_alloc ?_ _)); refine blk_put (cs := #[.int .i64 ((rd_T54 l0 x8_1).f0), .int .i64 0, .string (⟨#[]⟩ : ByteArray), .string (⟨#[]⟩ : ByteArray), .slice none 0 0]) ?_ 1 _ rfl; (with_reducible repeat (first | refine blk_drewN ?_ _ | refine blk_drew ?_ | refine blk_alloc ?_ _)); refine blk_put (cs := #[.int .i64 0, .int .i64 0, .string (⟨#[]⟩ : ByteArray), .string (⟨#[]⟩ : ByteArray), .slice none 0 0]) ?_ 0 _ rfl; (with_reducible repeat (first | refine blk_drewN ?_ _ | refine blk_drew ?_ | refine blk_alloc ?_ _)); exact BK185.out⟩, ⟨by repeat (first | (with_reducible first | exact HB.out | apply below_alloc | apply pw_below_drewN | apply below_drew1 | refine below_set ?_ GE185.out) | exact HB.out)⟩⟩
       ·rw [if_neg c8] at H
        have c8b0 : decide (((rd_T54 l0 x8_1).f0) < 0) = false := decide_eq_false c8
        clear c8
        (first | rw [c8b0] | (simp only [i64_w, i32_w]; rw [c8b0]) | skip)
        by_cases c10 : ((rd_T54 l0 x8_1).f0) > x3_1
        ·rw [if_pos c10] at H
         have c10b0 : decide (x3_1 < ((rd_T54 l0 x8_1).f0)) = true := decide_eq_true c10
         clear c10
         have H' := Aside0.mk H
         clear H
         have hcz11_0 : w6.cell? ⟨gb185, 0, none⟩ = some (.int .i64 0) := (blk_cell BK185.out 0).trans rfl
         have hcz11_1 : w6.cell? ⟨gb185, 1, none⟩ = some (.int .i64 0) := (blk_cell BK185.out 1).trans rfl
         have hcz11_2 : w6.cell? ⟨gb185, 2, none⟩ = some (.string (⟨#[]⟩ : ByteArray)) := (blk_cell BK185.out 2).trans rfl
         have hcz11_3 : w6.cell? ⟨gb185, 3, none⟩ = some (.string (⟨#[]⟩ : ByteArray)) := (blk_cell BK185.out 3).trans rfl
         have hcz11_4 : w6.cell? ⟨gb185, 4, none⟩ = some (.slice none 0 0) := (blk_cell BK185.out 4).trans rfl
         have hfz11_0 := blk_frozen BK185.out 0
         have hfz11_1 := blk_frozen BK185.out 1
         have hfz11_2 := blk_frozen BK185.out 2
         have hfz11_3 := blk_frozen BK185.out 3
         have hfz11_4 := blk_frozen BK185.out 4
         go_wp2
         go_meet
         case rel => exact ⟨_, (true), aE, H', ⟨by have := HK1.out; first | omega | exact Nat.le_refl _⟩, ⟨by (with_reducible repeat (first | refine blk_drewN ?_ _ | refine blk_drew ?_ | refine blk_alloc ?_ _)); refine blk_put (cs := #[.int .i64 ((rd_T54 l0 x8_1).f0), .int .i64 ((rd_T54 l0 x8_1).f1), .string ((rd_T54 l0 x8_1).f2), .string ((rd_T54 l0 x8_1).f3), .slice none 0 0]) ?_ 4 _ rfl; (with_reducible repeat (first | refine blk_drewN ?_ _ | refine blk_drew ?_ | refine blk_alloc ?_ _)); refine blk_put (cs := #[.int .i64 ((rd_T54 l0 x8_1).f0), .int .i64 ((rd_T54 l0 x8_1).f1), .string ((rd_T54 l0 x8_1).f2), .string (⟨#[]⟩ : ByteArray), .slice none 0 0]) ?_ 3 _ rfl; (with_reducible repeat (first | refine blk_drewN ?_ _ | refine blk_drew ?_ | refine blk_alloc ?_ _)); refine blk_put (cs := #[.int .i64 ((rd_T54 l0 x8_1).f0), .int .i64 ((rd_T54 l0 x8_1).f1), .string (⟨#[]⟩ : ByteArray), .string (⟨#[]⟩ : ByteArray), .slice none 0 0]) ?_ 2 _ rfl; (with_reducible repeat (first | refine blk_drewN ?_ _ | refine blk_drew ?_ | refine blk_alloc ?_ _)); refine blk_put (cs := #[.int .i64 ((rd_T54 l0 x8_1).f0), .int .i64 0, .string (⟨#[]⟩ : ByteArray), .string (⟨#[]⟩ : ByteArray), .slice none 0 0]) ?_ 1 _ rfl; (with_reducible repeat (first | refine blk_drewN ?_ _ | refine blk_drew ?_ | refine blk_alloc ?_ _)); refine blk_put (cs := #[.int .i64 0, .int .i64 0, .string (⟨#[]⟩ : ByteArray), .string (⟨#[]⟩ : ByteArray), .slice none 0 0]) ?_ 0 _ rfl; (with_reducible repeat (first | refine blk_drewN ?_ _ | refine blk_drew ?_ | refine blk_alloc ?_ _)); exact BK185.out⟩, ⟨by repeat (first | (with_reducible first | exact HB.out | apply below_alloc | apply pw_below_drewN | apply below_drew1 | refine below_set ?_ GE185.out) | exact HB.out)⟩⟩
        ·rw [if_neg c10] at H
         have c10b0 : decide (x3_1 < ((rd_T54 l0 x8_1).f0)) = false := decide_eq_false c10
         clear c10
         replace H := Option.bind_eq_some_iff.mp H
         obtain ⟨t186, A120, H⟩ := H
         replace H : (rows_right.j1 k1 l0 (l0.length : Int) x8_1 (!t186) ((rd_T54 l0 x8_1).f0) ((rd_T54 l0 x8_1).f1) ((rd_T54 l0 x8_1).f2) ((rd_T54 l0 x8_1).f3) ((rd_T54 l0 x8_1).f4)) = some r := H
         have A12 := Aside0.mk A120
         clear A120
         have H' := Aside0.mk H
         clear H
         have hcz13_0 : w6.cell? ⟨gb185, 0, none⟩ = some (.int .i64 0) := (blk_cell BK185.out 0).trans rfl
         have hcz13_1 : w6.cell? ⟨gb185, 1, none⟩ = some (.int .i64 0) := (blk_cell BK185.out 1).trans rfl
         have hcz13_2 : w6.cell? ⟨gb185, 2, none⟩ = some (.string (⟨#[]⟩ : ByteArray)) := (blk_cell BK185.out 2).trans rfl
         have hcz13_3 : w6.cell? ⟨gb185, 3, none⟩ = some (.string (⟨#[]⟩ : ByteArray)) := (blk_cell BK185.out 3).trans rfl
         have hcz13_4 : w6.cell? ⟨gb185, 4, none⟩ = some (.slice none 0 0) := (blk_cell BK185.out 4).trans rfl
         have hfz13_0 := blk_frozen BK185.out 0
         have hfz13_1 := blk_frozen BK185.out 1
         have hfz13_2 := blk_frozen BK185.out 2
         have hfz13_3 := blk_frozen BK185.out 3
         have hfz13_4 := blk_frozen BK185.out 4
         go_wp2_with (first | (go_at_call 91; (with_reducible refine (rows_row.calls k1 ((rd_T54 l0 x8_1).f0) ((rd_T54 l0 x8_1).f1) ((rd_T54 l0 x8_1).f2) ((rd_T54 l0 x8_1).f3) _ _ ((rd_T54 l0 x8_1).f4) t186 _ ?side1 ?side2 A12.out).mono ?_); (case side1 => exact Kd.C_below HR184_4.out (by repeat (first | (with_reducible first | exact HB.out | apply below_alloc | apply pw_below_drewN | apply below_drew1 | refine below_set ?_ GE185.out) | exact HB.out))); (case side2 => exact HC184_4.out); rintro e w14 ⟨rfl, hb⟩; have n0_ := Aside0.mk (blk_below (g := gb185) (o := .cells #[.int .i64 ((rd_T54 l0 x8_1).f0), .int .i64 ((rd_T54 l0 x8_1).f1), .string ((rd_T54 l0 x8_1).f2), .string ((rd_T54 l0 x8_1).f3), .slice A184_4 ((rd_T54 l0 x8_1).f4).length c184_4] 54 (0, 0)) (by (with_reducible repeat (first | refine blk_drewN ?_ _ | refine blk_drew ?_ | refine blk_alloc ?_ _)); refine blk_put (cs := #[.int .i64 ((rd_T54 l0 x8_1).f0), .int .i64 ((rd_T54 l0 x8_1).f1), .string ((rd_T54 l0 x8_1).f2), .string ((rd_T54 l0 x8_1).f3), .slice none 0 0]) ?_ 4 _ rfl; (with_reducible repeat (first | refine blk_drewN ?_ _ | refine blk_drew ?_ | refine blk_alloc ?_ _)); refine blk_put (cs := #[.int .i64 ((rd_T54 l0 x8_1).f0), .int .i64 ((rd_T54 l0 x8_1).f1), .string ((rd_T54 l0 x8_1).f2), .string (⟨#[]⟩ : ByteArray), .slice none 0 0]) ?_ 3 _ rfl; (with_reducible repeat (first | refine blk_drewN ?_ _ | refine blk_drew ?_ | refine blk_alloc ?_ _)); refine blk_put (cs := #[.int .i64 ((rd_T54 l0 x8_1).f0), .int .i64 ((rd_T54 l0 x8_1).f1), .string (⟨#[]⟩ : ByteArray), .string (⟨#[]⟩ : ByteArray), .slice none 0 0]) ?_ 2 _ rfl; (with_reducible repeat (first | refine blk_drewN ?_ _ | refine blk_drew ?_ | refine blk_alloc ?_ _)); refine blk_put (cs := #[.int .i64 ((rd_T54 l0 x8_1).f0), .int .i64 0, .string (⟨#[]⟩ : ByteArray), .string (⟨#[]⟩ : ByteArray), .slice none 0 0]) ?_ 1 _ rfl; (with_reducible repeat (first | refine blk_drewN ?_ _ | refine blk_drew ?_ | refine blk_alloc ?_ _)); refine blk_put (cs := #[.int .i64 0, .int .i64 0, .string (⟨#[]⟩ : ByteArray), .string (⟨#[]⟩ : ByteArray), .slice none 0 0]) ?_ 0 _ rfl; (with_reducible repeat (first | refine blk_drewN ?_ _ | refine blk_drew ?_ | refine blk_alloc ?_ _)); exact BK185.out) hb); have n1_ := Aside0.mk (below_step (by repeat (first | (with_reducible first | exact HB.out | apply below_alloc | apply pw_below_drewN | apply below_drew1 | refine below_set ?_ GE185.out) | exact HB.out)) hb); clear BK185; clear HB; have BK185 := n0_; have HB := n1_; clear n0_ n1_; (try clear hb); (try clear hb2); (try clear hk); (try clear hi)))
         go_meet
         case rel => exact ⟨_, (!t186), aE, H', ⟨by have := HK1.out; first | omega | exact Nat.le_refl _⟩, ⟨aK BK185⟩, ⟨by repeat (first | (with_reducible first | exact HB.out | apply below_alloc | apply pw_below_drewN | apply below_drew1 | refine below_set ?_ GE185.out) | exact HB.out)⟩⟩
      case rest =>
       clear HC5
       try clear c1
       try clear p1
       try clear q1
       try clear hx1
       try clear c2
       try clear c2b0
       try clear p2
       try clear c3
       try clear c3b0
       try clear c4
       try clear c4b0
       try clear c8
       try clear c8b0
       try clear c10
       try clear c10b0
       try clear hcz11_0
       try clear hcz11_1
       try clear hcz11_2
       try clear hcz11_3
       try clear hcz11_4
       try clear hcz13_0
       try clear hcz13_1
       try clear hcz13_2
       try clear hcz13_3
       try clear hcz13_4
       try clear hcz7_0
       try clear hcz7_1
       try clear hcz7_2
       try clear hcz7_3
       try clear hcz7_4
       try clear hcz9_0
       try clear hcz9_1
       try clear hcz9_2
       try clear hcz9_3
       try clear hcz9_4
       try clear hfz11_0
       try clear hfz11_1
       try clear hfz11_2
       try clear hfz11_3
       try clear hfz11_4
       try clear hfz13_0
       try clear hfz13_1
       try clear hfz13_2
       try clear hfz13_3
       try clear hfz13_4
       try clear hfz7_0
       try clear hfz7_1
       try clear hfz7_2
       try clear hfz7_3
       try clear hfz7_4
       try clear hfz9_0
       try clear hfz9_1
       try clear hfz9_2
       try clear hfz9_3
       try clear hfz9_4
       try clear hx184_0
       try clear hx184_1
       try clear hx184_2
       try clear hx184_3
       try clear hx184_4
       try clear p184
       try clear q184
       obtain ⟨kq, x25_4, rfl, HA, HJ4, BK185, HB⟩ := hcut
       cases kq with
       | zero => exact absurd HA.out (by simp [rows_right.j1])
       | succ kj4 =>
        have H := HA.out
        clear HA
        simp only [rows_right.j1] at H
        by_cases c15 : x25_4 = true
        ·subst c15
         have H1 : (some false) = some r := by rw [if_pos rfl] at H; exact H
         clear H
         have H := H1
         clear H1
         obtain rfl := Option.some.inj H
         go_wp2
         go_ret
         exact ⟨by first | rfl | (simp [errW_none, errW_some] <;> rfl) | (simp [*, errW_none, errW_some] <;> rfl), by repeat (first | (with_reducible first | exact HB.out | apply below_alloc | apply pw_below_drewN | apply below_drew1 | refine below_set ?_ GE185.out) | exact HB.out)⟩
        ·replace c15 := Bool.eq_false_iff.mpr c15
         subst c15
         have H1 : (if ((rd_T54 l0 x8_1).f1) = 0 then (rows_right.l0 kj4 (wrap64 (((rd_T54 l0 x8_1).f0) + 1)) l0 (l0.length : Int) (wrap64 (x8_1 + 1))) else (rows_right.l0 kj4 ((rd_T54 l0 x8_1).f0) l0 (l0.length : Int) (wrap64 (x8_1 + 1)))) = some r := by rw [if_neg (show ¬ (false = true) by decide)] at H; exact H
         clear H
         have H := H1
         clear H1
         by_cases c16 : ((rd_T54 l0 x8_1).f1) = 0
         ·rw [if_pos c16] at H
          have c16b0 : (((rd_T54 l0 x8_1).f1) == 0) = true := beq_iff_eq.mpr c16
          have c16b1 : (((rd_T54 l0 x8_1).f1) != 0) = false := bne_eq_false_iff_eq.mpr c16
          clear c16
          have H' := Aside0.mk H
          clear H
          have hcz17_0 : wc.cell? ⟨gb185, 0, none⟩ = some (.int .i64 ((rd_T54 l0 x8_1).f0)) := (blk_cell BK185.out 0).trans rfl
          have hcz17_1 : wc.cell? ⟨gb185, 1, none⟩ = some (.int .i64 ((rd_T54 l0 x8_1).f1)) := (blk_cell BK185.out 1).trans rfl
          have hcz17_2 : wc.cell? ⟨gb185, 2, none⟩ = some (.string ((rd_T54 l0 x8_1).f2)) := (blk_cell BK185.out 2).trans rfl
          have hcz17_3 : wc.cell? ⟨gb185, 3, none⟩ = some (.string ((rd_T54 l0 x8_1).f3)) := (blk_cell BK185.out 3).trans rfl
          have hcz17_4 : wc.cell? ⟨gb185, 4, none⟩ = some (.slice A184_4 ((rd_T54 l0 x8_1).f4).length c184_4) := (blk_cell BK185.out 4).trans rfl
          have hfz17_0 := blk_frozen BK185.out 0
          have hfz17_1 := blk_frozen BK185.out 1
          have hfz17_2 := blk_frozen BK185.out 2
          have hfz17_3 := blk_frozen BK185.out 3
          have hfz17_4 := blk_frozen BK185.out 4
          go_wp2
          go_roundg kj4
          case measure => have := HK1.out; have := HJ4.out; omega
          case rel => exact ⟨(wrap64 (((rd_T54 l0 x8_1).f0) + 1)), (wrap64 (x8_1 + 1)), aE, aE, H', ⟨by have := HK1.out; have := HJ4.out; omega⟩, ⟨by repeat (first | (with_reducible first | exact HB.out | apply below_alloc | apply pw_below_drewN | apply below_drew1 | refine below_set ?_ GE185.out) | exact HB.out)⟩⟩
         ·rw [if_neg c16] at H
          have c16b0 : (((rd_T54 l0 x8_1).f1) == 0) = false := beq_eq_false_iff_ne.mpr c16
          have c16b1 : (((rd_T54 l0 x8_1).f1) != 0) = true := bne_iff_ne.mpr c16
          have H' := Aside0.mk H
          clear H
          have hcz18_0 : wc.cell? ⟨gb185, 0, none⟩ = some (.int .i64 ((rd_T54 l0 x8_1).f0)) := (blk_cell BK185.out 0).trans rfl
          have hcz18_1 : wc.cell? ⟨gb185, 1, none⟩ = some (.int .i64 ((rd_T54 l0 x8_1).f1)) := (blk_cell BK185.out 1).trans rfl
          have hcz18_2 : wc.cell? ⟨gb185, 2, none⟩ = some (.string ((rd_T54 l0 x8_1).f2)) := (blk_cell BK185.out 2).trans rfl
          have hcz18_3 : wc.cell? ⟨gb185, 3, none⟩ = some (.string ((rd_T54 l0 x8_1).f3)) := (blk_cell BK185.out 3).trans rfl
          have hcz18_4 : wc.cell? ⟨gb185, 4, none⟩ = some (.slice A184_4 ((rd_T54 l0 x8_1).f4).length c184_4) := (blk_cell BK185.out 4).trans rfl
          have hfz18_0 := blk_frozen BK185.out 0
          have hfz18_1 := blk_frozen BK185.out 1
          have hfz18_2 := blk_frozen BK185.out 2
          have hfz18_3 := blk_frozen BK185.out 3
          have hfz18_4 := blk_frozen BK185.out 4
          go_wp2
          go_roundg kj4
          case measure => have := HK1.out; have := HJ4.out; omega
          case rel => exact ⟨(((rd_T54 l0 x8_1).f0)), (wrap64 (x8_1 + 1)), aE, aE, H', ⟨by have := HK1.out; have := HJ4.out; omega⟩, ⟨by repeat (first | (with_reducible first | exact HB.out | apply below_alloc | apply pw_below_drewN | apply below_drew1 | refine below_set ?_ GE185.out) | exact HB.out)⟩⟩
     ·rw [if_neg c4] at H
      exact absurd H (by simp)
    ·rw [if_neg c3] at H
     exact absurd H (by simp)
   ·rw [if_neg c2] at H
    have c2b0 : decide (x8_1 < (l0.length : Int)) = false := decide_eq_false c2
    clear c2
    obtain rfl := Option.some.inj H
    go_wp2
    go_ret
    exact ⟨by first | rfl | (simp [errW_none, errW_some] <;> rfl) | (simp [*, errW_none, errW_some] <;> rfl), aB HB⟩

/-! ### rows_Check: function 64 -/
def rows_Check.f (k : Nat) (l0 : List (S54)) : Option (Int) := (rows_big.f l0).bind fun t187 => (if t187 = true then (some 2) else ((rows_right.f k l0).bind fun t188 => (if t188 = true then (some 0) else (some 40))))
theorem rows_Check.mono : ∀ a0 k, LeO (rows_Check.f k a0) (rows_Check.f (k + 1) a0) := by
 intro a0 k
 unfold rows_Check.f
 repeat' first
   | (with_reducible exact rows_right.mono _ _)
   | (with_reducible exact LeO.refl _)
   | (with_reducible exact LeO.none _)
   | (with_reducible refine LeO.ite ?_ ?_)
   | (with_reducible refine LeO.bind ?_ (fun _ => ?_))
   | exact rows_right.mono _ _
   | exact LeO.none _
   | refine LeO.ite ?_ ?_
   | refine LeO.bind ?_ (fun _ => ?_)
set_option maxHeartbeats 8000000 in
set_option maxRecDepth 100000 in
theorem rows_Check.calls (k : Nat) (A0 : Option Addr) (c0 : Nat) (l0 : List (S54)) (r : Int) (w : World) (hr0 : Kd.C k54 w A0 l0.length l0) (hc0 : l0.length ≤ c0) (h : rows_Check.f k l0 = some r) :
  Calls Try.prog 64 #[.slice A0 l0.length c0] w fun e w' => e = .returned (.int .i64 r) ∧ Below w.heap.size w w' := by
 have HR0 := Aside0.mk hr0
 have HC0 := Aside0.mk hc0
 clear hr0 hc0
 have HB := Aside0.mk (Below.refl w.heap.size w)
 have H : ((rows_big.f l0).bind fun t187 => (if t187 = true then (some 2) else ((rows_right.f k l0).bind fun t188 => (if t188 = true then (some 0) else (some 40))))) = some r := h
 clear h
 replace H := Option.bind_eq_some_iff.mp H
 obtain ⟨t187, A20, H⟩ := H
 replace H : (if t187 = true then (some 2) else ((rows_right.f k l0).bind fun t188 => (if t188 = true then (some 0) else (some 40)))) = some r := H
 have A2 := Aside0.mk A20
 clear A20
 by_cases c3 : t187 = true
 ·subst c3
  have H1 : (some 2) = some r := by rw [if_pos rfl] at H; exact H
  clear H
  have H := H1
  clear H1
  obtain rfl := Option.some.inj H
  go_enter Try.func64, Try.ntmps64
  go_wp2_with (first | ((with_reducible refine gate_callee (f := 79) rfl ?_); refine goesL_ (some 5) rfl rfl Try.func79 (by kernel_rfl) rfl #[.slice A0 l0.length c0] rfl (by (try simp only [List.map_toArray, List.map_cons, List.map_nil]); first | done | rfl | (simp only [List.length_drop, List.length_take]; rfl)) ?_; (with_reducible refine (rows_big.calls _ _ l0 true _ ?side1 ?side2 A2.out).mono ?_); (case side1 => exact aC HR0.out); (case side2 => exact HC0.out); rintro e w4 ⟨rfl, hb⟩; refine ⟨_, rfl, ?_⟩; have n0_ := Aside0.mk (below_step (aB HB) hb); clear HB; have HB := n0_; clear n0_; (try clear hb); (try clear hb2); (try clear hk); (try clear hi)))
  go_ret
  exact ⟨by first | rfl | (simp [errW_none, errW_some] <;> rfl) | (simp [*, errW_none, errW_some] <;> rfl), aB HB⟩
 ·replace c3 := Bool.eq_false_iff.mpr c3
  subst c3
  have H1 : ((rows_right.f k l0).bind fun t188 => (if t188 = true then (some 0) else (some 40))) = some r := by rw [if_neg (show ¬ (false = true) by decide)] at H; exact H
  clear H
  have H := H1
  clear H1
  replace H := Option.bind_eq_some_iff.mp H
  obtain ⟨t188, A50, H⟩ := H
  replace H : (if t188 = true then (some 0) else (some 40)) = some r := H
  have A5 := Aside0.mk A50
  clear A50
  by_cases c6 : t188 = true
  ·subst c6
   have H1 : (some 0) = some r := by rw [if_pos rfl] at H; exact H
   clear H
   have H := H1
   clear H1
   obtain rfl := Option.some.inj H
   go_enter Try.func64, Try.ntmps64
   go_wp2_with (first | ((with_reducible refine gate_callee (f := 79) rfl ?_); refine goesL_ (some 5) rfl rfl Try.func79 (by kernel_rfl) rfl #[.slice A0 l0.length c0] rfl (by (try simp only [List.map_toArray, List.map_cons, List.map_nil]); first | done | rfl | (simp only [List.length_drop, List.length_take]; rfl)) ?_; (with_reducible refine (rows_big.calls _ _ l0 false _ ?side1 ?side2 A2.out).mono ?_); (case side1 => exact aC HR0.out); (case side2 => exact HC0.out); rintro e w7 ⟨rfl, hb⟩; refine ⟨_, rfl, ?_⟩; have n0_ := Aside0.mk (below_step (aB HB) hb); clear HB; have HB := n0_; clear n0_; (try clear hb); (try clear hb2); (try clear hk); (try clear hi)) | ((with_reducible refine gate_callee (f := 80) rfl ?_); refine goesL_ (some 8) rfl rfl Try.func80 (by kernel_rfl) rfl #[.slice A0 l0.length c0] rfl (by (try simp only [List.map_toArray, List.map_cons, List.map_nil]); first | done | rfl | (simp only [List.length_drop, List.length_take]; rfl)) ?_; (with_reducible refine (rows_right.calls k _ _ l0 true _ ?side1 ?side2 A5.out).mono ?_); (case side1 => exact aC (Kd.C_below HR0.out HB.out)); (case side2 => exact HC0.out); rintro e w8 ⟨rfl, hb⟩; refine ⟨_, rfl, ?_⟩; have n0_ := Aside0.mk (below_step (aB HB) hb); clear HB; have HB := n0_; clear n0_; (try clear hb); (try clear hb2); (try clear hk); (try clear hi)))
   go_ret
   exact ⟨by first | rfl | (simp [errW_none, errW_some] <;> rfl) | (simp [*, errW_none, errW_some] <;> rfl), aB HB⟩
  ·replace c6 := Bool.eq_false_iff.mpr c6
   subst c6
   have H1 : (some 40) = some r := by rw [if_neg (show ¬ (false = true) by decide)] at H; exact H
   clear H
   have H := H1
   clear H1
   obtain rfl := Option.some.inj H
   go_enter Try.func64, Try.ntmps64
   go_wp2_with (first | ((with_reducible refine gate_callee (f := 79) rfl ?_); refine goesL_ (some 5) rfl rfl Try.func79 (by kernel_rfl) rfl #[.slice A0 l0.length c0] rfl (by (try simp only [List.map_toArray, List.map_cons, List.map_nil]); first | done | rfl | (simp only [List.length_drop, List.length_take]; rfl)) ?_; (with_reducible refine (rows_big.calls _ _ l0 false _ ?side1 ?side2 A2.out).mono ?_); (case side1 => exact aC HR0.out); (case side2 => exact HC0.out); rintro e w9 ⟨rfl, hb⟩; refine ⟨_, rfl, ?_⟩; have n0_ := Aside0.mk (below_step (aB HB) hb); clear HB; have HB := n0_; clear n0_; (try clear hb); (try clear hb2); (try clear hk); (try clear hi)) | ((with_reducible refine gate_callee (f := 80) rfl ?_); refine goesL_ (some 8) rfl rfl Try.func80 (by kernel_rfl) rfl #[.slice A0 l0.length c0] rfl (by (try simp only [List.map_toArray, List.map_cons, List.map_nil]); first | done | rfl | (simp only [List.length_drop, List.length_take]; rfl)) ?_; (with_reducible refine (rows_right.calls k _ _ l0 false _ ?side1 ?side2 A5.out).mono ?_); (case side1 => exact aC (Kd.C_below HR0.out HB.out)); (case side2 => exact HC0.out); rintro e w10 ⟨rfl, hb⟩; refine ⟨_, rfl, ?_⟩; have n0_ := Aside0.mk (below_step (aB HB) hb); clear HB; have HB := n0_; clear n0_; (try clear hb); (try clear hb2); (try clear hk); (try clear hi)))
   go_ret
   exact ⟨by first | rfl | (simp [errW_none, errW_some] <;> rfl) | (simp [*, errW_none, errW_some] <;> rfl), aB HB⟩

-- NOT PRINTED: function 33 (arena_Doc_Load)

/-! ### boltinglaw11_trees: function 34 -/
def boltinglaw11_trees.l0 : Nat → List (S54) → List (S54) → Int → Option ((List (S54)))
 | 0, _, _, _ => none
 | k + 1, x0, x3, x4 => if x4 < (x0.length : Int) then (if x4 < 12 then (if 0 ≤ x4 then (if 0 ≤ (mn (((rd_T54 x0 x4).f4).length : Int) 4) then (if (mn (((rd_T54 x0 x4).f4).length : Int) 4) ≤ (((rd_T54 x0 x4).f4).length : Int) then (if x3.length < 1954687338268 then (boltinglaw11_trees.l0 k x0 (x3 ++ [(⟨(rd_T54 x0 x4).f0, (rd_T54 x0 x4).f1, (rd_T54 x0 x4).f2, (rd_T54 x0 x4).f3, (((rd_T54 x0 x4).f4).take ((mn (((rd_T54 x0 x4).f4).length : Int) 4) : Int).toNat)⟩ : S54)]) (wrap64 (x4 + 1))) else (none)) else (none)) else (none)) else (none)) else (some x3)) else (some x3)
def boltinglaw11_trees.f (k : Nat) (l0 : List (S54)) : Option ((List (S54))) := boltinglaw11_trees.l0 k l0 (([] : List (S54))) 0
theorem boltinglaw11_trees.mono_l : ∀ k, (∀ y0 y1 y2, LeO (boltinglaw11_trees.l0 k y0 y1 y2) (boltinglaw11_trees.l0 (k + 1) y0 y1 y2))
 | 0 => fun _ _ _ r h => by simp [boltinglaw11_trees.l0] at h
 | k + 1 => by
  have ih0 := boltinglaw11_trees.mono_l k
  ·intro y0 y1 y2
   unfold boltinglaw11_trees.l0
   repeat' first
   | (with_reducible exact ih0 _ _ _)
   | (with_reducible exact LeO.refl _)
   | (with_reducible exact LeO.none _)
   | (with_reducible refine LeO.ite ?_ ?_)
   | (with_reducible refine LeO.bind ?_ (fun _ => ?_))
   | exact ih0 _ _ _
   | exact LeO.none _
   | refine LeO.ite ?_ ?_
   | refine LeO.bind ?_ (fun _ => ?_)
theorem boltinglaw11_trees.mono : ∀ a0 k, LeO (boltinglaw11_trees.f k a0) (boltinglaw11_trees.f (k + 1) a0) := by
 intro a0 k
 have ih0 := boltinglaw11_trees.mono_l k
 unfold boltinglaw11_trees.f
 repeat' first
   | (with_reducible exact ih0 _ _ _)
   | (with_reducible exact LeO.refl _)
   | (with_reducible exact LeO.none _)
   | (with_reducible refine LeO.ite ?_ ?_)
   | (with_reducible refine LeO.bind ?_ (fun _ => ?_))
   | exact ih0 _ _ _
   | exact LeO.none _
   | refine LeO.ite ?_ ?_
   | refine LeO.bind ?_ (fun _ => ?_)
set_option maxHeartbeats 8000000 in
set_option maxRecDepth 100000 in
theorem boltinglaw11_trees.calls (k : Nat) (P0_ : Nat → Prop) (A0 : Option Addr) (c0 : Nat) (l0 : List (S54)) (r : List (S54)) (w : World) (hs0 : Kd.V k54 54 w w.heap.size (fun k_ => P0_ k_) (.slice A0 l0.length c0) l0) (h : boltinglaw11_trees.f k l0 = some r) :
  Calls Try.prog 34 #[.slice A0 l0.length c0] w fun e w' => ∃ v0_ : Value, e = .returned (v0_) ∧ Kd.N k54 54 w' w.heap.size (fun k_ => (P0_ k_ ∨ w.heap.size ≤ k_)) v0_ r ∧ Below w.heap.size w w' := by
 have hu54 := Try.underlying54
 have HO0 := Aside0.mk (show Kd.V k54 54 w w.heap.size (fun k_ => (P0_ k_ ∨ w.heap.size ≤ k_)) (.slice A0 l0.length c0) l0 from Kd.V_mono hs0 (fun k_ hk => .inl hk))
 have HB := Aside0.mk (Below.refl w.heap.size w)
 have H : (boltinglaw11_trees.l0 k l0 (([] : List (S54))) 0) = some r := h
 clear h
 obtain ⟨y190, hy190⟩ : ∃ y_ : List (S54), y_ = (([] : List (S54))) := ⟨_, rfl⟩
 replace H : (boltinglaw11_trees.l0 k l0 y190 0) = some r := by first | (rw [hy190]; with_reducible exact H) | (have H2_ := (Option.bind_some _ _).symm.trans H; rw [hy190]; with_reducible exact H2_) | (have H2_ := (Option.bind_some _ _).symm.trans H; with_reducible exact H2_) | with_reducible exact H | (rw [hy190]; exact H) | exact H
 have Ny190 := Aside0.mk hy190
 clear hy190
 have H' := Aside0.mk H
 clear H
 go_enter Try.func34, Try.ntmps34
 go_wp2_with (first | ((with_reducible refine gate_dst (N := 6) rfl ?_); refine Kd.N_lit k54 _ 54 ?hg (N' := 6) ?hd (xs := ([] : List (S54))) (inner := []) (ok := (fun k_ => (P0_ k_ ∨ w.heap.size ≤ k_))) (okp := (fun k_ => (P0_ k_ ∨ w.heap.size ≤ k_))) ?hr ?hp (fun _ hk => hk) ((show ∀ k_, w.heap.size ≤ k_ → (fun k_ => (P0_ k_ ∨ w.heap.size ≤ k_)) k_ from fun k_ hk => (.inr (Nat.le_trans (below_size (aB HB)) hk))) _ (Nat.le_refl _)) (Below.refl _ _) (Nat.le_refl _) (by simp) ?_; (case hd => rfl); (case hg => rfl); (case hr => first | (go_simp; done) | (go_simp; rfl)); (case hp => exact (Reps.none _ _)); intro v191 w2 ho3 hb hg_ hnew_; clear hg_ hnew_; (first | rw [← Ny190.out] at ho3 | (simp only [Int.reduceToNat] at ho3; rw [← Ny190.out] at ho3)); have n0_ := Aside0.mk (Kd.V_elder' (aV HO0) (aS ho3) hb); have n1_ := Aside0.mk (Kd.N_lower ho3 (below_size (aB HB))); have n2_ := Aside0.mk (below_step (aB HB) hb); clear HO0; clear HB; have HO0 := n0_; have HO192 := n1_; have HB := n2_; clear n0_ n1_ n2_; clear hb ho3))
 go_loopg [3, 4] k (fun kq v3 v4 w' => ∃ (x3_1 : List (S54)) (x4_1 : Int), v4 = .int .i64 x4_1 ∧ Aside0 (boltinglaw11_trees.l0 kq l0 x3_1 x4_1 = some r) ∧ Aside0 (kq ≤ k) ∧ Aside0 (Kd.V k54 54 w' w.heap.size (fun k_ => (P0_ k_ ∨ w.heap.size ≤ k_) ∧ some k_ ≠ (v3 : Value).ownBlock) (.slice A0 l0.length c0) l0) ∧ Aside0 (Kd.N k54 54 w' w.heap.size (fun k_ => (P0_ k_ ∨ w.heap.size ≤ k_)) v3 x3_1) ∧ Aside0 (Below w.heap.size w w'))
 case atStart => exact ⟨(y190), (0), aE, H', ⟨Nat.le_refl _⟩, ⟨aV HO0⟩, ⟨aN HO192⟩, ⟨aB HB⟩⟩
 case round =>
  clear H'
  try clear p2
  try clear c3
  obtain ⟨x3_1, x4_1, rfl, HA, HK1, HO_0, HO_3, HB⟩ := hrel
  cases gk with
  | zero => exact absurd HA.out (by simp [boltinglaw11_trees.l0])
  | succ k1 =>
   have H := HA.out
   clear HA
   simp only [boltinglaw11_trees.l0] at H
   by_cases c4 : x4_1 < (l0.length : Int)
   ·rw [if_pos c4] at H
    have c4b0 : decide (x4_1 < (l0.length : Int)) = true := decide_eq_true c4
    clear c4
    by_cases c5 : x4_1 < 12
    ·rw [if_pos c5] at H
     have c5b0 : decide (x4_1 < 12) = true := decide_eq_true c5
     clear c5
     by_cases c6 : 0 ≤ x4_1
     ·rw [if_pos c6] at H
      have c6b0 : decide (0 ≤ x4_1) = true := decide_eq_true c6
      clear c6
      obtain ⟨ji7, hji7⟩ : ∃ j_ : Int, (mn (((rd_T54 l0 x4_1).f4).length : Int) 4) = j_ := ⟨_, rfl⟩
      replace H : (if 0 ≤ (ji7) then (if (ji7) ≤ (((rd_T54 l0 x4_1).f4).length : Int) then (if x3_1.length < 1954687338268 then (boltinglaw11_trees.l0 k1 l0 (x3_1 ++ [(⟨(rd_T54 l0 x4_1).f0, (rd_T54 l0 x4_1).f1, (rd_T54 l0 x4_1).f2, (rd_T54 l0 x4_1).f3, (((rd_T54 l0 x4_1).f4).take ((ji7) : Int).toNat)⟩ : S54)]) (wrap64 (x4_1 + 1))) else (none)) else (none)) else (none)) = some r := by first | (rw [hji7] at H; exact H) | (simp only [hji7] at H ⊢; exact H)
      have hji7_ : (if 4 < (((rd_T54 l0 x4_1).f4).length : Int) then 4 else (((rd_T54 l0 x4_1).f4).length : Int)) = ji7 := hji7
      by_cases c8 : 0 ≤ (ji7)
      ·rw [if_pos c8] at H
       have c8b0 := eq_true c8
       have c8b1 : decide (0 ≤ (ji7)) = true := decide_eq_true c8
       clear c8
       by_cases c9 : (ji7) ≤ (((rd_T54 l0 x4_1).f4).length : Int)
       ·rw [if_pos c9] at H
        have c9b0 := eq_true c9
        have c9b1 : decide ((ji7) ≤ (((rd_T54 l0 x4_1).f4).length : Int)) = true := decide_eq_true c9
        clear c9
        obtain ⟨y195, hy195⟩ : ∃ y_ : List (S52), y_ = (((rd_T54 l0 x4_1).f4).take ((ji7) : Int).toNat) := ⟨_, rfl⟩
        replace H : (if x3_1.length < 1954687338268 then (boltinglaw11_trees.l0 k1 l0 (x3_1 ++ [(⟨(rd_T54 l0 x4_1).f0, (rd_T54 l0 x4_1).f1, (rd_T54 l0 x4_1).f2, (rd_T54 l0 x4_1).f3, y195⟩ : S54)]) (wrap64 (x4_1 + 1))) else (none)) = some r := by first | (rw [hy195]; with_reducible exact H) | (have H2_ := (Option.bind_some _ _).symm.trans H; rw [hy195]; with_reducible exact H2_) | (have H2_ := (Option.bind_some _ _).symm.trans H; with_reducible exact H2_) | with_reducible exact H | (rw [hy195]; exact H) | exact H
        have Ny195 := Aside0.mk hy195
        clear hy195
        by_cases c10 : x3_1.length < 1954687338268
        ·rw [if_pos c10] at H
         have LMc10 := Aside0.mk c10
         clear c10
         obtain ⟨y200, hy200⟩ : ∃ y_ : List (S54), y_ = (x3_1 ++ [(⟨(rd_T54 l0 x4_1).f0, (rd_T54 l0 x4_1).f1, (rd_T54 l0 x4_1).f2, (rd_T54 l0 x4_1).f3, y195⟩ : S54)]) := ⟨_, rfl⟩
         replace H : (boltinglaw11_trees.l0 k1 l0 y200 (wrap64 (x4_1 + 1))) = some r := by first | (rw [hy200]; with_reducible exact H) | (have H2_ := (Option.bind_some _ _).symm.trans H; rw [hy200]; with_reducible exact H2_) | (have H2_ := (Option.bind_some _ _).symm.trans H; with_reducible exact H2_) | with_reducible exact H | (rw [hy200]; exact H) | exact H
         have Ny200 := Aside0.mk hy200
         clear hy200
         have H' := Aside0.mk H
         clear H
         have p193 : 0 ≤ (x4_1 : Int) := of_decide_eq_true aA
         have q193 : x4_1 < (l0.length : Int) := of_decide_eq_true aA
         obtain ⟨ad193, A193_4, c193_4, e193, hx193_0, hx193_1, hx193_2, hx193_3, hx193_4, hl193_4, hi193_4⟩ := at_T54 (Kd.V_reads' HO_0.out).2.2 x4_1 p193 q193
         cases e193
         obtain ⟨ce193, hce193, hMe193, hcc193⟩ := Kd.V_get HO_0.out z54 x4_1 p193 (by first | exact q193 | exact of_decide_eq_true aA | (have e_ := (Kd.V_reads' HO_0.out).1; omega))
         obtain ⟨ua193_4, uc193_4, rfl, ul193_4, ge193_4⟩ := k54_openF hMe193
         have hv193_4 := hcc193 4 _ rfl
         rw [add_field _ _ 4 (by omega)] at hv193_4
         replace hv193_4 := Option.some.inj (hv193_4.symm.trans hx193_4)
         injection hv193_4 with hva_ hvn_ hvc_
         rw [hva_] at ge193_4
         rw [hvc_] at ul193_4
         have HL193_4 := Aside0.mk (show Kd.V k52 52 _ w.heap.size _ _ ((rd_T54 l0 x4_1).f4) from Kd.V_mk ul193_4 ge193_4)
         clear hva_ hvn_ hvc_ ge193_4 ul193_4
         clear hcc193 hce193
         have HR193_4 := Aside0.mk hi193_4
         have HC193_4 := Aside0.mk hl193_4
         clear hi193_4 hl193_4
         replace p193 := eq_true p193
         replace q193 := eq_true q193
         go_wp2_with (first | ((with_reducible refine gate_dst (N := 5) rfl ?_); refine box_event ?hg (N := 5) ?hd (cs := #[.int .i64 0, .int .i64 0, .string (⟨#[]⟩ : ByteArray), .string (⟨#[]⟩ : ByteArray), .slice none 0 0]) (t := 54) ?hr ?_; (case hd => rfl); (case hg => rfl); (case hr => first | (go_simp; done) | (go_simp; rfl)); intro gb194 hg w11 hbox hb; have n0_ := Aside0.mk (Kd.V_below (Kd.V_elderB (aV HO_0) gb194 (Nat.le_of_eq hg.symm)) hb); have n1_ := Aside0.mk (Kd.N_below (Kd.N_elderB (aN HO_3) gb194 (Nat.le_of_eq hg.symm)) hb); have n2_ := Aside0.mk (Kd.V_below (Kd.V_elderB (aV HL193_4) gb194 (Nat.le_of_eq hg.symm)) hb); have n3_ := Aside0.mk (Kd.C_below (by repeat (first | (with_reducible exact HR193_4.out) | (with_reducible refine Kd.C_alloc ?_ _) | (with_reducible refine Kd.C_drewN ?_ _) | (with_reducible refine Kd.C_drew ?_) | exact HR193_4.out)) hb); have n4_ := Aside0.mk (below_step (aB HB) hb); have n5_ := Aside0.mk (hbox); have n6_ := Aside0.mk ((by rw [hg]; exact (below_size (aB HB)) : w.heap.size ≤ gb194)); have n7_ := Aside0.mk ((by rw [hg]; exact (below_size (aB HB)) : w.heap.size ≤ gb194)); clear HO_0; clear HO_3; clear HL193_4; clear HR193_4; clear HB; have HO_0 := n0_; have HO_3 := n1_; have HL193_4 := n2_; have HR193_4 := n3_; have HB := n4_; have BK194 := n5_; have GW194 := n6_; have GE194 := n7_; clear n0_ n1_ n2_ n3_ n4_ n5_ n6_ n7_; clear hb hbox hg; have hcz12_0 : w11.cell? ⟨gb194, 0, none⟩ = some (.int .i64 0) := (blk_cell BK194.out 0).trans rfl; have hcz12_1 : w11.cell? ⟨gb194, 1, none⟩ = some (.int .i64 0) := (blk_cell BK194.out 1).trans rfl; have hcz12_2 : w11.cell? ⟨gb194, 2, none⟩ = some (.string (⟨#[]⟩ : ByteArray)) := (blk_cell BK194.out 2).trans rfl; have hcz12_3 : w11.cell? ⟨gb194, 3, none⟩ = some (.string (⟨#[]⟩ : ByteArray)) := (blk_cell BK194.out 3).trans rfl; have hcz12_4 : w11.cell? ⟨gb194, 4, none⟩ = some (.slice none 0 0) := (blk_cell BK194.out 4).trans rfl; have hfz12_0 := blk_frozen BK194.out 0; have hfz12_1 := blk_frozen BK194.out 1; have hfz12_2 := blk_frozen BK194.out 2; have hfz12_3 := blk_frozen BK194.out 3; have hfz12_4 := blk_frozen BK194.out 4) | ((with_reducible refine gate_store (t := 54) (p := 5) rfl ?_); refine store_event (t := 54) (p := 5) (v := ?vo_w13) (w1 := (((((w11.setCell ⟨gb194, 0, none⟩ (.int .i64 ((rd_T54 l0 x4_1).f0))).setCell ⟨gb194, 1, none⟩ (.int .i64 ((rd_T54 l0 x4_1).f1))).setCell ⟨gb194, 2, none⟩ (.string ((rd_T54 l0 x4_1).f2))).setCell ⟨gb194, 3, none⟩ (.string ((rd_T54 l0 x4_1).f3))).setCell ⟨gb194, 4, none⟩ (.slice A193_4 ((rd_T54 l0 x4_1).f4).length c193_4))) ?hg ?ho ?hn ?hr ?_; (case ho => rfl); (case hg => rfl); (case hn => rfl); (case hr => first | (go_simp; done) | (go_simp; rfl)); intro w13 hw; have n0_ : Aside0 (Kd.V k54 54 w13 w.heap.size (fun k_ => (P0_ k_ ∨ w.heap.size ≤ k_) ∧ some k_ ≠ (u3 : Value).ownBlock ∧ k_ ≠ gb194) (.slice (some ad193) l0.length c0) l0) := ⟨(by rw [hw]; exact (by (with_reducible repeat (first | apply Kd.V_alloc | apply Kd.V_drewN | apply Kd.V_drew)); exact Kd.V_mono (Kd.V_far (p := ⟨gb194, 4, none⟩) (Kd.V_far (p := ⟨gb194, 3, none⟩) (Kd.V_far (p := ⟨gb194, 2, none⟩) (Kd.V_far (p := ⟨gb194, 1, none⟩) (Kd.V_far (p := ⟨gb194, 0, none⟩) (Kd.V_mono HO_0.out (fun k_ hk => (⟨hk, hk.2⟩ : _ ∧ k_ ≠ gb194))) (fun _ hk => hk.2) (.int .i64 ((rd_T54 l0 x4_1).f0))) (fun _ hk => hk.2) (.int .i64 ((rd_T54 l0 x4_1).f1))) (fun _ hk => hk.2) (.string ((rd_T54 l0 x4_1).f2))) (fun _ hk => hk.2) (.string ((rd_T54 l0 x4_1).f3))) (fun _ hk => hk.2) (.slice A193_4 ((rd_T54 l0 x4_1).f4).length c193_4)) (fun _ hk => ⟨hk.1.1.1, ⟨hk.1.1.2, hk.1.2⟩⟩)))⟩; have n1_ : Aside0 (Kd.N k54 54 w13 w.heap.size (fun k_ => (P0_ k_ ∨ w.heap.size ≤ k_) ∧ k_ ≠ gb194) u3 x3_1) := ⟨(by rw [hw]; exact (by (with_reducible repeat (first | apply Kd.N_alloc | apply Kd.N_drewN | apply Kd.N_drew)); exact Kd.N_mono (Kd.N_far (p := ⟨gb194, 4, none⟩) (Kd.N_far (p := ⟨gb194, 3, none⟩) (Kd.N_far (p := ⟨gb194, 2, none⟩) (Kd.N_far (p := ⟨gb194, 1, none⟩) (Kd.N_far (p := ⟨gb194, 0, none⟩) (Kd.N_mono HO_3.out (fun k_ hk => (⟨hk, hk.2⟩ : _ ∧ k_ ≠ gb194))) (fun _ hk => hk.2) (.int .i64 ((rd_T54 l0 x4_1).f0))) (fun _ hk => hk.2) (.int .i64 ((rd_T54 l0 x4_1).f1))) (fun _ hk => hk.2) (.string ((rd_T54 l0 x4_1).f2))) (fun _ hk => hk.2) (.string ((rd_T54 l0 x4_1).f3))) (fun _ hk => hk.2) (.slice A193_4 ((rd_T54 l0 x4_1).f4).length c193_4)) (fun _ hk => ⟨hk.1.1, hk.1.2⟩)))⟩; have n2_ : Aside0 (Kd.V k52 52 w13 w.heap.size (fun k_ => (P0_ k_ ∨ w.heap.size ≤ k_) ∧ some k_ ≠ (u3 : Value).ownBlock ∧ k_ ≠ gb194) (.slice A193_4 ((rd_T54 l0 x4_1).f4).length c193_4) ((rd_T54 l0 x4_1).f4)) := ⟨(by rw [hw]; exact (by (with_reducible repeat (first | apply Kd.V_alloc | apply Kd.V_drewN | apply Kd.V_drew)); exact Kd.V_mono (Kd.V_far (p := ⟨gb194, 4, none⟩) (Kd.V_far (p := ⟨gb194, 3, none⟩) (Kd.V_far (p := ⟨gb194, 2, none⟩) (Kd.V_far (p := ⟨gb194, 1, none⟩) (Kd.V_far (p := ⟨gb194, 0, none⟩) (Kd.V_mono HL193_4.out (fun k_ hk => (⟨hk, hk.2⟩ : _ ∧ k_ ≠ gb194))) (fun _ hk => hk.2) (.int .i64 ((rd_T54 l0 x4_1).f0))) (fun _ hk => hk.2) (.int .i64 ((rd_T54 l0 x4_1).f1))) (fun _ hk => hk.2) (.string ((rd_T54 l0 x4_1).f2))) (fun _ hk => hk.2) (.string ((rd_T54 l0 x4_1).f3))) (fun _ hk => hk.2) (.slice A193_4 ((rd_T54 l0 x4_1).f4).length c193_4)) (fun _ hk => ⟨hk.1.1.1, ⟨hk.1.1.2, hk.1.2⟩⟩)))⟩; have n3_ : Aside0 (w13.heap[gb194]? = some (.cells #[.int .i64 ((rd_T54 l0 x4_1).f0), .int .i64 ((rd_T54 l0 x4_1).f1), .string ((rd_T54 l0 x4_1).f2), .string ((rd_T54 l0 x4_1).f3), .slice A193_4 ((rd_T54 l0 x4_1).f4).length c193_4] 54 (0, 0))) := ⟨(by rw [hw]; exact (by (with_reducible repeat (first | refine blk_drewN ?_ _ | refine blk_drew ?_ | refine blk_alloc ?_ _)); refine blk_put (cs := #[.int .i64 ((rd_T54 l0 x4_1).f0), .int .i64 ((rd_T54 l0 x4_1).f1), .string ((rd_T54 l0 x4_1).f2), .string ((rd_T54 l0 x4_1).f3), .slice none 0 0]) ?_ 4 _ rfl; (with_reducible repeat (first | refine blk_drewN ?_ _ | refine blk_drew ?_ | refine blk_alloc ?_ _)); refine blk_put (cs := #[.int .i64 ((rd_T54 l0 x4_1).f0), .int .i64 ((rd_T54 l0 x4_1).f1), .string ((rd_T54 l0 x4_1).f2), .string (⟨#[]⟩ : ByteArray), .slice none 0 0]) ?_ 3 _ rfl; (with_reducible repeat (first | refine blk_drewN ?_ _ | refine blk_drew ?_ | refine blk_alloc ?_ _)); refine blk_put (cs := #[.int .i64 ((rd_T54 l0 x4_1).f0), .int .i64 ((rd_T54 l0 x4_1).f1), .string (⟨#[]⟩ : ByteArray), .string (⟨#[]⟩ : ByteArray), .slice none 0 0]) ?_ 2 _ rfl; (with_reducible repeat (first | refine blk_drewN ?_ _ | refine blk_drew ?_ | refine blk_alloc ?_ _)); refine blk_put (cs := #[.int .i64 ((rd_T54 l0 x4_1).f0), .int .i64 0, .string (⟨#[]⟩ : ByteArray), .string (⟨#[]⟩ : ByteArray), .slice none 0 0]) ?_ 1 _ rfl; (with_reducible repeat (first | refine blk_drewN ?_ _ | refine blk_drew ?_ | refine blk_alloc ?_ _)); refine blk_put (cs := #[.int .i64 0, .int .i64 0, .string (⟨#[]⟩ : ByteArray), .string (⟨#[]⟩ : ByteArray), .slice none 0 0]) ?_ 0 _ rfl; (with_reducible repeat (first | refine blk_drewN ?_ _ | refine blk_drew ?_ | refine blk_alloc ?_ _)); exact BK194.out))⟩; have n4_ : Aside0 (Below w.heap.size w w13) := ⟨(by rw [hw]; exact (by repeat (first | (with_reducible first | exact HB.out | apply below_alloc | apply pw_below_drewN | apply below_drew1 | refine below_set ?_ GE194.out) | exact HB.out)))⟩; clear hw; clear HO_0; clear HO_3; clear HL193_4; clear BK194; clear HB; have HO_0 := n0_; have HO_3 := n1_; have HL193_4 := n2_; have BK194 := n3_; have HB := n4_; clear n0_ n1_ n2_ n3_ n4_; have hcz14_0 : w13.cell? ⟨gb194, 0, none⟩ = some (.int .i64 ((rd_T54 l0 x4_1).f0)) := (blk_cell BK194.out 0).trans rfl; have hcz14_1 : w13.cell? ⟨gb194, 1, none⟩ = some (.int .i64 ((rd_T54 l0 x4_1).f1)) := (blk_cell BK194.out 1).trans rfl; have hcz14_2 : w13.cell? ⟨gb194, 2, none⟩ = some (.string ((rd_T54 l0 x4_1).f2)) := (blk_cell BK194.out 2).trans rfl; have hcz14_3 : w13.cell? ⟨gb194, 3, none⟩ = some (.string ((rd_T54 l0 x4_1).f3)) := (blk_cell BK194.out 3).trans rfl; have hcz14_4 : w13.cell? ⟨gb194, 4, none⟩ = some (.slice A193_4 ((rd_T54 l0 x4_1).f4).length c193_4) := (blk_cell BK194.out 4).trans rfl; have hfz14_0 := blk_frozen BK194.out 0; have hfz14_1 := blk_frozen BK194.out 1; have hfz14_2 := blk_frozen BK194.out 2; have hfz14_3 := blk_frozen BK194.out 3; have hfz14_4 := blk_frozen BK194.out 4; have q15 : ((ji7) : Int) ≤ ((((rd_T54 l0 x4_1).f4).length : Int) : Int) := of_decide_eq_true aA; obtain ⟨i015, hi015, _, hsz15, _⟩ := info_parts info52; have hroom15 : ((rd_T54 l0 x4_1).f4).length ≤ c193_4 := HC193_4.out; have hC15 : Kd.F k52 _ _ A193_4 ((rd_T54 l0 x4_1).f4).length ((rd_T54 l0 x4_1).f4) := (Kd.V_at (base := w.heap.size) HL193_4.out).2.2; have hcut15 := cut_to (P := Try.prog) 50 52 .i64 Try.underlying50 hi015 A193_4 ((rd_T54 l0 x4_1).f4).length c193_4 (ji7) (of_decide_eq_true aA) q15 hroom15; have hr15 := Kd.F_take (m := ((ji7) : Int).toNat) hC15 (by omega); have hy15 : y195.length = ((ji7) : Int).toNat := (by rw [Ny195.out, List.length_take]; omega); rw [← Ny195.out] at hr15; rw [← hy15] at hcut15; have HO199 := Aside0.mk (show Kd.V k52 52 _ w.heap.size _ (.slice A193_4 y195.length c193_4) y195 from Kd.V_mk (by omega) hr15); have HC199 := Aside0.mk (show y195.length ≤ c193_4 from by omega); clear hr15 hC15 hroom15 hi015 hsz15; have KY15 := Aside0.mk hy15; clear hy15; replace q15 := eq_true q15) | ((with_reducible refine gate_store (t := 50) (p := 28) rfl ?_); refine store_event (t := 50) (p := 28) (v := ?vo_w16) (w1 := (w13.setCell ⟨gb194, 4, none⟩ (.slice A193_4 y195.length c193_4))) ?hg ?ho ?hn ?hr ?_; (case ho => rfl); (case hg => rfl); (case hn => rfl); (case hr => first | (go_simp; done) | (go_simp; rfl)); intro w16 hw; have n0_ : Aside0 (Kd.V k54 54 w16 w.heap.size (fun k_ => (P0_ k_ ∨ w.heap.size ≤ k_) ∧ some k_ ≠ (u3 : Value).ownBlock ∧ k_ ≠ gb194) (.slice (some ad193) l0.length c0) l0) := ⟨(by rw [hw]; exact (by (with_reducible repeat (first | apply Kd.V_alloc | apply Kd.V_drewN | apply Kd.V_drew)); exact Kd.V_mono (Kd.V_far (p := ⟨gb194, 4, none⟩) (Kd.V_mono HO_0.out (fun k_ hk => (⟨hk, hk.2.2⟩ : _ ∧ k_ ≠ gb194))) (fun _ hk => hk.2) (.slice A193_4 y195.length c193_4)) (fun _ hk => ⟨hk.1.1, ⟨hk.1.2.1, hk.1.2.2⟩⟩)))⟩; have n1_ : Aside0 (Kd.N k54 54 w16 w.heap.size (fun k_ => (P0_ k_ ∨ w.heap.size ≤ k_) ∧ k_ ≠ gb194) u3 x3_1) := ⟨(by rw [hw]; exact (by (with_reducible repeat (first | apply Kd.N_alloc | apply Kd.N_drewN | apply Kd.N_drew)); exact Kd.N_mono (Kd.N_far (p := ⟨gb194, 4, none⟩) (Kd.N_mono HO_3.out (fun k_ hk => (⟨hk, hk.2⟩ : _ ∧ k_ ≠ gb194))) (fun _ hk => hk.2) (.slice A193_4 y195.length c193_4)) (fun _ hk => ⟨hk.1.1, hk.1.2⟩)))⟩; have n2_ : Aside0 (Kd.V k52 52 w16 w.heap.size (fun k_ => (P0_ k_ ∨ w.heap.size ≤ k_) ∧ some k_ ≠ (u3 : Value).ownBlock ∧ k_ ≠ gb194) (.slice A193_4 ((rd_T54 l0 x4_1).f4).length c193_4) ((rd_T54 l0 x4_1).f4)) := ⟨(by rw [hw]; exact (by (with_reducible repeat (first | apply Kd.V_alloc | apply Kd.V_drewN | apply Kd.V_drew)); exact Kd.V_mono (Kd.V_far (p := ⟨gb194, 4, none⟩) (Kd.V_mono HL193_4.out (fun k_ hk => (⟨hk, hk.2.2⟩ : _ ∧ k_ ≠ gb194))) (fun _ hk => hk.2) (.slice A193_4 y195.length c193_4)) (fun _ hk => ⟨hk.1.1, ⟨hk.1.2.1, hk.1.2.2⟩⟩)))⟩; have n3_ : Aside0 (Kd.V k52 52 w16 w.heap.size (fun k_ => (P0_ k_ ∨ w.heap.size ≤ k_) ∧ some k_ ≠ (u3 : Value).ownBlock ∧ k_ ≠ gb194) (.slice A193_4 y195.length c193_4) y195) := ⟨(by rw [hw]; exact (by (with_reducible repeat (first | apply Kd.V_alloc | apply Kd.V_drewN | apply Kd.V_drew)); exact Kd.V_mono (Kd.V_far (p := ⟨gb194, 4, none⟩) (Kd.V_mono HO199.out (fun k_ hk => (⟨hk, hk.2.2⟩ : _ ∧ k_ ≠ gb194))) (fun _ hk => hk.2) (.slice A193_4 y195.length c193_4)) (fun _ hk => ⟨hk.1.1, ⟨hk.1.2.1, hk.1.2.2⟩⟩)))⟩; have n4_ : Aside0 (w16.heap[gb194]? = some (.cells #[.int .i64 ((rd_T54 l0 x4_1).f0), .int .i64 ((rd_T54 l0 x4_1).f1), .string ((rd_T54 l0 x4_1).f2), .string ((rd_T54 l0 x4_1).f3), .slice A193_4 y195.length c193_4] 54 (0, 0))) := ⟨(by rw [hw]; exact (by (with_reducible repeat (first | refine blk_drewN ?_ _ | refine blk_drew ?_ | refine blk_alloc ?_ _)); refine blk_put (cs := #[.int .i64 ((rd_T54 l0 x4_1).f0), .int .i64 ((rd_T54 l0 x4_1).f1), .string ((rd_T54 l0 x4_1).f2), .string ((rd_T54 l0 x4_1).f3), .slice A193_4 ((rd_T54 l0 x4_1).f4).length c193_4]) ?_ 4 _ rfl; (with_reducible repeat (first | refine blk_drewN ?_ _ | refine blk_drew ?_ | refine blk_alloc ?_ _)); exact BK194.out))⟩; have n5_ : Aside0 (Below w.heap.size w w16) := ⟨(by rw [hw]; exact (by repeat (first | (with_reducible first | exact HB.out | apply below_alloc | apply pw_below_drewN | apply below_drew1 | refine below_set ?_ GE194.out) | exact HB.out)))⟩; clear hw; clear HO_0; clear HO_3; clear HL193_4; clear HO199; clear BK194; clear HB; have HO_0 := n0_; have HO_3 := n1_; have HL193_4 := n2_; have HO199 := n3_; have BK194 := n4_; have HB := n5_; clear n0_ n1_ n2_ n3_ n4_ n5_; have hcz17_0 : w16.cell? ⟨gb194, 0, none⟩ = some (.int .i64 ((rd_T54 l0 x4_1).f0)) := (blk_cell BK194.out 0).trans rfl; have hcz17_1 : w16.cell? ⟨gb194, 1, none⟩ = some (.int .i64 ((rd_T54 l0 x4_1).f1)) := (blk_cell BK194.out 1).trans rfl; have hcz17_2 : w16.cell? ⟨gb194, 2, none⟩ = some (.string ((rd_T54 l0 x4_1).f2)) := (blk_cell BK194.out 2).trans rfl; have hcz17_3 : w16.cell? ⟨gb194, 3, none⟩ = some (.string ((rd_T54 l0 x4_1).f3)) := (blk_cell BK194.out 3).trans rfl; have hcz17_4 : w16.cell? ⟨gb194, 4, none⟩ = some (.slice A193_4 y195.length c193_4) := (blk_cell BK194.out 4).trans rfl; have hfz17_0 := blk_frozen BK194.out 0; have hfz17_1 := blk_frozen BK194.out 1; have hfz17_2 := blk_frozen BK194.out 2; have hfz17_3 := blk_frozen BK194.out 3; have hfz17_4 := blk_frozen BK194.out 4) | ((with_reducible refine gate_builtin (b := .append) (xs := #[.tmp 29, .tmp 31]) rfl ?_); at_builtin; refine Kd.N_append k54 (w0 := w) w.heap.size rfl (.tmp 29) (.tmp 31) 23 54 (.agg #[(.int .i64 0), (.int .i64 0), (.string ⟨#[]⟩), (.string ⟨#[]⟩), (.slice none 0 0)]) 72 rfl Try.underlying23 info54 rfl (by decide) (by omega) u3 x3_1 (⟨(rd_T54 l0 x4_1).f0, (rd_T54 l0 x4_1).f1, (rd_T54 l0 x4_1).f2, (rd_T54 l0 x4_1).f3, y195⟩ : S54) [.int .i64 ((rd_T54 l0 x4_1).f0), .int .i64 ((rd_T54 l0 x4_1).f1), .string ((rd_T54 l0 x4_1).f2), .string ((rd_T54 l0 x4_1).f3), .slice A193_4 y195.length c193_4] (fun k_ => (P0_ k_ ∨ w.heap.size ≤ k_) ∧ k_ ≠ gb194) (fun k_ => ((fun k_ => (P0_ k_ ∨ w.heap.size ≤ k_) ∧ k_ ≠ gb194)) k_ ∧ some k_ ≠ (u3 : Value).ownBlock) rfl rfl ?aP (fun _ hk => hk) ?aF ?aO ?aB ?aS ?aL ?_; (case aP => exact (k54_mkF _ _ (⟨(rd_T54 l0 x4_1).f0, (rd_T54 l0 x4_1).f1, (rd_T54 l0 x4_1).f2, (rd_T54 l0 x4_1).f3, y195⟩ : S54) (Kd.V_reads' (Kd.V_mono (ok' := (fun k_ => ((fun k_ => (P0_ k_ ∨ w.heap.size ≤ k_) ∧ k_ ≠ gb194)) k_ ∧ some k_ ≠ (u3 : Value).ownBlock)) (HO199.out) (fun k_ hk => ⟨⟨hk.1, hk.2.2⟩, hk.2.1⟩))).2.1 (Kd.V_F (Kd.V_mono (ok' := (fun k_ => ((fun k_ => (P0_ k_ ∨ w.heap.size ≤ k_) ∧ k_ ≠ gb194)) k_ ∧ some k_ ≠ (u3 : Value).ownBlock)) (HO199.out) (fun k_ hk => ⟨⟨hk.1, hk.2.2⟩, hk.2.1⟩))))); (case aB => exact (by repeat (first | (with_reducible first | exact HB.out | apply below_alloc | apply pw_below_drewN | apply below_drew1 | refine below_set ?_ GE194.out) | exact HB.out))); (case aF => exact (fun k_ hk => ⟨(.inr (Nat.le_trans (below_size (by repeat (first | (with_reducible first | exact HB.out | apply below_alloc | apply pw_below_drewN | apply below_drew1 | refine below_set ?_ GE194.out) | exact HB.out))) hk)), Kd.freshB (g := gb194) (o := .cells #[.int .i64 ((rd_T54 l0 x4_1).f0), .int .i64 ((rd_T54 l0 x4_1).f1), .string ((rd_T54 l0 x4_1).f2), .string ((rd_T54 l0 x4_1).f3), .slice A193_4 y195.length c193_4] 54 (0, 0)) (aK BK194) k_ hk⟩)); (case aO => exact (aN HO_3)); (case aS => exact (below_size (by repeat (first | (with_reducible first | exact HB.out | apply below_alloc | apply pw_below_drewN | apply below_drew1 | refine below_set ?_ GE194.out) | exact HB.out)))); (case aL => have := LMc10.out; omega); intro v201 w18 ho hb hg hat; rw [← Ny200.out] at ho; have n0_ := Aside0.mk (Kd.V_afterv (ok := (fun k_ => (P0_ k_ ∨ w.heap.size ≤ k_) ∧ k_ ≠ gb194)) (by (with_reducible repeat (first | apply Kd.V_alloc | apply Kd.V_drewN | apply Kd.V_drew)); exact Kd.V_mono HO_0.out (fun _ hk => ⟨⟨hk.1, hk.2.2⟩, hk.2.1⟩)) hg hat); have n1_ := Aside0.mk (Kd.V_afterv (ok := (fun k_ => (P0_ k_ ∨ w.heap.size ≤ k_) ∧ k_ ≠ gb194)) (by (with_reducible repeat (first | apply Kd.V_alloc | apply Kd.V_drewN | apply Kd.V_drew)); exact Kd.V_mono HL193_4.out (fun _ hk => ⟨⟨hk.1, hk.2.2⟩, hk.2.1⟩)) hg hat); have n2_ := Aside0.mk (blk_grown (g := gb194) (o := .cells #[.int .i64 ((rd_T54 l0 x4_1).f0), .int .i64 ((rd_T54 l0 x4_1).f1), .string ((rd_T54 l0 x4_1).f2), .string ((rd_T54 l0 x4_1).f3), .slice A193_4 y195.length c193_4] 54 (0, 0)) (aK BK194) hg (Kd.N_away HO_3.out (fun _ hk => hk.2))); have n3_ := Aside0.mk (Kd.V_afterv (ok := (fun k_ => (P0_ k_ ∨ w.heap.size ≤ k_) ∧ k_ ≠ gb194)) (by (with_reducible repeat (first | apply Kd.V_alloc | apply Kd.V_drewN | apply Kd.V_drew)); exact Kd.V_mono HO199.out (fun _ hk => ⟨⟨hk.1, hk.2.2⟩, hk.2.1⟩)) hg hat); have n4_ := Aside0.mk (hb); have n5_ := Aside0.mk (ho); clear HO_0; clear HL193_4; clear BK194; clear HO199; clear HB; clear HO_3; have HO_0 := n0_; have HL193_4 := n1_; have BK194 := n2_; have HO199 := n3_; have HB := n4_; have HO202 := n5_; clear n0_ n1_ n2_ n3_ n4_ n5_; clear ho hb hg hat))
         go_roundg k1
         case measure => have := HK1.out; omega
         case rel => exact ⟨(y200), (wrap64 (x4_1 + 1)), aE, H', ⟨by have := HK1.out; omega⟩, ⟨by (with_reducible repeat (first | apply Kd.V_alloc | apply Kd.V_drewN | apply Kd.V_drew)); exact Kd.V_mono HO_0.out (fun _ hk => ⟨hk.1.1, hk.2⟩)⟩, ⟨by (with_reducible repeat (first | apply Kd.N_alloc | apply Kd.N_drewN | apply Kd.N_drew)); exact Kd.N_mono HO202.out (fun _ hk => hk.1)⟩, ⟨by repeat (first | (with_reducible first | exact HB.out | apply below_alloc | apply pw_below_drewN | apply below_drew1 | refine below_set ?_ GE194.out) | exact HB.out)⟩⟩
        ·rw [if_neg c10] at H
         exact absurd H (by simp)
       ·rw [if_neg c9] at H
        exact absurd H (by simp)
      ·rw [if_neg c8] at H
       exact absurd H (by simp)
     ·rw [if_neg c6] at H
      exact absurd H (by simp)
    ·rw [if_neg c5] at H
     have c5b0 : decide (x4_1 < 12) = false := decide_eq_false c5
     clear c5
     obtain rfl := Option.some.inj H
     go_wp2
     go_ret
     exact ⟨_, by first | rfl | (simp [errW_none, errW_some] <;> rfl) | (simp [*, errW_none, errW_some] <;> rfl), by (with_reducible repeat (first | apply Kd.N_alloc | apply Kd.N_drewN | apply Kd.N_drew)); exact HO_3.out, aB HB⟩
   ·rw [if_neg c4] at H
    have c4b0 : decide (x4_1 < (l0.length : Int)) = false := decide_eq_false c4
    clear c4
    obtain rfl := Option.some.inj H
    go_wp2
    go_ret
    exact ⟨_, by first | rfl | (simp [errW_none, errW_some] <;> rfl) | (simp [*, errW_none, errW_some] <;> rfl), by (with_reducible repeat (first | apply Kd.N_alloc | apply Kd.N_drewN | apply Kd.N_drew)); exact HO_3.out, aB HB⟩

/-! ### boltingref02_Space: function 93 -/
def boltingref02_Space.f (a0 : Int) : Option (Bool) := if a0 = 32 then (some true) else (if a0 = 9 then (some true) else (if a0 = 10 then (some true) else (if a0 = 12 then (some true) else (some (a0 == 13)))))
set_option maxHeartbeats 8000000 in
set_option maxRecDepth 100000 in
theorem boltingref02_Space.calls (a0 : Int) (r : Bool) (w : World) (h : boltingref02_Space.f a0 = some r) :
  Calls Try.prog 93 #[.int .u8 a0] w fun e w' => e = .returned (.bool r) ∧ Drawn0 w w' := by
 have H : (if a0 = 32 then (some true) else (if a0 = 9 then (some true) else (if a0 = 10 then (some true) else (if a0 = 12 then (some true) else (some (a0 == 13)))))) = some r := h
 clear h
 by_cases c2 : a0 = 32
 ·rw [if_pos c2] at H
  have c2b0 : (a0 == 32) = true := beq_iff_eq.mpr c2
  have c2b1 : (a0 != 32) = false := bne_eq_false_iff_eq.mpr c2
  clear c2
  obtain rfl := Option.some.inj H
  go_enter Try.func93, Try.ntmps93
  go_wp2
  go_ret
  exact ⟨by first | rfl | (simp; done) | (congr 1; first | (with_reducible assumption) | (symm; with_reducible assumption)) | (simp [*]; done) | (simp only [ne_nil_empty]; done) | (rw [ne_nil_empty]; rfl), by repeat (first | exact Drawn0.refl _ | apply Drawn0.step)⟩
 ·rw [if_neg c2] at H
  have c2b0 : (a0 == 32) = false := beq_eq_false_iff_ne.mpr c2
  have c2b1 : (a0 != 32) = true := bne_iff_ne.mpr c2
  by_cases c3 : a0 = 9
  ·rw [if_pos c3] at H
   have c3b0 : (a0 == 9) = true := beq_iff_eq.mpr c3
   have c3b1 : (a0 != 9) = false := bne_eq_false_iff_eq.mpr c3
   clear c3
   obtain rfl := Option.some.inj H
   go_enter Try.func93, Try.ntmps93
   go_wp2
   go_ret
   exact ⟨by first | rfl | (simp; done) | (congr 1; first | (with_reducible assumption) | (symm; with_reducible assumption)) | (simp [*]; done) | (simp only [ne_nil_empty]; done) | (rw [ne_nil_empty]; rfl), by repeat (first | exact Drawn0.refl _ | apply Drawn0.step)⟩
  ·rw [if_neg c3] at H
   have c3b0 : (a0 == 9) = false := beq_eq_false_iff_ne.mpr c3
   have c3b1 : (a0 != 9) = true := bne_iff_ne.mpr c3
   by_cases c4 : a0 = 10
   ·rw [if_pos c4] at H
    have c4b0 : (a0 == 10) = true := beq_iff_eq.mpr c4
    have c4b1 : (a0 != 10) = false := bne_eq_false_iff_eq.mpr c4
    clear c4
    obtain rfl := Option.some.inj H
    go_enter Try.func93, Try.ntmps93
    go_wp2
    go_ret
    exact ⟨by first | rfl | (simp; done) | (congr 1; first | (with_reducible assumption) | (symm; with_reducible assumption)) | (simp [*]; done) | (simp only [ne_nil_empty]; done) | (rw [ne_nil_empty]; rfl), by repeat (first | exact Drawn0.refl _ | apply Drawn0.step)⟩
   ·rw [if_neg c4] at H
    have c4b0 : (a0 == 10) = false := beq_eq_false_iff_ne.mpr c4
    have c4b1 : (a0 != 10) = true := bne_iff_ne.mpr c4
    by_cases c5 : a0 = 12
    ·rw [if_pos c5] at H
     have c5b0 : (a0 == 12) = true := beq_iff_eq.mpr c5
     have c5b1 : (a0 != 12) = false := bne_eq_false_iff_eq.mpr c5
     clear c5
     obtain rfl := Option.some.inj H
     go_enter Try.func93, Try.ntmps93
     go_wp2
     go_ret
     exact ⟨by first | rfl | (simp; done) | (congr 1; first | (with_reducible assumption) | (symm; with_reducible assumption)) | (simp [*]; done) | (simp only [ne_nil_empty]; done) | (rw [ne_nil_empty]; rfl), by repeat (first | exact Drawn0.refl _ | apply Drawn0.step)⟩
    ·rw [if_neg c5] at H
     have c5b0 : (a0 == 12) = false := beq_eq_false_iff_ne.mpr c5
     have c5b1 : (a0 != 12) = true := bne_iff_ne.mpr c5
     obtain rfl := Option.some.inj H
     go_enter Try.func93, Try.ntmps93
     go_wp2
     go_ret
     exact ⟨by first | rfl | (simp; done) | (congr 1; first | (with_reducible assumption) | (symm; with_reducible assumption)) | (simp [*]; done) | (simp only [ne_nil_empty]; done) | (rw [ne_nil_empty]; rfl), by repeat (first | exact Drawn0.refl _ | apply Drawn0.step)⟩

/-! ### boltingref05_bad: function 86 -/
def boltingref05_bad.f (a0 : Int) (a1 : Bool) : Option (Bool) := (boltingref02_Space.f a0).bind fun t203 => (if t203 = true then (some true) else (if a0 ≥ 65 then (if a0 ≤ 90 then (some true) else (if a0 = 0 then (some true) else (if a0 = 47 then (some true) else (if a0 = 62 then (some true) else (if a1 = true then (if a0 = 34 then (some true) else (if a0 = 39 then (some true) else (if a0 = 60 then (some true) else (some (a0 == 61))))) else (some false)))))) else (if a0 = 0 then (some true) else (if a0 = 47 then (some true) else (if a0 = 62 then (some true) else (if a1 = true then (if a0 = 34 then (some true) else (if a0 = 39 then (some true) else (if a0 = 60 then (some true) else (some (a0 == 61))))) else (some false)))))))
set_option maxHeartbeats 8000000 in
set_option maxRecDepth 100000 in
theorem boltingref05_bad.calls (a0 : Int) (a1 : Bool) (r : Bool) (w : World) (h : boltingref05_bad.f a0 a1 = some r) :
  Calls Try.prog 86 #[.int .u8 a0, .bool a1] w fun e w' => e = .returned (.bool r) ∧ Drawn0 w w' := by
 have H : ((boltingref02_Space.f a0).bind fun t203 => (if t203 = true then (some true) else (if a0 ≥ 65 then (if a0 ≤ 90 then (some true) else (if a0 = 0 then (some true) else (if a0 = 47 then (some true) else (if a0 = 62 then (some true) else (if a1 = true then (if a0 = 34 then (some true) else (if a0 = 39 then (some true) else (if a0 = 60 then (some true) else (some (a0 == 61))))) else (some false)))))) else (if a0 = 0 then (some true) else (if a0 = 47 then (some true) else (if a0 = 62 then (some true) else (if a1 = true then (if a0 = 34 then (some true) else (if a0 = 39 then (some true) else (if a0 = 60 then (some true) else (some (a0 == 61))))) else (some false)))))))) = some r := h
 clear h
 replace H := Option.bind_eq_some_iff.mp H
 obtain ⟨t203, A30, H⟩ := H
 replace H : (if t203 = true then (some true) else (if a0 ≥ 65 then (if a0 ≤ 90 then (some true) else (if a0 = 0 then (some true) else (if a0 = 47 then (some true) else (if a0 = 62 then (some true) else (if a1 = true then (if a0 = 34 then (some true) else (if a0 = 39 then (some true) else (if a0 = 60 then (some true) else (some (a0 == 61))))) else (some false)))))) else (if a0 = 0 then (some true) else (if a0 = 47 then (some true) else (if a0 = 62 then (some true) else (if a1 = true then (if a0 = 34 then (some true) else (if a0 = 39 then (some true) else (if a0 = 60 then (some true) else (some (a0 == 61))))) else (some false))))))) = some r := H
 have A3 := Aside0.mk A30
 clear A30
 by_cases c4 : t203 = true
 ·subst c4
  have H1 : (some true) = some r := by rw [if_pos rfl] at H; exact H
  clear H
  have H := H1
  clear H1
  obtain rfl := Option.some.inj H
  go_enter Try.func86, Try.ntmps86
  go_wp2_with (first | ((with_reducible refine gate_callee (f := 93) rfl ?_); refine goesL_ (some 6) rfl rfl Try.func93 (by kernel_rfl) rfl #[.int .u8 a0] rfl (by (try simp only [List.map_toArray, List.map_cons, List.map_nil]); first | done | rfl | (simp only [List.length_drop, List.length_take]; rfl)) ?_; (with_reducible refine (boltingref02_Space.calls a0 true _ A3.out).mono ?_); rintro e w' ⟨rfl, ⟨nd, rfl⟩⟩; refine ⟨_, rfl, ?_⟩))
  go_ret
  exact ⟨by first | rfl | (simp; done) | (congr 1; first | (with_reducible assumption) | (symm; with_reducible assumption)) | (simp [*]; done) | (simp only [ne_nil_empty]; done) | (rw [ne_nil_empty]; rfl), by repeat (first | exact Drawn0.refl _ | apply Drawn0.step)⟩
 ·replace c4 := Bool.eq_false_iff.mpr c4
  subst c4
  have H1 : (if a0 ≥ 65 then (if a0 ≤ 90 then (some true) else (if a0 = 0 then (some true) else (if a0 = 47 then (some true) else (if a0 = 62 then (some true) else (if a1 = true then (if a0 = 34 then (some true) else (if a0 = 39 then (some true) else (if a0 = 60 then (some true) else (some (a0 == 61))))) else (some false)))))) else (if a0 = 0 then (some true) else (if a0 = 47 then (some true) else (if a0 = 62 then (some true) else (if a1 = true then (if a0 = 34 then (some true) else (if a0 = 39 then (some true) else (if a0 = 60 then (some true) else (some (a0 == 61))))) else (some false)))))) = some r := by rw [if_neg (show ¬ (false = true) by decide)] at H; exact H
  clear H
  have H := H1
  clear H1
  by_cases c5 : a0 ≥ 65
  ·rw [if_pos c5] at H
   have c5b0 : decide (65 ≤ a0) = true := decide_eq_true c5
   clear c5
   by_cases c6 : a0 ≤ 90
   ·rw [if_pos c6] at H
    have c6b0 : decide (a0 ≤ 90) = true := decide_eq_true c6
    clear c6
    obtain rfl := Option.some.inj H
    go_enter Try.func86, Try.ntmps86
    go_wp2_with (first | ((with_reducible refine gate_callee (f := 93) rfl ?_); refine goesL_ (some 6) rfl rfl Try.func93 (by kernel_rfl) rfl #[.int .u8 a0] rfl (by (try simp only [List.map_toArray, List.map_cons, List.map_nil]); first | done | rfl | (simp only [List.length_drop, List.length_take]; rfl)) ?_; (with_reducible refine (boltingref02_Space.calls a0 false _ A3.out).mono ?_); rintro e w' ⟨rfl, ⟨nd, rfl⟩⟩; refine ⟨_, rfl, ?_⟩))
    go_ret
    exact ⟨by first | rfl | (simp; done) | (congr 1; first | (with_reducible assumption) | (symm; with_reducible assumption)) | (simp [*]; done) | (simp only [ne_nil_empty]; done) | (rw [ne_nil_empty]; rfl), by repeat (first | exact Drawn0.refl _ | apply Drawn0.step)⟩
   ·rw [if_neg c6] at H
    have c6b0 : decide (a0 ≤ 90) = false := decide_eq_false c6
    clear c6
    by_cases c7 : a0 = 0
    ·rw [if_pos c7] at H
     have c7b0 : (a0 == 0) = true := beq_iff_eq.mpr c7
     have c7b1 : (a0 != 0) = false := bne_eq_false_iff_eq.mpr c7
     clear c7
     obtain rfl := Option.some.inj H
     go_enter Try.func86, Try.ntmps86
     go_wp2_with (first | ((with_reducible refine gate_callee (f := 93) rfl ?_); refine goesL_ (some 6) rfl rfl Try.func93 (by kernel_rfl) rfl #[.int .u8 a0] rfl (by (try simp only [List.map_toArray, List.map_cons, List.map_nil]); first | done | rfl | (simp only [List.length_drop, List.length_take]; rfl)) ?_; (with_reducible refine (boltingref02_Space.calls a0 false _ A3.out).mono ?_); rintro e w' ⟨rfl, ⟨nd, rfl⟩⟩; refine ⟨_, rfl, ?_⟩))
     go_ret
     exact ⟨by first | rfl | (simp; done) | (congr 1; first | (with_reducible assumption) | (symm; with_reducible assumption)) | (simp [*]; done) | (simp only [ne_nil_empty]; done) | (rw [ne_nil_empty]; rfl), by repeat (first | exact Drawn0.refl _ | apply Drawn0.step)⟩
    ·rw [if_neg c7] at H
     have c7b0 : (a0 == 0) = false := beq_eq_false_iff_ne.mpr c7
     have c7b1 : (a0 != 0) = true := bne_iff_ne.mpr c7
     by_cases c8 : a0 = 47
     ·rw [if_pos c8] at H
      have c8b0 : (a0 == 47) = true := beq_iff_eq.mpr c8
      have c8b1 : (a0 != 47) = false := bne_eq_false_iff_eq.mpr c8
      clear c8
      obtain rfl := Option.some.inj H
      go_enter Try.func86, Try.ntmps86
      go_wp2_with (first | ((with_reducible refine gate_callee (f := 93) rfl ?_); refine goesL_ (some 6) rfl rfl Try.func93 (by kernel_rfl) rfl #[.int .u8 a0] rfl (by (try simp only [List.map_toArray, List.map_cons, List.map_nil]); first | done | rfl | (simp only [List.length_drop, List.length_take]; rfl)) ?_; (with_reducible refine (boltingref02_Space.calls a0 false _ A3.out).mono ?_); rintro e w' ⟨rfl, ⟨nd, rfl⟩⟩; refine ⟨_, rfl, ?_⟩))
      go_ret
      exact ⟨by first | rfl | (simp; done) | (congr 1; first | (with_reducible assumption) | (symm; with_reducible assumption)) | (simp [*]; done) | (simp only [ne_nil_empty]; done) | (rw [ne_nil_empty]; rfl), by repeat (first | exact Drawn0.refl _ | apply Drawn0.step)⟩
     ·rw [if_neg c8] at H
      have c8b0 : (a0 == 47) = false := beq_eq_false_iff_ne.mpr c8
      have c8b1 : (a0 != 47) = true := bne_iff_ne.mpr c8
      by_cases c9 : a0 = 62
      ·rw [if_pos c9] at H
       have c9b0 : (a0 == 62) = true := beq_iff_eq.mpr c9
       have c9b1 : (a0 != 62) = false := bne_eq_false_iff_eq.mpr c9
       clear c9
       obtain rfl := Option.some.inj H
       go_enter Try.func86, Try.ntmps86
       go_wp2_with (first | ((with_reducible refine gate_callee (f := 93) rfl ?_); refine goesL_ (some 6) rfl rfl Try.func93 (by kernel_rfl) rfl #[.int .u8 a0] rfl (by (try simp only [List.map_toArray, List.map_cons, List.map_nil]); first | done | rfl | (simp only [List.length_drop, List.length_take]; rfl)) ?_; (with_reducible refine (boltingref02_Space.calls a0 false _ A3.out).mono ?_); rintro e w' ⟨rfl, ⟨nd, rfl⟩⟩; refine ⟨_, rfl, ?_⟩))
       go_ret
       exact ⟨by first | rfl | (simp; done) | (congr 1; first | (with_reducible assumption) | (symm; with_reducible assumption)) | (simp [*]; done) | (simp only [ne_nil_empty]; done) | (rw [ne_nil_empty]; rfl), by repeat (first | exact Drawn0.refl _ | apply Drawn0.step)⟩
      ·rw [if_neg c9] at H
       have c9b0 : (a0 == 62) = false := beq_eq_false_iff_ne.mpr c9
       have c9b1 : (a0 != 62) = true := bne_iff_ne.mpr c9
       by_cases c10 : a1 = true
       ·subst c10
        have H1 : (if a0 = 34 then (some true) else (if a0 = 39 then (some true) else (if a0 = 60 then (some true) else (some (a0 == 61))))) = some r := by rw [if_pos rfl] at H; exact H
        clear H
        have H := H1
        clear H1
        by_cases c11 : a0 = 34
        ·rw [if_pos c11] at H
         have c11b0 : (a0 == 34) = true := beq_iff_eq.mpr c11
         have c11b1 : (a0 != 34) = false := bne_eq_false_iff_eq.mpr c11
         clear c11
         obtain rfl := Option.some.inj H
         go_enter Try.func86, Try.ntmps86
         go_wp2_with (first | ((with_reducible refine gate_callee (f := 93) rfl ?_); refine goesL_ (some 6) rfl rfl Try.func93 (by kernel_rfl) rfl #[.int .u8 a0] rfl (by (try simp only [List.map_toArray, List.map_cons, List.map_nil]); first | done | rfl | (simp only [List.length_drop, List.length_take]; rfl)) ?_; (with_reducible refine (boltingref02_Space.calls a0 false _ A3.out).mono ?_); rintro e w' ⟨rfl, ⟨nd, rfl⟩⟩; refine ⟨_, rfl, ?_⟩))
         go_ret
         exact ⟨by first | rfl | (simp; done) | (congr 1; first | (with_reducible assumption) | (symm; with_reducible assumption)) | (simp [*]; done) | (simp only [ne_nil_empty]; done) | (rw [ne_nil_empty]; rfl), by repeat (first | exact Drawn0.refl _ | apply Drawn0.step)⟩
        ·rw [if_neg c11] at H
         have c11b0 : (a0 == 34) = false := beq_eq_false_iff_ne.mpr c11
         have c11b1 : (a0 != 34) = true := bne_iff_ne.mpr c11
         by_cases c12 : a0 = 39
         ·rw [if_pos c12] at H
          have c12b0 : (a0 == 39) = true := beq_iff_eq.mpr c12
          have c12b1 : (a0 != 39) = false := bne_eq_false_iff_eq.mpr c12
          clear c12
          obtain rfl := Option.some.inj H
          go_enter Try.func86, Try.ntmps86
          go_wp2_with (first | ((with_reducible refine gate_callee (f := 93) rfl ?_); refine goesL_ (some 6) rfl rfl Try.func93 (by kernel_rfl) rfl #[.int .u8 a0] rfl (by (try simp only [List.map_toArray, List.map_cons, List.map_nil]); first | done | rfl | (simp only [List.length_drop, List.length_take]; rfl)) ?_; (with_reducible refine (boltingref02_Space.calls a0 false _ A3.out).mono ?_); rintro e w' ⟨rfl, ⟨nd, rfl⟩⟩; refine ⟨_, rfl, ?_⟩))
          go_ret
          exact ⟨by first | rfl | (simp; done) | (congr 1; first | (with_reducible assumption) | (symm; with_reducible assumption)) | (simp [*]; done) | (simp only [ne_nil_empty]; done) | (rw [ne_nil_empty]; rfl), by repeat (first | exact Drawn0.refl _ | apply Drawn0.step)⟩
         ·rw [if_neg c12] at H
          have c12b0 : (a0 == 39) = false := beq_eq_false_iff_ne.mpr c12
          have c12b1 : (a0 != 39) = true := bne_iff_ne.mpr c12
          by_cases c13 : a0 = 60
          ·rw [if_pos c13] at H
           have c13b0 : (a0 == 60) = true := beq_iff_eq.mpr c13
           have c13b1 : (a0 != 60) = false := bne_eq_false_iff_eq.mpr c13
           clear c13
           obtain rfl := Option.some.inj H
           go_enter Try.func86, Try.ntmps86
           go_wp2_with (first | ((with_reducible refine gate_callee (f := 93) rfl ?_); refine goesL_ (some 6) rfl rfl Try.func93 (by kernel_rfl) rfl #[.int .u8 a0] rfl (by (try simp only [List.map_toArray, List.map_cons, List.map_nil]); first | done | rfl | (simp only [List.length_drop, List.length_take]; rfl)) ?_; (with_reducible refine (boltingref02_Space.calls a0 false _ A3.out).mono ?_); rintro e w' ⟨rfl, ⟨nd, rfl⟩⟩; refine ⟨_, rfl, ?_⟩))
           go_ret
           exact ⟨by first | rfl | (simp; done) | (congr 1; first | (with_reducible assumption) | (symm; with_reducible assumption)) | (simp [*]; done) | (simp only [ne_nil_empty]; done) | (rw [ne_nil_empty]; rfl), by repeat (first | exact Drawn0.refl _ | apply Drawn0.step)⟩
          ·rw [if_neg c13] at H
           have c13b0 : (a0 == 60) = false := beq_eq_false_iff_ne.mpr c13
           have c13b1 : (a0 != 60) = true := bne_iff_ne.mpr c13
           obtain rfl := Option.some.inj H
           go_enter Try.func86, Try.ntmps86
           go_wp2_with (first | ((with_reducible refine gate_callee (f := 93) rfl ?_); refine goesL_ (some 6) rfl rfl Try.func93 (by kernel_rfl) rfl #[.int .u8 a0] rfl (by (try simp only [List.map_toArray, List.map_cons, List.map_nil]); first | done | rfl | (simp only [List.length_drop, List.length_take]; rfl)) ?_; (with_reducible refine (boltingref02_Space.calls a0 false _ A3.out).mono ?_); rintro e w' ⟨rfl, ⟨nd, rfl⟩⟩; refine ⟨_, rfl, ?_⟩))
           go_ret
           exact ⟨by first | rfl | (simp; done) | (congr 1; first | (with_reducible assumption) | (symm; with_reducible assumption)) | (simp [*]; done) | (simp only [ne_nil_empty]; done) | (rw [ne_nil_empty]; rfl), by repeat (first | exact Drawn0.refl _ | apply Drawn0.step)⟩
       ·replace c10 := Bool.eq_false_iff.mpr c10
        subst c10
        have H1 : (some false) = some r := by rw [if_neg (show ¬ (false = true) by decide)] at H; exact H
        clear H
        have H := H1
        clear H1
        obtain rfl := Option.some.inj H
        go_enter Try.func86, Try.ntmps86
        go_wp2_with (first | ((with_reducible refine gate_callee (f := 93) rfl ?_); refine goesL_ (some 6) rfl rfl Try.func93 (by kernel_rfl) rfl #[.int .u8 a0] rfl (by (try simp only [List.map_toArray, List.map_cons, List.map_nil]); first | done | rfl | (simp only [List.length_drop, List.length_take]; rfl)) ?_; (with_reducible refine (boltingref02_Space.calls a0 false _ A3.out).mono ?_); rintro e w' ⟨rfl, ⟨nd, rfl⟩⟩; refine ⟨_, rfl, ?_⟩))
        go_ret
        exact ⟨by first | rfl | (simp; done) | (congr 1; first | (with_reducible assumption) | (symm; with_reducible assumption)) | (simp [*]; done) | (simp only [ne_nil_empty]; done) | (rw [ne_nil_empty]; rfl), by repeat (first | exact Drawn0.refl _ | apply Drawn0.step)⟩
  ·rw [if_neg c5] at H
   have c5b0 : decide (65 ≤ a0) = false := decide_eq_false c5
   clear c5
   by_cases c14 : a0 = 0
   ·rw [if_pos c14] at H
    have c14b0 : (a0 == 0) = true := beq_iff_eq.mpr c14
    have c14b1 : (a0 != 0) = false := bne_eq_false_iff_eq.mpr c14
    clear c14
    obtain rfl := Option.some.inj H
    go_enter Try.func86, Try.ntmps86
    go_wp2_with (first | ((with_reducible refine gate_callee (f := 93) rfl ?_); refine goesL_ (some 6) rfl rfl Try.func93 (by kernel_rfl) rfl #[.int .u8 a0] rfl (by (try simp only [List.map_toArray, List.map_cons, List.map_nil]); first | done | rfl | (simp only [List.length_drop, List.length_take]; rfl)) ?_; (with_reducible refine (boltingref02_Space.calls a0 false _ A3.out).mono ?_); rintro e w' ⟨rfl, ⟨nd, rfl⟩⟩; refine ⟨_, rfl, ?_⟩))
    go_ret
    exact ⟨by first | rfl | (simp; done) | (congr 1; first | (with_reducible assumption) | (symm; with_reducible assumption)) | (simp [*]; done) | (simp only [ne_nil_empty]; done) | (rw [ne_nil_empty]; rfl), by repeat (first | exact Drawn0.refl _ | apply Drawn0.step)⟩
   ·rw [if_neg c14] at H
    have c14b0 : (a0 == 0) = false := beq_eq_false_iff_ne.mpr c14
    have c14b1 : (a0 != 0) = true := bne_iff_ne.mpr c14
    by_cases c15 : a0 = 47
    ·rw [if_pos c15] at H
     have c15b0 : (a0 == 47) = true := beq_iff_eq.mpr c15
     have c15b1 : (a0 != 47) = false := bne_eq_false_iff_eq.mpr c15
     clear c15
     obtain rfl := Option.some.inj H
     go_enter Try.func86, Try.ntmps86
     go_wp2_with (first | ((with_reducible refine gate_callee (f := 93) rfl ?_); refine goesL_ (some 6) rfl rfl Try.func93 (by kernel_rfl) rfl #[.int .u8 a0] rfl (by (try simp only [List.map_toArray, List.map_cons, List.map_nil]); first | done | rfl | (simp only [List.length_drop, List.length_take]; rfl)) ?_; (with_reducible refine (boltingref02_Space.calls a0 false _ A3.out).mono ?_); rintro e w' ⟨rfl, ⟨nd, rfl⟩⟩; refine ⟨_, rfl, ?_⟩))
     go_ret
     exact ⟨by first | rfl | (simp; done) | (congr 1; first | (with_reducible assumption) | (symm; with_reducible assumption)) | (simp [*]; done) | (simp only [ne_nil_empty]; done) | (rw [ne_nil_empty]; rfl), by repeat (first | exact Drawn0.refl _ | apply Drawn0.step)⟩
    ·rw [if_neg c15] at H
     have c15b0 : (a0 == 47) = false := beq_eq_false_iff_ne.mpr c15
     have c15b1 : (a0 != 47) = true := bne_iff_ne.mpr c15
     by_cases c16 : a0 = 62
     ·rw [if_pos c16] at H
      have c16b0 : (a0 == 62) = true := beq_iff_eq.mpr c16
      have c16b1 : (a0 != 62) = false := bne_eq_false_iff_eq.mpr c16
      clear c16
      obtain rfl := Option.some.inj H
      go_enter Try.func86, Try.ntmps86
      go_wp2_with (first | ((with_reducible refine gate_callee (f := 93) rfl ?_); refine goesL_ (some 6) rfl rfl Try.func93 (by kernel_rfl) rfl #[.int .u8 a0] rfl (by (try simp only [List.map_toArray, List.map_cons, List.map_nil]); first | done | rfl | (simp only [List.length_drop, List.length_take]; rfl)) ?_; (with_reducible refine (boltingref02_Space.calls a0 false _ A3.out).mono ?_); rintro e w' ⟨rfl, ⟨nd, rfl⟩⟩; refine ⟨_, rfl, ?_⟩))
      go_ret
      exact ⟨by first | rfl | (simp; done) | (congr 1; first | (with_reducible assumption) | (symm; with_reducible assumption)) | (simp [*]; done) | (simp only [ne_nil_empty]; done) | (rw [ne_nil_empty]; rfl), by repeat (first | exact Drawn0.refl _ | apply Drawn0.step)⟩
     ·rw [if_neg c16] at H
      have c16b0 : (a0 == 62) = false := beq_eq_false_iff_ne.mpr c16
      have c16b1 : (a0 != 62) = true := bne_iff_ne.mpr c16
      by_cases c17 : a1 = true
      ·subst c17
       have H1 : (if a0 = 34 then (some true) else (if a0 = 39 then (some true) else (if a0 = 60 then (some true) else (some (a0 == 61))))) = some r := by rw [if_pos rfl] at H; exact H
       clear H
       have H := H1
       clear H1
       by_cases c18 : a0 = 34
       ·rw [if_pos c18] at H
        have c18b0 : (a0 == 34) = true := beq_iff_eq.mpr c18
        have c18b1 : (a0 != 34) = false := bne_eq_false_iff_eq.mpr c18
        clear c18
        obtain rfl := Option.some.inj H
        go_enter Try.func86, Try.ntmps86
        go_wp2_with (first | ((with_reducible refine gate_callee (f := 93) rfl ?_); refine goesL_ (some 6) rfl rfl Try.func93 (by kernel_rfl) rfl #[.int .u8 a0] rfl (by (try simp only [List.map_toArray, List.map_cons, List.map_nil]); first | done | rfl | (simp only [List.length_drop, List.length_take]; rfl)) ?_; (with_reducible refine (boltingref02_Space.calls a0 false _ A3.out).mono ?_); rintro e w' ⟨rfl, ⟨nd, rfl⟩⟩; refine ⟨_, rfl, ?_⟩))
        go_ret
        exact ⟨by first | rfl | (simp; done) | (congr 1; first | (with_reducible assumption) | (symm; with_reducible assumption)) | (simp [*]; done) | (simp only [ne_nil_empty]; done) | (rw [ne_nil_empty]; rfl), by repeat (first | exact Drawn0.refl _ | apply Drawn0.step)⟩
       ·rw [if_neg c18] at H
        have c18b0 : (a0 == 34) = false := beq_eq_false_iff_ne.mpr c18
        have c18b1 : (a0 != 34) = true := bne_iff_ne.mpr c18
        by_cases c19 : a0 = 39
        ·rw [if_pos c19] at H
         have c19b0 : (a0 == 39) = true := beq_iff_eq.mpr c19
         have c19b1 : (a0 != 39) = false := bne_eq_false_iff_eq.mpr c19
         clear c19
         obtain rfl := Option.some.inj H
         go_enter Try.func86, Try.ntmps86
         go_wp2_with (first | ((with_reducible refine gate_callee (f := 93) rfl ?_); refine goesL_ (some 6) rfl rfl Try.func93 (by kernel_rfl) rfl #[.int .u8 a0] rfl (by (try simp only [List.map_toArray, List.map_cons, List.map_nil]); first | done | rfl | (simp only [List.length_drop, List.length_take]; rfl)) ?_; (with_reducible refine (boltingref02_Space.calls a0 false _ A3.out).mono ?_); rintro e w' ⟨rfl, ⟨nd, rfl⟩⟩; refine ⟨_, rfl, ?_⟩))
         go_ret
         exact ⟨by first | rfl | (simp; done) | (congr 1; first | (with_reducible assumption) | (symm; with_reducible assumption)) | (simp [*]; done) | (simp only [ne_nil_empty]; done) | (rw [ne_nil_empty]; rfl), by repeat (first | exact Drawn0.refl _ | apply Drawn0.step)⟩
        ·rw [if_neg c19] at H
         have c19b0 : (a0 == 39) = false := beq_eq_false_iff_ne.mpr c19
         have c19b1 : (a0 != 39) = true := bne_iff_ne.mpr c19
         by_cases c20 : a0 = 60
         ·rw [if_pos c20] at H
          have c20b0 : (a0 == 60) = true := beq_iff_eq.mpr c20
          have c20b1 : (a0 != 60) = false := bne_eq_false_iff_eq.mpr c20
          clear c20
          obtain rfl := Option.some.inj H
          go_enter Try.func86, Try.ntmps86
          go_wp2_with (first | ((with_reducible refine gate_callee (f := 93) rfl ?_); refine goesL_ (some 6) rfl rfl Try.func93 (by kernel_rfl) rfl #[.int .u8 a0] rfl (by (try simp only [List.map_toArray, List.map_cons, List.map_nil]); first | done | rfl | (simp only [List.length_drop, List.length_take]; rfl)) ?_; (with_reducible refine (boltingref02_Space.calls a0 false _ A3.out).mono ?_); rintro e w' ⟨rfl, ⟨nd, rfl⟩⟩; refine ⟨_, rfl, ?_⟩))
          go_ret
          exact ⟨by first | rfl | (simp; done) | (congr 1; first | (with_reducible assumption) | (symm; with_reducible assumption)) | (simp [*]; done) | (simp only [ne_nil_empty]; done) | (rw [ne_nil_empty]; rfl), by repeat (first | exact Drawn0.refl _ | apply Drawn0.step)⟩
         ·rw [if_neg c20] at H
          have c20b0 : (a0 == 60) = false := beq_eq_false_iff_ne.mpr c20
          have c20b1 : (a0 != 60) = true := bne_iff_ne.mpr c20
          obtain rfl := Option.some.inj H
          go_enter Try.func86, Try.ntmps86
          go_wp2_with (first | ((with_reducible refine gate_callee (f := 93) rfl ?_); refine goesL_ (some 6) rfl rfl Try.func93 (by kernel_rfl) rfl #[.int .u8 a0] rfl (by (try simp only [List.map_toArray, List.map_cons, List.map_nil]); first | done | rfl | (simp only [List.length_drop, List.length_take]; rfl)) ?_; (with_reducible refine (boltingref02_Space.calls a0 false _ A3.out).mono ?_); rintro e w' ⟨rfl, ⟨nd, rfl⟩⟩; refine ⟨_, rfl, ?_⟩))
          go_ret
          exact ⟨by first | rfl | (simp; done) | (congr 1; first | (with_reducible assumption) | (symm; with_reducible assumption)) | (simp [*]; done) | (simp only [ne_nil_empty]; done) | (rw [ne_nil_empty]; rfl), by repeat (first | exact Drawn0.refl _ | apply Drawn0.step)⟩
      ·replace c17 := Bool.eq_false_iff.mpr c17
       subst c17
       have H1 : (some false) = some r := by rw [if_neg (show ¬ (false = true) by decide)] at H; exact H
       clear H
       have H := H1
       clear H1
       obtain rfl := Option.some.inj H
       go_enter Try.func86, Try.ntmps86
       go_wp2_with (first | ((with_reducible refine gate_callee (f := 93) rfl ?_); refine goesL_ (some 6) rfl rfl Try.func93 (by kernel_rfl) rfl #[.int .u8 a0] rfl (by (try simp only [List.map_toArray, List.map_cons, List.map_nil]); first | done | rfl | (simp only [List.length_drop, List.length_take]; rfl)) ?_; (with_reducible refine (boltingref02_Space.calls a0 false _ A3.out).mono ?_); rintro e w' ⟨rfl, ⟨nd, rfl⟩⟩; refine ⟨_, rfl, ?_⟩))
       go_ret
       exact ⟨by first | rfl | (simp; done) | (congr 1; first | (with_reducible assumption) | (symm; with_reducible assumption)) | (simp [*]; done) | (simp only [ne_nil_empty]; done) | (rw [ne_nil_empty]; rfl), by repeat (first | exact Drawn0.refl _ | apply Drawn0.step)⟩

end Go.Proofs.Ytpkaliaaffgbdaa.QA
