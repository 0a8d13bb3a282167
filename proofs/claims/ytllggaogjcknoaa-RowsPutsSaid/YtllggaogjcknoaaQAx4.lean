-- Written by a program of this claim's own (wip/gen/gen.py), out of the translation; an ordinary proof text.
import Derived.Test.YtllggaogjcknoaaQAx0
import Derived.Test.YtllggaogjcknoaaQAx1
import Derived.Test.YtllggaogjcknoaaQAx2
import Derived.Test.YtllggaogjcknoaaQAx3
namespace Go.Proofs.Ytllggaogjcknoaa.QA
open Go.RowKit Go.Proofs.YtllggaogjcknoaaW.PrintWords Go.Proofs.YtllggaogjcknoaaW.PrintLast Go.Proofs.YtllggaogjcknoaaW.PrintMore
attribute [local go_sem] max2_int min2_int max_two min_two max_three min_three max_four min_four   -- for this text's walks alone
set_option linter.unusedVariables false
set_option linter.unusedSimpArgs false

attribute [local go_sem high] eqA46
/-! ### rows_right: function 37 -/
mutual
def rows_right.l0 : Nat → Int → List (S43) → Int → Int → Option (Bool)
 | 0, _, _, _, _ => none
 | k + 1, x3, x6, x7, x8 => if x8 < x7 then (if 0 ≤ x8 then (if x8 < (x6.length : Int) then (if ((rd_T43 x6 x8).f0) < 0 then (rows_right.j1 k x6 x7 x8 true ((rd_T43 x6 x8).f0) ((rd_T43 x6 x8).f1) ((rd_T43 x6 x8).f2) ((rd_T43 x6 x8).f3) ((rd_T43 x6 x8).f4)) else (if ((rd_T43 x6 x8).f0) > x3 then (rows_right.j1 k x6 x7 x8 true ((rd_T43 x6 x8).f0) ((rd_T43 x6 x8).f1) ((rd_T43 x6 x8).f2) ((rd_T43 x6 x8).f3) ((rd_T43 x6 x8).f4)) else ((rows_row.f k ((rd_T43 x6 x8).f0) ((rd_T43 x6 x8).f1) ((rd_T43 x6 x8).f2) ((rd_T43 x6 x8).f3) ((rd_T43 x6 x8).f4)).bind fun t127 => (rows_right.j1 k x6 x7 x8 (!t127) ((rd_T43 x6 x8).f0) ((rd_T43 x6 x8).f1) ((rd_T43 x6 x8).f2) ((rd_T43 x6 x8).f3) ((rd_T43 x6 x8).f4))))) else (none)) else (none)) else (some true)
def rows_right.j1 : Nat → List (S43) → Int → Int → Bool → Int → Int → ByteArray → ByteArray → List (S46) → Option (Bool)
 | 0, _, _, _, _, _, _, _, _, _ => none
 | k + 1, x6, x7, x8, x25, x127000, x127001, x127002, x127003, x127004 => if x25 = true then (some false) else (if x127001 = 0 then (rows_right.l0 k (wrap64 (x127000 + 1)) x6 x7 (wrap64 (x8 + 1))) else (rows_right.l0 k x127000 x6 x7 (wrap64 (x8 + 1))))
end
def rows_right.f (k : Nat) (l0 : List (S43)) : Option (Bool) := rows_right.l0 k 0 l0 (l0.length : Int) 0
theorem rows_right.mono_l : ∀ k, (∀ y0 y1 y2 y3, LeO (rows_right.l0 k y0 y1 y2 y3) (rows_right.l0 (k + 1) y0 y1 y2 y3)) ∧ (∀ y0 y1 y2 y3 y4 y5 y6 y7 y8, LeO (rows_right.j1 k y0 y1 y2 y3 y4 y5 y6 y7 y8) (rows_right.j1 (k + 1) y0 y1 y2 y3 y4 y5 y6 y7 y8))
 | 0 => ⟨fun _ _ _ _ r h => by simp [rows_right.l0] at h, fun _ _ _ _ _ _ _ _ _ r h => by simp [rows_right.j1] at h⟩
 | k + 1 => by
  obtain ⟨ih0, ih1⟩ := rows_right.mono_l k
  refine ⟨?_, ?_⟩
  ·intro y0 y1 y2 y3
   unfold rows_right.l0
   repeat' first
   | (with_reducible exact ih0 _ _ _ _)
   | (with_reducible exact ih1 _ _ _ _ _ _ _ _ _)
   | (with_reducible exact rows_row.mono _ _ _ _ _ _)
   | (with_reducible exact LeO.refl _)
   | (with_reducible exact LeO.none _)
   | (with_reducible refine LeO.ite ?_ ?_)
   | (with_reducible refine LeO.bind ?_ (fun _ => ?_))
   | exact ih0 _ _ _ _
   | exact ih1 _ _ _ _ _ _ _ _ _
   | exact rows_row.mono _ _ _ _ _ _
   | exact LeO.none _
   | refine LeO.ite ?_ ?_
   | refine LeO.bind ?_ (fun _ => ?_)
  ·intro y0 y1 y2 y3 y4 y5 y6 y7 y8
   unfold rows_right.j1
   repeat' first
   | (with_reducible exact ih0 _ _ _ _)
   | (with_reducible exact ih1 _ _ _ _ _ _ _ _ _)
   | (with_reducible exact rows_row.mono _ _ _ _ _ _)
   | (with_reducible exact LeO.refl _)
   | (with_reducible exact LeO.none _)
   | (with_reducible refine LeO.ite ?_ ?_)
   | (with_reducible refine LeO.bind ?_ (fun _ => ?_))
   | exact ih0 _ _ _ _
   | exact ih1 _ _ _ _ _ _ _ _ _
   | exact rows_row.mono _ _ _ _ _ _
   | exact LeO.none _
   | refine LeO.ite ?_ ?_
   | refine LeO.bind ?_ (fun _ => ?_)
theorem rows_right.mono : ∀ a0 k, LeO (rows_right.f k a0) (rows_right.f (k + 1) a0) := by
 intro a0 k
 obtain ⟨ih0, ih1⟩ := rows_right.mono_l k
 unfold rows_right.f
 repeat' first
   | (with_reducible exact ih0 _ _ _ _)
   | (with_reducible exact ih1 _ _ _ _ _ _ _ _ _)
   | (with_reducible exact rows_row.mono _ _ _ _ _ _)
   | (with_reducible exact LeO.refl _)
   | (with_reducible exact LeO.none _)
   | (with_reducible refine LeO.ite ?_ ?_)
   | (with_reducible refine LeO.bind ?_ (fun _ => ?_))
   | exact ih0 _ _ _ _
   | exact ih1 _ _ _ _ _ _ _ _ _
   | exact rows_row.mono _ _ _ _ _ _
   | exact LeO.none _
   | refine LeO.ite ?_ ?_
   | refine LeO.bind ?_ (fun _ => ?_)
set_option maxHeartbeats 8000000 in
set_option maxRecDepth 100000 in
theorem rows_right.calls (k : Nat) (A0 : Option Addr) (c0 : Nat) (l0 : List (S43)) (r : Bool) (w : World) (hr0 : Kd.C k43 w A0 l0.length l0) (hc0 : l0.length ≤ c0) (h : rows_right.f k l0 = some r) :
  Calls Try.prog 37 #[.slice A0 l0.length c0] w fun e w' => e = .returned (.bool r) ∧ Below w.heap.size w w' := by
 have hu43 := Try.underlying43
 have HR0 := Aside0.mk hr0
 have HC0 := Aside0.mk hc0
 clear hr0 hc0
 have HB := Aside0.mk (Below.refl w.heap.size w)
 have H : (rows_right.l0 k 0 l0 (l0.length : Int) 0) = some r := h
 clear h
 have H' := Aside0.mk H
 clear H
 go_enter Try.func37, Try.ntmps37
 go_wp2
 go_loopg [3, 8] k (fun kq v3 v8 w' => ∃ (x3_1 : Int) (x8_1 : Int), v3 = .int .i64 x3_1 ∧ v8 = .int .i64 x8_1 ∧ Aside0 (rows_right.l0 kq x3_1 l0 (l0.length : Int) x8_1 = some r) ∧ Aside0 (kq ≤ k) ∧ Aside0 (Below w.heap.size w w'))
 case atStart => exact ⟨(0), (0), aE, aE, H', ⟨Nat.le_refl _⟩, ⟨aB HB⟩⟩
 case round =>
  clear H'
  obtain ⟨x3_1, x8_1, rfl, rfl, HA, HK1, HB⟩ := hrel
  cases gk with
  | zero => exact absurd HA.out (by simp [rows_right.l0])
  | succ k1 =>
   have H := HA.out
   clear HA
   simp only [rows_right.l0] at H
   by_cases c2 : x8_1 < (l0.length : Int)
   ·rw [if_pos c2] at H
    have c2b0 : decide (x8_1 < (l0.length : Int)) = true := decide_eq_true c2
    clear c2
    by_cases c3 : 0 ≤ x8_1
    ·rw [if_pos c3] at H
     have c3b0 : decide (0 ≤ x8_1) = true := decide_eq_true c3
     clear c3
     by_cases c4 : x8_1 < (l0.length : Int)
     ·rw [if_pos c4] at H
      have c4b0 : decide (x8_1 < (l0.length : Int)) = true := decide_eq_true c4
      clear c4
      have HC5 := Aside0.mk H
      clear H
      have p125 : 0 ≤ (x8_1 : Int) := of_decide_eq_true aA
      have q125 : x8_1 < (l0.length : Int) := of_decide_eq_true aA
      obtain ⟨ad125, A125_4, c125_4, e125, hx125_0, hx125_1, hx125_2, hx125_3, hx125_4, hl125_4, hi125_4⟩ := at_T43 HR0.out x8_1 p125 q125
      cases e125
      replace hx125_0 := (HB.out.cell (World.block_lt_of_cell? w _ hx125_0)).trans hx125_0
      replace hx125_1 := (HB.out.cell (World.block_lt_of_cell? w _ hx125_1)).trans hx125_1
      replace hx125_2 := (HB.out.cell (World.block_lt_of_cell? w _ hx125_2)).trans hx125_2
      replace hx125_3 := (HB.out.cell (World.block_lt_of_cell? w _ hx125_3)).trans hx125_3
      replace hx125_4 := (HB.out.cell (World.block_lt_of_cell? w _ hx125_4)).trans hx125_4
      have HR125_4 := Aside0.mk hi125_4
      have HC125_4 := Aside0.mk hl125_4
      clear hi125_4 hl125_4
      replace p125 := eq_true p125
      replace q125 := eq_true q125
      go_upto_region 5 with (first | ((with_reducible refine gate_dst (N := 5) rfl ?_); refine box_event ?hg (N := 5) ?hd (cs := #[.int .i64 0, .int .i64 0, .string (⟨#[]⟩ : ByteArray), .string (⟨#[]⟩ : ByteArray), .slice none 0 0]) (t := 43) ?hr ?_; (case hd => rfl); (case hg => rfl); (case hr => first | (go_simp; done) | (go_simp; rfl)); intro gb126 hg w6 hbox hb; have n0_ := Aside0.mk (below_step (aB HB) hb); have n1_ := Aside0.mk (hbox); have n2_ := Aside0.mk ((by rw [hg]; exact (below_size (aB HB)) : w.heap.size ≤ gb126)); have n3_ := Aside0.mk ((by rw [hg]; exact (below_size (aB HB)) : w.heap.size ≤ gb126)); clear HB; have HB := n0_; have BK126 := n1_; have GW126 := n2_; have GE126 := n3_; clear n0_ n1_ n2_ n3_; clear hb hbox hg; have hcz7_0 : w6.cell? ⟨gb126, 0, none⟩ = some (.int .i64 0) := (blk_cell BK126.out 0).trans rfl; have hcz7_1 : w6.cell? ⟨gb126, 1, none⟩ = some (.int .i64 0) := (blk_cell BK126.out 1).trans rfl; have hcz7_2 : w6.cell? ⟨gb126, 2, none⟩ = some (.string (⟨#[]⟩ : ByteArray)) := (blk_cell BK126.out 2).trans rfl; have hcz7_3 : w6.cell? ⟨gb126, 3, none⟩ = some (.string (⟨#[]⟩ : ByteArray)) := (blk_cell BK126.out 3).trans rfl; have hcz7_4 : w6.cell? ⟨gb126, 4, none⟩ = some (.slice none 0 0) := (blk_cell BK126.out 4).trans rfl; have hfz7_0 := blk_frozen BK126.out 0; have hfz7_1 := blk_frozen BK126.out 1; have hfz7_2 := blk_frozen BK126.out 2; have hfz7_3 := blk_frozen BK126.out 3; have hfz7_4 := blk_frozen BK126.out 4))
      (try simp only [Act.put, List.setIfInBounds_toArray, List.set_cons_zero, List.set_cons_succ])
      go_cut [25] (fun v25 wc => ∃ (kq : Nat) (x25_4 : Bool), v25 = .bool x25_4 ∧ Aside0 (rows_right.j1 kq l0 (l0.length : Int) x8_1 x25_4 ((rd_T43 l0 x8_1).f0) ((rd_T43 l0 x8_1).f1) ((rd_T43 l0 x8_1).f2) ((rd_T43 l0 x8_1).f3) ((rd_T43 l0 x8_1).f4) = some r) ∧ Aside0 (kq ≤ k1) ∧ Aside0 (wc.heap[gb126]? = some (.cells #[.int .i64 ((rd_T43 l0 x8_1).f0), .int .i64 ((rd_T43 l0 x8_1).f1), .string ((rd_T43 l0 x8_1).f2), .string ((rd_T43 l0 x8_1).f3), (.slice A125_4 ((rd_T43 l0 x8_1).f4).length c125_4)] 43 (0, 0))) ∧ Aside0 (Below w.heap.size w wc))
      case first =>
       have H := HC5.out
       clear HC5
       by_cases c8 : ((rd_T43 l0 x8_1).f0) < 0
       ·rw [if_pos c8] at H
        have c8b0 : decide (((rd_T43 l0 x8_1).f0) < 0) = true := decide_eq_true c8
        clear c8
        (first | rw [c8b0] | (simp only [i64_w, i32_w]; rw [c8b0]) | skip)
        have H' := Aside0.mk H
        clear H
        have hcz9_0 : w6.cell? ⟨gb126, 0, none⟩ = some (.int .i64 0) := (blk_cell BK126.out 0).trans rfl
        have hcz9_1 : w6.cell? ⟨gb126, 1, none⟩ = some (.int .i64 0) := (blk_cell BK126.out 1).trans rfl
        have hcz9_2 : w6.cell? ⟨gb126, 2, none⟩ = some (.string (⟨#[]⟩ : ByteArray)) := (blk_cell BK126.out 2).trans rfl
        have hcz9_3 : w6.cell? ⟨gb126, 3, none⟩ = some (.string (⟨#[]⟩ : ByteArray)) := (blk_cell BK126.out 3).trans rfl
        have hcz9_4 : w6.cell? ⟨gb126, 4, none⟩ = some (.slice none 0 0) := (blk_cell BK126.out 4).trans rfl
        have hfz9_0 := blk_frozen BK126.out 0
        have hfz9_1 := blk_frozen BK126.out 1
        have hfz9_2 := blk_frozen BK126.out 2
        have hfz9_3 := blk_frozen BK126.out 3
        have hfz9_4 := blk_frozen BK126.out 4
        go_wp2
        go_meet
        case rel => exact ⟨_, (true), aE, H', ⟨by have := HK1.out; first | omega | exact Nat.le_refl _⟩, ⟨by (with_reducible repeat (first | refine blk_drewN ?_ _ | refine blk_drew ?_ | refine blk_alloc ?_ _)); refine blk_put (cs := #[.int .i64 ((rd_T43 l0 x8_1).f0), .int .i64 ((rd_T43 l0 x8_1).f1), .string ((rd_T43 l0 x8_1).f2), .string ((rd_T43 l0 x8_1).f3), .slice none 0 0]) ?_ 4 _ rfl; (with_reducible repeat (first | refine blk_drewN ?_ _ | refine blk_drew ?_ | refine blk_alloc ?_ _)); refine blk_put (cs := #[.int .i64 ((rd_T43 l0 x8_1).f0), .int .i64 ((rd_T43 l0 x8_1).f1), .string ((rd_T43 l0 x8_1).f2), .string (⟨#[]⟩ : ByteArray), .slice none 0 0]) ?_ 3 _ rfl; (with_reducible repeat (first | refine blk_drewN ?_ _ | refine blk_drew ?_ | refine blk_alloc ?_ _)); refine blk_put (cs := #[.int .i64 ((rd_T43 l0 x8_1).f0), .int .i64 ((rd_T43 l0 x8_1).f1), .string (⟨#[]⟩ : ByteArray), .string (⟨#[]⟩ : ByteArray), .slice none 0 0]) ?_ 2 _ rfl; (with_reducible repeat (first | refine blk_drewN ?_ _ | refine blk_drew ?_ | refine blk_alloc ?_ _)); refine blk_put (cs := #[.int .i64 ((rd_T43 l0 x8_1).f0), .int .i64 0, .string (⟨#[]⟩ : ByteArray), .string (⟨#[]⟩ : ByteArray), .slice none 0 0]) ?_ 1 _ rfl; (with_reducible repeat (first | refine blk_drewN ?_ _ | refine blk_drew ?_ | refine blk_alloc ?_ _)); refine blk_put (cs := #[.int .i64 0, .int .i64 0, .string (⟨#[]⟩ : ByteArray), .string (⟨#[]⟩ : ByteArray), .slice none 0 0]) ?_ 0 _ rfl; (with_reducible repeat (first | refine blk_drewN ?_ _ | refine blk_drew ?_ | refine blk_alloc ?_ _)); exact BK126.out⟩, ⟨by repeat (first | (with_reducible first | exact HB.out | apply below_alloc | apply pw_below_drewN | apply below_drew1 | refine below_set ?_ GE126.out) | exact HB.out)⟩⟩
       ·rw [if_neg c8] at H
        have c8b0 : decide (((rd_T43 l0 x8_1).f0) < 0) = false := decide_eq_false c8
        clear c8
        (first | rw [c8b0] | (simp only [i64_w, i32_w]; rw [c8b0]) | skip)
        by_cases c10 : ((rd_T43 l0 x8_1).f0) > x3_1
        ·rw [if_pos c10] at H
         have c10b0 : decide (x3_1 < ((rd_T43 l0 x8_1).f0)) = true := decide_eq_true c10
         clear c10
         have H' := Aside0.mk H
         clear H
         have hcz11_0 : w6.cell? ⟨gb126, 0, none⟩ = some (.int .i64 0) := (blk_cell BK126.out 0).trans rfl
         have hcz11_1 : w6.cell? ⟨gb126, 1, none⟩ = some (.int .i64 0) := (blk_cell BK126.out 1).trans rfl
         have hcz11_2 : w6.cell? ⟨gb126, 2, none⟩ = some (.string (⟨#[]⟩ : ByteArray)) := (blk_cell BK126.out 2).trans rfl
         have hcz11_3 : w6.cell? ⟨gb126, 3, none⟩ = some (.string (⟨#[]⟩ : ByteArray)) := (blk_cell BK126.out 3).trans rfl
         have hcz11_4 : w6.cell? ⟨gb126, 4, none⟩ = some (.slice none 0 0) := (blk_cell BK126.out 4).trans rfl
         have hfz11_0 := blk_frozen BK126.out 0
         have hfz11_1 := blk_frozen BK126.out 1
         have hfz11_2 := blk_frozen BK126.out 2
         have hfz11_3 := blk_frozen BK126.out 3
         have hfz11_4 := blk_frozen BK126.out 4
         go_wp2
         go_meet
         case rel => exact ⟨_, (true), aE, H', ⟨by have := HK1.out; first | omega | exact Nat.le_refl _⟩, ⟨by (with_reducible repeat (first | refine blk_drewN ?_ _ | refine blk_drew ?_ | refine blk_alloc ?_ _)); refine blk_put (cs := #[.int .i64 ((rd_T43 l0 x8_1).f0), .int .i64 ((rd_T43 l0 x8_1).f1), .string ((rd_T43 l0 x8_1).f2), .string ((rd_T43 l0 x8_1).f3), .slice none 0 0]) ?_ 4 _ rfl; (with_reducible repeat (first | refine blk_drewN ?_ _ | refine blk_drew ?_ | refine blk_alloc ?_ _)); refine blk_put (cs := #[.int .i64 ((rd_T43 l0 x8_1).f0), .int .i64 ((rd_T43 l0 x8_1).f1), .string ((rd_T43 l0 x8_1).f2), .string (⟨#[]⟩ : ByteArray), .slice none 0 0]) ?_ 3 _ rfl; (with_reducible repeat (first | refine blk_drewN ?_ _ | refine blk_drew ?_ | refine blk_alloc ?_ _)); refine blk_put (cs := #[.int .i64 ((rd_T43 l0 x8_1).f0), .int .i64 ((rd_T43 l0 x8_1).f1), .string (⟨#[]⟩ : ByteArray), .string (⟨#[]⟩ : ByteArray), .slice none 0 0]) ?_ 2 _ rfl; (with_reducible repeat (first | refine blk_drewN ?_ _ | refine blk_drew ?_ | refine blk_alloc ?_ _)); refine blk_put (cs := #[.int .i64 ((rd_T43 l0 x8_1).f0), .int .i64 0, .string (⟨#[]⟩ : ByteArray), .string (⟨#[]⟩ : ByteArray), .slice none 0 0]) ?_ 1 _ rfl; (with_reducible repeat (first | refine blk_drewN ?_ _ | refine blk_drew ?_ | refine blk_alloc ?_ _)); refine blk_put (cs := #[.int .i64 0, .int .i64 0, .string (⟨#[]⟩ : ByteArray), .string (⟨#[]⟩ : ByteArray), .slice none 0 0]) ?_ 0 _ rfl; (with_reducible repeat (first | refine blk_drewN ?_ _ | refine blk_drew ?_ | refine blk_alloc ?_ _)); exact BK126.out⟩, ⟨by repeat (first | (with_reducible first | exact HB.out | apply below_alloc | apply pw_below_drewN | apply below_drew1 | refine below_set ?_ GE126.out) | exact HB.out)⟩⟩
        ·rw [if_neg c10] at H
         have c10b0 : decide (x3_1 < ((rd_T43 l0 x8_1).f0)) = false := decide_eq_false c10
         clear c10
         replace H := Option.bind_eq_some_iff.mp H
         obtain ⟨t127, A120, H⟩ := H
         replace H : (rows_right.j1 k1 l0 (l0.length : Int) x8_1 (!t127) ((rd_T43 l0 x8_1).f0) ((rd_T43 l0 x8_1).f1) ((rd_T43 l0 x8_1).f2) ((rd_T43 l0 x8_1).f3) ((rd_T43 l0 x8_1).f4)) = some r := H
         have A12 := Aside0.mk A120
         clear A120
         have H' := Aside0.mk H
         clear H
         have hcz13_0 : w6.cell? ⟨gb126, 0, none⟩ = some (.int .i64 0) := (blk_cell BK126.out 0).trans rfl
         have hcz13_1 : w6.cell? ⟨gb126, 1, none⟩ = some (.int .i64 0) := (blk_cell BK126.out 1).trans rfl
         have hcz13_2 : w6.cell? ⟨gb126, 2, none⟩ = some (.string (⟨#[]⟩ : ByteArray)) := (blk_cell BK126.out 2).trans rfl
         have hcz13_3 : w6.cell? ⟨gb126, 3, none⟩ = some (.string (⟨#[]⟩ : ByteArray)) := (blk_cell BK126.out 3).trans rfl
         have hcz13_4 : w6.cell? ⟨gb126, 4, none⟩ = some (.slice none 0 0) := (blk_cell BK126.out 4).trans rfl
         have hfz13_0 := blk_frozen BK126.out 0
         have hfz13_1 := blk_frozen BK126.out 1
         have hfz13_2 := blk_frozen BK126.out 2
         have hfz13_3 := blk_frozen BK126.out 3
         have hfz13_4 := blk_frozen BK126.out 4
         go_wp2_with (first | (go_at_call 51; (with_reducible refine (rows_row.calls k1 ((rd_T43 l0 x8_1).f0) ((rd_T43 l0 x8_1).f1) ((rd_T43 l0 x8_1).f2) ((rd_T43 l0 x8_1).f3) _ _ ((rd_T43 l0 x8_1).f4) t127 _ ?side1 ?side2 A12.out).mono ?_); (case side1 => exact Kd.C_below HR125_4.out (by repeat (first | (with_reducible first | exact HB.out | apply below_alloc | apply pw_below_drewN | apply below_drew1 | refine below_set ?_ GE126.out) | exact HB.out))); (case side2 => exact HC125_4.out); rintro e w14 ⟨rfl, hb⟩; have n0_ := Aside0.mk (blk_below (g := gb126) (o := .cells #[.int .i64 ((rd_T43 l0 x8_1).f0), .int .i64 ((rd_T43 l0 x8_1).f1), .string ((rd_T43 l0 x8_1).f2), .string ((rd_T43 l0 x8_1).f3), .slice A125_4 ((rd_T43 l0 x8_1).f4).length c125_4] 43 (0, 0)) (by (with_reducible repeat (first | refine blk_drewN ?_ _ | refine blk_drew ?_ | refine blk_alloc ?_ _)); refine blk_put (cs := #[.int .i64 ((rd_T43 l0 x8_1).f0), .int .i64 ((rd_T43 l0 x8_1).f1), .string ((rd_T43 l0 x8_1).f2), .string ((rd_T43 l0 x8_1).f3), .slice none 0 0]) ?_ 4 _ rfl; (with_reducible repeat (first | refine blk_drewN ?_ _ | refine blk_drew ?_ | refine blk_alloc ?_ _)); refine blk_put (cs := #[.int .i64 ((rd_T43 l0 x8_1).f0), .int .i64 ((rd_T43 l0 x8_1).f1), .string ((rd_T43 l0 x8_1).f2), .string (⟨#[]⟩ : ByteArray), .slice none 0 0]) ?_ 3 _ rfl; (with_reducible repeat (first | refine blk_drewN ?_ _ | refine blk_drew ?_ | refine blk_alloc ?_ _)); refine blk_put (cs := #[.int .i64 ((rd_T43 l0 x8_1).f0), .int .i64 ((rd_T43 l0 x8_1).f1), .string (⟨#[]⟩ : ByteArray), .string (⟨#[]⟩ : ByteArray), .slice none 0 0]) ?_ 2 _ rfl; (with_reducible repeat (first | refine blk_drewN ?_ _ | refine blk_drew ?_ | refine blk_alloc ?_ _)); refine blk_put (cs := #[.int .i64 ((rd_T43 l0 x8_1).f0), .int .i64 0, .string (⟨#[]⟩ : ByteArray), .string (⟨#[]⟩ : ByteArray), .slice none 0 0]) ?_ 1 _ rfl; (with_reducible repeat (first | refine blk_drewN ?_ _ | refine blk_drew ?_ | refine blk_alloc ?_ _)); refine blk_put (cs := #[.int .i64 0, .int .i64 0, .string (⟨#[]⟩ : ByteArray), .string (⟨#[]⟩ : ByteArray), .slice none 0 0]) ?_ 0 _ rfl; (with_reducible repeat (first | refine blk_drewN ?_ _ | refine blk_drew ?_ | refine blk_alloc ?_ _)); exact BK126.out) hb); have n1_ := Aside0.mk (below_step (by repeat (first | (with_reducible first | exact HB.out | apply below_alloc | apply pw_below_drewN | apply below_drew1 | refine below_set ?_ GE126.out) | exact HB.out)) hb); clear BK126; clear HB; have BK126 := n0_; have HB := n1_; clear n0_ n1_; (try clear hb); (try clear hb2); (try clear hk); (try clear hi)))
         go_meet
         case rel => exact ⟨_, (!t127), aE, H', ⟨by have := HK1.out; first | omega | exact Nat.le_refl _⟩, ⟨aK BK126⟩, ⟨by repeat (first | (with_reducible first | exact HB.out | apply below_alloc | apply pw_below_drewN | apply below_drew1 | refine below_set ?_ GE126.out) | exact HB.out)⟩⟩
      case rest =>
       clear HC5
       try clear c1
       try clear p1
       try clear q1
       try clear hx1
       try clear c2
       try clear c2b0
       try clear p2
       try clear c3
       try clear c3b0
       try clear c4
       try clear c4b0
       try clear c8
       try clear c8b0
       try clear c10
       try clear c10b0
       try clear c12
       try clear p12
       try clear q12
       try clear hx12
       try clear hcz11_0
       try clear hcz11_1
       try clear hcz11_2
       try clear hcz11_3
       try clear hcz11_4
       try clear hcz13_0
       try clear hcz13_1
       try clear hcz13_2
       try clear hcz13_3
       try clear hcz13_4
       try clear hcz7_0
       try clear hcz7_1
       try clear hcz7_2
       try clear hcz7_3
       try clear hcz7_4
       try clear hcz9_0
       try clear hcz9_1
       try clear hcz9_2
       try clear hcz9_3
       try clear hcz9_4
       try clear hfz11_0
       try clear hfz11_1
       try clear hfz11_2
       try clear hfz11_3
       try clear hfz11_4
       try clear hfz13_0
       try clear hfz13_1
       try clear hfz13_2
       try clear hfz13_3
       try clear hfz13_4
       try clear hfz7_0
       try clear hfz7_1
       try clear hfz7_2
       try clear hfz7_3
       try clear hfz7_4
       try clear hfz9_0
       try clear hfz9_1
       try clear hfz9_2
       try clear hfz9_3
       try clear hfz9_4
       try clear hx125_0
       try clear hx125_1
       try clear hx125_2
       try clear hx125_3
       try clear hx125_4
       try clear p125
       try clear q125
       obtain ⟨kq, x25_4, rfl, HA, HJ4, BK126, HB⟩ := hcut
       cases kq with
       | zero => exact absurd HA.out (by simp [rows_right.j1])
       | succ kj4 =>
        have H := HA.out
        clear HA
        simp only [rows_right.j1] at H
        by_cases c15 : x25_4 = true
        ·subst c15
         have H1 : (some false) = some r := by rw [if_pos rfl] at H; exact H
         clear H
         have H := H1
         clear H1
         obtain rfl := Option.some.inj H
         go_wp2
         go_ret
         exact ⟨by first | rfl | (simp [errW_none, errW_some] <;> rfl) | (simp [*, errW_none, errW_some] <;> rfl), by repeat (first | (with_reducible first | exact HB.out | apply below_alloc | apply pw_below_drewN | apply below_drew1 | refine below_set ?_ GE126.out) | exact HB.out)⟩
        ·replace c15 := Bool.eq_false_iff.mpr c15
         subst c15
         have H1 : (if ((rd_T43 l0 x8_1).f1) = 0 then (rows_right.l0 kj4 (wrap64 (((rd_T43 l0 x8_1).f0) + 1)) l0 (l0.length : Int) (wrap64 (x8_1 + 1))) else (rows_right.l0 kj4 ((rd_T43 l0 x8_1).f0) l0 (l0.length : Int) (wrap64 (x8_1 + 1)))) = some r := by rw [if_neg (show ¬ (false = true) by decide)] at H; exact H
         clear H
         have H := H1
         clear H1
         by_cases c16 : ((rd_T43 l0 x8_1).f1) = 0
         ·rw [if_pos c16] at H
          have c16b0 : (((rd_T43 l0 x8_1).f1) == 0) = true := beq_iff_eq.mpr c16
          have c16b1 : (((rd_T43 l0 x8_1).f1) != 0) = false := bne_eq_false_iff_eq.mpr c16
          clear c16
          have H' := Aside0.mk H
          clear H
          have hcz17_0 : wc.cell? ⟨gb126, 0, none⟩ = some (.int .i64 ((rd_T43 l0 x8_1).f0)) := (blk_cell BK126.out 0).trans rfl
          have hcz17_1 : wc.cell? ⟨gb126, 1, none⟩ = some (.int .i64 ((rd_T43 l0 x8_1).f1)) := (blk_cell BK126.out 1).trans rfl
          have hcz17_2 : wc.cell? ⟨gb126, 2, none⟩ = some (.string ((rd_T43 l0 x8_1).f2)) := (blk_cell BK126.out 2).trans rfl
          have hcz17_3 : wc.cell? ⟨gb126, 3, none⟩ = some (.string ((rd_T43 l0 x8_1).f3)) := (blk_cell BK126.out 3).trans rfl
          have hcz17_4 : wc.cell? ⟨gb126, 4, none⟩ = some (.slice A125_4 ((rd_T43 l0 x8_1).f4).length c125_4) := (blk_cell BK126.out 4).trans rfl
          have hfz17_0 := blk_frozen BK126.out 0
          have hfz17_1 := blk_frozen BK126.out 1
          have hfz17_2 := blk_frozen BK126.out 2
          have hfz17_3 := blk_frozen BK126.out 3
          have hfz17_4 := blk_frozen BK126.out 4
          go_wp2
          go_roundg kj4
          case measure => have := HK1.out; have := HJ4.out; omega
          case rel => exact ⟨(wrap64 (((rd_T43 l0 x8_1).f0) + 1)), (wrap64 (x8_1 + 1)), aE, aE, H', ⟨by have := HK1.out; have := HJ4.out; omega⟩, ⟨by repeat (first | (with_reducible first | exact HB.out | apply below_alloc | apply pw_below_drewN | apply below_drew1 | refine below_set ?_ GE126.out) | exact HB.out)⟩⟩
         ·rw [if_neg c16] at H
          have c16b0 : (((rd_T43 l0 x8_1).f1) == 0) = false := beq_eq_false_iff_ne.mpr c16
          have c16b1 : (((rd_T43 l0 x8_1).f1) != 0) = true := bne_iff_ne.mpr c16
          have H' := Aside0.mk H
          clear H
          have hcz18_0 : wc.cell? ⟨gb126, 0, none⟩ = some (.int .i64 ((rd_T43 l0 x8_1).f0)) := (blk_cell BK126.out 0).trans rfl
          have hcz18_1 : wc.cell? ⟨gb126, 1, none⟩ = some (.int .i64 ((rd_T43 l0 x8_1).f1)) := (blk_cell BK126.out 1).trans rfl
          have hcz18_2 : wc.cell? ⟨gb126, 2, none⟩ = some (.string ((rd_T43 l0 x8_1).f2)) := (blk_cell BK126.out 2).trans rfl
          have hcz18_3 : wc.cell? ⟨gb126, 3, none⟩ = some (.string ((rd_T43 l0 x8_1).f3)) := (blk_cell BK126.out 3).trans rfl
          have hcz18_4 : wc.cell? ⟨gb126, 4, none⟩ = some (.slice A125_4 ((rd_T43 l0 x8_1).f4).length c125_4) := (blk_cell BK126.out 4).trans rfl
          have hfz18_0 := blk_frozen BK126.out 0
          have hfz18_1 := blk_frozen BK126.out 1
          have hfz18_2 := blk_frozen BK126.out 2
          have hfz18_3 := blk_frozen BK126.out 3
          have hfz18_4 := blk_frozen BK126.out 4
          go_wp2
          go_roundg kj4
          case measure => have := HK1.out; have := HJ4.out; omega
          case rel => exact ⟨(((rd_T43 l0 x8_1).f0)), (wrap64 (x8_1 + 1)), aE, aE, H', ⟨by have := HK1.out; have := HJ4.out; omega⟩, ⟨by repeat (first | (with_reducible first | exact HB.out | apply below_alloc | apply pw_below_drewN | apply below_drew1 | refine below_set ?_ GE126.out) | exact HB.out)⟩⟩
     ·rw [if_neg c4] at H
      exact absurd H (by simp)
    ·rw [if_neg c3] at H
     exact absurd H (by simp)
   ·rw [if_neg c2] at H
    have c2b0 : decide (x8_1 < (l0.length : Int)) = false := decide_eq_false c2
    clear c2
    obtain rfl := Option.some.inj H
    go_wp2
    go_ret
    exact ⟨by first | rfl | (simp [errW_none, errW_some] <;> rfl) | (simp [*, errW_none, errW_some] <;> rfl), aB HB⟩

/-! ### rows_Check: function 13 -/
def rows_Check.f (k : Nat) (l0 : List (S43)) : Option (Int) := (rows_big.f l0).bind fun t128 => (if t128 = true then (some 2) else ((rows_right.f k l0).bind fun t129 => (if t129 = true then (some 0) else (some 40))))
theorem rows_Check.mono : ∀ a0 k, LeO (rows_Check.f k a0) (rows_Check.f (k + 1) a0) := by
 intro a0 k
 unfold rows_Check.f
 repeat' first
   | (with_reducible exact rows_right.mono _ _)
   | (with_reducible exact LeO.refl _)
   | (with_reducible exact LeO.none _)
   | (with_reducible refine LeO.ite ?_ ?_)
   | (with_reducible refine LeO.bind ?_ (fun _ => ?_))
   | exact rows_right.mono _ _
   | exact LeO.none _
   | refine LeO.ite ?_ ?_
   | refine LeO.bind ?_ (fun _ => ?_)
set_option maxHeartbeats 8000000 in
set_option maxRecDepth 100000 in
theorem rows_Check.calls (k : Nat) (A0 : Option Addr) (c0 : Nat) (l0 : List (S43)) (r : Int) (w : World) (hr0 : Kd.C k43 w A0 l0.length l0) (hc0 : l0.length ≤ c0) (h : rows_Check.f k l0 = some r) :
  Calls Try.prog 13 #[.slice A0 l0.length c0] w fun e w' => e = .returned (.int .i64 r) ∧ Below w.heap.size w w' := by
 have HR0 := Aside0.mk hr0
 have HC0 := Aside0.mk hc0
 clear hr0 hc0
 have HB := Aside0.mk (Below.refl w.heap.size w)
 have H : ((rows_big.f l0).bind fun t128 => (if t128 = true then (some 2) else ((rows_right.f k l0).bind fun t129 => (if t129 = true then (some 0) else (some 40))))) = some r := h
 clear h
 replace H := Option.bind_eq_some_iff.mp H
 obtain ⟨t128, A20, H⟩ := H
 replace H : (if t128 = true then (some 2) else ((rows_right.f k l0).bind fun t129 => (if t129 = true then (some 0) else (some 40)))) = some r := H
 have A2 := Aside0.mk A20
 clear A20
 by_cases c3 : t128 = true
 ·subst c3
  have H1 : (some 2) = some r := by rw [if_pos rfl] at H; exact H
  clear H
  have H := H1
  clear H1
  obtain rfl := Option.some.inj H
  go_enter Try.func13, Try.ntmps13
  go_wp2_with (first | ((with_reducible refine gate_callee (f := 36) rfl ?_); refine goesL_ (some 5) rfl rfl Try.func36 (by kernel_rfl) rfl #[.slice A0 l0.length c0] rfl (by (try simp only [List.map_toArray, List.map_cons, List.map_nil]); first | done | rfl | (simp only [List.length_drop, List.length_take]; rfl)) ?_; (with_reducible refine (rows_big.calls _ _ l0 true _ ?side1 ?side2 A2.out).mono ?_); (case side1 => exact aC HR0.out); (case side2 => exact HC0.out); rintro e w4 ⟨rfl, hb⟩; refine ⟨_, rfl, ?_⟩; have n0_ := Aside0.mk (below_step (aB HB) hb); clear HB; have HB := n0_; clear n0_; (try clear hb); (try clear hb2); (try clear hk); (try clear hi)))
  go_ret
  exact ⟨by first | rfl | (simp [errW_none, errW_some] <;> rfl) | (simp [*, errW_none, errW_some] <;> rfl), aB HB⟩
 ·replace c3 := Bool.eq_false_iff.mpr c3
  subst c3
  have H1 : ((rows_right.f k l0).bind fun t129 => (if t129 = true then (some 0) else (some 40))) = some r := by rw [if_neg (show ¬ (false = true) by decide)] at H; exact H
  clear H
  have H := H1
  clear H1
  replace H := Option.bind_eq_some_iff.mp H
  obtain ⟨t129, A50, H⟩ := H
  replace H : (if t129 = true then (some 0) else (some 40)) = some r := H
  have A5 := Aside0.mk A50
  clear A50
  by_cases c6 : t129 = true
  ·subst c6
   have H1 : (some 0) = some r := by rw [if_pos rfl] at H; exact H
   clear H
   have H := H1
   clear H1
   obtain rfl := Option.some.inj H
   go_enter Try.func13, Try.ntmps13
   go_wp2_with (first | ((with_reducible refine gate_callee (f := 36) rfl ?_); refine goesL_ (some 5) rfl rfl Try.func36 (by kernel_rfl) rfl #[.slice A0 l0.length c0] rfl (by (try simp only [List.map_toArray, List.map_cons, List.map_nil]); first | done | rfl | (simp only [List.length_drop, List.length_take]; rfl)) ?_; (with_reducible refine (rows_big.calls _ _ l0 false _ ?side1 ?side2 A2.out).mono ?_); (case side1 => exact aC HR0.out); (case side2 => exact HC0.out); rintro e w7 ⟨rfl, hb⟩; refine ⟨_, rfl, ?_⟩; have n0_ := Aside0.mk (below_step (aB HB) hb); clear HB; have HB := n0_; clear n0_; (try clear hb); (try clear hb2); (try clear hk); (try clear hi)) | ((with_reducible refine gate_callee (f := 37) rfl ?_); refine goesL_ (some 8) rfl rfl Try.func37 (by kernel_rfl) rfl #[.slice A0 l0.length c0] rfl (by (try simp only [List.map_toArray, List.map_cons, List.map_nil]); first | done | rfl | (simp only [List.length_drop, List.length_take]; rfl)) ?_; (with_reducible refine (rows_right.calls k _ _ l0 true _ ?side1 ?side2 A5.out).mono ?_); (case side1 => exact aC (Kd.C_below HR0.out HB.out)); (case side2 => exact HC0.out); rintro e w8 ⟨rfl, hb⟩; refine ⟨_, rfl, ?_⟩; have n0_ := Aside0.mk (below_step (aB HB) hb); clear HB; have HB := n0_; clear n0_; (try clear hb); (try clear hb2); (try clear hk); (try clear hi)))
   go_ret
   exact ⟨by first | rfl | (simp [errW_none, errW_some] <;> rfl) | (simp [*, errW_none, errW_some] <;> rfl), aB HB⟩
  ·replace c6 := Bool.eq_false_iff.mpr c6
   subst c6
   have H1 : (some 40) = some r := by rw [if_neg (show ¬ (false = true) by decide)] at H; exact H
   clear H
   have H := H1
   clear H1
   obtain rfl := Option.some.inj H
   go_enter Try.func13, Try.ntmps13
   go_wp2_with (first | ((with_reducible refine gate_callee (f := 36) rfl ?_); refine goesL_ (some 5) rfl rfl Try.func36 (by kernel_rfl) rfl #[.slice A0 l0.length c0] rfl (by (try simp only [List.map_toArray, List.map_cons, List.map_nil]); first | done | rfl | (simp only [List.length_drop, List.length_take]; rfl)) ?_; (with_reducible refine (rows_big.calls _ _ l0 false _ ?side1 ?side2 A2.out).mono ?_); (case side1 => exact aC HR0.out); (case side2 => exact HC0.out); rintro e w9 ⟨rfl, hb⟩; refine ⟨_, rfl, ?_⟩; have n0_ := Aside0.mk (below_step (aB HB) hb); clear HB; have HB := n0_; clear n0_; (try clear hb); (try clear hb2); (try clear hk); (try clear hi)) | ((with_reducible refine gate_callee (f := 37) rfl ?_); refine goesL_ (some 8) rfl rfl Try.func37 (by kernel_rfl) rfl #[.slice A0 l0.length c0] rfl (by (try simp only [List.map_toArray, List.map_cons, List.map_nil]); first | done | rfl | (simp only [List.length_drop, List.length_take]; rfl)) ?_; (with_reducible refine (rows_right.calls k _ _ l0 false _ ?side1 ?side2 A5.out).mono ?_); (case side1 => exact aC (Kd.C_below HR0.out HB.out)); (case side2 => exact HC0.out); rintro e w10 ⟨rfl, hb⟩; refine ⟨_, rfl, ?_⟩; have n0_ := Aside0.mk (below_step (aB HB) hb); clear HB; have HB := n0_; clear n0_; (try clear hb); (try clear hb2); (try clear hk); (try clear hi)))
   go_ret
   exact ⟨by first | rfl | (simp [errW_none, errW_some] <;> rfl) | (simp [*, errW_none, errW_some] <;> rfl), aB HB⟩

-- NOT PRINTED: function 39 (api_Row_39)

/-! ### rows_Same: function 15 -/
theorem rows_attrs.is_l (l0 l1 : List S46) (hm : l0.length ≤ 9223372036854775807) (n : Nat) (hn0 : n ≤ l0.length) (hn1 : n ≤ l1.length) (hn : n = l0.length ∨ n = l1.length) (d : Nat) : ∀ (k i : Nat), i + d = n → d < k → l0.take i = l1.take i →
  rows_attrs.l0 k l0 l1 (n : Int) (i : Int) = some (decide (l0 = l1)) := by
 induction d with
 | zero =>
  intro k i hi hk ht
  obtain ⟨k, rfl⟩ : ∃ m, k = m + 1 := ⟨k - 1, by omega⟩
  simp only [rows_attrs.l0]
  rw [if_neg (by omega)]
  congr 1
  rw [Bool.eq_iff_iff, beq_iff_eq, decide_eq_true_iff]
  constructor
  ·intro e
   rw [List.take_of_length_le (by omega), List.take_of_length_le (by omega)] at ht
   exact ht
  ·intro e; rw [e]
 | succ d ih =>
  intro k i hi hk ht
  obtain ⟨k, rfl⟩ : ∃ m, k = m + 1 := ⟨k - 1, by omega⟩
  simp only [rows_attrs.l0]
  rw [if_pos (by omega), if_pos (by omega), if_pos (by omega), if_pos (by omega), attr_eq, rd_T46_at l0 i (by omega), rd_T46_at l1 i (by omega), up1 (by omega)]
  by_cases h : l0[i]'(by omega) = l1[i]'(by omega)
  ·rw [decide_eq_true h, if_neg (by decide), ih k (i + 1) (by omega) (by omega) ((take_succ_eq (by omega) (by omega)).2 ⟨ht, h⟩)]
  ·rw [decide_eq_false h, if_pos (by decide)]
   congr 1
   exact (decide_eq_false (fun e => h (by simp [e]))).symm
theorem rows_attrs.is (l0 l1 : List S46) (hm : l0.length ≤ 9223372036854775807) : rows_attrs.f (l0.length + 1) l0 l1 = some (decide (l0 = l1)) := by
 unfold rows_attrs.f
 by_cases h : (l1.length : Int) < (l0.length : Int)
 ·rw [show mn (l0.length : Int) (l1.length : Int) = (l1.length : Int) by unfold mn; rw [if_pos h]]
  exact rows_attrs.is_l l0 l1 hm l1.length (by omega) (by omega) (by omega) l1.length _ 0 (by omega) (by omega) rfl
 ·rw [show mn (l0.length : Int) (l1.length : Int) = (l0.length : Int) by unfold mn; rw [if_neg h]]
  exact rows_attrs.is_l l0 l1 hm l0.length (by omega) (by omega) (by omega) l0.length _ 0 (by omega) (by omega) rfl
theorem rows_attrs.eq_calls (l0 l1 : List S46) (A0 : Option Addr) (c0 : Nat) (A1 : Option Addr) (c1 : Nat) (w : World) (hr0 : Kd.C k46 w A0 l0.length l0) (hc0 : l0.length ≤ c0) (hr1 : Kd.C k46 w A1 l1.length l1) (hc1 : l1.length ≤ c1) :
  Calls Try.prog 41 #[.slice A0 l0.length c0, .slice A1 l1.length c1] w fun e w' => e = .returned (.bool (decide (l0 = l1))) ∧ Below w.heap.size w w' :=
 rows_attrs.calls (l0.length + 1) A0 c0 l0 A1 c1 l1 (decide (l0 = l1)) w hr0 hc0 hr1 hc1 (rows_attrs.is l0 l1 (Kd.C_max hr0))
set_option maxHeartbeats 4000000 in
theorem same1_calls (x y : S43) (A B : Option Addr) (c d : Nat) (w : World) (hx : Kd.C k46 w A x.f4.length x.f4) (hcx : x.f4.length ≤ c) (hy : Kd.C k46 w B y.f4.length y.f4) (hcy : y.f4.length ≤ d) :
  Calls Try.prog 40 #[vrow x A c, vrow y B d] w fun e w' => e = .returned (.bool (decide (x = y))) ∧ Below w.heap.size w w' := by
 have hX := Aside0.mk hx
 have hY := Aside0.mk hy
 have hCX := Aside0.mk hcx
 have hCY := Aside0.mk hcy
 clear hx hy hcx hcy
 by_cases h0 : x.f0 = y.f0
 rotate_left
 ·have hr : Aside0 (decide (x = y) = false) := ⟨decide_eq_false (fun e => h0 (by rw [e]))⟩
  have b0 : (x.f0 == y.f0) = false := beq_eq_false_iff_ne.2 h0
  rw [hr.out]; clear h0 hr
  go_enter Try.func40, Try.ntmps40
  go_wp2
  go_ret
  exact ⟨rfl, by repeat (first | exact Below.refl _ _ | apply below_alloc | apply pw_below_drewN | apply below_drew1)⟩
 have b0 : (x.f0 == y.f0) = true := beq_iff_eq.2 h0
 have H0 := Aside0.mk h0
 clear h0
 by_cases h1 : x.f1 = y.f1
 rotate_left
 ·have hr : Aside0 (decide (x = y) = false) := ⟨decide_eq_false (fun e => h1 (by rw [e]))⟩
  have b1 : (x.f1 == y.f1) = false := beq_eq_false_iff_ne.2 h1
  rw [hr.out]; clear h1 hr
  go_enter Try.func40, Try.ntmps40
  go_wp2
  go_ret
  exact ⟨rfl, by repeat (first | exact Below.refl _ _ | apply below_alloc | apply pw_below_drewN | apply below_drew1)⟩
 have b1 : (x.f1 == y.f1) = true := beq_iff_eq.2 h1
 have H1 := Aside0.mk h1
 clear h1
 by_cases h2 : x.f2 = y.f2
 rotate_left
 ·have hr : Aside0 (decide (x = y) = false) := ⟨decide_eq_false (fun e => h2 (by rw [e]))⟩
  have b2 : (x.f2.toList == y.f2.toList) = false := by rw [bytes_beq]; exact decide_eq_false h2
  rw [hr.out]; clear h2 hr
  go_enter Try.func40, Try.ntmps40
  go_wp2
  go_ret
  exact ⟨rfl, by repeat (first | exact Below.refl _ _ | apply below_alloc | apply pw_below_drewN | apply below_drew1)⟩
 have b2 : (x.f2.toList == y.f2.toList) = true := by rw [bytes_beq]; exact decide_eq_true h2
 have H2 := Aside0.mk h2
 clear h2
 by_cases h3 : x.f3 = y.f3
 rotate_left
 ·have hr : Aside0 (decide (x = y) = false) := ⟨decide_eq_false (fun e => h3 (by rw [e]))⟩
  have b3 : (x.f3.toList == y.f3.toList) = false := by rw [bytes_beq]; exact decide_eq_false h3
  rw [hr.out]; clear h3 hr
  go_enter Try.func40, Try.ntmps40
  go_wp2
  go_ret
  exact ⟨rfl, by repeat (first | exact Below.refl _ _ | apply below_alloc | apply pw_below_drewN | apply below_drew1)⟩
 have b3 : (x.f3.toList == y.f3.toList) = true := by rw [bytes_beq]; exact decide_eq_true h3
 have H3 := Aside0.mk h3
 clear h3
 have hr : Aside0 (decide (x = y) = decide (x.f4 = y.f4)) := ⟨by
  rw [Bool.eq_iff_iff, decide_eq_true_iff, decide_eq_true_iff]
  constructor
  ·intro e; rw [e]
  ·intro e
   have a0 := H0.out; have a1 := H1.out; have a2 := H2.out; have a3 := H3.out
   cases x; cases y; simp_all⟩
 rw [hr.out]
 clear hr H0 H1 H2 H3
 have hcall := fun W (hb : Below w.heap.size w W) => rows_attrs.eq_calls x.f4 y.f4 A c B d W (Kd.C_below hX.out hb) hCX.out (Kd.C_below hY.out hb) hCY.out
 generalize decide (x.f4 = y.f4) = r at hcall ⊢
 go_enter Try.func40, Try.ntmps40
 go_wp2_with (go_at_call 41; refine (hcall _ ?_).mono ?_; exact (by repeat (first | exact Below.refl _ _ | apply below_alloc | apply pw_below_drewN | apply below_drew1)); rintro e w' ⟨rfl, hb'⟩)
 go_ret
 exact ⟨rfl, below_step (by repeat (first | exact Below.refl _ _ | apply below_alloc | apply pw_below_drewN | apply below_drew1)) hb'⟩
set_option maxHeartbeats 4000000 in
set_option maxRecDepth 100000 in
theorem sameFunc_calls (A0 : Option Addr) (c0 : Nat) (l0 : List (S43)) (A1 : Option Addr) (c1 : Nat) (l1 : List (S43)) (w : World) (hr0 : Kd.C k43 w A0 l0.length l0) (hc0 : l0.length ≤ c0) (hr1 : Kd.C k43 w A1 l1.length l1) (hc1 : l1.length ≤ c1) :
  Calls Try.prog 39 #[.slice A0 l0.length c0, .slice A1 l1.length c1, .func (.func 40) #[] #[]] w fun e w' => e = .returned (.bool (decide (l0 = l1))) ∧ Below w.heap.size w w' := by
 have hm := Kd.C_max hr0
 have HR0 := Aside0.mk hr0
 have HC0 := Aside0.mk hc0
 have HR1 := Aside0.mk hr1
 have HC1 := Aside0.mk hc1
 clear hr0 hc0 hr1 hc1
 by_cases hl : l0.length = l1.length
 rotate_left
 ·have hr : Aside0 (decide (l0 = l1) = false) := ⟨decide_eq_false (fun e => hl (by rw [e]))⟩
  have b0 : (l0.length == l1.length) = false := beq_eq_false_iff_ne.2 hl
  have b1 : (l0.length != l1.length) = true := bne_iff_ne.2 hl
  have b2 : ((l0.length : Int) == (l1.length : Int)) = false := beq_eq_false_iff_ne.2 (by omega)
  have b3 : ((l0.length : Int) != (l1.length : Int)) = true := bne_iff_ne.2 (by omega)
  rw [hr.out]
  clear hl hr
  go_enter Try.func39, Try.ntmps39
  go_wp2
  go_ret
  exact ⟨rfl, by repeat (first | exact Below.refl _ _ | apply below_alloc | apply pw_below_drewN | apply below_drew1)⟩
 have b0 : (l0.length == l1.length) = true := beq_iff_eq.2 hl
 have b1 : (l0.length != l1.length) = false := bne_eq_false_iff_eq.2 hl
 have b2 : ((l0.length : Int) == (l1.length : Int)) = true := beq_iff_eq.2 (by omega)
 have b3 : ((l0.length : Int) != (l1.length : Int)) = false := bne_eq_false_iff_eq.2 (by omega)
 have HL := Aside0.mk hl
 clear hl
 have HB := Aside0.mk (Below.refl w.heap.size w)
 go_enter Try.func39, Try.ntmps39
 go_wp2
 clear b0 b1 b2 b3
 go_loopg [17] l0.length (fun gg v17 w' => ∃ kk : Nat, kk ≤ l0.length ∧ l0.length - kk ≤ gg ∧ v17 = .int .i64 kk ∧ Aside0 (l0.take kk = l1.take kk) ∧ Aside0 (Below w.heap.size w w'))
 case atStart => exact ⟨0, Nat.zero_le _, by omega, rfl, ⟨rfl⟩, HB⟩
 case round =>
  clear HB
  obtain ⟨kk, hkk, hg, rfl, HA, HB⟩ := hrel
  by_cases hlt : kk < l0.length
  ·have hltz : (kk : Int) < (l0.length : Int) := by omega
   have hltz1 : (kk : Int) < (l1.length : Int) := by have := HL.out; omega
   have hlt1 : kk < l1.length := by omega
   obtain ⟨ad, A4, c4, e4, hx0, hx1, hx2, hx3, hx4, hl4, hi4⟩ := at_T43 HR0.out (kk : Int) (by omega) hltz
   cases e4
   obtain ⟨bd, B4, d4, f4, hy0, hy1, hy2, hy3, hy4, hm4, hj4⟩ := at_T43 HR1.out (kk : Int) (by omega) hltz1
   cases f4
   simp only [Int.toNat_natCast] at hx0 hx1 hx2 hx3 hx4 hy0 hy1 hy2 hy3 hy4
   replace hx0 := (HB.out.cell (World.block_lt_of_cell? w _ hx0)).trans hx0
   replace hx1 := (HB.out.cell (World.block_lt_of_cell? w _ hx1)).trans hx1
   replace hx2 := (HB.out.cell (World.block_lt_of_cell? w _ hx2)).trans hx2
   replace hx3 := (HB.out.cell (World.block_lt_of_cell? w _ hx3)).trans hx3
   replace hx4 := (HB.out.cell (World.block_lt_of_cell? w _ hx4)).trans hx4
   replace hy0 := (HB.out.cell (World.block_lt_of_cell? w _ hy0)).trans hy0
   replace hy1 := (HB.out.cell (World.block_lt_of_cell? w _ hy1)).trans hy1
   replace hy2 := (HB.out.cell (World.block_lt_of_cell? w _ hy2)).trans hy2
   replace hy3 := (HB.out.cell (World.block_lt_of_cell? w _ hy3)).trans hy3
   replace hy4 := (HB.out.cell (World.block_lt_of_cell? w _ hy4)).trans hy4
   have ha0 := fun o => (pw_cell_below (below_alloc (Below.refl wr.heap.size wr) o) hy0)
   have ha1 := fun o => (pw_cell_below (below_alloc (Below.refl wr.heap.size wr) o) hy1)
   have ha2 := fun o => (pw_cell_below (below_alloc (Below.refl wr.heap.size wr) o) hy2)
   have ha3 := fun o => (pw_cell_below (below_alloc (Below.refl wr.heap.size wr) o) hy3)
   have ha4 := fun o => (pw_cell_below (below_alloc (Below.refl wr.heap.size wr) o) hy4)
   clear hy0 hy1 hy2 hy3 hy4
   have hcall := fun W (hb : Below w.heap.size w W) => same1_calls (rd_T43 l0 kk) (rd_T43 l1 kk) A4 B4 c4 d4 W (Kd.C_below hi4 hb) hl4 (Kd.C_below hj4 hb) hm4
   have hq : decide (rd_T43 l0 kk = rd_T43 l1 kk) = decide (l0[kk] = l1[kk]'hlt1) := by rw [rd_T43_at l0 kk hlt, rd_T43_at l1 kk hlt1]
   rw [hq] at hcall
   clear hq
   by_cases he : l0[kk] = l1[kk]'hlt1
   ·have HN : Aside0 (l0.take (kk + 1) = l1.take (kk + 1)) := ⟨(take_succ_eq hlt hlt1).2 ⟨HA.out, he⟩⟩
    rw [decide_eq_true he] at hcall
    clear he HA
    go_wp2_with (go_at_call 40; refine (hcall _ ?_).mono ?_; exact (by repeat (first | exact HB.out | apply below_alloc | apply pw_below_drewN | apply below_drew1)); rintro e w' ⟨rfl, hb'⟩)
    go_roundg (l0.length - (kk + 1))
    case measure => omega
    case rel => exact ⟨kk + 1, by omega, by omega, by go_num, HN, ⟨below_step (by repeat (first | exact HB.out | apply below_alloc | apply pw_below_drewN | apply below_drew1)) hb'⟩⟩
   ·have hr : Aside0 (decide (l0 = l1) = false) := ⟨decide_eq_false (fun e => he (by simp [e]))⟩
    rw [decide_eq_false he] at hcall
    clear he HA
    go_wp2_with (go_at_call 40; refine (hcall _ ?_).mono ?_; exact (by repeat (first | exact HB.out | apply below_alloc | apply pw_below_drewN | apply below_drew1)); rintro e w' ⟨rfl, hb'⟩)
    go_ret
    exact ⟨by rw [hr.out]; rfl, below_step (by repeat (first | exact HB.out | apply below_alloc | apply pw_below_drewN | apply below_drew1)) hb'⟩
  ·have hltz : ¬ (kk : Int) < (l0.length : Int) := by omega
   obtain rfl : kk = l0.length := by omega
   have hr : Aside0 (decide (l0 = l1) = true) := ⟨decide_eq_true (by have h := HA.out; rw [List.take_length, HL.out, List.take_length] at h; exact h)⟩
   clear HA
   go_wp2
   go_ret
   exact ⟨by rw [hr.out]; rfl, HB.out⟩
def rows_Same.f (l0 : List (S43)) (l1 : List (S43)) : Option (Bool) := some (decide (l0 = l1))
theorem rows_Same.calls (A0 : Option Addr) (c0 : Nat) (l0 : List (S43)) (A1 : Option Addr) (c1 : Nat) (l1 : List (S43)) (r : Bool) (w : World) (hr0 : Kd.C k43 w A0 l0.length l0) (hc0 : l0.length ≤ c0) (hr1 : Kd.C k43 w A1 l1.length l1) (hc1 : l1.length ≤ c1) (h : rows_Same.f l0 l1 = some r) :
  Calls Try.prog 15 #[.slice A0 l0.length c0, .slice A1 l1.length c1] w fun e w' => e = .returned (.bool r) ∧ Below w.heap.size w w' := by
 have hi := sameFunc_calls A0 c0 l0 A1 c1 l1 w hr0 hc0 hr1 hc1
 obtain rfl := Option.some.inj h
 clear hr0 hc0 hr1 hc1 h
 generalize decide (l0 = l1) = r at hi ⊢
 go_enter Try.func15, Try.ntmps15
 go_wp2_with (go_at_call 39; refine hi.mono ?_; rintro e w' ⟨rfl, hb'⟩)
 go_ret
 exact ⟨rfl, hb'⟩


/-! ### boltingref04_Attrs: function 42 -/
def boltingref04_Attrs.l0 : Nat → List (S46) → List (S46) → Int → Option (Bool)
 | 0, _, _, _ => none
 | k + 1, x0, x1, x5 => if x5 < (x0.length : Int) then (if 0 ≤ x5 then (if x5 < (x1.length : Int) then (if (!((((rd_T46 x0 x5).f0).toList) == (((rd_T46 x1 x5).f0).toList)) || (!((((rd_T46 x0 x5).f1).toList) == (((rd_T46 x1 x5).f1).toList)))) = true then (some false) else (boltingref04_Attrs.l0 k x0 x1 (wrap64 (x5 + 1)))) else (none)) else (none)) else (some true)
def boltingref04_Attrs.f (k : Nat) (l0 : List (S46)) (l1 : List (S46)) : Option (Bool) := if (l0.length : Int) = (l1.length : Int) then (boltingref04_Attrs.l0 k l0 l1 0) else (some false)
theorem boltingref04_Attrs.mono_l : ∀ k, (∀ y0 y1 y2, LeO (boltingref04_Attrs.l0 k y0 y1 y2) (boltingref04_Attrs.l0 (k + 1) y0 y1 y2))
 | 0 => fun _ _ _ r h => by simp [boltingref04_Attrs.l0] at h
 | k + 1 => by
  have ih0 := boltingref04_Attrs.mono_l k
  ·intro y0 y1 y2
   unfold boltingref04_Attrs.l0
   repeat' first
   | (with_reducible exact ih0 _ _ _)
   | (with_reducible exact LeO.refl _)
   | (with_reducible exact LeO.none _)
   | (with_reducible refine LeO.ite ?_ ?_)
   | (with_reducible refine LeO.bind ?_ (fun _ => ?_))
   | exact ih0 _ _ _
   | exact LeO.none _
   | refine LeO.ite ?_ ?_
   | refine LeO.bind ?_ (fun _ => ?_)
theorem boltingref04_Attrs.mono : ∀ a0 a1 k, LeO (boltingref04_Attrs.f k a0 a1) (boltingref04_Attrs.f (k + 1) a0 a1) := by
 intro a0 a1 k
 have ih0 := boltingref04_Attrs.mono_l k
 unfold boltingref04_Attrs.f
 repeat' first
   | (with_reducible exact ih0 _ _ _)
   | (with_reducible exact LeO.refl _)
   | (with_reducible exact LeO.none _)
   | (with_reducible refine LeO.ite ?_ ?_)
   | (with_reducible refine LeO.bind ?_ (fun _ => ?_))
   | exact ih0 _ _ _
   | exact LeO.none _
   | refine LeO.ite ?_ ?_
   | refine LeO.bind ?_ (fun _ => ?_)
set_option maxHeartbeats 8000000 in
set_option maxRecDepth 100000 in
theorem boltingref04_Attrs.calls (k : Nat) (A0 : Option Addr) (c0 : Nat) (l0 : List (S46)) (A1 : Option Addr) (c1 : Nat) (l1 : List (S46)) (r : Bool) (w : World) (hr0 : Kd.C k46 w A0 l0.length l0) (hc0 : l0.length ≤ c0) (hr1 : Kd.C k46 w A1 l1.length l1) (hc1 : l1.length ≤ c1) (h : boltingref04_Attrs.f k l0 l1 = some r) :
  Calls Try.prog 42 #[.slice A0 l0.length c0, .slice A1 l1.length c1] w fun e w' => e = .returned (.bool r) ∧ Drawn0 w w' := by
 have hu46 := Try.underlying46
 have HR0 := Aside0.mk hr0
 have HC0 := Aside0.mk hc0
 clear hr0 hc0
 have HR1 := Aside0.mk hr1
 have HC1 := Aside0.mk hc1
 clear hr1 hc1
 have H : (if (l0.length : Int) = (l1.length : Int) then (boltingref04_Attrs.l0 k l0 l1 0) else (some false)) = some r := h
 clear h
 by_cases c3 : (l0.length : Int) = (l1.length : Int)
 ·rw [if_pos c3] at H
  have c3b0 : ((l0.length : Int) == (l1.length : Int)) = true := beq_iff_eq.mpr c3
  have c3b1 : ((l0.length : Int) != (l1.length : Int)) = false := bne_eq_false_iff_eq.mpr c3
  have c3b2 : (l0.length == l1.length) = true := by first | simpa using c3 | (simp at c3 ⊢; omega)
  clear c3
  have H' := Aside0.mk H
  clear H
  go_enter Try.func42, Try.ntmps42
  go_wp2
  repeat (go_quiet (fail); try go_wp2)
  go_loopg [5] k (fun kq v5 w' => ∃ (x5_1 : Int), v5 = .int .i64 x5_1 ∧ Aside0 (boltingref04_Attrs.l0 kq l0 l1 x5_1 = some r) ∧ Aside0 (kq ≤ k) ∧ Drawn0 w w')
  case atStart => exact ⟨(0), aE, H', ⟨Nat.le_refl _⟩, by repeat (first | exact Drawn0.refl _ | apply Drawn0.step)⟩
  case round =>
   clear H'
   try clear c1
   try clear p2
   try clear c3
   try clear c3b0
   try clear c3b1
   try clear c3b2
   obtain ⟨x5_1, rfl, HA, HK1, ⟨m1, rfl⟩⟩ := hrel
   cases gk with
   | zero => exact absurd HA.out (by simp [boltingref04_Attrs.l0])
   | succ k1 =>
    have H := HA.out
    clear HA
    simp only [boltingref04_Attrs.l0] at H
    by_cases c4 : x5_1 < (l0.length : Int)
    ·rw [if_pos c4] at H
     have c4b0 : decide (x5_1 < (l0.length : Int)) = true := decide_eq_true c4
     clear c4
     by_cases c5 : 0 ≤ x5_1
     ·rw [if_pos c5] at H
      have c5b0 : decide (0 ≤ x5_1) = true := decide_eq_true c5
      clear c5
      by_cases c6 : x5_1 < (l1.length : Int)
      ·rw [if_pos c6] at H
       have c6b0 : decide (x5_1 < (l1.length : Int)) = true := decide_eq_true c6
       clear c6
       by_cases c7 : (!((((rd_T46 l0 x5_1).f0).toList) == (((rd_T46 l1 x5_1).f0).toList)) || (!((((rd_T46 l0 x5_1).f1).toList) == (((rd_T46 l1 x5_1).f1).toList)))) = true
       ·rw [if_pos c7] at H
        have c7b0 : (!((((rd_T46 l0 x5_1).f0).toList) == (((rd_T46 l1 x5_1).f0).toList)) || (!((((rd_T46 l0 x5_1).f1).toList) == (((rd_T46 l1 x5_1).f1).toList)))) = true := c7
        clear c7
        obtain rfl := Option.some.inj H
        have p130 : 0 ≤ (x5_1 : Int) := of_decide_eq_true aA
        have q130 : x5_1 < (l0.length : Int) := of_decide_eq_true aA
        obtain ⟨ad130, e130, hx130_0, hx130_1⟩ := at_T46 HR0.out x5_1 p130 q130
        cases e130
        replace p130 := eq_true p130
        replace q130 := eq_true q130
        have p131 : 0 ≤ (x5_1 : Int) := of_decide_eq_true aA
        have q131 : x5_1 < (l1.length : Int) := of_decide_eq_true aA
        obtain ⟨ad131, e131, hx131_0, hx131_1⟩ := at_T46 HR1.out x5_1 p131 q131
        cases e131
        replace p131 := eq_true p131
        replace q131 := eq_true q131
        go_wp2
        repeat (go_quiet (fail); try go_wp2)
        go_ret
        exact ⟨by first | rfl | (simp; done) | (congr 1; first | (with_reducible assumption) | (symm; with_reducible assumption)) | (simp [*]; done) | (simp only [ne_nil_empty]; done) | (rw [ne_nil_empty]; rfl), by repeat (first | exact Drawn0.refl _ | apply Drawn0.step)⟩
       ·rw [if_neg c7] at H
        have c7b0 : (!((((rd_T46 l0 x5_1).f0).toList) == (((rd_T46 l1 x5_1).f0).toList)) || (!((((rd_T46 l0 x5_1).f1).toList) == (((rd_T46 l1 x5_1).f1).toList)))) = false := by simpa using c7
        clear c7
        have H' := Aside0.mk H
        clear H
        have p130 : 0 ≤ (x5_1 : Int) := of_decide_eq_true aA
        have q130 : x5_1 < (l0.length : Int) := of_decide_eq_true aA
        obtain ⟨ad130, e130, hx130_0, hx130_1⟩ := at_T46 HR0.out x5_1 p130 q130
        cases e130
        replace p130 := eq_true p130
        replace q130 := eq_true q130
        have p131 : 0 ≤ (x5_1 : Int) := of_decide_eq_true aA
        have q131 : x5_1 < (l1.length : Int) := of_decide_eq_true aA
        obtain ⟨ad131, e131, hx131_0, hx131_1⟩ := at_T46 HR1.out x5_1 p131 q131
        cases e131
        replace p131 := eq_true p131
        replace q131 := eq_true q131
        go_wp2
        repeat (go_quiet (fail); try go_wp2)
        go_roundg k1
        case measure => have := HK1.out; omega
        case rel => exact ⟨(wrap64 (x5_1 + 1)), aE, H', ⟨by have := HK1.out; omega⟩, by repeat (first | exact Drawn0.refl _ | apply Drawn0.step)⟩
      ·rw [if_neg c6] at H
       exact absurd H (by simp)
     ·rw [if_neg c5] at H
      exact absurd H (by simp)
    ·rw [if_neg c4] at H
     have c4b0 : decide (x5_1 < (l0.length : Int)) = false := decide_eq_false c4
     clear c4
     obtain rfl := Option.some.inj H
     go_wp2
     repeat (go_quiet (fail); try go_wp2)
     go_ret
     exact ⟨by first | rfl | (simp; done) | (congr 1; first | (with_reducible assumption) | (symm; with_reducible assumption)) | (simp [*]; done) | (simp only [ne_nil_empty]; done) | (rw [ne_nil_empty]; rfl), by repeat (first | exact Drawn0.refl _ | apply Drawn0.step)⟩
 ·rw [if_neg c3] at H
  have c3b0 : ((l0.length : Int) == (l1.length : Int)) = false := beq_eq_false_iff_ne.mpr c3
  have c3b1 : ((l0.length : Int) != (l1.length : Int)) = true := bne_iff_ne.mpr c3
  have c3b2 : (l0.length == l1.length) = false := by first | simpa using c3 | (simp at c3 ⊢; omega)
  obtain rfl := Option.some.inj H
  go_enter Try.func42, Try.ntmps42
  go_wp2
  repeat (go_quiet (fail); try go_wp2)
  go_ret
  exact ⟨by first | rfl | (simp; done) | (congr 1; first | (with_reducible assumption) | (symm; with_reducible assumption)) | (simp [*]; done) | (simp only [ne_nil_empty]; done) | (rw [ne_nil_empty]; rfl), by repeat (first | exact Drawn0.refl _ | apply Drawn0.step)⟩

end Go.Proofs.Ytllggaogjcknoaa.QA
