-- Written by a program of this claim's own (wip/gen/gen.py), out of the translation; an ordinary proof text.
import Derived.Test.YtpkaliaaffgbdaaQAx0
namespace Go.Proofs.Ytpkaliaaffgbdaa.QA
open Go.RowKit Go.Proofs.YtpkaliaaffgbdaaW.PrintWords Go.Proofs.YtpkaliaaffgbdaaW.PrintLast Go.Proofs.YtpkaliaaffgbdaaW.PrintMore
attribute [local go_sem] max2_int min2_int max_two min_two max_three min_three max_four min_four   -- for this text's walks alone
set_option linter.unusedVariables false
set_option linter.unusedSimpArgs false

/-! ### boltingref04_Row: function 94 -/
mutual
def boltingref04_Row.j0 : Nat → Bool → Int → Int → ByteArray → ByteArray → List (S52) → Option (Bool)
 | 0, _, _, _, _, _, _ => none
 | k + 1, x12, x241000, x241001, x241002, x241003, x241004 => if x12 = true then (if x241002.toList = ([] : List UInt8) then (some ((x241004.length : Int) == 0)) else (some false)) else (boltingref04_Row.l0 k 0 x241000 x241001 x241002 x241003 x241004)
def boltingref04_Row.l0 : Nat → Int → Int → Int → ByteArray → ByteArray → List (S52) → Option (Bool)
 | 0, _, _, _, _, _, _ => none
 | k + 1, x3, x241000, x241001, x241002, x241003, x241004 => if x3 < (x241004.length : Int) then (boltingref04_Row.l1 k x3 0 x241000 x241001 x241002 x241003 x241004) else (if x241001 = 0 then (if x241002.toList = ([] : List UInt8) then (some false) else (some (x241003.toList == ([] : List UInt8)))) else (some false))
def boltingref04_Row.l1 : Nat → Int → Int → Int → Int → ByteArray → ByteArray → List (S52) → Option (Bool)
 | 0, _, _, _, _, _, _, _ => none
 | k + 1, x3, x4, x241000, x241001, x241002, x241003, x241004 => if x4 < x3 then (if 0 ≤ x3 then (if x3 < (x241004.length : Int) then (if 0 ≤ x4 then (if x4 < (x241004.length : Int) then (if ((rd_T52 x241004 x3).f0).toList = ((rd_T52 x241004 x4).f0).toList then (some false) else (boltingref04_Row.l1 k x3 (wrap64 (x4 + 1)) x241000 x241001 x241002 x241003 x241004)) else (none)) else (none)) else (none)) else (none)) else (boltingref04_Row.l0 k (wrap64 (x3 + 1)) x241000 x241001 x241002 x241003 x241004)
end
def boltingref04_Row.f (k : Nat) (a0_0 : Int) (a0_1 : Int) (a0_2 : ByteArray) (a0_3 : ByteArray) (l0_4 : List (S52)) : Option (Bool) := if a0_1 = 1 then (boltingref04_Row.j0 k true a0_0 a0_1 a0_2 a0_3 l0_4) else (boltingref04_Row.j0 k (a0_1 == 2) a0_0 a0_1 a0_2 a0_3 l0_4)
theorem boltingref04_Row.mono_l : ∀ k, (∀ y0 y1 y2 y3 y4 y5, LeO (boltingref04_Row.j0 k y0 y1 y2 y3 y4 y5) (boltingref04_Row.j0 (k + 1) y0 y1 y2 y3 y4 y5)) ∧ (∀ y0 y1 y2 y3 y4 y5, LeO (boltingref04_Row.l0 k y0 y1 y2 y3 y4 y5) (boltingref04_Row.l0 (k + 1) y0 y1 y2 y3 y4 y5)) ∧ (∀ y0 y1 y2 y3 y4 y5 y6, LeO (boltingref04_Row.l1 k y0 y1 y2 y3 y4 y5 y6) (boltingref04_Row.l1 (k + 1) y0 y1 y2 y3 y4 y5 y6))
 | 0 => ⟨fun _ _ _ _ _ _ r h => by simp [boltingref04_Row.j0] at h, fun _ _ _ _ _ _ r h => by simp [boltingref04_Row.l0] at h, fun _ _ _ _ _ _ _ r h => by simp [boltingref04_Row.l1] at h⟩
 | k + 1 => by
  obtain ⟨ih0, ih1, ih2⟩ := boltingref04_Row.mono_l k
  refine ⟨?_, ?_, ?_⟩
  ·intro y0 y1 y2 y3 y4 y5
   unfold boltingref04_Row.j0
   repeat' first
   | (with_reducible exact ih0 _ _ _ _ _ _)
   | (with_reducible exact ih1 _ _ _ _ _ _)
   | (with_reducible exact ih2 _ _ _ _ _ _ _)
   | (with_reducible exact LeO.refl _)
   | (with_reducible exact LeO.none _)
   | (with_reducible refine LeO.ite ?_ ?_)
   | (with_reducible refine LeO.bind ?_ (fun _ => ?_))
   | exact ih0 _ _ _ _ _ _
   | exact ih1 _ _ _ _ _ _
   | exact ih2 _ _ _ _ _ _ _
   | exact LeO.none _
   | refine LeO.ite ?_ ?_
   | refine LeO.bind ?_ (fun _ => ?_)
  ·intro y0 y1 y2 y3 y4 y5
   unfold boltingref04_Row.l0
   repeat' first
   | (with_reducible exact ih0 _ _ _ _ _ _)
   | (with_reducible exact ih1 _ _ _ _ _ _)
   | (with_reducible exact ih2 _ _ _ _ _ _ _)
   | (with_reducible exact LeO.refl _)
   | (with_reducible exact LeO.none _)
   | (with_reducible refine LeO.ite ?_ ?_)
   | (with_reducible refine LeO.bind ?_ (fun _ => ?_))
   | exact ih0 _ _ _ _ _ _
   | exact ih1 _ _ _ _ _ _
   | exact ih2 _ _ _ _ _ _ _
   | exact LeO.none _
   | refine LeO.ite ?_ ?_
   | refine LeO.bind ?_ (fun _ => ?_)
  ·intro y0 y1 y2 y3 y4 y5 y6
   unfold boltingref04_Row.l1
   repeat' first
   | (with_reducible exact ih0 _ _ _ _ _ _)
   | (with_reducible exact ih1 _ _ _ _ _ _)
   | (with_reducible exact ih2 _ _ _ _ _ _ _)
   | (with_reducible exact LeO.refl _)
   | (with_reducible exact LeO.none _)
   | (with_reducible refine LeO.ite ?_ ?_)
   | (with_reducible refine LeO.bind ?_ (fun _ => ?_))
   | exact ih0 _ _ _ _ _ _
   | exact ih1 _ _ _ _ _ _
   | exact ih2 _ _ _ _ _ _ _
   | exact LeO.none _
   | refine LeO.ite ?_ ?_
   | refine LeO.bind ?_ (fun _ => ?_)
theorem boltingref04_Row.mono : ∀ a0 a1 a2 a3 a4 k, LeO (boltingref04_Row.f k a0 a1 a2 a3 a4) (boltingref04_Row.f (k + 1) a0 a1 a2 a3 a4) := by
 intro a0 a1 a2 a3 a4 k
 obtain ⟨ih0, ih1, ih2⟩ := boltingref04_Row.mono_l k
 unfold boltingref04_Row.f
 repeat' first
   | (with_reducible exact ih0 _ _ _ _ _ _)
   | (with_reducible exact ih1 _ _ _ _ _ _)
   | (with_reducible exact ih2 _ _ _ _ _ _ _)
   | (with_reducible exact LeO.refl _)
   | (with_reducible exact LeO.none _)
   | (with_reducible refine LeO.ite ?_ ?_)
   | (with_reducible refine LeO.bind ?_ (fun _ => ?_))
   | exact ih0 _ _ _ _ _ _
   | exact ih1 _ _ _ _ _ _
   | exact ih2 _ _ _ _ _ _ _
   | exact LeO.none _
   | refine LeO.ite ?_ ?_
   | refine LeO.bind ?_ (fun _ => ?_)
set_option maxHeartbeats 8000000 in
set_option maxRecDepth 100000 in
theorem boltingref04_Row.calls (k : Nat) (a0_0 : Int) (a0_1 : Int) (a0_2 : ByteArray) (a0_3 : ByteArray) (A0_4 : Option Addr) (c0_4 : Nat) (l0_4 : List (S52)) (r : Bool) (w : World) (hr0_4 : Kd.C k52 w A0_4 l0_4.length l0_4) (hc0_4 : l0_4.length ≤ c0_4) (h : boltingref04_Row.f k a0_0 a0_1 a0_2 a0_3 l0_4 = some r) :
  Calls Try.prog 94 #[.agg #[.int .i64 a0_0, .int .i64 a0_1, .string a0_2, .string a0_3, .slice A0_4 l0_4.length c0_4]] w fun e w' => e = .returned (.bool r) ∧ Below w.heap.size w w' := by
 have hu54 := Try.underlying54
 have HR0_4 := Aside0.mk hr0_4
 have HC0_4 := Aside0.mk hc0_4
 clear hr0_4 hc0_4
 have HB := Aside0.mk (Below.refl w.heap.size w)
 have H : (if a0_1 = 1 then (boltingref04_Row.j0 k true a0_0 a0_1 a0_2 a0_3 l0_4) else (boltingref04_Row.j0 k (a0_1 == 2) a0_0 a0_1 a0_2 a0_3 l0_4)) = some r := h
 clear h
 have HC2 := Aside0.mk H
 clear H
 go_enter Try.func94, Try.ntmps94
 go_upto_region 1 with (first | ((with_reducible refine gate_dst (N := 1) rfl ?_); (try (refine gate_guard (by rfl) ?_; dsimp only)); refine box_event ?hg (N := 1) ?hd (cs := #[.int .i64 a0_0, .int .i64 a0_1, .string a0_2, .string a0_3, .slice A0_4 l0_4.length c0_4]) (t := 54) ?hr ?_; (case hd => rfl); (case hg => rfl); (case hr => first | (go_simp; done) | (go_simp; rfl)); intro gb240 hg w3 hbox hb; have n0_ := Aside0.mk (below_step (aB HB) hb); have n1_ := Aside0.mk (hbox); have n2_ := Aside0.mk ((by rw [hg]; exact (below_size (aB HB)) : w.heap.size ≤ gb240)); have n3_ := Aside0.mk ((by rw [hg]; exact (below_size (aB HB)) : w.heap.size ≤ gb240)); clear HB; have HB := n0_; have BK240 := n1_; have GW240 := n2_; have GE240 := n3_; clear n0_ n1_ n2_ n3_; clear hb hbox hg))
 repeat (go_quiet (first | ((with_reducible refine gate_dst (N := 1) rfl ?_); (try (refine gate_guard (by rfl) ?_; dsimp only)); refine box_event ?hg (N := 1) ?hd (cs := #[.int .i64 a0_0, .int .i64 a0_1, .string a0_2, .string a0_3, .slice A0_4 l0_4.length c0_4]) (t := 54) ?hr ?_; (case hd => rfl); (case hg => rfl); (case hr => first | (go_simp; done) | (go_simp; rfl)); intro gb240 hg w3 hbox hb; have n0_ := Aside0.mk (below_step (aB HB) hb); have n1_ := Aside0.mk (hbox); have n2_ := Aside0.mk ((by rw [hg]; exact (below_size (aB HB)) : w.heap.size ≤ gb240)); have n3_ := Aside0.mk ((by rw [hg]; exact (below_size (aB HB)) : w.heap.size ≤ gb240)); clear HB; have HB := n0_; have BK240 := n1_; have GW240 := n2_; have GE240 := n3_; clear n0_ n1_ n2_ n3_; clear hb hbox hg)); go_upto_region 1 with (first | ((with_reducible refine gate_dst (N := 1) rfl ?_); (try (refine gate_guard (by rfl) ?_; dsimp only)); refine box_event ?hg (N := 1) ?hd (cs := #[.int .i64 a0_0, .int .i64 a0_1, .string a0_2, .string a0_3, .slice A0_4 l0_4.length c0_4]) (t := 54) ?hr ?_; (case hd => rfl); (case hg => rfl); (case hr => first | (go_simp; done) | (go_simp; rfl)); intro gb240 hg w3 hbox hb; have n0_ := Aside0.mk (below_step (aB HB) hb); have n1_ := Aside0.mk (hbox); have n2_ := Aside0.mk ((by rw [hg]; exact (below_size (aB HB)) : w.heap.size ≤ gb240)); have n3_ := Aside0.mk ((by rw [hg]; exact (below_size (aB HB)) : w.heap.size ≤ gb240)); clear HB; have HB := n0_; have BK240 := n1_; have GW240 := n2_; have GE240 := n3_; clear n0_ n1_ n2_ n3_; clear hb hbox hg)))
 (try simp only [Act.put, List.setIfInBounds_toArray, List.set_cons_zero, List.set_cons_succ])
 go_cut [12] (fun v12 wc => ∃ (kq : Nat) (x12_1 : Bool), v12 = .bool x12_1 ∧ Aside0 (boltingref04_Row.j0 kq x12_1 a0_0 a0_1 a0_2 a0_3 l0_4 = some r) ∧ Aside0 (kq ≤ k) ∧ Aside0 (wc.heap[gb240]? = some (.cells #[.int .i64 a0_0, .int .i64 a0_1, .string a0_2, .string a0_3, (.slice A0_4 l0_4.length c0_4)] 54 (0, 0))) ∧ Aside0 (Below w.heap.size w wc))
 case first =>
  have H := HC2.out
  clear HC2
  by_cases c4 : a0_1 = 1
  ·rw [if_pos c4] at H
   have c4b0 : (a0_1 == 1) = true := beq_iff_eq.mpr c4
   have c4b1 : (a0_1 != 1) = false := bne_eq_false_iff_eq.mpr c4
   clear c4
   (first | rw [c4b0] | (simp only [i64_w, i32_w]; rw [c4b0]) | skip)
   have H' := Aside0.mk H
   clear H
   have hcz5_0 : w3.cell? ⟨gb240, 0, none⟩ = some (.int .i64 a0_0) := (blk_cell BK240.out 0).trans rfl
   have hcz5_1 : w3.cell? ⟨gb240, 1, none⟩ = some (.int .i64 a0_1) := (blk_cell BK240.out 1).trans rfl
   have hcz5_2 : w3.cell? ⟨gb240, 2, none⟩ = some (.string a0_2) := (blk_cell BK240.out 2).trans rfl
   have hcz5_3 : w3.cell? ⟨gb240, 3, none⟩ = some (.string a0_3) := (blk_cell BK240.out 3).trans rfl
   have hcz5_4 : w3.cell? ⟨gb240, 4, none⟩ = some (.slice A0_4 l0_4.length c0_4) := (blk_cell BK240.out 4).trans rfl
   have hfz5_0 := blk_frozen BK240.out 0
   have hfz5_1 := blk_frozen BK240.out 1
   have hfz5_2 := blk_frozen BK240.out 2
   have hfz5_3 := blk_frozen BK240.out 3
   have hfz5_4 := blk_frozen BK240.out 4
   go_wp2
   repeat (go_quiet (fail); try go_wp2)
   go_meet
   case rel => exact ⟨_, (true), aE, H', ⟨by first | omega | exact Nat.le_refl _⟩, ⟨aK BK240⟩, ⟨by repeat (first | (with_reducible first | exact HB.out | apply below_alloc | apply pw_below_drewN | apply below_drew1 | refine below_set ?_ GE240.out) | exact HB.out)⟩⟩
  ·rw [if_neg c4] at H
   have c4b0 : (a0_1 == 1) = false := beq_eq_false_iff_ne.mpr c4
   have c4b1 : (a0_1 != 1) = true := bne_iff_ne.mpr c4
   (first | rw [c4b0] | (simp only [i64_w, i32_w]; rw [c4b0]) | skip)
   have H' := Aside0.mk H
   clear H
   have hcz6_0 : w3.cell? ⟨gb240, 0, none⟩ = some (.int .i64 a0_0) := (blk_cell BK240.out 0).trans rfl
   have hcz6_1 : w3.cell? ⟨gb240, 1, none⟩ = some (.int .i64 a0_1) := (blk_cell BK240.out 1).trans rfl
   have hcz6_2 : w3.cell? ⟨gb240, 2, none⟩ = some (.string a0_2) := (blk_cell BK240.out 2).trans rfl
   have hcz6_3 : w3.cell? ⟨gb240, 3, none⟩ = some (.string a0_3) := (blk_cell BK240.out 3).trans rfl
   have hcz6_4 : w3.cell? ⟨gb240, 4, none⟩ = some (.slice A0_4 l0_4.length c0_4) := (blk_cell BK240.out 4).trans rfl
   have hfz6_0 := blk_frozen BK240.out 0
   have hfz6_1 := blk_frozen BK240.out 1
   have hfz6_2 := blk_frozen BK240.out 2
   have hfz6_3 := blk_frozen BK240.out 3
   have hfz6_4 := blk_frozen BK240.out 4
   go_wp2
   repeat (go_quiet (fail); try go_wp2)
   go_meet
   case rel => exact ⟨_, ((a0_1 == 2)), aE, H', ⟨by first | omega | exact Nat.le_refl _⟩, ⟨aK BK240⟩, ⟨by repeat (first | (with_reducible first | exact HB.out | apply below_alloc | apply pw_below_drewN | apply below_drew1 | refine below_set ?_ GE240.out) | exact HB.out)⟩⟩
 case rest =>
  clear HC2
  try clear p2
  try clear c4
  try clear c4b0
  try clear c4b1
  try clear hcz5_0
  try clear hcz5_1
  try clear hcz5_2
  try clear hcz5_3
  try clear hcz5_4
  try clear hcz6_0
  try clear hcz6_1
  try clear hcz6_2
  try clear hcz6_3
  try clear hcz6_4
  try clear hfz5_0
  try clear hfz5_1
  try clear hfz5_2
  try clear hfz5_3
  try clear hfz5_4
  try clear hfz6_0
  try clear hfz6_1
  try clear hfz6_2
  try clear hfz6_3
  try clear hfz6_4
  obtain ⟨kq, x12_1, rfl, HA, HJ1, BK240, HB⟩ := hcut
  cases kq with
  | zero => exact absurd HA.out (by simp [boltingref04_Row.j0])
  | succ kj1 =>
   have H := HA.out
   clear HA
   simp only [boltingref04_Row.j0] at H
   by_cases c7 : x12_1 = true
   ·subst c7
    have H1 : (if a0_2.toList = ([] : List UInt8) then (some ((l0_4.length : Int) == 0)) else (some false)) = some r := by rw [if_pos rfl] at H; exact H
    clear H
    have H := H1
    clear H1
    by_cases c8 : a0_2.toList = ([] : List UInt8)
    ·rw [if_pos c8] at H
     have c8b0 : (a0_2.toList == ([] : List UInt8)) = true := beq_iff_eq.mpr c8
     have c8b1 : (a0_2.toList != ([] : List UInt8)) = false := bne_eq_false_iff_eq.mpr c8
     clear c8
     obtain rfl := Option.some.inj H
     have hcz9_0 : wc.cell? ⟨gb240, 0, none⟩ = some (.int .i64 a0_0) := (blk_cell BK240.out 0).trans rfl
     have hcz9_1 : wc.cell? ⟨gb240, 1, none⟩ = some (.int .i64 a0_1) := (blk_cell BK240.out 1).trans rfl
     have hcz9_2 : wc.cell? ⟨gb240, 2, none⟩ = some (.string a0_2) := (blk_cell BK240.out 2).trans rfl
     have hcz9_3 : wc.cell? ⟨gb240, 3, none⟩ = some (.string a0_3) := (blk_cell BK240.out 3).trans rfl
     have hcz9_4 : wc.cell? ⟨gb240, 4, none⟩ = some (.slice A0_4 l0_4.length c0_4) := (blk_cell BK240.out 4).trans rfl
     have hfz9_0 := blk_frozen BK240.out 0
     have hfz9_1 := blk_frozen BK240.out 1
     have hfz9_2 := blk_frozen BK240.out 2
     have hfz9_3 := blk_frozen BK240.out 3
     have hfz9_4 := blk_frozen BK240.out 4
     go_wp2
     repeat (go_quiet (fail); try go_wp2)
     go_ret
     exact ⟨by first | rfl | (simp [errW_none, errW_some] <;> rfl) | (simp [*, errW_none, errW_some] <;> rfl), by repeat (first | (with_reducible first | exact HB.out | apply below_alloc | apply pw_below_drewN | apply below_drew1 | refine below_set ?_ GE240.out) | exact HB.out)⟩
    ·rw [if_neg c8] at H
     have c8b0 : (a0_2.toList == ([] : List UInt8)) = false := beq_eq_false_iff_ne.mpr c8
     have c8b1 : (a0_2.toList != ([] : List UInt8)) = true := bne_iff_ne.mpr c8
     obtain rfl := Option.some.inj H
     have hcz10_0 : wc.cell? ⟨gb240, 0, none⟩ = some (.int .i64 a0_0) := (blk_cell BK240.out 0).trans rfl
     have hcz10_1 : wc.cell? ⟨gb240, 1, none⟩ = some (.int .i64 a0_1) := (blk_cell BK240.out 1).trans rfl
     have hcz10_2 : wc.cell? ⟨gb240, 2, none⟩ = some (.string a0_2) := (blk_cell BK240.out 2).trans rfl
     have hcz10_3 : wc.cell? ⟨gb240, 3, none⟩ = some (.string a0_3) := (blk_cell BK240.out 3).trans rfl
     have hcz10_4 : wc.cell? ⟨gb240, 4, none⟩ = some (.slice A0_4 l0_4.length c0_4) := (blk_cell BK240.out 4).trans rfl
     have hfz10_0 := blk_frozen BK240.out 0
     have hfz10_1 := blk_frozen BK240.out 1
     have hfz10_2 := blk_frozen BK240.out 2
     have hfz10_3 := blk_frozen BK240.out 3
     have hfz10_4 := blk_frozen BK240.out 4
     go_wp2
     repeat (go_quiet (fail); try go_wp2)
     go_ret
     exact ⟨by first | rfl | (simp [errW_none, errW_some] <;> rfl) | (simp [*, errW_none, errW_some] <;> rfl), by repeat (first | (with_reducible first | exact HB.out | apply below_alloc | apply pw_below_drewN | apply below_drew1 | refine below_set ?_ GE240.out) | exact HB.out)⟩
   ·replace c7 := Bool.eq_false_iff.mpr c7
    subst c7
    have H1 : (boltingref04_Row.l0 kj1 0 a0_0 a0_1 a0_2 a0_3 l0_4) = some r := by rw [if_neg (show ¬ (false = true) by decide)] at H; exact H
    clear H
    have H := H1
    clear H1
    have H' := Aside0.mk H
    clear H
    go_wp2
    repeat (go_quiet (fail); try go_wp2)
    go_loopg [3] kj1 (fun kq v3 w' => ∃ (x3_2 : Int), v3 = .int .i64 x3_2 ∧ Aside0 (boltingref04_Row.l0 kq x3_2 a0_0 a0_1 a0_2 a0_3 l0_4 = some r) ∧ Aside0 (kq ≤ kj1) ∧ Aside0 (w'.heap[gb240]? = some (.cells #[.int .i64 a0_0, .int .i64 a0_1, .string a0_2, .string a0_3, (.slice A0_4 l0_4.length c0_4)] 54 (0, 0))) ∧ Aside0 (Below w.heap.size w w'))
    case atStart => exact ⟨(0), aE, H', ⟨Nat.le_refl _⟩, ⟨aK BK240⟩, ⟨by repeat (first | (with_reducible first | exact HB.out | apply below_alloc | apply pw_below_drewN | apply below_drew1 | refine below_set ?_ GE240.out) | exact HB.out)⟩⟩
    case round =>
     clear H'
     try clear p2
     try clear c4
     try clear c4b0
     try clear c4b1
     try clear c7
     try clear c8
     try clear c8b0
     try clear c8b1
     try clear c9
     try clear hcz10_0
     try clear hcz10_1
     try clear hcz10_2
     try clear hcz10_3
     try clear hcz10_4
     try clear hcz5_0
     try clear hcz5_1
     try clear hcz5_2
     try clear hcz5_3
     try clear hcz5_4
     try clear hcz6_0
     try clear hcz6_1
     try clear hcz6_2
     try clear hcz6_3
     try clear hcz6_4
     try clear hcz9_0
     try clear hcz9_1
     try clear hcz9_2
     try clear hcz9_3
     try clear hcz9_4
     try clear hfz10_0
     try clear hfz10_1
     try clear hfz10_2
     try clear hfz10_3
     try clear hfz10_4
     try clear hfz5_0
     try clear hfz5_1
     try clear hfz5_2
     try clear hfz5_3
     try clear hfz5_4
     try clear hfz6_0
     try clear hfz6_1
     try clear hfz6_2
     try clear hfz6_3
     try clear hfz6_4
     try clear hfz9_0
     try clear hfz9_1
     try clear hfz9_2
     try clear hfz9_3
     try clear hfz9_4
     try clear p2
     obtain ⟨x3_2, rfl, HA, HK2, BK240, HB⟩ := hrel
     cases gk with
     | zero => exact absurd HA.out (by simp [boltingref04_Row.l0])
     | succ k2 =>
      have H := HA.out
      clear HA
      simp only [boltingref04_Row.l0] at H
      by_cases c11 : x3_2 < (l0_4.length : Int)
      ·rw [if_pos c11] at H
       have c11b0 : decide (x3_2 < (l0_4.length : Int)) = true := decide_eq_true c11
       clear c11
       have H' := Aside0.mk H
       clear H
       have hcz12_0 : wr.cell? ⟨gb240, 0, none⟩ = some (.int .i64 a0_0) := (blk_cell BK240.out 0).trans rfl
       have hcz12_1 : wr.cell? ⟨gb240, 1, none⟩ = some (.int .i64 a0_1) := (blk_cell BK240.out 1).trans rfl
       have hcz12_2 : wr.cell? ⟨gb240, 2, none⟩ = some (.string a0_2) := (blk_cell BK240.out 2).trans rfl
       have hcz12_3 : wr.cell? ⟨gb240, 3, none⟩ = some (.string a0_3) := (blk_cell BK240.out 3).trans rfl
       have hcz12_4 : wr.cell? ⟨gb240, 4, none⟩ = some (.slice A0_4 l0_4.length c0_4) := (blk_cell BK240.out 4).trans rfl
       have hfz12_0 := blk_frozen BK240.out 0
       have hfz12_1 := blk_frozen BK240.out 1
       have hfz12_2 := blk_frozen BK240.out 2
       have hfz12_3 := blk_frozen BK240.out 3
       have hfz12_4 := blk_frozen BK240.out 4
       go_wp2
       repeat (go_quiet (fail); try go_wp2)
       go_loopg [4] k2 (fun kq v4 w' => ∃ (x4_3 : Int), v4 = .int .i64 x4_3 ∧ Aside0 (boltingref04_Row.l1 kq x3_2 x4_3 a0_0 a0_1 a0_2 a0_3 l0_4 = some r) ∧ Aside0 (kq ≤ k2) ∧ Aside0 (w'.heap[gb240]? = some (.cells #[.int .i64 a0_0, .int .i64 a0_1, .string a0_2, .string a0_3, (.slice A0_4 l0_4.length c0_4)] 54 (0, 0))) ∧ Aside0 (Below w.heap.size w w'))
       case atStart => exact ⟨(0), aE, H', ⟨Nat.le_refl _⟩, ⟨aK BK240⟩, ⟨by repeat (first | (with_reducible first | exact HB.out | apply below_alloc | apply pw_below_drewN | apply below_drew1 | refine below_set ?_ GE240.out) | exact HB.out)⟩⟩
       case round =>
        clear H'
        try clear c1
        try clear p2
        try clear c4
        try clear c4b0
        try clear c4b1
        try clear c7
        try clear c8
        try clear c8b0
        try clear c8b1
        try clear c9
        try clear c11
        try clear c11b0
        try clear hcz10_0
        try clear hcz10_1
        try clear hcz10_2
        try clear hcz10_3
        try clear hcz10_4
        try clear hcz12_0
        try clear hcz12_1
        try clear hcz12_2
        try clear hcz12_3
        try clear hcz12_4
        try clear hcz5_0
        try clear hcz5_1
        try clear hcz5_2
        try clear hcz5_3
        try clear hcz5_4
        try clear hcz6_0
        try clear hcz6_1
        try clear hcz6_2
        try clear hcz6_3
        try clear hcz6_4
        try clear hcz9_0
        try clear hcz9_1
        try clear hcz9_2
        try clear hcz9_3
        try clear hcz9_4
        try clear hfz10_0
        try clear hfz10_1
        try clear hfz10_2
        try clear hfz10_3
        try clear hfz10_4
        try clear hfz12_0
        try clear hfz12_1
        try clear hfz12_2
        try clear hfz12_3
        try clear hfz12_4
        try clear hfz5_0
        try clear hfz5_1
        try clear hfz5_2
        try clear hfz5_3
        try clear hfz5_4
        try clear hfz6_0
        try clear hfz6_1
        try clear hfz6_2
        try clear hfz6_3
        try clear hfz6_4
        try clear hfz9_0
        try clear hfz9_1
        try clear hfz9_2
        try clear hfz9_3
        try clear hfz9_4
        try clear p2
        obtain ⟨x4_3, rfl, HA, HK3, BK240, HB⟩ := hrel
        cases gk with
        | zero => exact absurd HA.out (by simp [boltingref04_Row.l1])
        | succ k3 =>
         have H := HA.out
         clear HA
         simp only [boltingref04_Row.l1] at H
         by_cases c13 : x4_3 < x3_2
         ·rw [if_pos c13] at H
          have c13b0 : decide (x4_3 < x3_2) = true := decide_eq_true c13
          clear c13
          by_cases c14 : 0 ≤ x3_2
          ·rw [if_pos c14] at H
           have c14b0 : decide (0 ≤ x3_2) = true := decide_eq_true c14
           clear c14
           by_cases c15 : x3_2 < (l0_4.length : Int)
           ·rw [if_pos c15] at H
            have c15b0 : decide (x3_2 < (l0_4.length : Int)) = true := decide_eq_true c15
            clear c15
            by_cases c16 : 0 ≤ x4_3
            ·rw [if_pos c16] at H
             have c16b0 : decide (0 ≤ x4_3) = true := decide_eq_true c16
             clear c16
             by_cases c17 : x4_3 < (l0_4.length : Int)
             ·rw [if_pos c17] at H
              have c17b0 : decide (x4_3 < (l0_4.length : Int)) = true := decide_eq_true c17
              clear c17
              by_cases c18 : ((rd_T52 l0_4 x3_2).f0).toList = ((rd_T52 l0_4 x4_3).f0).toList
              ·rw [if_pos c18] at H
               have c18b0 : (((rd_T52 l0_4 x3_2).f0).toList == ((rd_T52 l0_4 x4_3).f0).toList) = true := beq_iff_eq.mpr c18
               have c18b1 : (((rd_T52 l0_4 x3_2).f0).toList != ((rd_T52 l0_4 x4_3).f0).toList) = false := bne_eq_false_iff_eq.mpr c18
               clear c18
               obtain rfl := Option.some.inj H
               have hcz19_0 : wr.cell? ⟨gb240, 0, none⟩ = some (.int .i64 a0_0) := (blk_cell BK240.out 0).trans rfl
               have hcz19_1 : wr.cell? ⟨gb240, 1, none⟩ = some (.int .i64 a0_1) := (blk_cell BK240.out 1).trans rfl
               have hcz19_2 : wr.cell? ⟨gb240, 2, none⟩ = some (.string a0_2) := (blk_cell BK240.out 2).trans rfl
               have hcz19_3 : wr.cell? ⟨gb240, 3, none⟩ = some (.string a0_3) := (blk_cell BK240.out 3).trans rfl
               have hcz19_4 : wr.cell? ⟨gb240, 4, none⟩ = some (.slice A0_4 l0_4.length c0_4) := (blk_cell BK240.out 4).trans rfl
               have hfz19_0 := blk_frozen BK240.out 0
               have hfz19_1 := blk_frozen BK240.out 1
               have hfz19_2 := blk_frozen BK240.out 2
               have hfz19_3 := blk_frozen BK240.out 3
               have hfz19_4 := blk_frozen BK240.out 4
               have p241 : 0 ≤ (x3_2 : Int) := of_decide_eq_true aA
               have q241 : x3_2 < (l0_4.length : Int) := of_decide_eq_true aA
               obtain ⟨ad241, e241, hx241_0, hx241_1⟩ := at_T52 HR0_4.out x3_2 p241 q241
               cases e241
               replace hx241_0 := (HB.out.cell (World.block_lt_of_cell? w _ hx241_0)).trans hx241_0
               replace hx241_1 := (HB.out.cell (World.block_lt_of_cell? w _ hx241_1)).trans hx241_1
               replace p241 := eq_true p241
               replace q241 := eq_true q241
               have p242 : 0 ≤ (x4_3 : Int) := of_decide_eq_true aA
               have q242 : x4_3 < (l0_4.length : Int) := of_decide_eq_true aA
               obtain ⟨ad242, e242, hx242_0, hx242_1⟩ := at_T52 HR0_4.out x4_3 p242 q242
               obtain rfl : ad241 = ad242 := (by injection e242)
               replace hx242_0 := (HB.out.cell (World.block_lt_of_cell? w _ hx242_0)).trans hx242_0
               replace hx242_1 := (HB.out.cell (World.block_lt_of_cell? w _ hx242_1)).trans hx242_1
               replace p242 := eq_true p242
               replace q242 := eq_true q242
               go_wp2
               repeat (go_quiet (fail); try go_wp2)
               go_ret
               exact ⟨by first | rfl | (simp [errW_none, errW_some] <;> rfl) | (simp [*, errW_none, errW_some] <;> rfl), by repeat (first | (with_reducible first | exact HB.out | apply below_alloc | apply pw_below_drewN | apply below_drew1 | refine below_set ?_ GE240.out) | exact HB.out)⟩
              ·rw [if_neg c18] at H
               have c18b0 : (((rd_T52 l0_4 x3_2).f0).toList == ((rd_T52 l0_4 x4_3).f0).toList) = false := beq_eq_false_iff_ne.mpr c18
               have c18b1 : (((rd_T52 l0_4 x3_2).f0).toList != ((rd_T52 l0_4 x4_3).f0).toList) = true := bne_iff_ne.mpr c18
               have H' := Aside0.mk H
               clear H
               have hcz20_0 : wr.cell? ⟨gb240, 0, none⟩ = some (.int .i64 a0_0) := (blk_cell BK240.out 0).trans rfl
               have hcz20_1 : wr.cell? ⟨gb240, 1, none⟩ = some (.int .i64 a0_1) := (blk_cell BK240.out 1).trans rfl
               have hcz20_2 : wr.cell? ⟨gb240, 2, none⟩ = some (.string a0_2) := (blk_cell BK240.out 2).trans rfl
               have hcz20_3 : wr.cell? ⟨gb240, 3, none⟩ = some (.string a0_3) := (blk_cell BK240.out 3).trans rfl
               have hcz20_4 : wr.cell? ⟨gb240, 4, none⟩ = some (.slice A0_4 l0_4.length c0_4) := (blk_cell BK240.out 4).trans rfl
               have hfz20_0 := blk_frozen BK240.out 0
               have hfz20_1 := blk_frozen BK240.out 1
               have hfz20_2 := blk_frozen BK240.out 2
               have hfz20_3 := blk_frozen BK240.out 3
               have hfz20_4 := blk_frozen BK240.out 4
               have p241 : 0 ≤ (x3_2 : Int) := of_decide_eq_true aA
               have q241 : x3_2 < (l0_4.length : Int) := of_decide_eq_true aA
               obtain ⟨ad241, e241, hx241_0, hx241_1⟩ := at_T52 HR0_4.out x3_2 p241 q241
               cases e241
               replace hx241_0 := (HB.out.cell (World.block_lt_of_cell? w _ hx241_0)).trans hx241_0
               replace hx241_1 := (HB.out.cell (World.block_lt_of_cell? w _ hx241_1)).trans hx241_1
               replace p241 := eq_true p241
               replace q241 := eq_true q241
               have p242 : 0 ≤ (x4_3 : Int) := of_decide_eq_true aA
               have q242 : x4_3 < (l0_4.length : Int) := of_decide_eq_true aA
               obtain ⟨ad242, e242, hx242_0, hx242_1⟩ := at_T52 HR0_4.out x4_3 p242 q242
               obtain rfl : ad241 = ad242 := (by injection e242)
               replace hx242_0 := (HB.out.cell (World.block_lt_of_cell? w _ hx242_0)).trans hx242_0
               replace hx242_1 := (HB.out.cell (World.block_lt_of_cell? w _ hx242_1)).trans hx242_1
               replace p242 := eq_true p242
               replace q242 := eq_true q242
               go_wp2
               repeat (go_quiet (fail); try go_wp2)
               go_roundg k3
               case measure => have := HJ1.out; have := HK2.out; have := HK3.out; omega
               case rel => exact ⟨(wrap64 (x4_3 + 1)), aE, H', ⟨by have := HJ1.out; have := HK2.out; have := HK3.out; omega⟩, ⟨aK BK240⟩, ⟨by repeat (first | (with_reducible first | exact HB.out | apply below_alloc | apply pw_below_drewN | apply below_drew1 | refine below_set ?_ GE240.out) | exact HB.out)⟩⟩
             ·rw [if_neg c17] at H
              exact absurd H (by simp)
            ·rw [if_neg c16] at H
             exact absurd H (by simp)
           ·rw [if_neg c15] at H
            exact absurd H (by simp)
          ·rw [if_neg c14] at H
           exact absurd H (by simp)
         ·rw [if_neg c13] at H
          have c13b0 : decide (x4_3 < x3_2) = false := decide_eq_false c13
          clear c13
          have H' := Aside0.mk H
          clear H
          go_wp2
          repeat (go_quiet (fail); try go_wp2)
          go_roundg k3
          case measure => have := HJ1.out; have := HK2.out; have := HK3.out; omega
          case rel => exact ⟨(wrap64 (x3_2 + 1)), aE, H', ⟨by have := HJ1.out; have := HK2.out; have := HK3.out; omega⟩, ⟨aK BK240⟩, ⟨by repeat (first | (with_reducible first | exact HB.out | apply below_alloc | apply pw_below_drewN | apply below_drew1 | refine below_set ?_ GE240.out) | exact HB.out)⟩⟩
      ·rw [if_neg c11] at H
       have c11b0 : decide (x3_2 < (l0_4.length : Int)) = false := decide_eq_false c11
       clear c11
       by_cases c21 : a0_1 = 0
       ·rw [if_pos c21] at H
        have c21b0 : (a0_1 == 0) = true := beq_iff_eq.mpr c21
        have c21b1 : (a0_1 != 0) = false := bne_eq_false_iff_eq.mpr c21
        clear c21
        by_cases c22 : a0_2.toList = ([] : List UInt8)
        ·rw [if_pos c22] at H
         have c22b0 : (a0_2.toList == ([] : List UInt8)) = true := beq_iff_eq.mpr c22
         have c22b1 : (a0_2.toList != ([] : List UInt8)) = false := bne_eq_false_iff_eq.mpr c22
         clear c22
         obtain rfl := Option.some.inj H
         have hcz23_0 : wr.cell? ⟨gb240, 0, none⟩ = some (.int .i64 a0_0) := (blk_cell BK240.out 0).trans rfl
         have hcz23_1 : wr.cell? ⟨gb240, 1, none⟩ = some (.int .i64 a0_1) := (blk_cell BK240.out 1).trans rfl
         have hcz23_2 : wr.cell? ⟨gb240, 2, none⟩ = some (.string a0_2) := (blk_cell BK240.out 2).trans rfl
         have hcz23_3 : wr.cell? ⟨gb240, 3, none⟩ = some (.string a0_3) := (blk_cell BK240.out 3).trans rfl
         have hcz23_4 : wr.cell? ⟨gb240, 4, none⟩ = some (.slice A0_4 l0_4.length c0_4) := (blk_cell BK240.out 4).trans rfl
         have hfz23_0 := blk_frozen BK240.out 0
         have hfz23_1 := blk_frozen BK240.out 1
         have hfz23_2 := blk_frozen BK240.out 2
         have hfz23_3 := blk_frozen BK240.out 3
         have hfz23_4 := blk_frozen BK240.out 4
         go_wp2
         repeat (go_quiet (fail); try go_wp2)
         go_ret
         exact ⟨by first | rfl | (simp [errW_none, errW_some] <;> rfl) | (simp [*, errW_none, errW_some] <;> rfl), by repeat (first | (with_reducible first | exact HB.out | apply below_alloc | apply pw_below_drewN | apply below_drew1 | refine below_set ?_ GE240.out) | exact HB.out)⟩
        ·rw [if_neg c22] at H
         have c22b0 : (a0_2.toList == ([] : List UInt8)) = false := beq_eq_false_iff_ne.mpr c22
         have c22b1 : (a0_2.toList != ([] : List UInt8)) = true := bne_iff_ne.mpr c22
         obtain rfl := Option.some.inj H
         have hcz24_0 : wr.cell? ⟨gb240, 0, none⟩ = some (.int .i64 a0_0) := (blk_cell BK240.out 0).trans rfl
         have hcz24_1 : wr.cell? ⟨gb240, 1, none⟩ = some (.int .i64 a0_1) := (blk_cell BK240.out 1).trans rfl
         have hcz24_2 : wr.cell? ⟨gb240, 2, none⟩ = some (.string a0_2) := (blk_cell BK240.out 2).trans rfl
         have hcz24_3 : wr.cell? ⟨gb240, 3, none⟩ = some (.string a0_3) := (blk_cell BK240.out 3).trans rfl
         have hcz24_4 : wr.cell? ⟨gb240, 4, none⟩ = some (.slice A0_4 l0_4.length c0_4) := (blk_cell BK240.out 4).trans rfl
         have hfz24_0 := blk_frozen BK240.out 0
         have hfz24_1 := blk_frozen BK240.out 1
         have hfz24_2 := blk_frozen BK240.out 2
         have hfz24_3 := blk_frozen BK240.out 3
         have hfz24_4 := blk_frozen BK240.out 4
         go_wp2
         repeat (go_quiet (fail); try go_wp2)
         go_ret
         exact ⟨by first | rfl | (simp [errW_none, errW_some] <;> rfl) | (simp [*, errW_none, errW_some] <;> rfl), by repeat (first | (with_reducible first | exact HB.out | apply below_alloc | apply pw_below_drewN | apply below_drew1 | refine below_set ?_ GE240.out) | exact HB.out)⟩
       ·rw [if_neg c21] at H
        have c21b0 : (a0_1 == 0) = false := beq_eq_false_iff_ne.mpr c21
        have c21b1 : (a0_1 != 0) = true := bne_iff_ne.mpr c21
        obtain rfl := Option.some.inj H
        have hcz25_0 : wr.cell? ⟨gb240, 0, none⟩ = some (.int .i64 a0_0) := (blk_cell BK240.out 0).trans rfl
        have hcz25_1 : wr.cell? ⟨gb240, 1, none⟩ = some (.int .i64 a0_1) := (blk_cell BK240.out 1).trans rfl
        have hcz25_2 : wr.cell? ⟨gb240, 2, none⟩ = some (.string a0_2) := (blk_cell BK240.out 2).trans rfl
        have hcz25_3 : wr.cell? ⟨gb240, 3, none⟩ = some (.string a0_3) := (blk_cell BK240.out 3).trans rfl
        have hcz25_4 : wr.cell? ⟨gb240, 4, none⟩ = some (.slice A0_4 l0_4.length c0_4) := (blk_cell BK240.out 4).trans rfl
        have hfz25_0 := blk_frozen BK240.out 0
        have hfz25_1 := blk_frozen BK240.out 1
        have hfz25_2 := blk_frozen BK240.out 2
        have hfz25_3 := blk_frozen BK240.out 3
        have hfz25_4 := blk_frozen BK240.out 4
        go_wp2
        repeat (go_quiet (fail); try go_wp2)
        go_ret
        exact ⟨by first | rfl | (simp [errW_none, errW_some] <;> rfl) | (simp [*, errW_none, errW_some] <;> rfl), by repeat (first | (with_reducible first | exact HB.out | apply below_alloc | apply pw_below_drewN | apply below_drew1 | refine below_set ?_ GE240.out) | exact HB.out)⟩

end Go.Proofs.Ytpkaliaaffgbdaa.QA
