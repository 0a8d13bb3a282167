-- Written by a program of this claim's own (wip/gen/gen.py), out of the translation; an ordinary proof text.
import Derived.Test.YtllggaogjcknoaaQAx0
import Derived.Test.YtllggaogjcknoaaQAx1
namespace Go.Proofs.Ytllggaogjcknoaa.QA
open Go.RowKit Go.Proofs.YtllggaogjcknoaaW.PrintWords Go.Proofs.YtllggaogjcknoaaW.PrintLast Go.Proofs.YtllggaogjcknoaaW.PrintMore
attribute [local go_sem] max2_int min2_int max_two min_two max_three min_three max_four min_four   -- for this text's walks alone
set_option linter.unusedVariables false
set_option linter.unusedSimpArgs false

attribute [local go_sem high] eqA46
/-! ### rows_attrs: function 41 -/
def rows_attrs.l0 : Nat → List (S46) → List (S46) → Int → Int → Option (Bool)
 | 0, _, _, _, _ => none
 | k + 1, x0, x1, x10, x11 => if x11 < x10 then (if 0 ≤ x11 then (if x11 < (x0.length : Int) then (if x11 < (x1.length : Int) then (if (!((((rd_T46 x0 x11).f0).toList) == (((rd_T46 x1 x11).f0).toList)) || (!((((rd_T46 x0 x11).f1).toList) == (((rd_T46 x1 x11).f1).toList)))) = true then (some false) else (rows_attrs.l0 k x0 x1 x10 (wrap64 (x11 + 1)))) else (none)) else (none)) else (none)) else (some ((x0.length : Int) == (x1.length : Int)))
def rows_attrs.f (k : Nat) (l0 : List (S46)) (l1 : List (S46)) : Option (Bool) := rows_attrs.l0 k l0 l1 (mn (l0.length : Int) (l1.length : Int)) 0
theorem rows_attrs.mono_l : ∀ k, (∀ y0 y1 y2 y3, LeO (rows_attrs.l0 k y0 y1 y2 y3) (rows_attrs.l0 (k + 1) y0 y1 y2 y3))
 | 0 => fun _ _ _ _ r h => by simp [rows_attrs.l0] at h
 | k + 1 => by
  have ih0 := rows_attrs.mono_l k
  ·intro y0 y1 y2 y3
   unfold rows_attrs.l0
   repeat' first
   | (with_reducible exact ih0 _ _ _ _)
   | (with_reducible exact LeO.refl _)
   | (with_reducible exact LeO.none _)
   | (with_reducible refine LeO.ite ?_ ?_)
   | (with_reducible refine LeO.bind ?_ (fun _ => ?_))
   | exact ih0 _ _ _ _
   | exact LeO.none _
   | refine LeO.ite ?_ ?_
   | refine LeO.bind ?_ (fun _ => ?_)
theorem rows_attrs.mono : ∀ a0 a1 k, LeO (rows_attrs.f k a0 a1) (rows_attrs.f (k + 1) a0 a1) := by
 intro a0 a1 k
 have ih0 := rows_attrs.mono_l k
 unfold rows_attrs.f
 repeat' first
   | (with_reducible exact ih0 _ _ _ _)
   | (with_reducible exact LeO.refl _)
   | (with_reducible exact LeO.none _)
   | (with_reducible refine LeO.ite ?_ ?_)
   | (with_reducible refine LeO.bind ?_ (fun _ => ?_))
   | exact ih0 _ _ _ _
   | exact LeO.none _
   | refine LeO.ite ?_ ?_
   | refine LeO.bind ?_ (fun _ => ?_)
set_option maxHeartbeats 8000000 in
set_option maxRecDepth 100000 in
theorem rows_attrs.calls (k : Nat) (A0 : Option Addr) (c0 : Nat) (l0 : List (S46)) (A1 : Option Addr) (c1 : Nat) (l1 : List (S46)) (r : Bool) (w : World) (hr0 : Kd.C k46 w A0 l0.length l0) (hc0 : l0.length ≤ c0) (hr1 : Kd.C k46 w A1 l1.length l1) (hc1 : l1.length ≤ c1) (h : rows_attrs.f k l0 l1 = some r) :
  Calls Try.prog 41 #[.slice A0 l0.length c0, .slice A1 l1.length c1] w fun e w' => e = .returned (.bool r) ∧ Below w.heap.size w w' := by
 have hu46 := Try.underlying46
 have HR0 := Aside0.mk hr0
 have HC0 := Aside0.mk hc0
 clear hr0 hc0
 have HR1 := Aside0.mk hr1
 have HC1 := Aside0.mk hc1
 clear hr1 hc1
 have HB := Aside0.mk (Below.refl w.heap.size w)
 have H : (rows_attrs.l0 k l0 l1 (mn (l0.length : Int) (l1.length : Int)) 0) = some r := h
 clear h
 obtain ⟨ji3, hji3⟩ : ∃ j_ : Int, (mn (l0.length : Int) (l1.length : Int)) = j_ := ⟨_, rfl⟩
 replace H : (rows_attrs.l0 k l0 l1 ji3 0) = some r := by first | (rw [hji3] at H; exact H) | (simp only [hji3] at H ⊢; exact H)
 (try (have hji3l : 0 ≤ ji3 := by (rw [← hji3]; unfold mn; (repeat' split) <;> omega)))
 (try (have hji3m : 0 ≤ ji3 := by omega))
 have hji3_ : (if (l1.length : Int) < (l0.length : Int) then (l1.length : Int) else (l0.length : Int)) = ji3 := hji3
 (try (have hji3__ : (if l1.length < l0.length then (l1.length : Int) else (l0.length : Int)) = ji3 := by rw [← hji3]; unfold mn; split <;> split <;> omega))
 have H' := Aside0.mk H
 clear H
 go_enter Try.func41, Try.ntmps41
 go_wp2
 repeat (go_quiet (fail); try go_wp2)
 go_loopg [11] k (fun kq v11 w' => ∃ (x11_1 : Int), v11 = .int .i64 x11_1 ∧ Aside0 (rows_attrs.l0 kq l0 l1 ji3 x11_1 = some r) ∧ Aside0 (kq ≤ k) ∧ Aside0 (Below w.heap.size w w'))
 case atStart => exact ⟨(0), aE, H', ⟨Nat.le_refl _⟩, ⟨aB HB⟩⟩
 case round =>
  clear H'
  try clear c1
  try clear p2
  obtain ⟨x11_1, rfl, HA, HK1, HB⟩ := hrel
  cases gk with
  | zero => exact absurd HA.out (by simp [rows_attrs.l0])
  | succ k1 =>
   have H := HA.out
   clear HA
   simp only [rows_attrs.l0] at H
   by_cases c4 : x11_1 < ji3
   ·rw [if_pos c4] at H
    have c4b0 : decide (x11_1 < ji3) = true := decide_eq_true c4
    clear c4
    by_cases c5 : 0 ≤ x11_1
    ·rw [if_pos c5] at H
     have c5b0 : decide (0 ≤ x11_1) = true := decide_eq_true c5
     clear c5
     by_cases c6 : x11_1 < (l0.length : Int)
     ·rw [if_pos c6] at H
      have c6b0 : decide (x11_1 < (l0.length : Int)) = true := decide_eq_true c6
      clear c6
      by_cases c7 : x11_1 < (l1.length : Int)
      ·rw [if_pos c7] at H
       have c7b0 : decide (x11_1 < (l1.length : Int)) = true := decide_eq_true c7
       clear c7
       by_cases c8 : (!((((rd_T46 l0 x11_1).f0).toList) == (((rd_T46 l1 x11_1).f0).toList)) || (!((((rd_T46 l0 x11_1).f1).toList) == (((rd_T46 l1 x11_1).f1).toList)))) = true
       ·rw [if_pos c8] at H
        have c8b0 : (!((((rd_T46 l0 x11_1).f0).toList) == (((rd_T46 l1 x11_1).f0).toList)) || (!((((rd_T46 l0 x11_1).f1).toList) == (((rd_T46 l1 x11_1).f1).toList)))) = true := c8
        clear c8
        obtain rfl := Option.some.inj H
        have p101 : 0 ≤ (x11_1 : Int) := of_decide_eq_true aA
        have q101 : x11_1 < (l0.length : Int) := of_decide_eq_true aA
        obtain ⟨ad101, e101, hx101_0, hx101_1⟩ := at_T46 HR0.out x11_1 p101 q101
        cases e101
        replace hx101_0 := (HB.out.cell (World.block_lt_of_cell? w _ hx101_0)).trans hx101_0
        replace hx101_1 := (HB.out.cell (World.block_lt_of_cell? w _ hx101_1)).trans hx101_1
        replace p101 := eq_true p101
        replace q101 := eq_true q101
        have p102 : 0 ≤ (x11_1 : Int) := of_decide_eq_true aA
        have q102 : x11_1 < (l1.length : Int) := of_decide_eq_true aA
        obtain ⟨ad102, e102, hx102_0, hx102_1⟩ := at_T46 HR1.out x11_1 p102 q102
        cases e102
        replace hx102_0 := (HB.out.cell (World.block_lt_of_cell? w _ hx102_0)).trans hx102_0
        replace hx102_1 := (HB.out.cell (World.block_lt_of_cell? w _ hx102_1)).trans hx102_1
        replace p102 := eq_true p102
        replace q102 := eq_true q102
        go_wp2
        repeat (go_quiet (fail); try go_wp2)
        go_ret
        exact ⟨by first | rfl | (simp [errW_none, errW_some] <;> rfl) | (simp only [← hji3]; first | rfl | (simp [errW_none, errW_some] <;> rfl)) | (simp [*, errW_none, errW_some] <;> rfl), aB HB⟩
       ·rw [if_neg c8] at H
        have c8b0 : (!((((rd_T46 l0 x11_1).f0).toList) == (((rd_T46 l1 x11_1).f0).toList)) || (!((((rd_T46 l0 x11_1).f1).toList) == (((rd_T46 l1 x11_1).f1).toList)))) = false := by simpa using c8
        clear c8
        have H' := Aside0.mk H
        clear H
        have p101 : 0 ≤ (x11_1 : Int) := of_decide_eq_true aA
        have q101 : x11_1 < (l0.length : Int) := of_decide_eq_true aA
        obtain ⟨ad101, e101, hx101_0, hx101_1⟩ := at_T46 HR0.out x11_1 p101 q101
        cases e101
        replace hx101_0 := (HB.out.cell (World.block_lt_of_cell? w _ hx101_0)).trans hx101_0
        replace hx101_1 := (HB.out.cell (World.block_lt_of_cell? w _ hx101_1)).trans hx101_1
        replace p101 := eq_true p101
        replace q101 := eq_true q101
        have p102 : 0 ≤ (x11_1 : Int) := of_decide_eq_true aA
        have q102 : x11_1 < (l1.length : Int) := of_decide_eq_true aA
        obtain ⟨ad102, e102, hx102_0, hx102_1⟩ := at_T46 HR1.out x11_1 p102 q102
        cases e102
        replace hx102_0 := (HB.out.cell (World.block_lt_of_cell? w _ hx102_0)).trans hx102_0
        replace hx102_1 := (HB.out.cell (World.block_lt_of_cell? w _ hx102_1)).trans hx102_1
        replace p102 := eq_true p102
        replace q102 := eq_true q102
        go_wp2
        repeat (go_quiet (fail); try go_wp2)
        go_roundg k1
        case measure => have := HK1.out; omega
        case rel => exact ⟨(wrap64 (x11_1 + 1)), aE, H', ⟨by have := HK1.out; omega⟩, ⟨aB HB⟩⟩
      ·rw [if_neg c7] at H
       exact absurd H (by simp)
     ·rw [if_neg c6] at H
      exact absurd H (by simp)
    ·rw [if_neg c5] at H
     exact absurd H (by simp)
   ·rw [if_neg c4] at H
    have c4b0 : decide (x11_1 < ji3) = false := decide_eq_false c4
    clear c4
    obtain rfl := Option.some.inj H
    go_wp2
    repeat (go_quiet (fail); try go_wp2)
    go_ret
    exact ⟨by first | rfl | (simp [errW_none, errW_some] <;> rfl) | (simp only [← hji3]; first | rfl | (simp [errW_none, errW_some] <;> rfl)) | (simp [*, errW_none, errW_some] <;> rfl), aB HB⟩

/-! ### boltinglaw04_bound: function 11 -/
def boltinglaw04_bound.l0 : Nat → List (S43) → List (S43) → Int → Option ((List (S43)))
 | 0, _, _, _ => none
 | k + 1, x0, x3, x4 => if x4 < (x0.length : Int) then (if x4 < 60 then (if 0 ≤ x4 then (if 0 ≤ (mn (((rd_T43 x0 x4).f4).length : Int) 8) then (if (mn (((rd_T43 x0 x4).f4).length : Int) 8) ≤ (((rd_T43 x0 x4).f4).length : Int) then (if x3.length < 1954687338268 then (boltinglaw04_bound.l0 k x0 (x3 ++ [(⟨(rd_T43 x0 x4).f0, (rd_T43 x0 x4).f1, (rd_T43 x0 x4).f2, (rd_T43 x0 x4).f3, (((rd_T43 x0 x4).f4).take ((mn (((rd_T43 x0 x4).f4).length : Int) 8) : Int).toNat)⟩ : S43)]) (wrap64 (x4 + 1))) else (none)) else (none)) else (none)) else (none)) else (some x3)) else (some x3)
def boltinglaw04_bound.f (k : Nat) (l0 : List (S43)) : Option ((List (S43))) := boltinglaw04_bound.l0 k l0 (([] : List (S43))) 0
theorem boltinglaw04_bound.mono_l : ∀ k, (∀ y0 y1 y2, LeO (boltinglaw04_bound.l0 k y0 y1 y2) (boltinglaw04_bound.l0 (k + 1) y0 y1 y2))
 | 0 => fun _ _ _ r h => by simp [boltinglaw04_bound.l0] at h
 | k + 1 => by
  have ih0 := boltinglaw04_bound.mono_l k
  ·intro y0 y1 y2
   unfold boltinglaw04_bound.l0
   repeat' first
   | (with_reducible exact ih0 _ _ _)
   | (with_reducible exact LeO.refl _)
   | (with_reducible exact LeO.none _)
   | (with_reducible refine LeO.ite ?_ ?_)
   | (with_reducible refine LeO.bind ?_ (fun _ => ?_))
   | exact ih0 _ _ _
   | exact LeO.none _
   | refine LeO.ite ?_ ?_
   | refine LeO.bind ?_ (fun _ => ?_)
theorem boltinglaw04_bound.mono : ∀ a0 k, LeO (boltinglaw04_bound.f k a0) (boltinglaw04_bound.f (k + 1) a0) := by
 intro a0 k
 have ih0 := boltinglaw04_bound.mono_l k
 unfold boltinglaw04_bound.f
 repeat' first
   | (with_reducible exact ih0 _ _ _)
   | (with_reducible exact LeO.refl _)
   | (with_reducible exact LeO.none _)
   | (with_reducible refine LeO.ite ?_ ?_)
   | (with_reducible refine LeO.bind ?_ (fun _ => ?_))
   | exact ih0 _ _ _
   | exact LeO.none _
   | refine LeO.ite ?_ ?_
   | refine LeO.bind ?_ (fun _ => ?_)
set_option maxHeartbeats 8000000 in
set_option maxRecDepth 100000 in
theorem boltinglaw04_bound.calls (k : Nat) (P0_ : Nat → Prop) (A0 : Option Addr) (c0 : Nat) (l0 : List (S43)) (r : List (S43)) (w : World) (hs0 : Kd.V k43 43 w w.heap.size (fun k_ => P0_ k_) (.slice A0 l0.length c0) l0) (h : boltinglaw04_bound.f k l0 = some r) :
  Calls Try.prog 11 #[.slice A0 l0.length c0] w fun e w' => ∃ v0_ : Value, e = .returned (v0_) ∧ Kd.N k43 43 w' w.heap.size (fun k_ => (P0_ k_ ∨ w.heap.size ≤ k_)) v0_ r ∧ Below w.heap.size w w' := by
 have hu43 := Try.underlying43
 have HO0 := Aside0.mk (show Kd.V k43 43 w w.heap.size (fun k_ => (P0_ k_ ∨ w.heap.size ≤ k_)) (.slice A0 l0.length c0) l0 from Kd.V_mono hs0 (fun k_ hk => .inl hk))
 have HB := Aside0.mk (Below.refl w.heap.size w)
 have H : (boltinglaw04_bound.l0 k l0 (([] : List (S43))) 0) = some r := h
 clear h
 obtain ⟨y103, hy103⟩ : ∃ y_ : List (S43), y_ = (([] : List (S43))) := ⟨_, rfl⟩
 replace H : (boltinglaw04_bound.l0 k l0 y103 0) = some r := by first | (rw [hy103]; with_reducible exact H) | (have H2_ := (Option.bind_some _ _).symm.trans H; rw [hy103]; with_reducible exact H2_) | (have H2_ := (Option.bind_some _ _).symm.trans H; with_reducible exact H2_) | with_reducible exact H | (rw [hy103]; exact H) | exact H
 have Ny103 := Aside0.mk hy103
 clear hy103
 have H' := Aside0.mk H
 clear H
 go_enter Try.func11, Try.ntmps11
 go_wp2_with (first | ((with_reducible refine gate_dst (N := 6) rfl ?_); refine Kd.N_lit k43 _ 43 ?hg (N' := 6) ?hd (xs := ([] : List (S43))) (inner := []) (ok := (fun k_ => (P0_ k_ ∨ w.heap.size ≤ k_))) (okp := (fun k_ => (P0_ k_ ∨ w.heap.size ≤ k_))) ?hr ?hp (fun _ hk => hk) ((show ∀ k_, w.heap.size ≤ k_ → (fun k_ => (P0_ k_ ∨ w.heap.size ≤ k_)) k_ from fun k_ hk => (.inr (Nat.le_trans (below_size (aB HB)) hk))) _ (Nat.le_refl _)) (Below.refl _ _) (Nat.le_refl _) (by simp) ?_; (case hd => rfl); (case hg => rfl); (case hr => first | (go_simp; done) | (go_simp; rfl)); (case hp => exact (Reps.none _ _)); intro v104 w2 ho3 hb hg_ hnew_; clear hg_ hnew_; (first | rw [← Ny103.out] at ho3 | (simp only [Int.reduceToNat] at ho3; rw [← Ny103.out] at ho3)); have n0_ := Aside0.mk (Kd.V_elder' (aV HO0) (aS ho3) hb); have n1_ := Aside0.mk (Kd.N_lower ho3 (below_size (aB HB))); have n2_ := Aside0.mk (below_step (aB HB) hb); clear HO0; clear HB; have HO0 := n0_; have HO105 := n1_; have HB := n2_; clear n0_ n1_ n2_; clear hb ho3))
 go_loopg [3, 4] k (fun kq v3 v4 w' => ∃ (x3_1 : List (S43)) (x4_1 : Int), v4 = .int .i64 x4_1 ∧ Aside0 (boltinglaw04_bound.l0 kq l0 x3_1 x4_1 = some r) ∧ Aside0 (kq ≤ k) ∧ Aside0 (Kd.V k43 43 w' w.heap.size (fun k_ => (P0_ k_ ∨ w.heap.size ≤ k_) ∧ some k_ ≠ (v3 : Value).ownBlock) (.slice A0 l0.length c0) l0) ∧ Aside0 (Kd.N k43 43 w' w.heap.size (fun k_ => (P0_ k_ ∨ w.heap.size ≤ k_)) v3 x3_1) ∧ Aside0 (Below w.heap.size w w'))
 case atStart => exact ⟨(y103), (0), aE, H', ⟨Nat.le_refl _⟩, ⟨aV HO0⟩, ⟨aN HO105⟩, ⟨aB HB⟩⟩
 case round =>
  clear H'
  try clear c1
  try clear p2
  obtain ⟨x3_1, x4_1, rfl, HA, HK1, HO_0, HO_3, HB⟩ := hrel
  cases gk with
  | zero => exact absurd HA.out (by simp [boltinglaw04_bound.l0])
  | succ k1 =>
   have H := HA.out
   clear HA
   simp only [boltinglaw04_bound.l0] at H
   by_cases c4 : x4_1 < (l0.length : Int)
   ·rw [if_pos c4] at H
    have c4b0 : decide (x4_1 < (l0.length : Int)) = true := decide_eq_true c4
    clear c4
    by_cases c5 : x4_1 < 60
    ·rw [if_pos c5] at H
     have c5b0 : decide (x4_1 < 60) = true := decide_eq_true c5
     clear c5
     by_cases c6 : 0 ≤ x4_1
     ·rw [if_pos c6] at H
      have c6b0 : decide (0 ≤ x4_1) = true := decide_eq_true c6
      clear c6
      obtain ⟨ji7, hji7⟩ : ∃ j_ : Int, (mn (((rd_T43 l0 x4_1).f4).length : Int) 8) = j_ := ⟨_, rfl⟩
      replace H : (if 0 ≤ (ji7) then (if (ji7) ≤ (((rd_T43 l0 x4_1).f4).length : Int) then (if x3_1.length < 1954687338268 then (boltinglaw04_bound.l0 k1 l0 (x3_1 ++ [(⟨(rd_T43 l0 x4_1).f0, (rd_T43 l0 x4_1).f1, (rd_T43 l0 x4_1).f2, (rd_T43 l0 x4_1).f3, (((rd_T43 l0 x4_1).f4).take ((ji7) : Int).toNat)⟩ : S43)]) (wrap64 (x4_1 + 1))) else (none)) else (none)) else (none)) = some r := by first | (rw [hji7] at H; exact H) | (simp only [hji7] at H ⊢; exact H)
      have hji7_ : (if 8 < (((rd_T43 l0 x4_1).f4).length : Int) then 8 else (((rd_T43 l0 x4_1).f4).length : Int)) = ji7 := hji7
      by_cases c8 : 0 ≤ (ji7)
      ·rw [if_pos c8] at H
       have c8b0 := eq_true c8
       have c8b1 : decide (0 ≤ (ji7)) = true := decide_eq_true c8
       clear c8
       by_cases c9 : (ji7) ≤ (((rd_T43 l0 x4_1).f4).length : Int)
       ·rw [if_pos c9] at H
        have c9b0 := eq_true c9
        have c9b1 : decide ((ji7) ≤ (((rd_T43 l0 x4_1).f4).length : Int)) = true := decide_eq_true c9
        clear c9
        obtain ⟨y108, hy108⟩ : ∃ y_ : List (S46), y_ = (((rd_T43 l0 x4_1).f4).take ((ji7) : Int).toNat) := ⟨_, rfl⟩
        replace H : (if x3_1.length < 1954687338268 then (boltinglaw04_bound.l0 k1 l0 (x3_1 ++ [(⟨(rd_T43 l0 x4_1).f0, (rd_T43 l0 x4_1).f1, (rd_T43 l0 x4_1).f2, (rd_T43 l0 x4_1).f3, y108⟩ : S43)]) (wrap64 (x4_1 + 1))) else (none)) = some r := by first | (rw [hy108]; with_reducible exact H) | (have H2_ := (Option.bind_some _ _).symm.trans H; rw [hy108]; with_reducible exact H2_) | (have H2_ := (Option.bind_some _ _).symm.trans H; with_reducible exact H2_) | with_reducible exact H | (rw [hy108]; exact H) | exact H
        have Ny108 := Aside0.mk hy108
        clear hy108
        by_cases c10 : x3_1.length < 1954687338268
        ·rw [if_pos c10] at H
         have LMc10 := Aside0.mk c10
         clear c10
         obtain ⟨y113, hy113⟩ : ∃ y_ : List (S43), y_ = (x3_1 ++ [(⟨(rd_T43 l0 x4_1).f0, (rd_T43 l0 x4_1).f1, (rd_T43 l0 x4_1).f2, (rd_T43 l0 x4_1).f3, y108⟩ : S43)]) := ⟨_, rfl⟩
         replace H : (boltinglaw04_bound.l0 k1 l0 y113 (wrap64 (x4_1 + 1))) = some r := by first | (rw [hy113]; with_reducible exact H) | (have H2_ := (Option.bind_some _ _).symm.trans H; rw [hy113]; with_reducible exact H2_) | (have H2_ := (Option.bind_some _ _).symm.trans H; with_reducible exact H2_) | with_reducible exact H | (rw [hy113]; exact H) | exact H
         have Ny113 := Aside0.mk hy113
         clear hy113
         have H' := Aside0.mk H
         clear H
         have p106 : 0 ≤ (x4_1 : Int) := of_decide_eq_true aA
         have q106 : x4_1 < (l0.length : Int) := of_decide_eq_true aA
         obtain ⟨ad106, A106_4, c106_4, e106, hx106_0, hx106_1, hx106_2, hx106_3, hx106_4, hl106_4, hi106_4⟩ := at_T43 (Kd.V_reads' HO_0.out).2.2 x4_1 p106 q106
         cases e106
         obtain ⟨ce106, hce106, hMe106, hcc106⟩ := Kd.V_get HO_0.out z43 x4_1 p106 (by first | exact q106 | exact of_decide_eq_true aA | (have e_ := (Kd.V_reads' HO_0.out).1; omega))
         obtain ⟨ua106_4, uc106_4, rfl, ul106_4, ge106_4⟩ := k43_openF hMe106
         have hv106_4 := hcc106 4 _ rfl
         rw [add_field _ _ 4 (by omega)] at hv106_4
         replace hv106_4 := Option.some.inj (hv106_4.symm.trans hx106_4)
         injection hv106_4 with hva_ hvn_ hvc_
         rw [hva_] at ge106_4
         rw [hvc_] at ul106_4
         have HL106_4 := Aside0.mk (show Kd.V k46 46 _ w.heap.size _ _ ((rd_T43 l0 x4_1).f4) from Kd.V_mk ul106_4 ge106_4)
         clear hva_ hvn_ hvc_ ge106_4 ul106_4
         clear hcc106 hce106
         have HR106_4 := Aside0.mk hi106_4
         have HC106_4 := Aside0.mk hl106_4
         clear hi106_4 hl106_4
         replace p106 := eq_true p106
         replace q106 := eq_true q106
         go_wp2_with (first | ((with_reducible refine gate_dst (N := 5) rfl ?_); refine box_event ?hg (N := 5) ?hd (cs := #[.int .i64 0, .int .i64 0, .string (⟨#[]⟩ : ByteArray), .string (⟨#[]⟩ : ByteArray), .slice none 0 0]) (t := 43) ?hr ?_; (case hd => rfl); (case hg => rfl); (case hr => first | (go_simp; done) | (go_simp; rfl)); intro gb107 hg w11 hbox hb; have n0_ := Aside0.mk (Kd.V_below (Kd.V_elderB (aV HO_0) gb107 (Nat.le_of_eq hg.symm)) hb); have n1_ := Aside0.mk (Kd.N_below (Kd.N_elderB (aN HO_3) gb107 (Nat.le_of_eq hg.symm)) hb); have n2_ := Aside0.mk (Kd.V_below (Kd.V_elderB (aV HL106_4) gb107 (Nat.le_of_eq hg.symm)) hb); have n3_ := Aside0.mk (Kd.C_below (by repeat (first | (with_reducible exact HR106_4.out) | (with_reducible refine Kd.C_alloc ?_ _) | (with_reducible refine Kd.C_drewN ?_ _) | (with_reducible refine Kd.C_drew ?_) | exact HR106_4.out)) hb); have n4_ := Aside0.mk (below_step (aB HB) hb); have n5_ := Aside0.mk (hbox); have n6_ := Aside0.mk ((by rw [hg]; exact (below_size (aB HB)) : w.heap.size ≤ gb107)); have n7_ := Aside0.mk ((by rw [hg]; exact (below_size (aB HB)) : w.heap.size ≤ gb107)); clear HO_0; clear HO_3; clear HL106_4; clear HR106_4; clear HB; have HO_0 := n0_; have HO_3 := n1_; have HL106_4 := n2_; have HR106_4 := n3_; have HB := n4_; have BK107 := n5_; have GW107 := n6_; have GE107 := n7_; clear n0_ n1_ n2_ n3_ n4_ n5_ n6_ n7_; clear hb hbox hg; have hcz12_0 : w11.cell? ⟨gb107, 0, none⟩ = some (.int .i64 0) := (blk_cell BK107.out 0).trans rfl; have hcz12_1 : w11.cell? ⟨gb107, 1, none⟩ = some (.int .i64 0) := (blk_cell BK107.out 1).trans rfl; have hcz12_2 : w11.cell? ⟨gb107, 2, none⟩ = some (.string (⟨#[]⟩ : ByteArray)) := (blk_cell BK107.out 2).trans rfl; have hcz12_3 : w11.cell? ⟨gb107, 3, none⟩ = some (.string (⟨#[]⟩ : ByteArray)) := (blk_cell BK107.out 3).trans rfl; have hcz12_4 : w11.cell? ⟨gb107, 4, none⟩ = some (.slice none 0 0) := (blk_cell BK107.out 4).trans rfl; have hfz12_0 := blk_frozen BK107.out 0; have hfz12_1 := blk_frozen BK107.out 1; have hfz12_2 := blk_frozen BK107.out 2; have hfz12_3 := blk_frozen BK107.out 3; have hfz12_4 := blk_frozen BK107.out 4) | ((with_reducible refine gate_store (t := 43) (p := 5) rfl ?_); refine store_event (t := 43) (p := 5) (v := ?vo_w13) (w1 := (((((w11.setCell ⟨gb107, 0, none⟩ (.int .i64 ((rd_T43 l0 x4_1).f0))).setCell ⟨gb107, 1, none⟩ (.int .i64 ((rd_T43 l0 x4_1).f1))).setCell ⟨gb107, 2, none⟩ (.string ((rd_T43 l0 x4_1).f2))).setCell ⟨gb107, 3, none⟩ (.string ((rd_T43 l0 x4_1).f3))).setCell ⟨gb107, 4, none⟩ (.slice A106_4 ((rd_T43 l0 x4_1).f4).length c106_4))) ?hg ?ho ?hn ?hr ?_; (case ho => rfl); (case hg => rfl); (case hn => rfl); (case hr => first | (go_simp; done) | (go_simp; rfl)); intro w13 hw; have n0_ : Aside0 (Kd.V k43 43 w13 w.heap.size (fun k_ => (P0_ k_ ∨ w.heap.size ≤ k_) ∧ some k_ ≠ (u3 : Value).ownBlock ∧ k_ ≠ gb107) (.slice (some ad106) l0.length c0) l0) := ⟨(by rw [hw]; exact (by (with_reducible repeat (first | apply Kd.V_alloc | apply Kd.V_drewN | apply Kd.V_drew)); exact Kd.V_mono (Kd.V_far (p := ⟨gb107, 4, none⟩) (Kd.V_far (p := ⟨gb107, 3, none⟩) (Kd.V_far (p := ⟨gb107, 2, none⟩) (Kd.V_far (p := ⟨gb107, 1, none⟩) (Kd.V_far (p := ⟨gb107, 0, none⟩) (Kd.V_mono HO_0.out (fun k_ hk => (⟨hk, hk.2⟩ : _ ∧ k_ ≠ gb107))) (fun _ hk => hk.2) (.int .i64 ((rd_T43 l0 x4_1).f0))) (fun _ hk => hk.2) (.int .i64 ((rd_T43 l0 x4_1).f1))) (fun _ hk => hk.2) (.string ((rd_T43 l0 x4_1).f2))) (fun _ hk => hk.2) (.string ((rd_T43 l0 x4_1).f3))) (fun _ hk => hk.2) (.slice A106_4 ((rd_T43 l0 x4_1).f4).length c106_4)) (fun _ hk => ⟨hk.1.1.1, ⟨hk.1.1.2, hk.1.2⟩⟩)))⟩; have n1_ : Aside0 (Kd.N k43 43 w13 w.heap.size (fun k_ => (P0_ k_ ∨ w.heap.size ≤ k_) ∧ k_ ≠ gb107) u3 x3_1) := ⟨(by rw [hw]; exact (by (with_reducible repeat (first | apply Kd.N_alloc | apply Kd.N_drewN | apply Kd.N_drew)); exact Kd.N_mono (Kd.N_far (p := ⟨gb107, 4, none⟩) (Kd.N_far (p := ⟨gb107, 3, none⟩) (Kd.N_far (p := ⟨gb107, 2, none⟩) (Kd.N_far (p := ⟨gb107, 1, none⟩) (Kd.N_far (p := ⟨gb107, 0, none⟩) (Kd.N_mono HO_3.out (fun k_ hk => (⟨hk, hk.2⟩ : _ ∧ k_ ≠ gb107))) (fun _ hk => hk.2) (.int .i64 ((rd_T43 l0 x4_1).f0))) (fun _ hk => hk.2) (.int .i64 ((rd_T43 l0 x4_1).f1))) (fun _ hk => hk.2) (.string ((rd_T43 l0 x4_1).f2))) (fun _ hk => hk.2) (.string ((rd_T43 l0 x4_1).f3))) (fun _ hk => hk.2) (.slice A106_4 ((rd_T43 l0 x4_1).f4).length c106_4)) (fun _ hk => ⟨hk.1.1, hk.1.2⟩)))⟩; have n2_ : Aside0 (Kd.V k46 46 w13 w.heap.size (fun k_ => (P0_ k_ ∨ w.heap.size ≤ k_) ∧ some k_ ≠ (u3 : Value).ownBlock ∧ k_ ≠ gb107) (.slice A106_4 ((rd_T43 l0 x4_1).f4).length c106_4) ((rd_T43 l0 x4_1).f4)) := ⟨(by rw [hw]; exact (by (with_reducible repeat (first | apply Kd.V_alloc | apply Kd.V_drewN | apply Kd.V_drew)); exact Kd.V_mono (Kd.V_far (p := ⟨gb107, 4, none⟩) (Kd.V_far (p := ⟨gb107, 3, none⟩) (Kd.V_far (p := ⟨gb107, 2, none⟩) (Kd.V_far (p := ⟨gb107, 1, none⟩) (Kd.V_far (p := ⟨gb107, 0, none⟩) (Kd.V_mono HL106_4.out (fun k_ hk => (⟨hk, hk.2⟩ : _ ∧ k_ ≠ gb107))) (fun _ hk => hk.2) (.int .i64 ((rd_T43 l0 x4_1).f0))) (fun _ hk => hk.2) (.int .i64 ((rd_T43 l0 x4_1).f1))) (fun _ hk => hk.2) (.string ((rd_T43 l0 x4_1).f2))) (fun _ hk => hk.2) (.string ((rd_T43 l0 x4_1).f3))) (fun _ hk => hk.2) (.slice A106_4 ((rd_T43 l0 x4_1).f4).length c106_4)) (fun _ hk => ⟨hk.1.1.1, ⟨hk.1.1.2, hk.1.2⟩⟩)))⟩; have n3_ : Aside0 (w13.heap[gb107]? = some (.cells #[.int .i64 ((rd_T43 l0 x4_1).f0), .int .i64 ((rd_T43 l0 x4_1).f1), .string ((rd_T43 l0 x4_1).f2), .string ((rd_T43 l0 x4_1).f3), .slice A106_4 ((rd_T43 l0 x4_1).f4).length c106_4] 43 (0, 0))) := ⟨(by rw [hw]; exact (by (with_reducible repeat (first | refine blk_drewN ?_ _ | refine blk_drew ?_ | refine blk_alloc ?_ _)); refine blk_put (cs := #[.int .i64 ((rd_T43 l0 x4_1).f0), .int .i64 ((rd_T43 l0 x4_1).f1), .string ((rd_T43 l0 x4_1).f2), .string ((rd_T43 l0 x4_1).f3), .slice none 0 0]) ?_ 4 _ rfl; (with_reducible repeat (first | refine blk_drewN ?_ _ | refine blk_drew ?_ | refine blk_alloc ?_ _)); refine blk_put (cs := #[.int .i64 ((rd_T43 l0 x4_1).f0), .int .i64 ((rd_T43 l0 x4_1).f1), .string ((rd_T43 l0 x4_1).f2), .string (⟨#[]⟩ : ByteArray), .slice none 0 0]) ?_ 3 _ rfl; (with_reducible repeat (first | refine blk_drewN ?_ _ | refine blk_drew ?_ | refine blk_alloc ?_ _)); refine blk_put (cs := #[.int .i64 ((rd_T43 l0 x4_1).f0), .int .i64 ((rd_T43 l0 x4_1).f1), .string (⟨#[]⟩ : ByteArray), .string (⟨#[]⟩ : ByteArray), .slice none 0 0]) ?_ 2 _ rfl; (with_reducible repeat (first | refine blk_drewN ?_ _ | refine blk_drew ?_ | refine blk_alloc ?_ _)); refine blk_put (cs := #[.int .i64 ((rd_T43 l0 x4_1).f0), .int .i64 0, .string (⟨#[]⟩ : ByteArray), .string (⟨#[]⟩ : ByteArray), .slice none 0 0]) ?_ 1 _ rfl; (with_reducible repeat (first | refine blk_drewN ?_ _ | refine blk_drew ?_ | refine blk_alloc ?_ _)); refine blk_put (cs := #[.int .i64 0, .int .i64 0, .string (⟨#[]⟩ : ByteArray), .string (⟨#[]⟩ : ByteArray), .slice none 0 0]) ?_ 0 _ rfl; (with_reducible repeat (first | refine blk_drewN ?_ _ | refine blk_drew ?_ | refine blk_alloc ?_ _)); exact BK107.out))⟩; have n4_ : Aside0 (Below w.heap.size w w13) := ⟨(by rw [hw]; exact (by repeat (first | (with_reducible first | exact HB.out | apply below_alloc | apply pw_below_drewN | apply below_drew1 | refine below_set ?_ GE107.out) | exact HB.out)))⟩; clear hw; clear HO_0; clear HO_3; clear HL106_4; clear BK107; clear HB; have HO_0 := n0_; have HO_3 := n1_; have HL106_4 := n2_; have BK107 := n3_; have HB := n4_; clear n0_ n1_ n2_ n3_ n4_; have hcz14_0 : w13.cell? ⟨gb107, 0, none⟩ = some (.int .i64 ((rd_T43 l0 x4_1).f0)) := (blk_cell BK107.out 0).trans rfl; have hcz14_1 : w13.cell? ⟨gb107, 1, none⟩ = some (.int .i64 ((rd_T43 l0 x4_1).f1)) := (blk_cell BK107.out 1).trans rfl; have hcz14_2 : w13.cell? ⟨gb107, 2, none⟩ = some (.string ((rd_T43 l0 x4_1).f2)) := (blk_cell BK107.out 2).trans rfl; have hcz14_3 : w13.cell? ⟨gb107, 3, none⟩ = some (.string ((rd_T43 l0 x4_1).f3)) := (blk_cell BK107.out 3).trans rfl; have hcz14_4 : w13.cell? ⟨gb107, 4, none⟩ = some (.slice A106_4 ((rd_T43 l0 x4_1).f4).length c106_4) := (blk_cell BK107.out 4).trans rfl; have hfz14_0 := blk_frozen BK107.out 0; have hfz14_1 := blk_frozen BK107.out 1; have hfz14_2 := blk_frozen BK107.out 2; have hfz14_3 := blk_frozen BK107.out 3; have hfz14_4 := blk_frozen BK107.out 4; have q15 : ((ji7) : Int) ≤ ((((rd_T43 l0 x4_1).f4).length : Int) : Int) := of_decide_eq_true aA; obtain ⟨i015, hi015, _, hsz15, _⟩ := info_parts info46; have hroom15 : ((rd_T43 l0 x4_1).f4).length ≤ c106_4 := HC106_4.out; have hC15 : Kd.F k46 _ _ A106_4 ((rd_T43 l0 x4_1).f4).length ((rd_T43 l0 x4_1).f4) := (Kd.V_at (base := w.heap.size) HL106_4.out).2.2; have hcut15 := cut_to (P := Try.prog) 41 46 .i64 Try.underlying41 hi015 A106_4 ((rd_T43 l0 x4_1).f4).length c106_4 (ji7) (of_decide_eq_true aA) q15 hroom15; have hr15 := Kd.F_take (m := ((ji7) : Int).toNat) hC15 (by omega); have hy15 : y108.length = ((ji7) : Int).toNat := (by rw [Ny108.out, List.length_take]; omega); rw [← Ny108.out] at hr15; rw [← hy15] at hcut15; have HO112 := Aside0.mk (show Kd.V k46 46 _ w.heap.size _ (.slice A106_4 y108.length c106_4) y108 from Kd.V_mk (by omega) hr15); have HC112 := Aside0.mk (show y108.length ≤ c106_4 from by omega); clear hr15 hC15 hroom15 hi015 hsz15; have KY15 := Aside0.mk hy15; clear hy15; replace q15 := eq_true q15) | ((with_reducible refine gate_store (t := 41) (p := 28) rfl ?_); refine store_event (t := 41) (p := 28) (v := ?vo_w16) (w1 := (w13.setCell ⟨gb107, 4, none⟩ (.slice A106_4 y108.length c106_4))) ?hg ?ho ?hn ?hr ?_; (case ho => rfl); (case hg => rfl); (case hn => rfl); (case hr => first | (go_simp; done) | (go_simp; rfl)); intro w16 hw; have n0_ : Aside0 (Kd.V k43 43 w16 w.heap.size (fun k_ => (P0_ k_ ∨ w.heap.size ≤ k_) ∧ some k_ ≠ (u3 : Value).ownBlock ∧ k_ ≠ gb107) (.slice (some ad106) l0.length c0) l0) := ⟨(by rw [hw]; exact (by (with_reducible repeat (first | apply Kd.V_alloc | apply Kd.V_drewN | apply Kd.V_drew)); exact Kd.V_mono (Kd.V_far (p := ⟨gb107, 4, none⟩) (Kd.V_mono HO_0.out (fun k_ hk => (⟨hk, hk.2.2⟩ : _ ∧ k_ ≠ gb107))) (fun _ hk => hk.2) (.slice A106_4 y108.length c106_4)) (fun _ hk => ⟨hk.1.1, ⟨hk.1.2.1, hk.1.2.2⟩⟩)))⟩; have n1_ : Aside0 (Kd.N k43 43 w16 w.heap.size (fun k_ => (P0_ k_ ∨ w.heap.size ≤ k_) ∧ k_ ≠ gb107) u3 x3_1) := ⟨(by rw [hw]; exact (by (with_reducible repeat (first | apply Kd.N_alloc | apply Kd.N_drewN | apply Kd.N_drew)); exact Kd.N_mono (Kd.N_far (p := ⟨gb107, 4, none⟩) (Kd.N_mono HO_3.out (fun k_ hk => (⟨hk, hk.2⟩ : _ ∧ k_ ≠ gb107))) (fun _ hk => hk.2) (.slice A106_4 y108.length c106_4)) (fun _ hk => ⟨hk.1.1, hk.1.2⟩)))⟩; have n2_ : Aside0 (Kd.V k46 46 w16 w.heap.size (fun k_ => (P0_ k_ ∨ w.heap.size ≤ k_) ∧ some k_ ≠ (u3 : Value).ownBlock ∧ k_ ≠ gb107) (.slice A106_4 ((rd_T43 l0 x4_1).f4).length c106_4) ((rd_T43 l0 x4_1).f4)) := ⟨(by rw [hw]; exact (by (with_reducible repeat (first | apply Kd.V_alloc | apply Kd.V_drewN | apply Kd.V_drew)); exact Kd.V_mono (Kd.V_far (p := ⟨gb107, 4, none⟩) (Kd.V_mono HL106_4.out (fun k_ hk => (⟨hk, hk.2.2⟩ : _ ∧ k_ ≠ gb107))) (fun _ hk => hk.2) (.slice A106_4 y108.length c106_4)) (fun _ hk => ⟨hk.1.1, ⟨hk.1.2.1, hk.1.2.2⟩⟩)))⟩; have n3_ : Aside0 (Kd.V k46 46 w16 w.heap.size (fun k_ => (P0_ k_ ∨ w.heap.size ≤ k_) ∧ some k_ ≠ (u3 : Value).ownBlock ∧ k_ ≠ gb107) (.slice A106_4 y108.length c106_4) y108) := ⟨(by rw [hw]; exact (by (with_reducible repeat (first | apply Kd.V_alloc | apply Kd.V_drewN | apply Kd.V_drew)); exact Kd.V_mono (Kd.V_far (p := ⟨gb107, 4, none⟩) (Kd.V_mono HO112.out (fun k_ hk => (⟨hk, hk.2.2⟩ : _ ∧ k_ ≠ gb107))) (fun _ hk => hk.2) (.slice A106_4 y108.length c106_4)) (fun _ hk => ⟨hk.1.1, ⟨hk.1.2.1, hk.1.2.2⟩⟩)))⟩; have n4_ : Aside0 (w16.heap[gb107]? = some (.cells #[.int .i64 ((rd_T43 l0 x4_1).f0), .int .i64 ((rd_T43 l0 x4_1).f1), .string ((rd_T43 l0 x4_1).f2), .string ((rd_T43 l0 x4_1).f3), .slice A106_4 y108.length c106_4] 43 (0, 0))) := ⟨(by rw [hw]; exact (by (with_reducible repeat (first | refine blk_drewN ?_ _ | refine blk_drew ?_ | refine blk_alloc ?_ _)); refine blk_put (cs := #[.int .i64 ((rd_T43 l0 x4_1).f0), .int .i64 ((rd_T43 l0 x4_1).f1), .string ((rd_T43 l0 x4_1).f2), .string ((rd_T43 l0 x4_1).f3), .slice A106_4 ((rd_T43 l0 x4_1).f4).length c106_4]) ?_ 4 _ rfl; (with_reducible repeat (first | refine blk_drewN ?_ _ | refine blk_drew ?_ | refine blk_alloc ?_ _)); exact BK107.out))⟩; have n5_ : Aside0 (Below w.heap.size w w16) := ⟨(by rw [hw]; exact (by repeat (first | (with_reducible first | exact HB.out | apply below_alloc | apply pw_below_drewN | apply below_drew1 | refine below_set ?_ GE107.out) | exact HB.out)))⟩; clear hw; clear HO_0; clear HO_3; clear HL106_4; clear HO112; clear BK107; clear HB; have HO_0 := n0_; have HO_3 := n1_; have HL106_4 := n2_; have HO112 := n3_; have BK107 := n4_; have HB := n5_; clear n0_ n1_ n2_ n3_ n4_ n5_; have hcz17_0 : w16.cell? ⟨gb107, 0, none⟩ = some (.int .i64 ((rd_T43 l0 x4_1).f0)) := (blk_cell BK107.out 0).trans rfl; have hcz17_1 : w16.cell? ⟨gb107, 1, none⟩ = some (.int .i64 ((rd_T43 l0 x4_1).f1)) := (blk_cell BK107.out 1).trans rfl; have hcz17_2 : w16.cell? ⟨gb107, 2, none⟩ = some (.string ((rd_T43 l0 x4_1).f2)) := (blk_cell BK107.out 2).trans rfl; have hcz17_3 : w16.cell? ⟨gb107, 3, none⟩ = some (.string ((rd_T43 l0 x4_1).f3)) := (blk_cell BK107.out 3).trans rfl; have hcz17_4 : w16.cell? ⟨gb107, 4, none⟩ = some (.slice A106_4 y108.length c106_4) := (blk_cell BK107.out 4).trans rfl; have hfz17_0 := blk_frozen BK107.out 0; have hfz17_1 := blk_frozen BK107.out 1; have hfz17_2 := blk_frozen BK107.out 2; have hfz17_3 := blk_frozen BK107.out 3; have hfz17_4 := blk_frozen BK107.out 4) | ((with_reducible refine gate_builtin (b := .append) (xs := #[.tmp 29, .tmp 31]) rfl ?_); at_builtin; refine Kd.N_append k43 (w0 := w) w.heap.size rfl (.tmp 29) (.tmp 31) 22 43 (.agg #[(.int .i64 0), (.int .i64 0), (.string ⟨#[]⟩), (.string ⟨#[]⟩), (.slice none 0 0)]) 72 rfl Try.underlying22 info43 rfl (by decide) (by omega) u3 x3_1 (⟨(rd_T43 l0 x4_1).f0, (rd_T43 l0 x4_1).f1, (rd_T43 l0 x4_1).f2, (rd_T43 l0 x4_1).f3, y108⟩ : S43) [.int .i64 ((rd_T43 l0 x4_1).f0), .int .i64 ((rd_T43 l0 x4_1).f1), .string ((rd_T43 l0 x4_1).f2), .string ((rd_T43 l0 x4_1).f3), .slice A106_4 y108.length c106_4] (fun k_ => (P0_ k_ ∨ w.heap.size ≤ k_) ∧ k_ ≠ gb107) (fun k_ => ((fun k_ => (P0_ k_ ∨ w.heap.size ≤ k_) ∧ k_ ≠ gb107)) k_ ∧ some k_ ≠ (u3 : Value).ownBlock) rfl rfl ?aP (fun _ hk => hk) ?aF ?aO ?aB ?aS ?aL ?_; (case aP => exact (k43_mkF _ _ (⟨(rd_T43 l0 x4_1).f0, (rd_T43 l0 x4_1).f1, (rd_T43 l0 x4_1).f2, (rd_T43 l0 x4_1).f3, y108⟩ : S43) (Kd.V_reads' (Kd.V_mono (ok' := (fun k_ => ((fun k_ => (P0_ k_ ∨ w.heap.size ≤ k_) ∧ k_ ≠ gb107)) k_ ∧ some k_ ≠ (u3 : Value).ownBlock)) (HO112.out) (fun k_ hk => ⟨⟨hk.1, hk.2.2⟩, hk.2.1⟩))).2.1 (Kd.V_F (Kd.V_mono (ok' := (fun k_ => ((fun k_ => (P0_ k_ ∨ w.heap.size ≤ k_) ∧ k_ ≠ gb107)) k_ ∧ some k_ ≠ (u3 : Value).ownBlock)) (HO112.out) (fun k_ hk => ⟨⟨hk.1, hk.2.2⟩, hk.2.1⟩))))); (case aB => exact (by repeat (first | (with_reducible first | exact HB.out | apply below_alloc | apply pw_below_drewN | apply below_drew1 | refine below_set ?_ GE107.out) | exact HB.out))); (case aF => exact (fun k_ hk => ⟨(.inr (Nat.le_trans (below_size (by repeat (first | (with_reducible first | exact HB.out | apply below_alloc | apply pw_below_drewN | apply below_drew1 | refine below_set ?_ GE107.out) | exact HB.out))) hk)), Kd.freshB (g := gb107) (o := .cells #[.int .i64 ((rd_T43 l0 x4_1).f0), .int .i64 ((rd_T43 l0 x4_1).f1), .string ((rd_T43 l0 x4_1).f2), .string ((rd_T43 l0 x4_1).f3), .slice A106_4 y108.length c106_4] 43 (0, 0)) (aK BK107) k_ hk⟩)); (case aO => exact (aN HO_3)); (case aS => exact (below_size (by repeat (first | (with_reducible first | exact HB.out | apply below_alloc | apply pw_below_drewN | apply below_drew1 | refine below_set ?_ GE107.out) | exact HB.out)))); (case aL => have := LMc10.out; omega); intro v114 w18 ho hb hg hat; rw [← Ny113.out] at ho; have n0_ := Aside0.mk (Kd.V_afterv (ok := (fun k_ => (P0_ k_ ∨ w.heap.size ≤ k_) ∧ k_ ≠ gb107)) (by (with_reducible repeat (first | apply Kd.V_alloc | apply Kd.V_drewN | apply Kd.V_drew)); exact Kd.V_mono HO_0.out (fun _ hk => ⟨⟨hk.1, hk.2.2⟩, hk.2.1⟩)) hg hat); have n1_ := Aside0.mk (Kd.V_afterv (ok := (fun k_ => (P0_ k_ ∨ w.heap.size ≤ k_) ∧ k_ ≠ gb107)) (by (with_reducible repeat (first | apply Kd.V_alloc | apply Kd.V_drewN | apply Kd.V_drew)); exact Kd.V_mono HL106_4.out (fun _ hk => ⟨⟨hk.1, hk.2.2⟩, hk.2.1⟩)) hg hat); have n2_ := Aside0.mk (blk_grown (g := gb107) (o := .cells #[.int .i64 ((rd_T43 l0 x4_1).f0), .int .i64 ((rd_T43 l0 x4_1).f1), .string ((rd_T43 l0 x4_1).f2), .string ((rd_T43 l0 x4_1).f3), .slice A106_4 y108.length c106_4] 43 (0, 0)) (aK BK107) hg (Kd.N_away HO_3.out (fun _ hk => hk.2))); have n3_ := Aside0.mk (Kd.V_afterv (ok := (fun k_ => (P0_ k_ ∨ w.heap.size ≤ k_) ∧ k_ ≠ gb107)) (by (with_reducible repeat (first | apply Kd.V_alloc | apply Kd.V_drewN | apply Kd.V_drew)); exact Kd.V_mono HO112.out (fun _ hk => ⟨⟨hk.1, hk.2.2⟩, hk.2.1⟩)) hg hat); have n4_ := Aside0.mk (hb); have n5_ := Aside0.mk (ho); clear HO_0; clear HL106_4; clear BK107; clear HO112; clear HB; clear HO_3; have HO_0 := n0_; have HL106_4 := n1_; have BK107 := n2_; have HO112 := n3_; have HB := n4_; have HO115 := n5_; clear n0_ n1_ n2_ n3_ n4_ n5_; clear ho hb hg hat))
         go_roundg k1
         case measure => have := HK1.out; omega
         case rel => exact ⟨(y113), (wrap64 (x4_1 + 1)), aE, H', ⟨by have := HK1.out; omega⟩, ⟨by (with_reducible repeat (first | apply Kd.V_alloc | apply Kd.V_drewN | apply Kd.V_drew)); exact Kd.V_mono HO_0.out (fun _ hk => ⟨hk.1.1, hk.2⟩)⟩, ⟨by (with_reducible repeat (first | apply Kd.N_alloc | apply Kd.N_drewN | apply Kd.N_drew)); exact Kd.N_mono HO115.out (fun _ hk => hk.1)⟩, ⟨by repeat (first | (with_reducible first | exact HB.out | apply below_alloc | apply pw_below_drewN | apply below_drew1 | refine below_set ?_ GE107.out) | exact HB.out)⟩⟩
        ·rw [if_neg c10] at H
         exact absurd H (by simp)
       ·rw [if_neg c9] at H
        exact absurd H (by simp)
      ·rw [if_neg c8] at H
       exact absurd H (by simp)
     ·rw [if_neg c6] at H
      exact absurd H (by simp)
    ·rw [if_neg c5] at H
     have c5b0 : decide (x4_1 < 60) = false := decide_eq_false c5
     clear c5
     obtain rfl := Option.some.inj H
     go_wp2
     go_ret
     exact ⟨_, by first | rfl | (simp [errW_none, errW_some] <;> rfl) | (simp [*, errW_none, errW_some] <;> rfl), by (with_reducible repeat (first | apply Kd.N_alloc | apply Kd.N_drewN | apply Kd.N_drew)); exact HO_3.out, aB HB⟩
   ·rw [if_neg c4] at H
    have c4b0 : decide (x4_1 < (l0.length : Int)) = false := decide_eq_false c4
    clear c4
    obtain rfl := Option.some.inj H
    go_wp2
    go_ret
    exact ⟨_, by first | rfl | (simp [errW_none, errW_some] <;> rfl) | (simp [*, errW_none, errW_some] <;> rfl), by (with_reducible repeat (first | apply Kd.N_alloc | apply Kd.N_drewN | apply Kd.N_drew)); exact HO_3.out, aB HB⟩

-- NOT PRINTED: function 55 (api_Row_55)

-- NOT PRINTED: function 49 (api_Row_49)

/-! ### rows_big: function 36 -/
def bigB (x : S43) : Bool := decide (x.f0 ≥ 60)
theorem big1_calls (x : S43) (A : Option Addr) (c : Nat) (w : World) :
  Calls Try.prog 50 #[vrow x A c] w fun e w' => e = .returned (.bool (bigB x)) ∧ Below w.heap.size w w' := by
 go_enter Try.func50, Try.ntmps50
 go_wp2
 go_ret
 exact ⟨by simp [bigB], by repeat (first | exact Below.refl _ _ | apply below_alloc | apply pw_below_drewN | apply below_drew1)⟩
/-- The first row from place i on that meets p, or -1. -/
def idxFrom (p : S43 → Bool) : Nat → List S43 → Int
 | _, [] => -1
 | i, x :: l => if p x then i else idxFrom p (i + 1) l
theorem idxFrom_any (p : S43 → Bool) (l : List S43) : ∀ i, decide (idxFrom p i l ≥ 0) = l.any p := by
 induction l with
 | nil => intro i; rfl
 | cons x l ih =>
  intro i
  unfold idxFrom
  cases h : p x with
  | true => simp [h]
  | false => simpa [h] using ih (i + 1)
set_option maxHeartbeats 2000000 in
set_option maxRecDepth 100000 in
theorem bigIndex_calls (A0 : Option Addr) (c0 : Nat) (l0 : List (S43)) (w : World) (hr0 : Kd.C k43 w A0 l0.length l0) (hc0 : l0.length ≤ c0) :
  Calls Try.prog 55 #[.slice A0 l0.length c0, .func (.func 50) #[] #[]] w fun e w' => e = .returned (.int .i64 (idxFrom bigB 0 l0)) ∧ Below w.heap.size w w' := by
 have hm := Kd.C_max hr0
 have HR0 := Aside0.mk hr0
 have HC0 := Aside0.mk hc0
 clear hr0 hc0
 have HB := Aside0.mk (Below.refl w.heap.size w)
 go_enter Try.func55, Try.ntmps55
 go_wp2
 go_loopg [5, 8] l0.length (fun gg v5 v8 w' => ∃ kk : Nat, kk ≤ l0.length ∧ l0.length - kk ≤ gg ∧ v8 = .int .i64 kk ∧ Aside0 (idxFrom bigB kk (l0.drop kk) = idxFrom bigB 0 l0) ∧ Aside0 (Below w.heap.size w w'))
 case atStart => exact ⟨0, Nat.zero_le _, by omega, rfl, ⟨rfl⟩, HB⟩
 case round =>
  clear HB
  obtain ⟨kk, hkk, hg, rfl, HA, HB⟩ := hrel
  by_cases hlt : kk < l0.length
  ·have hltz : (kk : Int) < (l0.length : Int) := by omega
   have hd : l0.drop kk = rd_T43 l0 kk :: l0.drop (kk + 1) := by
    rw [List.drop_eq_getElem_cons hlt]
    simp [rd_T43, List.getElem?_eq_getElem hlt]
   obtain ⟨ad, A4, c4, e4, hx0, hx1, hx2, hx3, hx4, hl4, hi4⟩ := at_T43 HR0.out (kk : Int) (by omega) hltz
   cases e4
   simp only [Int.toNat_natCast] at hx0 hx1 hx2 hx3 hx4
   replace hx0 := (HB.out.cell (World.block_lt_of_cell? w _ hx0)).trans hx0
   replace hx1 := (HB.out.cell (World.block_lt_of_cell? w _ hx1)).trans hx1
   replace hx2 := (HB.out.cell (World.block_lt_of_cell? w _ hx2)).trans hx2
   replace hx3 := (HB.out.cell (World.block_lt_of_cell? w _ hx3)).trans hx3
   replace hx4 := (HB.out.cell (World.block_lt_of_cell? w _ hx4)).trans hx4
   have HA' := HA.out
   rw [hd] at HA'
   clear hd
   cases hq : bigB (rd_T43 l0 kk) with
   | true =>
    have HQ := Aside0.mk hq
    clear hq
    have HA2 : Aside0 ((kk : Int) = idxFrom bigB 0 l0) := ⟨by rw [← HA']; simp [idxFrom, HQ.out]⟩
    clear HA'
    have hcall := big1_calls (rd_T43 l0 kk) A4 c4 wr
    rw [HQ.out] at hcall
    go_wp2_with (go_at_call 50; refine hcall.mono ?_; rintro e w' ⟨rfl, hb'⟩)
    go_ret
    exact ⟨by rw [← HA2.out]; rfl, below_step HB.out hb'⟩
   | false =>
    have HQ := Aside0.mk hq
    clear hq
    have HA2 : Aside0 (idxFrom bigB (kk + 1) (l0.drop (kk + 1)) = idxFrom bigB 0 l0) := ⟨by rw [← HA']; simp [idxFrom, HQ.out]⟩
    clear HA'
    have hcall := big1_calls (rd_T43 l0 kk) A4 c4 wr
    rw [HQ.out] at hcall
    go_wp2_with (go_at_call 50; refine hcall.mono ?_; rintro e w' ⟨rfl, hb'⟩)
    go_roundg (l0.length - (kk + 1))
    case measure => omega
    case rel => exact ⟨kk + 1, by omega, by omega, by go_num, HA2, ⟨below_step HB.out hb'⟩⟩
  ·have hltz : ¬ (kk : Int) < (l0.length : Int) := by omega
   obtain rfl : kk = l0.length := by omega
   have HA2 : Aside0 (-1 = idxFrom bigB 0 l0) := ⟨by rw [← HA.out, List.drop_length]; rfl⟩
   clear HA
   go_wp2
   go_ret
   exact ⟨by rw [← HA2.out]; rfl, HB.out⟩
theorem bigContains_calls (A0 : Option Addr) (c0 : Nat) (l0 : List (S43)) (w : World) (hr0 : Kd.C k43 w A0 l0.length l0) (hc0 : l0.length ≤ c0) :
  Calls Try.prog 49 #[.slice A0 l0.length c0, .func (.func 50) #[] #[]] w fun e w' => e = .returned (.bool (l0.any bigB)) ∧ Below w.heap.size w w' := by
 have hi := bigIndex_calls A0 c0 l0 w hr0 hc0
 rw [← idxFrom_any bigB l0 0]
 generalize idxFrom bigB 0 l0 = n at hi ⊢
 clear hr0 hc0
 go_enter Try.func49, Try.ntmps49
 go_wp2_with (go_at_call 55; refine hi.mono ?_; rintro e w' ⟨rfl, hb'⟩)
 go_ret
 exact ⟨rfl, hb'⟩
def rows_big.f (l0 : List (S43)) : Option (Bool) := some (decide ((l0.length : Int) > 4096) || l0.any bigB)
theorem rows_big.calls (A0 : Option Addr) (c0 : Nat) (l0 : List (S43)) (r : Bool) (w : World) (hr0 : Kd.C k43 w A0 l0.length l0) (hc0 : l0.length ≤ c0) (h : rows_big.f l0 = some r) :
  Calls Try.prog 36 #[.slice A0 l0.length c0] w fun e w' => e = .returned (.bool r) ∧ Below w.heap.size w w' := by
 have hi := bigContains_calls A0 c0 l0 w hr0 hc0
 obtain rfl := Option.some.inj h
 clear hr0 hc0 h
 by_cases c : (l0.length : Int) > 4096
 ·have c0b : decide (4096 < (l0.length : Int)) = true := decide_eq_true c
  have hr : Aside0 ((decide ((l0.length : Int) > 4096) || l0.any bigB) = true) := ⟨by rw [decide_eq_true c]; rfl⟩
  clear c hi
  rw [hr.out]
  go_enter Try.func36, Try.ntmps36
  go_wp2
  repeat (go_quiet (fail); try go_wp2)
  go_ret
  exact ⟨rfl, by repeat (first | exact Below.refl _ _ | apply below_alloc | apply pw_below_drewN | apply below_drew1)⟩
 ·have c0b : decide (4096 < (l0.length : Int)) = false := decide_eq_false c
  have hr : Aside0 ((decide ((l0.length : Int) > 4096) || l0.any bigB) = l0.any bigB) := ⟨by rw [decide_eq_false c]; rfl⟩
  clear c
  rw [hr.out]
  generalize l0.any bigB = b at hi ⊢
  clear hr
  go_enter Try.func36, Try.ntmps36
  go_wp2_with (go_at_call 49; refine hi.mono ?_; rintro e w' ⟨rfl, hb'⟩)
  go_ret
  exact ⟨rfl, hb'⟩


end Go.Proofs.Ytllggaogjcknoaa.QA
