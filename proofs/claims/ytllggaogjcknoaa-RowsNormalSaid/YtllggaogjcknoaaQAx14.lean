-- Written by a program of this claim's own (wip/gen/gen.py), out of the translation; an ordinary proof text.
import Derived.Test.YtllggaogjcknoaaQAx0
import Derived.Test.YtllggaogjcknoaaQAx11
namespace Go.Proofs.Ytllggaogjcknoaa.QA
open Go.RowKit Go.Proofs.YtllggaogjcknoaaW.PrintWords Go.Proofs.YtllggaogjcknoaaW.PrintLast Go.Proofs.YtllggaogjcknoaaW.PrintMore
attribute [local go_sem] max2_int min2_int max_two min_two max_three min_three max_four min_four   -- for this text's walks alone
set_option linter.unusedVariables false
set_option linter.unusedSimpArgs false

/-! ### boltingref04_Normal: function 34 -/
mutual
def boltingref04_Normal.l0 : Nat → List (S43) → List (S43) → Int → Option ((List (S43)))
  | 0, _, _, _ => none
  | k + 1, x0, x3, x4 => if x4 < (x0.length : Int) then (if 0 ≤ x4 then (if x4 ≤ (wrap64 (x4 + 1)) then (if (wrap64 (x4 + 1)) ≤ (x0.length : Int) then ((boltingref04_Moved.f k ((x0.take ((wrap64 (x4 + 1)) : Int).toNat).drop (x4 : Int).toNat) 0).bind fun t391 => (if ((rd_T43 x0 x4).f1) = 1 then (boltingref04_Normal.j1 k x0 x3 x4 t391 (x3.length : Int) (((rd_T43 x0 x4).f3).toList == ([] : List UInt8))) else (boltingref04_Normal.j1 k x0 x3 x4 t391 (x3.length : Int) false))) else (none)) else (none)) else (none)) else (some x3)
def boltingref04_Normal.j1 : Nat → List (S43) → List (S43) → Int → List (S43) → Int → Bool → Option ((List (S43)))
  | 0, _, _, _, _, _, _ => none
  | k + 1, x0, x3, x4, x5, x6, x36 => if x36 = true then (boltingref04_Normal.l0 k x0 x3 (wrap64 (x4 + 1))) else (if 0 ≤ x4 then (if x4 < (x0.length : Int) then (if ((rd_T43 x0 x4).f1) = 1 then (if x6 > 0 then (if 0 ≤ (wrap64 (x6 - 1)) then (if (wrap64 (x6 - 1)) < (x3.length : Int) then (if ((rd_T43 x3 (wrap64 (x6 - 1))).f1) = 1 then (if ((rd_T43 x3 (wrap64 (x6 - 1))).f0) = ((rd_T43 x0 x4).f0) then (if ((rd_T43 x3 (wrap64 (x6 - 1))).f3).size + ((rd_T43 x0 x4).f3).size ≤ 9223372036854775807 then (boltingref04_Normal.l0 k x0 (x3.set ((wrap64 (x6 - 1)) : Int).toNat (⟨(rd_T43 x3 (wrap64 (x6 - 1))).f0, (rd_T43 x3 (wrap64 (x6 - 1))).f1, (rd_T43 x3 (wrap64 (x6 - 1))).f2, ((rd_T43 x3 (wrap64 (x6 - 1))).f3) ++ ((rd_T43 x0 x4).f3), (rd_T43 x3 (wrap64 (x6 - 1))).f4⟩ : S43)) (wrap64 (x4 + 1))) else (none)) else (if x3.length + x5.length < 1954687338268 then (boltingref04_Normal.l0 k x0 (x3 ++ x5) (wrap64 (x4 + 1))) else (none))) else (if x3.length + x5.length < 1954687338268 then (boltingref04_Normal.l0 k x0 (x3 ++ x5) (wrap64 (x4 + 1))) else (none))) else (none)) else (none)) else (if x3.length + x5.length < 1954687338268 then (boltingref04_Normal.l0 k x0 (x3 ++ x5) (wrap64 (x4 + 1))) else (none))) else (if x3.length + x5.length < 1954687338268 then (boltingref04_Normal.l0 k x0 (x3 ++ x5) (wrap64 (x4 + 1))) else (none))) else (none)) else (none))
end
def boltingref04_Normal.f (k : Nat) (l0 : List (S43)) : Option ((List (S43))) := boltingref04_Normal.l0 k l0 (([] : List (S43))) 0
theorem boltingref04_Normal.mono_l : ∀ k, (∀ y0 y1 y2, LeO (boltingref04_Normal.l0 k y0 y1 y2) (boltingref04_Normal.l0 (k + 1) y0 y1 y2)) ∧ (∀ y0 y1 y2 y3 y4 y5, LeO (boltingref04_Normal.j1 k y0 y1 y2 y3 y4 y5) (boltingref04_Normal.j1 (k + 1) y0 y1 y2 y3 y4 y5))
  | 0 => ⟨fun _ _ _ r h => by simp [boltingref04_Normal.l0] at h, fun _ _ _ _ _ _ r h => by simp [boltingref04_Normal.j1] at h⟩
  | k + 1 => by
    obtain ⟨ih0, ih1⟩ := boltingref04_Normal.mono_l k
    refine ⟨?_, ?_⟩
    · intro y0 y1 y2
      unfold boltingref04_Normal.l0
      repeat' first
      | (with_reducible exact ih0 _ _ _)
      | (with_reducible exact ih1 _ _ _ _ _ _)
      | (with_reducible exact boltingref04_Moved.mono _ _ _)
      | (with_reducible exact LeO.refl _)
      | (with_reducible exact LeO.none _)
      | (with_reducible refine LeO.ite ?_ ?_)
      | (with_reducible refine LeO.bind ?_ (fun _ => ?_))
      | exact ih0 _ _ _
      | exact ih1 _ _ _ _ _ _
      | exact boltingref04_Moved.mono _ _ _
      | exact LeO.none _
      | refine LeO.ite ?_ ?_
      | refine LeO.bind ?_ (fun _ => ?_)
    · intro y0 y1 y2 y3 y4 y5
      unfold boltingref04_Normal.j1
      repeat' first
      | (with_reducible exact ih0 _ _ _)
      | (with_reducible exact ih1 _ _ _ _ _ _)
      | (with_reducible exact boltingref04_Moved.mono _ _ _)
      | (with_reducible exact LeO.refl _)
      | (with_reducible exact LeO.none _)
      | (with_reducible refine LeO.ite ?_ ?_)
      | (with_reducible refine LeO.bind ?_ (fun _ => ?_))
      | exact ih0 _ _ _
      | exact ih1 _ _ _ _ _ _
      | exact boltingref04_Moved.mono _ _ _
      | exact LeO.none _
      | refine LeO.ite ?_ ?_
      | refine LeO.bind ?_ (fun _ => ?_)
theorem boltingref04_Normal.mono : ∀ a0 k, LeO (boltingref04_Normal.f k a0) (boltingref04_Normal.f (k + 1) a0) := by
  intro a0 k
  obtain ⟨ih0, ih1⟩ := boltingref04_Normal.mono_l k
  unfold boltingref04_Normal.f
  repeat' first
      | (with_reducible exact ih0 _ _ _)
      | (with_reducible exact ih1 _ _ _ _ _ _)
      | (with_reducible exact boltingref04_Moved.mono _ _ _)
      | (with_reducible exact LeO.refl _)
      | (with_reducible exact LeO.none _)
      | (with_reducible refine LeO.ite ?_ ?_)
      | (with_reducible refine LeO.bind ?_ (fun _ => ?_))
      | exact ih0 _ _ _
      | exact ih1 _ _ _ _ _ _
      | exact boltingref04_Moved.mono _ _ _
      | exact LeO.none _
      | refine LeO.ite ?_ ?_
      | refine LeO.bind ?_ (fun _ => ?_)
def boltingref04_Normal.T8 : Bool × List (List Nat × List Nat) := (true, [([], []), ([], []), ([0, 1], [0, 1]), ([2], [2]), ([3], [3]), ([4], [4]), ([5], [5]), ([6], [6]), ([7, 6], [6, 7]), ([6, 8], [6, 8]), ([9, 6], [9]), ([10], [10]), ([10], [10]), ([12, 10], [10, 12]), ([11, 13, 10], [10, 11, 13]), ([14, 10], [10, 14]), ([15, 10], [10, 15]), ([16, 10], [10, 16]), ([10, 17], [10, 17]), ([18, 10], [18]), ([19], [19]), ([19], [19]), ([21, 19], [19, 21]), ([20, 22, 19], [19, 20, 22]), ([23, 19], [19, 23]), ([24, 19], [19, 24]), ([19], [19]), ([19], [19]), ([26, 27, 19], [19, 26, 27]), ([28, 19], [19, 28]), ([29, 19], [19, 29]), ([25, 30, 19], [19, 25, 30]), ([19, 31], [19, 31])])
def boltingref04_Normal.B8 : List Nat := [0, 0, 3, 7, 15, 31, 63, 127, 255, 511, 1023, 2047, 2047, 6143, 16383, 32767, 65535, 131071, 262143, 524287, 1048575, 1048575, 3145727, 8388607, 16777215, 33554431, 1048575, 1048575, 202375167, 470810623, 1007681535, 2147483647, 4294967295]
theorem boltingref04_Normal.tab8 : rtab .any (opsOf Try.f34 8) = boltingref04_Normal.T8 := by kernel_rfl
theorem boltingref04_Normal.bits8 : waitsOk boltingref04_Normal.T8.2 boltingref04_Normal.B8 = true := by kernel_rfl
def boltingref04_Normal.T10 : Bool × List (List Nat × List Nat) := (true, [([], []), ([0], [0]), ([], []), ([], []), ([2, 3], [2, 3]), ([4], [4]), ([5], [5]), ([1, 6], [1, 6]), ([0, 1, 2, 3, 4, 5, 6, 7], []), ([8, 7, 0, 1, 2, 3, 4, 5, 6, 7], [7, 8])])
def boltingref04_Normal.B10 : List Nat := [0, 1, 0, 0, 12, 28, 60, 127, 255, 511]
theorem boltingref04_Normal.tab10 : rtab .any (opsOf Try.f34 10) = boltingref04_Normal.T10 := by kernel_rfl
theorem boltingref04_Normal.bits10 : waitsOk boltingref04_Normal.T10.2 boltingref04_Normal.B10 = true := by kernel_rfl
set_option maxHeartbeats 8000000 in
set_option maxRecDepth 100000 in
theorem boltingref04_Normal.calls (k : Nat) (A0 : Option Addr) (c0 : Nat) (l0 : List (S43)) (r : List (S43)) (w : World) (hr0 : Kd.C k43 w A0 l0.length l0) (hc0 : l0.length ≤ c0) (h : boltingref04_Normal.f k l0 = some r) :
    Calls Try.prog 34 #[.slice A0 l0.length c0] w fun e w' => ∃ v0_ : Value, e = .returned (v0_) ∧ Kd.N k43 43 w' w.heap.size (fun k_ => (w.heap.size ≤ k_)) v0_ r ∧ Below w.heap.size w w' := by
  have hu43 := Try.underlying43
  have HR0 := Aside0.mk hr0
  have HC0 := Aside0.mk hc0
  clear hr0 hc0
  have HB := Aside0.mk (Below.refl w.heap.size w)
  have H : (boltingref04_Normal.l0 k l0 (([] : List (S43))) 0) = some r := h
  clear h
  obtain ⟨y384, hy384⟩ : ∃ y_ : List (S43), y_ = (([] : List (S43))) := ⟨_, rfl⟩
  replace H : (boltingref04_Normal.l0 k l0 y384 0) = some r := by first | (rw [hy384]; with_reducible exact H) | (have H2_ := (Option.bind_some _ _).symm.trans H; rw [hy384]; with_reducible exact H2_) | (have H2_ := (Option.bind_some _ _).symm.trans H; with_reducible exact H2_) | with_reducible exact H | (rw [hy384]; exact H) | exact H
  have Ny384 := Aside0.mk hy384
  clear hy384
  have H' := Aside0.mk H
  clear H
  go_enter Try.func34, Try.ntmps34
  go_wp2_with (first | ((with_reducible refine gate_dst (N := 8) rfl ?_); refine Kd.N_lit k43 _ 43 ?hg (N' := 8) ?hd (xs := ([] : List (S43))) (inner := []) (ok := (fun k_ => (w.heap.size ≤ k_))) (okp := (fun k_ => (w.heap.size ≤ k_))) ?hr ?hp (fun _ hk => hk) ((show ∀ k_, w.heap.size ≤ k_ → (fun k_ => (w.heap.size ≤ k_)) k_ from fun k_ hk => (Nat.le_trans (below_size (by repeat (first | (with_reducible first | exact HB.out | apply below_alloc | apply pw_below_drewN | apply below_drew1) | exact HB.out))) hk)) _ (Nat.le_refl _)) (Below.refl _ _) (Nat.le_refl _) (by simp) ?_; (case hd => rfl); (case hg => rfl); (case hr => first | (go_simp; done) | (go_simp; rfl)); (case hp => exact (Reps.none _ _)); intro v385 w2 ho3 hb hg_ hnew_; clear hg_ hnew_; (first | rw [← Ny384.out] at ho3 | (simp only [Int.reduceToNat] at ho3; rw [← Ny384.out] at ho3)); have n0_ := Aside0.mk (Kd.N_lower ho3 (below_size (by repeat (first | (with_reducible first | exact HB.out | apply below_alloc | apply pw_below_drewN | apply below_drew1) | exact HB.out)))); have n1_ := Aside0.mk (below_step (by repeat (first | (with_reducible first | exact HB.out | apply below_alloc | apply pw_below_drewN | apply below_drew1) | exact HB.out)) hb); clear HB; have HO386 := n0_; have HB := n1_; clear n0_ n1_; clear hb ho3))
  go_loopg [3, 4] k (fun kq v3 v4 w' => ∃ (x3_1 : List (S43)) (x4_1 : Int), v4 = .int .i64 x4_1 ∧ Aside0 (boltingref04_Normal.l0 kq l0 x3_1 x4_1 = some r) ∧ Aside0 (kq ≤ k) ∧ Aside0 (Kd.N k43 43 w' w.heap.size (fun k_ => (w.heap.size ≤ k_)) v3 x3_1) ∧ Aside0 (Below w.heap.size w w'))
  case atStart => exact ⟨(y384), (0), (by first | rfl | (simp; done) | (congr 1; first | (with_reducible assumption) | (symm; with_reducible assumption)) | (simp [*]; done) | (simp only [ne_nil_empty]; done) | (rw [ne_nil_empty]; rfl)), H', ⟨Nat.le_refl _⟩, ⟨by (with_reducible repeat (first | apply Kd.N_alloc | apply Kd.N_drewN | apply Kd.N_drew)); exact HO386.out⟩, ⟨by repeat (first | (with_reducible first | exact HB.out | apply below_alloc | apply pw_below_drewN | apply below_drew1) | exact HB.out)⟩⟩
  case round =>
    clear H'
    try clear p2
    try clear c3
    obtain ⟨x3_1, x4_1, rfl, HA, HK1, HO_3, HB⟩ := hrel
    cases gk with
    | zero => exact absurd HA.out (by simp [boltingref04_Normal.l0])
    | succ k1 =>
      have H := HA.out
      clear HA
      simp only [boltingref04_Normal.l0] at H
      by_cases c4 : x4_1 < (l0.length : Int)
      · rw [if_pos c4] at H
        have c4b0 : decide (x4_1 < (l0.length : Int)) = true := decide_eq_true c4
        clear c4
        by_cases c5 : 0 ≤ x4_1
        · rw [if_pos c5] at H
          have c5b0 := eq_true c5
          have c5b1 : decide (0 ≤ x4_1) = true := decide_eq_true c5
          clear c5
          by_cases c6 : x4_1 ≤ (wrap64 (x4_1 + 1))
          · rw [if_pos c6] at H
            have c6b0 := eq_true c6
            have c6b1 : decide (x4_1 ≤ (wrap64 (x4_1 + 1))) = true := decide_eq_true c6
            by_cases c7 : (wrap64 (x4_1 + 1)) ≤ (l0.length : Int)
            · rw [if_pos c7] at H
              have c7b0 := eq_true c7
              have c7b1 : decide ((wrap64 (x4_1 + 1)) ≤ (l0.length : Int)) = true := decide_eq_true c7
              obtain ⟨y387, hy387⟩ : ∃ y_ : List (S43), y_ = ((l0.take ((wrap64 (x4_1 + 1)) : Int).toNat).drop (x4_1 : Int).toNat) := ⟨_, rfl⟩
              replace H : ((boltingref04_Moved.f k1 y387 0).bind fun t391 => (if ((rd_T43 l0 x4_1).f1) = 1 then (boltingref04_Normal.j1 k1 l0 x3_1 x4_1 t391 (x3_1.length : Int) (((rd_T43 l0 x4_1).f3).toList == ([] : List UInt8))) else (boltingref04_Normal.j1 k1 l0 x3_1 x4_1 t391 (x3_1.length : Int) false))) = some r := by first | (rw [hy387]; with_reducible exact H) | (have H2_ := (Option.bind_some _ _).symm.trans H; rw [hy387]; with_reducible exact H2_) | (have H2_ := (Option.bind_some _ _).symm.trans H; with_reducible exact H2_) | with_reducible exact H | (rw [hy387]; exact H) | exact H
              have Ny387 := Aside0.mk hy387
              clear hy387
              replace H := Option.bind_eq_some_iff.mp H
              obtain ⟨t391, A80, H⟩ := H
              replace H : (if ((rd_T43 l0 x4_1).f1) = 1 then (boltingref04_Normal.j1 k1 l0 x3_1 x4_1 t391 (x3_1.length : Int) (((rd_T43 l0 x4_1).f3).toList == ([] : List UInt8))) else (boltingref04_Normal.j1 k1 l0 x3_1 x4_1 t391 (x3_1.length : Int) false)) = some r := H
              have A8 := Aside0.mk A80
              clear A80
              have HC9 := Aside0.mk H
              clear H
              have q10 : ((wrap64 (x4_1 + 1)) : Int) ≤ ((l0.length : Int) : Int) := of_decide_eq_true (by first | (with_reducible assumption) | assumption)
              obtain ⟨i010, hi010, _, hsz10, _⟩ := info_parts info43
              have hroom10 : l0.length ≤ c0 := HC0.out
              have hC10 : Kd.C k43 _ A0 l0.length l0 := HR0.out
              have ql10 : (x4_1 : Int) ≤ ((wrap64 (x4_1 + 1)) : Int) := of_decide_eq_true (by first | (with_reducible assumption) | assumption)
              have q010 : (0 : Int) ≤ (x4_1 : Int) := of_decide_eq_true (by first | (with_reducible assumption) | assumption)
              have hcut10 := cut_mid (P := Try.prog) 22 43 .i64 .i64 Try.underlying22 hi010 5 hsz10 A0 l0.length c0 x4_1 (wrap64 (x4_1 + 1)) q010 ql10 q10 hroom10
              have hr10 := Kd.C_mid (lo := (x4_1 : Int).toNat) (hi := ((wrap64 (x4_1 + 1)) : Int).toNat) (c := c0) hC10 (by omega) (by omega) hroom10
              obtain ⟨A10, hA10⟩ : ∃ A1, A1 = (if c0 = (x4_1 : Int).toNat then A0 else (A0 : Option Addr).map (·.add ((x4_1 : Int).toNat * 5))) := ⟨_, rfl⟩
              obtain ⟨c10, hc10⟩ : ∃ c1, c1 = c0 - (x4_1 : Int).toNat := ⟨_, rfl⟩
              have hy10 : y387.length = ((wrap64 (x4_1 + 1)) : Int).toNat - (x4_1 : Int).toNat := (by rw [Ny387.out, List.length_drop, List.length_take] <;> omega)
              rw [show ((l0).take ((wrap64 (x4_1 + 1)) : Int).toNat).drop (x4_1 : Int).toNat = y387 from Ny387.out.symm] at hr10
              replace hr10 : Kd.C k43 _ A10 y387.length y387 := (by rw [hA10]; exact hr10)
              rw [← hy10, ← hA10, ← hc10] at hcut10
              have HR390 := Aside0.mk hr10
              have HC390 := Aside0.mk (show y387.length ≤ c10 from by rw [hy10, hc10]; exact Nat.sub_le_sub_right (Nat.le_trans (by omega) hroom10) _)
              clear hr10 hC10 hroom10 hi010 hsz10 hc10
              have KY10 := Aside0.mk hy10
              have KA10 := Aside0.mk hA10
              clear hy10 hA10
              replace q10 := eq_true q10
              go_upto_region 7 with (first | ((with_reducible refine gate_callee (f := 17) rfl ?_); refine goesL_ (some 20) rfl rfl Try.func17 (by kernel_rfl) rfl #[.slice A10 y387.length c10, .int .i64 0] rfl (by (try simp only [List.map_toArray, List.map_cons, List.map_nil]); first | done | rfl | (simp only [List.length_drop, List.length_take]; rfl)) ?_; (with_reducible refine (boltingref04_Moved.calls k1 _ _ y387 0 t391 _ ?side1 ?side2 A8.out).mono ?_); (case side1 => repeat (first | exact (Kd.C_below HR390.out HB.out) | (with_reducible refine Kd.C_alloc ?_ _) | (with_reducible refine Kd.C_drewN ?_ _) | (with_reducible refine Kd.C_drew ?_))); (case side2 => exact HC390.out); rintro e w11 ⟨v392, rfl, ho0, hb⟩; refine ⟨_, rfl, ?_⟩; have n0_ := Aside0.mk (Kd.N_elder' (by (with_reducible repeat (first | apply Kd.N_alloc | apply Kd.N_drewN | apply Kd.N_drew)); exact HO_3.out) (by first | exact Kd.N_base ho0 | exact Kd.S_base ho0 | exact Kd.R_base ho0) hb); have n1_ := Aside0.mk (Kd.N_lower (Kd.N_mono (ok' := fun k_ => (w.heap.size ≤ k_) ∧ some k_ ≠ (u3 : Value).ownBlock) (Kd.S_N (Kd.S_bound ho0)) (fun k_ hk_ => ⟨(Nat.le_trans (below_size (by repeat (first | (with_reducible first | exact HB.out | apply below_alloc | apply pw_below_drewN | apply below_drew1) | exact HB.out))) hk_.2.1), (Kd.fresh' (Kd.N_lt (by (with_reducible repeat (first | apply Kd.N_alloc | apply Kd.N_drewN | apply Kd.N_drew)); exact HO_3.out)) k_ hk_.2.1)⟩)) (below_size (by repeat (first | (with_reducible first | exact HB.out | apply below_alloc | apply pw_below_drewN | apply below_drew1) | exact HB.out)))); have n2_ := Aside0.mk (below_step (by repeat (first | (with_reducible first | exact HB.out | apply below_alloc | apply pw_below_drewN | apply below_drew1) | exact HB.out)) hb); clear HO_3; clear HB; have HO_3 := n0_; have HO393 := n1_; have HB := n2_; clear n0_ n1_ n2_; (try clear hb); (try clear hb2); (try clear hk); (try clear hi); (try clear ho0); obtain ⟨Ao12, co12, eo12⟩ := Kd.N_slice HO_3.out; subst eo12))
              (try simp only [Act.put, List.setIfInBounds_toArray, List.set_cons_zero, List.set_cons_succ])
              go_cut [36] (fun v36 wc => ∃ (kq : Nat) (x36_8 : Bool), v36 = .bool x36_8 ∧ Aside0 (boltingref04_Normal.j1 kq l0 x3_1 x4_1 t391 (x3_1.length : Int) x36_8 = some r) ∧ Aside0 (kq ≤ k1) ∧ Aside0 (Kd.N k43 43 wc w.heap.size (fun k_ => (w.heap.size ≤ k_) ∧ some k_ ≠ (v392 : Value).ownBlock) (.slice Ao12 x3_1.length co12) x3_1) ∧ Aside0 (Kd.N k43 43 wc w.heap.size (fun k_ => (w.heap.size ≤ k_) ∧ some k_ ≠ ((.slice Ao12 x3_1.length co12) : Value).ownBlock) v392 t391) ∧ Aside0 (Below w.heap.size w wc))
              case first =>
                have H := HC9.out
                clear HC9
                by_cases c13 : ((rd_T43 l0 x4_1).f1) = 1
                · rw [if_pos c13] at H
                  have c13b0 : (((rd_T43 l0 x4_1).f1) == 1) = true := beq_iff_eq.mpr c13
                  have c13b1 : (((rd_T43 l0 x4_1).f1) != 1) = false := bne_eq_false_iff_eq.mpr c13
                  clear c13
                  (first | rw [c13b0] | (simp only [i64_w, i32_w]; rw [c13b0]) | skip)
                  have H' := Aside0.mk H
                  clear H
                  have p394 : 0 ≤ (x4_1 : Int) := of_decide_eq_true (by first | (with_reducible assumption) | assumption)
                  have q394 : x4_1 < (l0.length : Int) := of_decide_eq_true (by first | (with_reducible assumption) | assumption)
                  obtain ⟨ad394, A394_4, c394_4, e394, hx394_0, hx394_1, hx394_2, hx394_3, hx394_4, hl394_4, hi394_4⟩ := at_T43 HR0.out x4_1 p394 q394
                  cases e394
                  replace hx394_0 := (HB.out.cell (World.block_lt_of_cell? w _ hx394_0)).trans hx394_0
                  replace hx394_1 := (HB.out.cell (World.block_lt_of_cell? w _ hx394_1)).trans hx394_1
                  replace hx394_2 := (HB.out.cell (World.block_lt_of_cell? w _ hx394_2)).trans hx394_2
                  replace hx394_3 := (HB.out.cell (World.block_lt_of_cell? w _ hx394_3)).trans hx394_3
                  replace hx394_4 := (HB.out.cell (World.block_lt_of_cell? w _ hx394_4)).trans hx394_4
                  have HR394_4 := Aside0.mk hi394_4
                  have HC394_4 := Aside0.mk hl394_4
                  clear hi394_4 hl394_4
                  replace p394 := eq_true p394
                  replace q394 := eq_true q394
                  have p395 : 0 ≤ (x4_1 : Int) := of_decide_eq_true (by first | (with_reducible assumption) | assumption)
                  have q395 : x4_1 < (l0.length : Int) := of_decide_eq_true (by first | (with_reducible assumption) | assumption)
                  obtain ⟨ad395, A395_4, c395_4, e395, hx395_0, hx395_1, hx395_2, hx395_3, hx395_4, hl395_4, hi395_4⟩ := at_T43 HR0.out x4_1 p395 q395
                  obtain rfl : ad394 = ad395 := (by injection e395)
                  replace hx395_0 := (HB.out.cell (World.block_lt_of_cell? w _ hx395_0)).trans hx395_0
                  replace hx395_1 := (HB.out.cell (World.block_lt_of_cell? w _ hx395_1)).trans hx395_1
                  replace hx395_2 := (HB.out.cell (World.block_lt_of_cell? w _ hx395_2)).trans hx395_2
                  replace hx395_3 := (HB.out.cell (World.block_lt_of_cell? w _ hx395_3)).trans hx395_3
                  replace hx395_4 := (HB.out.cell (World.block_lt_of_cell? w _ hx395_4)).trans hx395_4
                  have HR395_4 := Aside0.mk hi395_4
                  have HC395_4 := Aside0.mk hl395_4
                  clear hi395_4 hl395_4
                  replace p395 := eq_true p395
                  replace q395 := eq_true q395
                  have ea_ := Option.some.inj (hx394_4.symm.trans hx395_4)
                  injection ea_ with ea_ en_ ec_
                  subst ea_
                  subst ec_
                  clear en_
                  go_wp2
                  go_meet
                  case rel => exact ⟨_, ((((rd_T43 l0 x4_1).f3).toList == ([] : List UInt8))), (by first | rfl | (simp; done) | (congr 1; first | (with_reducible assumption) | (symm; with_reducible assumption)) | (simp [*]; done) | (simp only [ne_nil_empty]; done) | (rw [ne_nil_empty]; rfl)), H', ⟨by have := HK1.out; first | omega | exact Nat.le_refl _⟩, ⟨by (with_reducible repeat (first | apply Kd.N_alloc | apply Kd.N_drewN | apply Kd.N_drew)); exact HO_3.out⟩, ⟨by (with_reducible repeat (first | apply Kd.N_alloc | apply Kd.N_drewN | apply Kd.N_drew)); exact HO393.out⟩, ⟨by repeat (first | (with_reducible first | exact HB.out | apply below_alloc | apply pw_below_drewN | apply below_drew1) | exact HB.out)⟩⟩
                · rw [if_neg c13] at H
                  have c13b0 : (((rd_T43 l0 x4_1).f1) == 1) = false := beq_eq_false_iff_ne.mpr c13
                  have c13b1 : (((rd_T43 l0 x4_1).f1) != 1) = true := bne_iff_ne.mpr c13
                  (first | rw [c13b0] | (simp only [i64_w, i32_w]; rw [c13b0]) | skip)
                  have H' := Aside0.mk H
                  clear H
                  have p394 : 0 ≤ (x4_1 : Int) := of_decide_eq_true (by first | (with_reducible assumption) | assumption)
                  have q394 : x4_1 < (l0.length : Int) := of_decide_eq_true (by first | (with_reducible assumption) | assumption)
                  obtain ⟨ad394, A394_4, c394_4, e394, hx394_0, hx394_1, hx394_2, hx394_3, hx394_4, hl394_4, hi394_4⟩ := at_T43 HR0.out x4_1 p394 q394
                  cases e394
                  replace hx394_0 := (HB.out.cell (World.block_lt_of_cell? w _ hx394_0)).trans hx394_0
                  replace hx394_1 := (HB.out.cell (World.block_lt_of_cell? w _ hx394_1)).trans hx394_1
                  replace hx394_2 := (HB.out.cell (World.block_lt_of_cell? w _ hx394_2)).trans hx394_2
                  replace hx394_3 := (HB.out.cell (World.block_lt_of_cell? w _ hx394_3)).trans hx394_3
                  replace hx394_4 := (HB.out.cell (World.block_lt_of_cell? w _ hx394_4)).trans hx394_4
                  have HR394_4 := Aside0.mk hi394_4
                  have HC394_4 := Aside0.mk hl394_4
                  clear hi394_4 hl394_4
                  replace p394 := eq_true p394
                  replace q394 := eq_true q394
                  go_wp2
                  go_meet
                  case rel => exact ⟨_, (false), (by first | rfl | (simp; done) | (congr 1; first | (with_reducible assumption) | (symm; with_reducible assumption)) | (simp [*]; done) | (simp only [ne_nil_empty]; done) | (rw [ne_nil_empty]; rfl)), H', ⟨by have := HK1.out; first | omega | exact Nat.le_refl _⟩, ⟨by (with_reducible repeat (first | apply Kd.N_alloc | apply Kd.N_drewN | apply Kd.N_drew)); exact HO_3.out⟩, ⟨by (with_reducible repeat (first | apply Kd.N_alloc | apply Kd.N_drewN | apply Kd.N_drew)); exact HO393.out⟩, ⟨by repeat (first | (with_reducible first | exact HB.out | apply below_alloc | apply pw_below_drewN | apply below_drew1) | exact HB.out)⟩⟩
              case rest =>
                clear HC9
                try clear c1
                try clear q1
                try clear p2
                try clear c3
                try clear p3
                try clear q3
                try clear hx3
                try clear c4
                try clear c4b0
                try clear c5
                try clear c5b0
                try clear c5b1
                try clear c6
                try clear c6b0
                try clear c6b1
                try clear p6
                try clear c7
                try clear c7b0
                try clear c7b1
                try clear c10
                try clear q10
                try clear c13
                try clear c13b0
                try clear c13b1
                try clear hx394_0
                try clear hx394_1
                try clear hx394_2
                try clear hx394_3
                try clear hx394_4
                try clear hx395_0
                try clear hx395_1
                try clear hx395_2
                try clear hx395_3
                try clear hx395_4
                try clear p2
                try clear p394
                try clear p395
                try clear q010
                try clear q10
                try clear q394
                try clear q395
                obtain ⟨kq, x36_8, rfl, HA, HJ8, HO_3, HO_5, HB⟩ := hcut
                cases kq with
                | zero => exact absurd HA.out (by simp [boltingref04_Normal.j1])
                | succ kj8 =>
                  have H := HA.out
                  clear HA
                  simp only [boltingref04_Normal.j1] at H
                  by_cases c14 : x36_8 = true
                  · subst c14
                    have H1 : (boltingref04_Normal.l0 kj8 l0 x3_1 (wrap64 (x4_1 + 1))) = some r := by rw [if_pos rfl] at H; exact H
                    clear H
                    have H := H1
                    clear H1
                    have H' := Aside0.mk H
                    clear H
                    go_wp2
                    go_roundg kj8
                    case measure => have := HK1.out; have := HJ8.out; omega
                    case rel => exact ⟨(x3_1), (wrap64 (x4_1 + 1)), (by first | rfl | (simp; done) | (congr 1; first | (with_reducible assumption) | (symm; with_reducible assumption)) | (simp [*]; done) | (simp only [ne_nil_empty]; done) | (rw [ne_nil_empty]; rfl)), H', ⟨by have := HK1.out; have := HJ8.out; omega⟩, ⟨by (with_reducible repeat (first | apply Kd.N_alloc | apply Kd.N_drewN | apply Kd.N_drew)); exact Kd.N_mono HO_3.out (fun _ hk => hk.1)⟩, ⟨by repeat (first | (with_reducible first | exact HB.out | apply below_alloc | apply pw_below_drewN | apply below_drew1) | exact HB.out)⟩⟩
                  · replace c14 := Bool.eq_false_iff.mpr c14
                    subst c14
                    have H1 : (if 0 ≤ x4_1 then (if x4_1 < (l0.length : Int) then (if ((rd_T43 l0 x4_1).f1) = 1 then (if (x3_1.length : Int) > 0 then (if 0 ≤ (wrap64 ((x3_1.length : Int) - 1)) then (if (wrap64 ((x3_1.length : Int) - 1)) < (x3_1.length : Int) then (if ((rd_T43 x3_1 (wrap64 ((x3_1.length : Int) - 1))).f1) = 1 then (if ((rd_T43 x3_1 (wrap64 ((x3_1.length : Int) - 1))).f0) = ((rd_T43 l0 x4_1).f0) then (if ((rd_T43 x3_1 (wrap64 ((x3_1.length : Int) - 1))).f3).size + ((rd_T43 l0 x4_1).f3).size ≤ 9223372036854775807 then (boltingref04_Normal.l0 kj8 l0 (x3_1.set ((wrap64 ((x3_1.length : Int) - 1)) : Int).toNat (⟨(rd_T43 x3_1 (wrap64 ((x3_1.length : Int) - 1))).f0, (rd_T43 x3_1 (wrap64 ((x3_1.length : Int) - 1))).f1, (rd_T43 x3_1 (wrap64 ((x3_1.length : Int) - 1))).f2, ((rd_T43 x3_1 (wrap64 ((x3_1.length : Int) - 1))).f3) ++ ((rd_T43 l0 x4_1).f3), (rd_T43 x3_1 (wrap64 ((x3_1.length : Int) - 1))).f4⟩ : S43)) (wrap64 (x4_1 + 1))) else (none)) else (if x3_1.length + t391.length < 1954687338268 then (boltingref04_Normal.l0 kj8 l0 (x3_1 ++ t391) (wrap64 (x4_1 + 1))) else (none))) else (if x3_1.length + t391.length < 1954687338268 then (boltingref04_Normal.l0 kj8 l0 (x3_1 ++ t391) (wrap64 (x4_1 + 1))) else (none))) else (none)) else (none)) else (if x3_1.length + t391.length < 1954687338268 then (boltingref04_Normal.l0 kj8 l0 (x3_1 ++ t391) (wrap64 (x4_1 + 1))) else (none))) else (if x3_1.length + t391.length < 1954687338268 then (boltingref04_Normal.l0 kj8 l0 (x3_1 ++ t391) (wrap64 (x4_1 + 1))) else (none))) else (none)) else (none)) = some r := by rw [if_neg (show ¬ (false = true) by decide)] at H; exact H
                    clear H
                    have H := H1
                    clear H1
                    by_cases c15 : 0 ≤ x4_1
                    · rw [if_pos c15] at H
                      have c15b0 : decide (0 ≤ x4_1) = true := decide_eq_true c15
                      clear c15
                      by_cases c16 : x4_1 < (l0.length : Int)
                      · rw [if_pos c16] at H
                        have c16b0 : decide (x4_1 < (l0.length : Int)) = true := decide_eq_true c16
                        clear c16
                        by_cases c17 : ((rd_T43 l0 x4_1).f1) = 1
                        · rw [if_pos c17] at H
                          have c17b0 : (((rd_T43 l0 x4_1).f1) == 1) = true := beq_iff_eq.mpr c17
                          have c17b1 : (((rd_T43 l0 x4_1).f1) != 1) = false := bne_eq_false_iff_eq.mpr c17
                          clear c17
                          by_cases c18 : (x3_1.length : Int) > 0
                          · rw [if_pos c18] at H
                            have c18b0 : decide (0 < (x3_1.length : Int)) = true := decide_eq_true c18
                            have c18b1 : decide (0 < x3_1.length) = true := decide_eq_true (by omega)
                            clear c18
                            obtain ⟨ji19, hji19⟩ : ∃ j_ : Int, (wrap64 ((x3_1.length : Int) - 1)) = j_ := ⟨_, rfl⟩
                            replace H : (if 0 ≤ (ji19) then (if (ji19) < (x3_1.length : Int) then (if ((rd_T43 x3_1 (ji19)).f1) = 1 then (if ((rd_T43 x3_1 (ji19)).f0) = ((rd_T43 l0 x4_1).f0) then (if ((rd_T43 x3_1 (ji19)).f3).size + ((rd_T43 l0 x4_1).f3).size ≤ 9223372036854775807 then (boltingref04_Normal.l0 kj8 l0 (x3_1.set ((ji19) : Int).toNat (⟨(rd_T43 x3_1 (ji19)).f0, (rd_T43 x3_1 (ji19)).f1, (rd_T43 x3_1 (ji19)).f2, ((rd_T43 x3_1 (ji19)).f3) ++ ((rd_T43 l0 x4_1).f3), (rd_T43 x3_1 (ji19)).f4⟩ : S43)) (wrap64 (x4_1 + 1))) else (none)) else (if x3_1.length + t391.length < 1954687338268 then (boltingref04_Normal.l0 kj8 l0 (x3_1 ++ t391) (wrap64 (x4_1 + 1))) else (none))) else (if x3_1.length + t391.length < 1954687338268 then (boltingref04_Normal.l0 kj8 l0 (x3_1 ++ t391) (wrap64 (x4_1 + 1))) else (none))) else (none)) else (none)) = some r := by first | (rw [hji19] at H; exact H) | (simp only [hji19] at H ⊢; exact H)
                            have hji19w : (IntKind.i64.wrap ((x3_1.length : Int) - 1)) = ji19 := (i64_w _).trans hji19
                            by_cases c20 : 0 ≤ (ji19)
                            · rw [if_pos c20] at H
                              have c20b0 : decide (0 ≤ (ji19)) = true := decide_eq_true c20
                              clear c20
                              by_cases c21 : (ji19) < (x3_1.length : Int)
                              · rw [if_pos c21] at H
                                have c21b0 : decide ((ji19) < (x3_1.length : Int)) = true := decide_eq_true c21
                                clear c21
                                by_cases c22 : ((rd_T43 x3_1 (ji19)).f1) = 1
                                · rw [if_pos c22] at H
                                  have c22b0 : (((rd_T43 x3_1 (ji19)).f1) == 1) = true := beq_iff_eq.mpr c22
                                  have c22b1 : (((rd_T43 x3_1 (ji19)).f1) != 1) = false := bne_eq_false_iff_eq.mpr c22
                                  clear c22
                                  by_cases c23 : ((rd_T43 x3_1 (ji19)).f0) = ((rd_T43 l0 x4_1).f0)
                                  · rw [if_pos c23] at H
                                    have c23b0 : (((rd_T43 x3_1 (ji19)).f0) == ((rd_T43 l0 x4_1).f0)) = true := beq_iff_eq.mpr c23
                                    have c23b1 : (((rd_T43 x3_1 (ji19)).f0) != ((rd_T43 l0 x4_1).f0)) = false := bne_eq_false_iff_eq.mpr c23
                                    clear c23
                                    by_cases c24 : ((rd_T43 x3_1 (ji19)).f3).size + ((rd_T43 l0 x4_1).f3).size ≤ 9223372036854775807
                                    · rw [if_pos c24] at H
                                      have c24b0 := eq_true c24
                                      have c24b1 : decide (((rd_T43 x3_1 (ji19)).f3).size + ((rd_T43 l0 x4_1).f3).size ≤ 9223372036854775807) = true := decide_eq_true c24
                                      try have c24b2 : (9223372036854775807 < ((rd_T43 x3_1 (ji19)).f3).size + ((rd_T43 l0 x4_1).f3).size) = False := eq_false (Nat.not_lt.2 c24)
                                      obtain ⟨y403, hy403⟩ : ∃ y_ : List (S43), y_ = (x3_1.set ((ji19) : Int).toNat (⟨(rd_T43 x3_1 (ji19)).f0, (rd_T43 x3_1 (ji19)).f1, (rd_T43 x3_1 (ji19)).f2, ((rd_T43 x3_1 (ji19)).f3) ++ ((rd_T43 l0 x4_1).f3), (rd_T43 x3_1 (ji19)).f4⟩ : S43)) := ⟨_, rfl⟩
                                      replace H : (boltingref04_Normal.l0 kj8 l0 y403 (wrap64 (x4_1 + 1))) = some r := by first | (rw [hy403]; with_reducible exact H) | (have H2_ := (Option.bind_some _ _).symm.trans H; rw [hy403]; with_reducible exact H2_) | (have H2_ := (Option.bind_some _ _).symm.trans H; with_reducible exact H2_) | with_reducible exact H | (rw [hy403]; exact H) | exact H
                                      have Ny403 := Aside0.mk hy403
                                      clear hy403
                                      have H' := Aside0.mk H
                                      clear H
                                      try go_wp2
                                      have n0_ := Aside0.mk (Kd.N_drew HO_3.out)
                                      have n1_ := Aside0.mk (Kd.N_drew HO_5.out)
                                      have n2_ := Aside0.mk (below_drew1 HB.out)
                                      clear HO_3
                                      clear HO_5
                                      clear HB
                                      have HO_3 := n0_
                                      have HO_5 := n1_
                                      have HB := n2_
                                      clear n0_ n1_ n2_
                                      have p396 : 0 ≤ (x4_1 : Int) := of_decide_eq_true (by first | (with_reducible assumption) | assumption)
                                      have q396 : x4_1 < (l0.length : Int) := of_decide_eq_true (by first | (with_reducible assumption) | assumption)
                                      obtain ⟨ad396, A396_4, c396_4, e396, hx396_0, hx396_1, hx396_2, hx396_3, hx396_4, hl396_4, hi396_4⟩ := at_T43 HR0.out x4_1 p396 q396
                                      have hy396_4 := Aside0.mk hx396_4
                                      have hw396_4 := hx396_4
                                      have hw396_3 := hx396_3
                                      have hw396_2 := hx396_2
                                      have hw396_1 := hx396_1
                                      have hw396_0 := hx396_0
                                      cases e396
                                      replace hx396_0 := (HB.out.cell (World.block_lt_of_cell? w _ hx396_0)).trans hx396_0
                                      replace hx396_1 := (HB.out.cell (World.block_lt_of_cell? w _ hx396_1)).trans hx396_1
                                      replace hx396_2 := (HB.out.cell (World.block_lt_of_cell? w _ hx396_2)).trans hx396_2
                                      replace hx396_3 := (HB.out.cell (World.block_lt_of_cell? w _ hx396_3)).trans hx396_3
                                      replace hx396_4 := (HB.out.cell (World.block_lt_of_cell? w _ hx396_4)).trans hx396_4
                                      have HR396_4 := Aside0.mk hi396_4
                                      have HC396_4 := Aside0.mk hl396_4
                                      clear hi396_4 hl396_4
                                      replace p396 := eq_true p396
                                      replace q396 := eq_true q396
                                      have p397 : 0 ≤ ((ji19) : Int) := of_decide_eq_true (by first | (with_reducible assumption) | assumption)
                                      have q397 : (ji19) < (x3_1.length : Int) := of_decide_eq_true (by first | (with_reducible assumption) | assumption)
                                      obtain ⟨ad397, A397_4, c397_4, e397, hx397_0, hx397_1, hx397_2, hx397_3, hx397_4, hl397_4, hi397_4⟩ := at_T43 (Kd.N_reads' HO_3.out).2.2 (ji19) p397 q397
                                      cases e397
                                      obtain ⟨ce397, hce397, hMe397, hcc397⟩ := Kd.N_get HO_3.out z43 (ji19) p397 (by first | exact q397 | exact of_decide_eq_true (by first | (with_reducible assumption) | assumption) | (have e_ := (Kd.N_reads' HO_3.out).1; omega))
                                      obtain ⟨ua397_4, uc397_4, rfl, ul397_4, ge397_4⟩ := k43_openF hMe397
                                      have hv397_4 := hcc397 4 _ rfl
                                      rw [add_field _ _ 4 (by omega)] at hv397_4
                                      replace hv397_4 := Option.some.inj (hv397_4.symm.trans hx397_4)
                                      injection hv397_4 with hva_ hvn_ hvc_
                                      rw [hva_] at ge397_4
                                      rw [hvc_] at ul397_4
                                      have HL397_4 := Aside0.mk (show Kd.V k46 46 _ w.heap.size _ _ ((rd_T43 x3_1 (ji19)).f4) from Kd.V_mk ul397_4 ge397_4)
                                      clear hva_ hvn_ hvc_ ge397_4 ul397_4
                                      clear hcc397 hce397
                                      have HR397_4 := Aside0.mk hi397_4
                                      have HC397_4 := Aside0.mk hl397_4
                                      clear hi397_4 hl397_4
                                      replace p397 := eq_true p397
                                      replace q397 := eq_true q397
                                      have p398 : 0 ≤ ((ji19) : Int) := of_decide_eq_true (by first | (with_reducible assumption) | assumption)
                                      have q398 : (ji19) < (x3_1.length : Int) := of_decide_eq_true (by first | (with_reducible assumption) | assumption)
                                      obtain ⟨ad398, A398_4, c398_4, e398, hx398_0, hx398_1, hx398_2, hx398_3, hx398_4, hl398_4, hi398_4⟩ := at_T43 (Kd.N_reads' HO_3.out).2.2 (ji19) p398 q398
                                      obtain rfl : ad397 = ad398 := (by injection e398)
                                      obtain ⟨ce398, hce398, hMe398, hcc398⟩ := Kd.N_get HO_3.out z43 (ji19) p398 (by first | exact q398 | exact of_decide_eq_true (by first | (with_reducible assumption) | assumption) | (have e_ := (Kd.N_reads' HO_3.out).1; omega))
                                      obtain ⟨ua398_4, uc398_4, rfl, ul398_4, ge398_4⟩ := k43_openF hMe398
                                      have hv398_4 := hcc398 4 _ rfl
                                      rw [add_field _ _ 4 (by omega)] at hv398_4
                                      replace hv398_4 := Option.some.inj (hv398_4.symm.trans hx398_4)
                                      injection hv398_4 with hva_ hvn_ hvc_
                                      rw [hva_] at ge398_4
                                      rw [hvc_] at ul398_4
                                      have HL398_4 := Aside0.mk (show Kd.V k46 46 _ w.heap.size _ _ ((rd_T43 x3_1 (ji19)).f4) from Kd.V_mk ul398_4 ge398_4)
                                      clear hva_ hvn_ hvc_ ge398_4 ul398_4
                                      clear hcc398 hce398
                                      have HR398_4 := Aside0.mk hi398_4
                                      have HC398_4 := Aside0.mk hl398_4
                                      clear hi398_4 hl398_4
                                      replace p398 := eq_true p398
                                      replace q398 := eq_true q398
                                      have ea_ := Option.some.inj (hx397_4.symm.trans hx398_4)
                                      injection ea_ with ea_ en_ ec_
                                      subst ea_
                                      subst ec_
                                      clear en_
                                      have p399 : 0 ≤ (x4_1 : Int) := of_decide_eq_true (by first | (with_reducible assumption) | assumption)
                                      have q399 : x4_1 < (l0.length : Int) := of_decide_eq_true (by first | (with_reducible assumption) | assumption)
                                      obtain ⟨ad399, A399_4, c399_4, e399, hx399_0, hx399_1, hx399_2, hx399_3, hx399_4, hl399_4, hi399_4⟩ := at_T43 HR0.out x4_1 p399 q399
                                      have hw399_4 := hx399_4
                                      have hw399_3 := hx399_3
                                      have hw399_2 := hx399_2
                                      have hw399_1 := hx399_1
                                      have hw399_0 := hx399_0
                                      obtain rfl : ad396 = ad399 := (by injection e399)
                                      replace hx399_0 := (HB.out.cell (World.block_lt_of_cell? w _ hx399_0)).trans hx399_0
                                      replace hx399_1 := (HB.out.cell (World.block_lt_of_cell? w _ hx399_1)).trans hx399_1
                                      replace hx399_2 := (HB.out.cell (World.block_lt_of_cell? w _ hx399_2)).trans hx399_2
                                      replace hx399_3 := (HB.out.cell (World.block_lt_of_cell? w _ hx399_3)).trans hx399_3
                                      replace hx399_4 := (HB.out.cell (World.block_lt_of_cell? w _ hx399_4)).trans hx399_4
                                      have HR399_4 := Aside0.mk hi399_4
                                      have HC399_4 := Aside0.mk hl399_4
                                      clear hi399_4 hl399_4
                                      replace p399 := eq_true p399
                                      replace q399 := eq_true q399
                                      have ea_ := Option.some.inj (hx396_4.symm.trans hx399_4)
                                      injection ea_ with ea_ en_ ec_
                                      subst ea_
                                      subst ec_
                                      clear en_
                                      refine start_ (n := 33) (S := fun w' => w'.cell? (ad396.add ((x4_1).toNat * 5)) = some (.int .i64 ((rd_T43 l0 x4_1).f0)) ∧ w'.cell? ⟨(ad396.add ((x4_1).toNat * 5)).block, (ad396.add ((x4_1).toNat * 5)).off + 1, none⟩ = some (.int .i64 ((rd_T43 l0 x4_1).f1)) ∧ w'.cell? ⟨(ad396.add ((x4_1).toNat * 5)).block, (ad396.add ((x4_1).toNat * 5)).off + 2, none⟩ = some (.string ((rd_T43 l0 x4_1).f2)) ∧ w'.cell? ⟨(ad396.add ((x4_1).toNat * 5)).block, (ad396.add ((x4_1).toNat * 5)).off + 3, none⟩ = some (.string ((rd_T43 l0 x4_1).f3)) ∧ w'.cell? ⟨(ad396.add ((x4_1).toNat * 5)).block, (ad396.add ((x4_1).toNat * 5)).off + 4, none⟩ = some (.slice A396_4 ((rd_T43 l0 x4_1).f4).length c396_4) ∧ w'.cell? (ad397.add (((ji19)).toNat * 5)) = some (.int .i64 ((rd_T43 x3_1 (ji19)).f0)) ∧ w'.cell? ⟨(ad397.add (((ji19)).toNat * 5)).block, (ad397.add (((ji19)).toNat * 5)).off + 1, none⟩ = some (.int .i64 ((rd_T43 x3_1 (ji19)).f1)) ∧ w'.cell? ⟨(ad397.add (((ji19)).toNat * 5)).block, (ad397.add (((ji19)).toNat * 5)).off + 2, none⟩ = some (.string ((rd_T43 x3_1 (ji19)).f2)) ∧ w'.cell? ⟨(ad397.add (((ji19)).toNat * 5)).block, (ad397.add (((ji19)).toNat * 5)).off + 3, none⟩ = some (.string ((rd_T43 x3_1 (ji19)).f3)) ∧ w'.cell? ⟨(ad397.add (((ji19)).toNat * 5)).block, (ad397.add (((ji19)).toNat * 5)).off + 4, none⟩ = some (.slice A397_4 ((rd_T43 x3_1 (ji19)).f4).length c397_4) ∧ w'.cell? (ad397.add (((ji19)).toNat * 5)) = some (.int .i64 ((rd_T43 x3_1 (ji19)).f0)) ∧ w'.cell? ⟨(ad397.add (((ji19)).toNat * 5)).block, (ad397.add (((ji19)).toNat * 5)).off + 1, none⟩ = some (.int .i64 ((rd_T43 x3_1 (ji19)).f1)) ∧ w'.cell? ⟨(ad397.add (((ji19)).toNat * 5)).block, (ad397.add (((ji19)).toNat * 5)).off + 2, none⟩ = some (.string ((rd_T43 x3_1 (ji19)).f2)) ∧ w'.cell? ⟨(ad397.add (((ji19)).toNat * 5)).block, (ad397.add (((ji19)).toNat * 5)).off + 3, none⟩ = some (.string ((rd_T43 x3_1 (ji19)).f3)) ∧ w'.cell? ⟨(ad397.add (((ji19)).toNat * 5)).block, (ad397.add (((ji19)).toNat * 5)).off + 4, none⟩ = some (.slice A397_4 ((rd_T43 x3_1 (ji19)).f4).length c397_4) ∧ w'.cell? (ad396.add ((x4_1).toNat * 5)) = some (.int .i64 ((rd_T43 l0 x4_1).f0)) ∧ w'.cell? ⟨(ad396.add ((x4_1).toNat * 5)).block, (ad396.add ((x4_1).toNat * 5)).off + 1, none⟩ = some (.int .i64 ((rd_T43 l0 x4_1).f1)) ∧ w'.cell? ⟨(ad396.add ((x4_1).toNat * 5)).block, (ad396.add ((x4_1).toNat * 5)).off + 2, none⟩ = some (.string ((rd_T43 l0 x4_1).f2)) ∧ w'.cell? ⟨(ad396.add ((x4_1).toNat * 5)).block, (ad396.add ((x4_1).toNat * 5)).off + 3, none⟩ = some (.string ((rd_T43 l0 x4_1).f3)) ∧ w'.cell? ⟨(ad396.add ((x4_1).toNat * 5)).block, (ad396.add ((x4_1).toNat * 5)).off + 4, none⟩ = some (.slice A396_4 ((rd_T43 l0 x4_1).f4).length c396_4)) (ds := []) #[false, false, false, false, false, false, false, false, false, false, false, false, false, false, false, false, false, false, false, false, false, false, false, false, false, false, false, false, false, false, false, false, false] (by kernel_rfl) rfl rfl ⟨((HB.out.cell (World.block_lt_of_cell? w _ hw396_0)).trans hw396_0), ((HB.out.cell (World.block_lt_of_cell? w _ hw396_1)).trans hw396_1), ((HB.out.cell (World.block_lt_of_cell? w _ hw396_2)).trans hw396_2), ((HB.out.cell (World.block_lt_of_cell? w _ hw396_3)).trans hw396_3), ((HB.out.cell (World.block_lt_of_cell? w _ hw396_4)).trans hw396_4), hx397_0, hx397_1, hx397_2, hx397_3, hx397_4, hx398_0, hx398_1, hx398_2, hx398_3, hx398_4, ((HB.out.cell (World.block_lt_of_cell? w _ hw399_0)).trans hw399_0), ((HB.out.cell (World.block_lt_of_cell? w _ hw399_1)).trans hw399_1), ((HB.out.cell (World.block_lt_of_cell? w _ hw399_2)).trans hw399_2), ((HB.out.cell (World.block_lt_of_cell? w _ hw399_3)).trans hw399_3), ((HB.out.cell (World.block_lt_of_cell? w _ hw399_4)).trans hw399_4)⟩ (fun hHeld => ?_); refine with_tabW boltingref04_Normal.tab8 boltingref04_Normal.bits8 (fun HT_ HW_ => ?_)
                                      generalize wc.drew = w26 at HO_3 HO_5 HB HL397_4 HL398_4 HR396_4 HR397_4 HR398_4 HR399_4 hx396_0 hx396_1 hx396_2 hx396_3 hx396_4 hx397_0 hx397_1 hx397_2 hx397_3 hx397_4 hx398_0 hx398_1 hx398_2 hx398_3 hx398_4 hx399_0 hx399_1 hx399_2 hx399_3 hx399_4 hHeld ⊢
                                      refine pure_ (i := 0) (N := some 37) (v := ?_) (a' := ?_) #[true, false, false, false, false, false, false, false, false, false, false, false, false, false, false, false, false, false, false, false, false, false, false, false, false, false, false, false, false, false, false, false, false] rfl rfl (any_of HT_.out (by kernel_rfl)) (fun _ _ _ h => h) (Or.inl ⟨by rfl, ?_⟩) ?_ ?_
                                      rotate_left
                                      · intro w'
                                        go_simp
                                        with_reducible rfl
                                      rotate_left
                                      · simp only [Act.put, List.setIfInBounds_toArray, List.set_cons_zero, List.set_cons_succ, i64_w, i32_w]
                                        rfl
                                      refine pure_ (i := 1) (N := some 38) (v := ?_) (a' := ?_) #[true, true, false, false, false, false, false, false, false, false, false, false, false, false, false, false, false, false, false, false, false, false, false, false, false, false, false, false, false, false, false, false, false] rfl rfl (any_of HT_.out (by kernel_rfl)) (fun _ _ _ h => h) (Or.inl ⟨by rfl, ?_⟩) ?_ ?_
                                      rotate_left
                                      · intro w'
                                        go_simp
                                        with_reducible rfl
                                      rotate_left
                                      · simp only [Act.put, List.setIfInBounds_toArray, List.set_cons_zero, List.set_cons_succ, i64_w, i32_w]
                                        rfl
                                      refine pure_ (i := 2) (N := some 39) (v := ?_) (a' := ?_) #[true, true, true, false, false, false, false, false, false, false, false, false, false, false, false, false, false, false, false, false, false, false, false, false, false, false, false, false, false, false, false, false, false] rfl rfl (any_of HT_.out (by kernel_rfl)) (fun _ _ _ h => h) (Or.inl ⟨by rfl, ?_⟩) ?_ ?_
                                      rotate_left
                                      · intro w'
                                        go_simp
                                        with_reducible rfl
                                      rotate_left
                                      · simp only [Act.put, List.setIfInBounds_toArray, List.set_cons_zero, List.set_cons_succ, i64_w, i32_w]
                                        rfl
                                      refine pure_ (i := 3) (N := some 40) (v := ?_) (a' := ?_) #[true, true, true, true, false, false, false, false, false, false, false, false, false, false, false, false, false, false, false, false, false, false, false, false, false, false, false, false, false, false, false, false, false] rfl rfl (any_of HT_.out (by kernel_rfl)) (fun _ _ _ h => h) (Or.inl ⟨by rfl, ?_⟩) ?_ ?_
                                      rotate_left
                                      · intro w'
                                        go_simp
                                        with_reducible rfl
                                      rotate_left
                                      · simp only [Act.put, List.setIfInBounds_toArray, List.set_cons_zero, List.set_cons_succ, i64_w, i32_w]
                                        rfl
                                      refine take_ (i := 4) (N := some 41) (v := ?_) (a' := ?_) #[true, true, true, true, true, false, false, false, false, false, false, false, false, false, false, false, false, false, false, false, false, false, false, false, false, false, false, false, false, false, false, false, false] rfl rfl (take_ofW HT_.out HW_.out (by kernel_rfl)) (fun _ _ _ h => h) (Or.inl ⟨by rfl, ?_⟩) hHeld ?_ ?_
                                      rotate_left
                                      · rintro w' ⟨s0, s1, s2, s3, s4, s5, s6, s7, s8, s9, s10, s11, s12, s13, s14, s15, s16, s17, s18, s19⟩
                                        go_simp
                                        with_reducible rfl
                                      rotate_left
                                      · simp only [Act.put, List.setIfInBounds_toArray, List.set_cons_zero, List.set_cons_succ, i64_w, i32_w]
                                        rfl
                                      refine pure_ (i := 5) (N := some 42) (v := ?_) (a' := ?_) #[true, true, true, true, true, true, false, false, false, false, false, false, false, false, false, false, false, false, false, false, false, false, false, false, false, false, false, false, false, false, false, false, false] rfl rfl (any_of HT_.out (by kernel_rfl)) (fun _ _ _ h => h) (Or.inl ⟨by rfl, ?_⟩) ?_ ?_
                                      rotate_left
                                      · intro w'
                                        go_simp
                                        with_reducible rfl
                                      rotate_left
                                      · simp only [Act.put, List.setIfInBounds_toArray, List.set_cons_zero, List.set_cons_succ, i64_w, i32_w]
                                        rfl
                                      refine pure_ (i := 6) (N := some 43) (v := ?_) (a' := ?_) #[true, true, true, true, true, true, true, false, false, false, false, false, false, false, false, false, false, false, false, false, false, false, false, false, false, false, false, false, false, false, false, false, false] rfl rfl (any_of HT_.out (by kernel_rfl)) (fun _ _ _ h => h) (Or.inl ⟨by rfl, ?_⟩) ?_ ?_
                                      rotate_left
                                      · intro w'
                                        go_simp
                                        with_reducible rfl
                                      rotate_left
                                      · simp only [Act.put, List.setIfInBounds_toArray, List.set_cons_zero, List.set_cons_succ, i64_w, i32_w]
                                        rfl
                                      refine pure_ (i := 7) (N := some 44) (v := ?_) (a' := ?_) #[true, true, true, true, true, true, true, true, false, false, false, false, false, false, false, false, false, false, false, false, false, false, false, false, false, false, false, false, false, false, false, false, false] rfl rfl (any_of HT_.out (by kernel_rfl)) (fun _ _ _ h => h) (Or.inl ⟨by rfl, ?_⟩) ?_ ?_
                                      rotate_left
                                      · intro w'
                                        go_simp
                                        with_reducible rfl
                                      rotate_left
                                      · simp only [Act.put, List.setIfInBounds_toArray, List.set_cons_zero, List.set_cons_succ, i64_w, i32_w]
                                        rfl
                                      refine pure_ (i := 8) (N := some 45) (v := ?_) (a' := ?_) #[true, true, true, true, true, true, true, true, true, false, false, false, false, false, false, false, false, false, false, false, false, false, false, false, false, false, false, false, false, false, false, false, false] rfl rfl (any_of HT_.out (by kernel_rfl)) (fun _ _ _ h => h) (Or.inl ⟨by rfl, ?_⟩) ?_ ?_
                                      rotate_left
                                      · intro w'
                                        go_simp
                                        with_reducible rfl
                                      rotate_left
                                      · simp only [Act.put, List.setIfInBounds_toArray, List.set_cons_zero, List.set_cons_succ, i64_w, i32_w]
                                        rfl
                                      refine pure_ (i := 9) (N := some 46) (v := ?_) (a' := ?_) #[true, true, true, true, true, true, true, true, true, true, false, false, false, false, false, false, false, false, false, false, false, false, false, false, false, false, false, false, false, false, false, false, false] rfl rfl (any_of HT_.out (by kernel_rfl)) (fun _ _ _ h => h) (Or.inl ⟨by rfl, ?_⟩) ?_ ?_
                                      rotate_left
                                      · intro w'
                                        go_simp
                                        with_reducible rfl
                                      rotate_left
                                      · simp only [Act.put, List.setIfInBounds_toArray, List.set_cons_zero, List.set_cons_succ, i64_w, i32_w]
                                        rfl
                                      refine pure_ (i := 10) (N := some 47) (v := ?_) (a' := ?_) #[true, true, true, true, true, true, true, true, true, true, true, false, false, false, false, false, false, false, false, false, false, false, false, false, false, false, false, false, false, false, false, false, false] rfl rfl (any_of HT_.out (by kernel_rfl)) (fun _ _ _ h => h) (Or.inl ⟨by rfl, ?_⟩) ?_ ?_
                                      rotate_left
                                      · intro w'
                                        go_simp
                                        with_reducible rfl
                                      rotate_left
                                      · simp only [Act.put, List.setIfInBounds_toArray, List.set_cons_zero, List.set_cons_succ, i64_w, i32_w]
                                        rfl
                                      refine pure_ (i := 11) (N := some 48) (v := ?_) (a' := ?_) #[true, true, true, true, true, true, true, true, true, true, true, true, false, false, false, false, false, false, false, false, false, false, false, false, false, false, false, false, false, false, false, false, false] rfl rfl (any_of HT_.out (by kernel_rfl)) (fun _ _ _ h => h) (Or.inl ⟨by rfl, ?_⟩) ?_ ?_
                                      rotate_left
                                      · intro w'
                                        go_simp
                                        with_reducible rfl
                                      rotate_left
                                      · simp only [Act.put, List.setIfInBounds_toArray, List.set_cons_zero, List.set_cons_succ, i64_w, i32_w]
                                        rfl
                                      refine pure_ (i := 12) (N := some 49) (v := ?_) (a' := ?_) #[true, true, true, true, true, true, true, true, true, true, true, true, true, false, false, false, false, false, false, false, false, false, false, false, false, false, false, false, false, false, false, false, false] rfl rfl (any_of HT_.out (by kernel_rfl)) (fun _ _ _ h => h) (Or.inl ⟨by rfl, ?_⟩) ?_ ?_
                                      rotate_left
                                      · intro w'
                                        go_simp
                                        with_reducible rfl
                                      rotate_left
                                      · simp only [Act.put, List.setIfInBounds_toArray, List.set_cons_zero, List.set_cons_succ, i64_w, i32_w]
                                        rfl
                                      refine pure_ (i := 13) (N := some 50) (v := ?_) (a' := ?_) #[true, true, true, true, true, true, true, true, true, true, true, true, true, true, false, false, false, false, false, false, false, false, false, false, false, false, false, false, false, false, false, false, false] rfl rfl (any_of HT_.out (by kernel_rfl)) (fun _ _ _ h => h) (Or.inl ⟨by rfl, ?_⟩) ?_ ?_
                                      rotate_left
                                      · intro w'
                                        go_simp
                                        with_reducible rfl
                                      rotate_left
                                      · simp only [Act.put, List.setIfInBounds_toArray, List.set_cons_zero, List.set_cons_succ, i64_w, i32_w]
                                        rfl
                                      refine pure_ (i := 14) (N := some 51) (v := ?_) (a' := ?_) #[true, true, true, true, true, true, true, true, true, true, true, true, true, true, true, false, false, false, false, false, false, false, false, false, false, false, false, false, false, false, false, false, false] rfl rfl (any_of HT_.out (by kernel_rfl)) (fun _ _ _ h => h) (Or.inl ⟨by rfl, ?_⟩) ?_ ?_
                                      rotate_left
                                      · intro w'
                                        go_simp
                                        with_reducible rfl
                                      rotate_left
                                      · simp only [Act.put, List.setIfInBounds_toArray, List.set_cons_zero, List.set_cons_succ, i64_w, i32_w]
                                        rfl
                                      refine pure_ (i := 15) (N := some 52) (v := ?_) (a' := ?_) #[true, true, true, true, true, true, true, true, true, true, true, true, true, true, true, true, false, false, false, false, false, false, false, false, false, false, false, false, false, false, false, false, false] rfl rfl (any_of HT_.out (by kernel_rfl)) (fun _ _ _ h => h) (Or.inl ⟨by rfl, ?_⟩) ?_ ?_
                                      rotate_left
                                      · intro w'
                                        go_simp
                                        with_reducible rfl
                                      rotate_left
                                      · simp only [Act.put, List.setIfInBounds_toArray, List.set_cons_zero, List.set_cons_succ, i64_w, i32_w]
                                        rfl
                                      refine take_ (i := 16) (N := some 53) (v := ?_) (a' := ?_) #[true, true, true, true, true, true, true, true, true, true, true, true, true, true, true, true, true, false, false, false, false, false, false, false, false, false, false, false, false, false, false, false, false] rfl rfl (take_ofW HT_.out HW_.out (by kernel_rfl)) (fun _ _ _ h => h) (Or.inl ⟨by rfl, ?_⟩) hHeld ?_ ?_
                                      rotate_left
                                      · rintro w' ⟨s0, s1, s2, s3, s4, s5, s6, s7, s8, s9, s10, s11, s12, s13, s14, s15, s16, s17, s18, s19⟩
                                        go_simp
                                        with_reducible rfl
                                      rotate_left
                                      · simp only [Act.put, List.setIfInBounds_toArray, List.set_cons_zero, List.set_cons_succ, i64_w, i32_w]
                                        rfl
                                      refine pure_ (i := 17) (N := some 54) (v := ?_) (a' := ?_) #[true, true, true, true, true, true, true, true, true, true, true, true, true, true, true, true, true, true, false, false, false, false, false, false, false, false, false, false, false, false, false, false, false] rfl rfl (any_of HT_.out (by kernel_rfl)) (fun _ _ _ h => h) (Or.inl ⟨by rfl, ?_⟩) ?_ ?_
                                      rotate_left
                                      · intro w'
                                        go_simp
                                        with_reducible rfl
                                      rotate_left
                                      · simp only [Act.put, List.setIfInBounds_toArray, List.set_cons_zero, List.set_cons_succ, i64_w, i32_w]
                                        rfl
                                      refine pure_ (i := 18) (N := some 55) (v := ?_) (a' := ?_) #[true, true, true, true, true, true, true, true, true, true, true, true, true, true, true, true, true, true, true, false, false, false, false, false, false, false, false, false, false, false, false, false, false] rfl rfl (any_of HT_.out (by kernel_rfl)) (fun _ _ _ h => h) (Or.inl ⟨by rfl, ?_⟩) ?_ ?_
                                      rotate_left
                                      · intro w'
                                        go_simp
                                        with_reducible rfl
                                      rotate_left
                                      · simp only [Act.put, List.setIfInBounds_toArray, List.set_cons_zero, List.set_cons_succ, i64_w, i32_w]
                                        rfl
                                      refine pure_ (i := 19) (N := some 56) (v := ?_) (a' := ?_) #[true, true, true, true, true, true, true, true, true, true, true, true, true, true, true, true, true, true, true, true, false, false, false, false, false, false, false, false, false, false, false, false, false] rfl rfl (any_of HT_.out (by kernel_rfl)) (fun _ _ _ h => h) (Or.inl ⟨by rfl, ?_⟩) ?_ ?_
                                      rotate_left
                                      · intro w'
                                        go_simp
                                        with_reducible rfl
                                      rotate_left
                                      · simp only [Act.put, List.setIfInBounds_toArray, List.set_cons_zero, List.set_cons_succ, i64_w, i32_w]
                                        rfl
                                      refine pure_ (i := 20) (N := some 57) (v := ?_) (a' := ?_) #[true, true, true, true, true, true, true, true, true, true, true, true, true, true, true, true, true, true, true, true, true, false, false, false, false, false, false, false, false, false, false, false, false] rfl rfl (any_of HT_.out (by kernel_rfl)) (fun _ _ _ h => h) (Or.inl ⟨by rfl, ?_⟩) ?_ ?_
                                      rotate_left
                                      · intro w'
                                        go_simp
                                        with_reducible rfl
                                      rotate_left
                                      · simp only [Act.put, List.setIfInBounds_toArray, List.set_cons_zero, List.set_cons_succ, i64_w, i32_w]
                                        rfl
                                      refine pure_ (i := 21) (N := some 58) (v := ?_) (a' := ?_) #[true, true, true, true, true, true, true, true, true, true, true, true, true, true, true, true, true, true, true, true, true, true, false, false, false, false, false, false, false, false, false, false, false] rfl rfl (any_of HT_.out (by kernel_rfl)) (fun _ _ _ h => h) (Or.inl ⟨by rfl, ?_⟩) ?_ ?_
                                      rotate_left
                                      · intro w'
                                        go_simp
                                        with_reducible rfl
                                      rotate_left
                                      · simp only [Act.put, List.setIfInBounds_toArray, List.set_cons_zero, List.set_cons_succ, i64_w, i32_w]
                                        rfl
                                      refine pure_ (i := 22) (N := some 59) (v := ?_) (a' := ?_) #[true, true, true, true, true, true, true, true, true, true, true, true, true, true, true, true, true, true, true, true, true, true, true, false, false, false, false, false, false, false, false, false, false] rfl rfl (any_of HT_.out (by kernel_rfl)) (fun _ _ _ h => h) (Or.inl ⟨by rfl, ?_⟩) ?_ ?_
                                      rotate_left
                                      · intro w'
                                        go_simp
                                        with_reducible rfl
                                      rotate_left
                                      · simp only [Act.put, List.setIfInBounds_toArray, List.set_cons_zero, List.set_cons_succ, i64_w, i32_w]
                                        rfl
                                      refine pure_ (i := 23) (N := some 60) (v := ?_) (a' := ?_) #[true, true, true, true, true, true, true, true, true, true, true, true, true, true, true, true, true, true, true, true, true, true, true, true, false, false, false, false, false, false, false, false, false] rfl rfl (any_of HT_.out (by kernel_rfl)) (fun _ _ _ h => h) (Or.inl ⟨by rfl, ?_⟩) ?_ ?_
                                      rotate_left
                                      · intro w'
                                        go_simp
                                        with_reducible rfl
                                      rotate_left
                                      · simp only [Act.put, List.setIfInBounds_toArray, List.set_cons_zero, List.set_cons_succ, i64_w, i32_w]
                                        rfl
                                      refine pure_ (i := 24) (N := some 61) (v := ?_) (a' := ?_) #[true, true, true, true, true, true, true, true, true, true, true, true, true, true, true, true, true, true, true, true, true, true, true, true, true, false, false, false, false, false, false, false, false] rfl rfl (any_of HT_.out (by kernel_rfl)) (fun _ _ _ h => h) (Or.inl ⟨by rfl, ?_⟩) ?_ ?_
                                      rotate_left
                                      · intro w'
                                        go_simp
                                        with_reducible rfl
                                      rotate_left
                                      · simp only [Act.put, List.setIfInBounds_toArray, List.set_cons_zero, List.set_cons_succ, i64_w, i32_w]
                                        rfl
                                      refine pure_ (i := 26) (N := some 63) (v := ?_) (a' := ?_) #[true, true, true, true, true, true, true, true, true, true, true, true, true, true, true, true, true, true, true, true, true, true, true, true, true, false, true, false, false, false, false, false, false] rfl rfl (any_of HT_.out (by kernel_rfl)) (fun _ _ _ h => h) (Or.inl ⟨by rfl, ?_⟩) ?_ ?_
                                      rotate_left
                                      · intro w'
                                        go_simp
                                        with_reducible rfl
                                      rotate_left
                                      · simp only [Act.put, List.setIfInBounds_toArray, List.set_cons_zero, List.set_cons_succ, i64_w, i32_w]
                                        rfl
                                      refine pure_ (i := 27) (N := some 64) (v := ?_) (a' := ?_) #[true, true, true, true, true, true, true, true, true, true, true, true, true, true, true, true, true, true, true, true, true, true, true, true, true, false, true, true, false, false, false, false, false] rfl rfl (any_of HT_.out (by kernel_rfl)) (fun _ _ _ h => h) (Or.inl ⟨by rfl, ?_⟩) ?_ ?_
                                      rotate_left
                                      · intro w'
                                        go_simp
                                        with_reducible rfl
                                      rotate_left
                                      · simp only [Act.put, List.setIfInBounds_toArray, List.set_cons_zero, List.set_cons_succ, i64_w, i32_w]
                                        rfl
                                      refine pure_ (i := 28) (N := some 65) (v := ?_) (a' := ?_) #[true, true, true, true, true, true, true, true, true, true, true, true, true, true, true, true, true, true, true, true, true, true, true, true, true, false, true, true, true, false, false, false, false] rfl rfl (any_of HT_.out (by kernel_rfl)) (fun _ _ _ h => h) (Or.inl ⟨by rfl, ?_⟩) ?_ ?_
                                      rotate_left
                                      · intro w'
                                        go_simp
                                        with_reducible rfl
                                      rotate_left
                                      · simp only [Act.put, List.setIfInBounds_toArray, List.set_cons_zero, List.set_cons_succ, i64_w, i32_w]
                                        rfl
                                      refine pure_ (i := 29) (N := some 66) (v := ?_) (a' := ?_) #[true, true, true, true, true, true, true, true, true, true, true, true, true, true, true, true, true, true, true, true, true, true, true, true, true, false, true, true, true, true, false, false, false] rfl rfl (any_of HT_.out (by kernel_rfl)) (fun _ _ _ h => h) (Or.inl ⟨by rfl, ?_⟩) ?_ ?_
                                      rotate_left
                                      · intro w'
                                        go_simp
                                        with_reducible rfl
                                      rotate_left
                                      · simp only [Act.put, List.setIfInBounds_toArray, List.set_cons_zero, List.set_cons_succ, i64_w, i32_w]
                                        rfl
                                      refine take_ (i := 25) (N := some 62) (v := ?_) (a' := ?_) #[true, true, true, true, true, true, true, true, true, true, true, true, true, true, true, true, true, true, true, true, true, true, true, true, true, true, true, true, true, true, false, false, false] rfl rfl (take_ofW HT_.out HW_.out (by kernel_rfl)) (fun _ _ _ h => h) (Or.inl ⟨by rfl, ?_⟩) hHeld ?_ ?_
                                      rotate_left
                                      · rintro w' ⟨s0, s1, s2, s3, s4, s5, s6, s7, s8, s9, s10, s11, s12, s13, s14, s15, s16, s17, s18, s19⟩
                                        go_simp
                                        with_reducible rfl
                                      rotate_left
                                      · simp only [Act.put, List.setIfInBounds_toArray, List.set_cons_zero, List.set_cons_succ, i64_w, i32_w]
                                        rfl
                                      refine take_ (i := 30) (N := some 67) (v := ?_) (a' := ?_) #[true, true, true, true, true, true, true, true, true, true, true, true, true, true, true, true, true, true, true, true, true, true, true, true, true, true, true, true, true, true, true, false, false] rfl rfl (take_ofW HT_.out HW_.out (by kernel_rfl)) (fun _ _ _ h => h) (Or.inl ⟨by rfl, ?_⟩) hHeld ?_ ?_
                                      rotate_left
                                      · rintro w' ⟨s0, s1, s2, s3, s4, s5, s6, s7, s8, s9, s10, s11, s12, s13, s14, s15, s16, s17, s18, s19⟩
                                        go_simp
                                        with_reducible rfl
                                      rotate_left
                                      · simp only [Act.put, List.setIfInBounds_toArray, List.set_cons_zero, List.set_cons_succ, i64_w, i32_w]
                                        rfl
                                      refine pure_ (i := 31) (N := some 68) (v := ?_) (a' := ?_) #[true, true, true, true, true, true, true, true, true, true, true, true, true, true, true, true, true, true, true, true, true, true, true, true, true, true, true, true, true, true, true, true, false] rfl rfl (any_of HT_.out (by kernel_rfl)) (fun _ _ _ h => h) (Or.inl ⟨by rfl, ?_⟩) ?_ ?_
                                      rotate_left
                                      · intro w'
                                        go_simp
                                        with_reducible rfl
                                      rotate_left
                                      · simp only [Act.put, List.setIfInBounds_toArray, List.set_cons_zero, List.set_cons_succ, i64_w, i32_w]
                                        rfl
                                      refine pure_ (i := 32) (N := some 69) (v := ?_) (a' := ?_) #[true, true, true, true, true, true, true, true, true, true, true, true, true, true, true, true, true, true, true, true, true, true, true, true, true, true, true, true, true, true, true, true, true] rfl rfl (any_of HT_.out (by kernel_rfl)) (fun _ _ _ h => h) (Or.inl ⟨by rfl, ?_⟩) ?_ ?_
                                      rotate_left
                                      · intro w'
                                        go_simp
                                        with_reducible rfl
                                      rotate_left
                                      · simp only [Act.put, List.setIfInBounds_toArray, List.set_cons_zero, List.set_cons_succ, i64_w, i32_w]
                                        rfl
                                      refine done_ (done_of HT_.out (by kernel_rfl)) ?_
                                      have p400 : 0 ≤ ((ji19) : Int) := of_decide_eq_true (by first | (with_reducible assumption) | assumption)
                                      have q400 : (ji19) < (x3_1.length : Int) := of_decide_eq_true (by first | (with_reducible assumption) | assumption)
                                      obtain ⟨ad400, A400_4, c400_4, e400, hx400_0, hx400_1, hx400_2, hx400_3, hx400_4, hl400_4, hi400_4⟩ := at_T43 (Kd.N_reads' HO_3.out).2.2 (ji19) p400 q400
                                      obtain rfl : ad397 = ad400 := (by injection e400)
                                      obtain ⟨ce400, hce400, hMe400, hcc400⟩ := Kd.N_get HO_3.out z43 (ji19) p400 (by first | exact q400 | exact of_decide_eq_true (by first | (with_reducible assumption) | assumption) | (have e_ := (Kd.N_reads' HO_3.out).1; omega))
                                      obtain ⟨ua400_4, uc400_4, rfl, ul400_4, ge400_4⟩ := k43_openF hMe400
                                      have hv400_4 := hcc400 4 _ rfl
                                      rw [add_field _ _ 4 (by omega)] at hv400_4
                                      replace hv400_4 := Option.some.inj (hv400_4.symm.trans hx400_4)
                                      injection hv400_4 with hva_ hvn_ hvc_
                                      rw [hva_] at ge400_4
                                      rw [hvc_] at ul400_4
                                      have HL400_4 := Aside0.mk (show Kd.V k46 46 _ w.heap.size _ _ ((rd_T43 x3_1 (ji19)).f4) from Kd.V_mk ul400_4 ge400_4)
                                      clear hva_ hvn_ hvc_ ge400_4 ul400_4
                                      clear hcc400 hce400
                                      have HR400_4 := Aside0.mk hi400_4
                                      have HC400_4 := Aside0.mk hl400_4
                                      clear hi400_4 hl400_4
                                      replace p400 := eq_true p400
                                      replace q400 := eq_true q400
                                      have ea_ := Option.some.inj (hx397_4.symm.trans hx400_4)
                                      injection ea_ with ea_ en_ ec_
                                      subst ea_
                                      subst ec_
                                      clear en_
                                      try go_wp2_with (first | ((with_reducible refine gate_dst (N := 7) rfl ?_); refine box_event ?hg (N := 7) ?hd (cs := #[.int .i64 0, .int .i64 0, .string (⟨#[]⟩ : ByteArray), .string (⟨#[]⟩ : ByteArray), .slice none 0 0]) (t := 43) ?hr ?_; (case hd => rfl); (case hg => rfl); (case hr => first | (go_simp; done) | (go_simp; rfl)); intro gb401 hg w27 hbox hb; have n0_ := Aside0.mk (Kd.N_below (Kd.N_elderB (by (with_reducible repeat (first | apply Kd.N_alloc | apply Kd.N_drewN | apply Kd.N_drew)); exact HO_3.out) gb401 (Nat.le_of_eq hg.symm)) hb); have n1_ := Aside0.mk (Kd.N_below (Kd.N_elderB (by (with_reducible repeat (first | apply Kd.N_alloc | apply Kd.N_drewN | apply Kd.N_drew)); exact HO_5.out) gb401 (Nat.le_of_eq hg.symm)) hb); have n2_ := Aside0.mk (Kd.V_below (Kd.V_elderB (by (with_reducible repeat (first | apply Kd.V_alloc | apply Kd.V_drewN | apply Kd.V_drew)); exact HL397_4.out) gb401 (Nat.le_of_eq hg.symm)) hb); have n3_ := Aside0.mk (Kd.V_below (Kd.V_elderB (by (with_reducible repeat (first | apply Kd.V_alloc | apply Kd.V_drewN | apply Kd.V_drew)); exact HL398_4.out) gb401 (Nat.le_of_eq hg.symm)) hb); have n4_ := Aside0.mk (Kd.V_below (Kd.V_elderB (by (with_reducible repeat (first | apply Kd.V_alloc | apply Kd.V_drewN | apply Kd.V_drew)); exact HL400_4.out) gb401 (Nat.le_of_eq hg.symm)) hb); have n5_ := Aside0.mk (Kd.C_below (by repeat (first | (with_reducible exact HR397_4.out) | (with_reducible refine Kd.C_alloc ?_ _) | (with_reducible refine Kd.C_drewN ?_ _) | (with_reducible refine Kd.C_drew ?_) | exact HR397_4.out)) hb); have n6_ := Aside0.mk (Kd.C_below (by repeat (first | (with_reducible exact HR398_4.out) | (with_reducible refine Kd.C_alloc ?_ _) | (with_reducible refine Kd.C_drewN ?_ _) | (with_reducible refine Kd.C_drew ?_) | exact HR398_4.out)) hb); have n7_ := Aside0.mk (Kd.C_below (by repeat (first | (with_reducible exact HR400_4.out) | (with_reducible refine Kd.C_alloc ?_ _) | (with_reducible refine Kd.C_drewN ?_ _) | (with_reducible refine Kd.C_drew ?_) | exact HR400_4.out)) hb); have n8_ := Aside0.mk (below_step (by repeat (first | (with_reducible first | exact HB.out | apply below_alloc | apply pw_below_drewN | apply below_drew1) | exact HB.out)) hb); have n9_ := Aside0.mk (hbox); have n10_ := Aside0.mk ((by rw [hg]; exact (below_size (by repeat (first | (with_reducible first | exact HB.out | apply below_alloc | apply pw_below_drewN | apply below_drew1) | exact HB.out))) : w.heap.size ≤ gb401)); have n11_ := Aside0.mk ((by rw [hg]; exact (below_size (by repeat (first | (with_reducible first | exact HB.out | apply below_alloc | apply pw_below_drewN | apply below_drew1) | exact HB.out))) : w.heap.size ≤ gb401)); clear HO_3; clear HO_5; clear HL397_4; clear HL398_4; clear HL400_4; clear HR397_4; clear HR398_4; clear HR400_4; clear HB; have HO_3 := n0_; have HO_5 := n1_; have HL397_4 := n2_; have HL398_4 := n3_; have HL400_4 := n4_; have HR397_4 := n5_; have HR398_4 := n6_; have HR400_4 := n7_; have HB := n8_; have BK401 := n9_; have GW401 := n10_; have GE401 := n11_; clear n0_ n1_ n2_ n3_ n4_ n5_ n6_ n7_ n8_ n9_ n10_ n11_; clear hb hbox hg; have hcz28_0 : w27.cell? ⟨gb401, 0, none⟩ = some (.int .i64 0) := (blk_cell BK401.out 0).trans rfl; have hcz28_1 : w27.cell? ⟨gb401, 1, none⟩ = some (.int .i64 0) := (blk_cell BK401.out 1).trans rfl; have hcz28_2 : w27.cell? ⟨gb401, 2, none⟩ = some (.string (⟨#[]⟩ : ByteArray)) := (blk_cell BK401.out 2).trans rfl; have hcz28_3 : w27.cell? ⟨gb401, 3, none⟩ = some (.string (⟨#[]⟩ : ByteArray)) := (blk_cell BK401.out 3).trans rfl; have hcz28_4 : w27.cell? ⟨gb401, 4, none⟩ = some (.slice none 0 0) := (blk_cell BK401.out 4).trans rfl; have hfz28_0 := blk_frozen BK401.out 0; have hfz28_1 := blk_frozen BK401.out 1; have hfz28_2 := blk_frozen BK401.out 2; have hfz28_3 := blk_frozen BK401.out 3; have hfz28_4 := blk_frozen BK401.out 4))
                                      have n0_ : Aside0 (Kd.N k43 43 (((((w27.setCell ⟨gb401, 0, none⟩ (.int .i64 ((rd_T43 x3_1 (ji19)).f0))).setCell ⟨gb401, 1, none⟩ (.int .i64 ((rd_T43 x3_1 (ji19)).f1))).setCell ⟨gb401, 2, none⟩ (.string ((rd_T43 x3_1 (ji19)).f2))).setCell ⟨gb401, 3, none⟩ (.string ((rd_T43 x3_1 (ji19)).f3))).setCell ⟨gb401, 4, none⟩ (.slice A397_4 ((rd_T43 x3_1 (ji19)).f4).length c397_4)) w.heap.size (fun k_ => (w.heap.size ≤ k_) ∧ some k_ ≠ (v392 : Value).ownBlock ∧ k_ ≠ gb401) (.slice (some ad397) x3_1.length co12) x3_1) := ⟨by (with_reducible repeat (first | apply Kd.N_alloc | apply Kd.N_drewN | apply Kd.N_drew)); exact Kd.N_mono (Kd.N_far (p := ⟨gb401, 4, none⟩) (Kd.N_far (p := ⟨gb401, 3, none⟩) (Kd.N_far (p := ⟨gb401, 2, none⟩) (Kd.N_far (p := ⟨gb401, 1, none⟩) (Kd.N_far (p := ⟨gb401, 0, none⟩) (Kd.N_mono HO_3.out (fun k_ hk => (⟨hk, hk.2⟩ : _ ∧ k_ ≠ gb401))) (fun _ hk => hk.2) (.int .i64 ((rd_T43 x3_1 (ji19)).f0))) (fun _ hk => hk.2) (.int .i64 ((rd_T43 x3_1 (ji19)).f1))) (fun _ hk => hk.2) (.string ((rd_T43 x3_1 (ji19)).f2))) (fun _ hk => hk.2) (.string ((rd_T43 x3_1 (ji19)).f3))) (fun _ hk => hk.2) (.slice A397_4 ((rd_T43 x3_1 (ji19)).f4).length c397_4)) (fun _ hk => ⟨hk.1.1.1, ⟨hk.1.1.2, hk.1.2⟩⟩)⟩
                                      have n1_ : Aside0 (Kd.N k43 43 (((((w27.setCell ⟨gb401, 0, none⟩ (.int .i64 ((rd_T43 x3_1 (ji19)).f0))).setCell ⟨gb401, 1, none⟩ (.int .i64 ((rd_T43 x3_1 (ji19)).f1))).setCell ⟨gb401, 2, none⟩ (.string ((rd_T43 x3_1 (ji19)).f2))).setCell ⟨gb401, 3, none⟩ (.string ((rd_T43 x3_1 (ji19)).f3))).setCell ⟨gb401, 4, none⟩ (.slice A397_4 ((rd_T43 x3_1 (ji19)).f4).length c397_4)) w.heap.size (fun k_ => (w.heap.size ≤ k_) ∧ some k_ ≠ (.slice (some ad397) x3_1.length co12 : Value).ownBlock ∧ k_ ≠ gb401) v392 t391) := ⟨by (with_reducible repeat (first | apply Kd.N_alloc | apply Kd.N_drewN | apply Kd.N_drew)); exact Kd.N_mono (Kd.N_far (p := ⟨gb401, 4, none⟩) (Kd.N_far (p := ⟨gb401, 3, none⟩) (Kd.N_far (p := ⟨gb401, 2, none⟩) (Kd.N_far (p := ⟨gb401, 1, none⟩) (Kd.N_far (p := ⟨gb401, 0, none⟩) (Kd.N_mono HO_5.out (fun k_ hk => (⟨hk, hk.2⟩ : _ ∧ k_ ≠ gb401))) (fun _ hk => hk.2) (.int .i64 ((rd_T43 x3_1 (ji19)).f0))) (fun _ hk => hk.2) (.int .i64 ((rd_T43 x3_1 (ji19)).f1))) (fun _ hk => hk.2) (.string ((rd_T43 x3_1 (ji19)).f2))) (fun _ hk => hk.2) (.string ((rd_T43 x3_1 (ji19)).f3))) (fun _ hk => hk.2) (.slice A397_4 ((rd_T43 x3_1 (ji19)).f4).length c397_4)) (fun _ hk => ⟨hk.1.1.1, ⟨hk.1.1.2, hk.1.2⟩⟩)⟩
                                      have n2_ : Aside0 (Kd.V k46 46 (((((w27.setCell ⟨gb401, 0, none⟩ (.int .i64 ((rd_T43 x3_1 (ji19)).f0))).setCell ⟨gb401, 1, none⟩ (.int .i64 ((rd_T43 x3_1 (ji19)).f1))).setCell ⟨gb401, 2, none⟩ (.string ((rd_T43 x3_1 (ji19)).f2))).setCell ⟨gb401, 3, none⟩ (.string ((rd_T43 x3_1 (ji19)).f3))).setCell ⟨gb401, 4, none⟩ (.slice A397_4 ((rd_T43 x3_1 (ji19)).f4).length c397_4)) w.heap.size (fun k_ => (w.heap.size ≤ k_) ∧ some k_ ≠ (.slice (some ad397) x3_1.length co12 : Value).ownBlock ∧ some k_ ≠ (v392 : Value).ownBlock ∧ k_ ≠ gb401) (.slice A397_4 ((rd_T43 x3_1 (ji19)).f4).length c397_4) ((rd_T43 x3_1 (ji19)).f4)) := ⟨by (with_reducible repeat (first | apply Kd.V_alloc | apply Kd.V_drewN | apply Kd.V_drew)); exact Kd.V_mono (Kd.V_far (p := ⟨gb401, 4, none⟩) (Kd.V_far (p := ⟨gb401, 3, none⟩) (Kd.V_far (p := ⟨gb401, 2, none⟩) (Kd.V_far (p := ⟨gb401, 1, none⟩) (Kd.V_far (p := ⟨gb401, 0, none⟩) (Kd.V_mono HL397_4.out (fun k_ hk => (⟨hk, hk.2⟩ : _ ∧ k_ ≠ gb401))) (fun _ hk => hk.2) (.int .i64 ((rd_T43 x3_1 (ji19)).f0))) (fun _ hk => hk.2) (.int .i64 ((rd_T43 x3_1 (ji19)).f1))) (fun _ hk => hk.2) (.string ((rd_T43 x3_1 (ji19)).f2))) (fun _ hk => hk.2) (.string ((rd_T43 x3_1 (ji19)).f3))) (fun _ hk => hk.2) (.slice A397_4 ((rd_T43 x3_1 (ji19)).f4).length c397_4)) (fun _ hk => ⟨hk.1.1.1.1, ⟨hk.1.1.2, ⟨hk.1.1.1.2, hk.1.2⟩⟩⟩)⟩
                                      have n3_ : Aside0 (Kd.V k46 46 (((((w27.setCell ⟨gb401, 0, none⟩ (.int .i64 ((rd_T43 x3_1 (ji19)).f0))).setCell ⟨gb401, 1, none⟩ (.int .i64 ((rd_T43 x3_1 (ji19)).f1))).setCell ⟨gb401, 2, none⟩ (.string ((rd_T43 x3_1 (ji19)).f2))).setCell ⟨gb401, 3, none⟩ (.string ((rd_T43 x3_1 (ji19)).f3))).setCell ⟨gb401, 4, none⟩ (.slice A397_4 ((rd_T43 x3_1 (ji19)).f4).length c397_4)) w.heap.size (fun k_ => (w.heap.size ≤ k_) ∧ some k_ ≠ (.slice (some ad397) x3_1.length co12 : Value).ownBlock ∧ some k_ ≠ (v392 : Value).ownBlock ∧ k_ ≠ gb401) (.slice A397_4 ((rd_T43 x3_1 (ji19)).f4).length c397_4) ((rd_T43 x3_1 (ji19)).f4)) := ⟨by (with_reducible repeat (first | apply Kd.V_alloc | apply Kd.V_drewN | apply Kd.V_drew)); exact Kd.V_mono (Kd.V_far (p := ⟨gb401, 4, none⟩) (Kd.V_far (p := ⟨gb401, 3, none⟩) (Kd.V_far (p := ⟨gb401, 2, none⟩) (Kd.V_far (p := ⟨gb401, 1, none⟩) (Kd.V_far (p := ⟨gb401, 0, none⟩) (Kd.V_mono HL398_4.out (fun k_ hk => (⟨hk, hk.2⟩ : _ ∧ k_ ≠ gb401))) (fun _ hk => hk.2) (.int .i64 ((rd_T43 x3_1 (ji19)).f0))) (fun _ hk => hk.2) (.int .i64 ((rd_T43 x3_1 (ji19)).f1))) (fun _ hk => hk.2) (.string ((rd_T43 x3_1 (ji19)).f2))) (fun _ hk => hk.2) (.string ((rd_T43 x3_1 (ji19)).f3))) (fun _ hk => hk.2) (.slice A397_4 ((rd_T43 x3_1 (ji19)).f4).length c397_4)) (fun _ hk => ⟨hk.1.1.1.1, ⟨hk.1.1.2, ⟨hk.1.1.1.2, hk.1.2⟩⟩⟩)⟩
                                      have n4_ : Aside0 (Kd.V k46 46 (((((w27.setCell ⟨gb401, 0, none⟩ (.int .i64 ((rd_T43 x3_1 (ji19)).f0))).setCell ⟨gb401, 1, none⟩ (.int .i64 ((rd_T43 x3_1 (ji19)).f1))).setCell ⟨gb401, 2, none⟩ (.string ((rd_T43 x3_1 (ji19)).f2))).setCell ⟨gb401, 3, none⟩ (.string ((rd_T43 x3_1 (ji19)).f3))).setCell ⟨gb401, 4, none⟩ (.slice A397_4 ((rd_T43 x3_1 (ji19)).f4).length c397_4)) w.heap.size (fun k_ => (w.heap.size ≤ k_) ∧ some k_ ≠ (.slice (some ad397) x3_1.length co12 : Value).ownBlock ∧ some k_ ≠ (v392 : Value).ownBlock ∧ k_ ≠ gb401) (.slice A397_4 ((rd_T43 x3_1 (ji19)).f4).length c397_4) ((rd_T43 x3_1 (ji19)).f4)) := ⟨by (with_reducible repeat (first | apply Kd.V_alloc | apply Kd.V_drewN | apply Kd.V_drew)); exact Kd.V_mono (Kd.V_far (p := ⟨gb401, 4, none⟩) (Kd.V_far (p := ⟨gb401, 3, none⟩) (Kd.V_far (p := ⟨gb401, 2, none⟩) (Kd.V_far (p := ⟨gb401, 1, none⟩) (Kd.V_far (p := ⟨gb401, 0, none⟩) (Kd.V_mono HL400_4.out (fun k_ hk => (⟨hk, hk.2⟩ : _ ∧ k_ ≠ gb401))) (fun _ hk => hk.2) (.int .i64 ((rd_T43 x3_1 (ji19)).f0))) (fun _ hk => hk.2) (.int .i64 ((rd_T43 x3_1 (ji19)).f1))) (fun _ hk => hk.2) (.string ((rd_T43 x3_1 (ji19)).f2))) (fun _ hk => hk.2) (.string ((rd_T43 x3_1 (ji19)).f3))) (fun _ hk => hk.2) (.slice A397_4 ((rd_T43 x3_1 (ji19)).f4).length c397_4)) (fun _ hk => ⟨hk.1.1.1.1, ⟨hk.1.1.2, ⟨hk.1.1.1.2, hk.1.2⟩⟩⟩)⟩
                                      have n5_ : Aside0 ((((((w27.setCell ⟨gb401, 0, none⟩ (.int .i64 ((rd_T43 x3_1 (ji19)).f0))).setCell ⟨gb401, 1, none⟩ (.int .i64 ((rd_T43 x3_1 (ji19)).f1))).setCell ⟨gb401, 2, none⟩ (.string ((rd_T43 x3_1 (ji19)).f2))).setCell ⟨gb401, 3, none⟩ (.string ((rd_T43 x3_1 (ji19)).f3))).setCell ⟨gb401, 4, none⟩ (.slice A397_4 ((rd_T43 x3_1 (ji19)).f4).length c397_4)).heap[gb401]? = some (.cells #[.int .i64 ((rd_T43 x3_1 (ji19)).f0), .int .i64 ((rd_T43 x3_1 (ji19)).f1), .string ((rd_T43 x3_1 (ji19)).f2), .string ((rd_T43 x3_1 (ji19)).f3), .slice A397_4 ((rd_T43 x3_1 (ji19)).f4).length c397_4] 43 (0, 0))) := ⟨by (with_reducible repeat (first | refine blk_drewN ?_ _ | refine blk_drew ?_ | refine blk_alloc ?_ _)); refine blk_put (cs := #[.int .i64 ((rd_T43 x3_1 (ji19)).f0), .int .i64 ((rd_T43 x3_1 (ji19)).f1), .string ((rd_T43 x3_1 (ji19)).f2), .string ((rd_T43 x3_1 (ji19)).f3), .slice none 0 0]) ?_ 4 _ rfl; (with_reducible repeat (first | refine blk_drewN ?_ _ | refine blk_drew ?_ | refine blk_alloc ?_ _)); refine blk_put (cs := #[.int .i64 ((rd_T43 x3_1 (ji19)).f0), .int .i64 ((rd_T43 x3_1 (ji19)).f1), .string ((rd_T43 x3_1 (ji19)).f2), .string (⟨#[]⟩ : ByteArray), .slice none 0 0]) ?_ 3 _ rfl; (with_reducible repeat (first | refine blk_drewN ?_ _ | refine blk_drew ?_ | refine blk_alloc ?_ _)); refine blk_put (cs := #[.int .i64 ((rd_T43 x3_1 (ji19)).f0), .int .i64 ((rd_T43 x3_1 (ji19)).f1), .string (⟨#[]⟩ : ByteArray), .string (⟨#[]⟩ : ByteArray), .slice none 0 0]) ?_ 2 _ rfl; (with_reducible repeat (first | refine blk_drewN ?_ _ | refine blk_drew ?_ | refine blk_alloc ?_ _)); refine blk_put (cs := #[.int .i64 ((rd_T43 x3_1 (ji19)).f0), .int .i64 0, .string (⟨#[]⟩ : ByteArray), .string (⟨#[]⟩ : ByteArray), .slice none 0 0]) ?_ 1 _ rfl; (with_reducible repeat (first | refine blk_drewN ?_ _ | refine blk_drew ?_ | refine blk_alloc ?_ _)); refine blk_put (cs := #[.int .i64 0, .int .i64 0, .string (⟨#[]⟩ : ByteArray), .string (⟨#[]⟩ : ByteArray), .slice none 0 0]) ?_ 0 _ rfl; (with_reducible repeat (first | refine blk_drewN ?_ _ | refine blk_drew ?_ | refine blk_alloc ?_ _)); exact BK401.out⟩
                                      have n6_ : Aside0 (Below w.heap.size w (((((w27.setCell ⟨gb401, 0, none⟩ (.int .i64 ((rd_T43 x3_1 (ji19)).f0))).setCell ⟨gb401, 1, none⟩ (.int .i64 ((rd_T43 x3_1 (ji19)).f1))).setCell ⟨gb401, 2, none⟩ (.string ((rd_T43 x3_1 (ji19)).f2))).setCell ⟨gb401, 3, none⟩ (.string ((rd_T43 x3_1 (ji19)).f3))).setCell ⟨gb401, 4, none⟩ (.slice A397_4 ((rd_T43 x3_1 (ji19)).f4).length c397_4))) := ⟨by repeat (first | (with_reducible first | exact HB.out | apply below_alloc | apply pw_below_drewN | apply below_drew1 | refine below_set ?_ GE401.out) | exact HB.out)⟩
                                      (try clear HO_3)
                                      (try clear HO_5)
                                      (try clear HL397_4)
                                      (try clear HL398_4)
                                      (try clear HL400_4)
                                      (try clear BK401)
                                      (try clear HB)
                                      generalize (((((w27.setCell ⟨gb401, 0, none⟩ (.int .i64 ((rd_T43 x3_1 (ji19)).f0))).setCell ⟨gb401, 1, none⟩ (.int .i64 ((rd_T43 x3_1 (ji19)).f1))).setCell ⟨gb401, 2, none⟩ (.string ((rd_T43 x3_1 (ji19)).f2))).setCell ⟨gb401, 3, none⟩ (.string ((rd_T43 x3_1 (ji19)).f3))).setCell ⟨gb401, 4, none⟩ (.slice A397_4 ((rd_T43 x3_1 (ji19)).f4).length c397_4)) = w29 at n0_ n1_ n2_ n3_ n4_ n5_ n6_ ⊢
                                      have HO_3 := n0_
                                      have HO_5 := n1_
                                      have HL397_4 := n2_
                                      have HL398_4 := n3_
                                      have HL400_4 := n4_
                                      have BK401 := n5_
                                      have HB := n6_
                                      clear n0_ n1_ n2_ n3_ n4_ n5_ n6_
                                      have n0_ := Aside0.mk (Kd.N_drew HO_3.out)
                                      have n1_ := Aside0.mk (Kd.N_drew HO_5.out)
                                      have n2_ := Aside0.mk (Kd.V_drew HL397_4.out)
                                      have n3_ := Aside0.mk (Kd.V_drew HL398_4.out)
                                      have n4_ := Aside0.mk (Kd.V_drew HL400_4.out)
                                      have n5_ := Aside0.mk (blk_drew BK401.out)
                                      have n6_ := Aside0.mk (below_drew1 HB.out)
                                      clear HO_3
                                      clear HO_5
                                      clear HL397_4
                                      clear HL398_4
                                      clear HL400_4
                                      clear BK401
                                      clear HB
                                      have HO_3 := n0_
                                      have HO_5 := n1_
                                      have HL397_4 := n2_
                                      have HL398_4 := n3_
                                      have HL400_4 := n4_
                                      have BK401 := n5_
                                      have HB := n6_
                                      clear n0_ n1_ n2_ n3_ n4_ n5_ n6_
                                      have p402 : 0 ≤ (x4_1 : Int) := of_decide_eq_true (by first | (with_reducible assumption) | assumption)
                                      have q402 : x4_1 < (l0.length : Int) := of_decide_eq_true (by first | (with_reducible assumption) | assumption)
                                      obtain ⟨ad402, B402_4, d402_4, e402, hx402_0, hx402_1, hx402_2, hx402_3, hx402_4, hl402_4, hi402_4⟩ := at_T43 HR0.out x4_1 p402 q402
                                      have hw402_4 := hx402_4
                                      have hw402_3 := hx402_3
                                      have hw402_2 := hx402_2
                                      have hw402_1 := hx402_1
                                      have hw402_0 := hx402_0
                                      obtain rfl : ad396 = ad402 := (by injection e402)
                                      obtain ⟨rfl, rfl⟩ : A396_4 = B402_4 ∧ c396_4 = d402_4 := by have h_ := hy396_4.out.symm.trans hw402_4; simpa using h_
                                      replace hx402_0 := (HB.out.cell (World.block_lt_of_cell? w _ hx402_0)).trans hx402_0
                                      replace hx402_1 := (HB.out.cell (World.block_lt_of_cell? w _ hx402_1)).trans hx402_1
                                      replace hx402_2 := (HB.out.cell (World.block_lt_of_cell? w _ hx402_2)).trans hx402_2
                                      replace hx402_3 := (HB.out.cell (World.block_lt_of_cell? w _ hx402_3)).trans hx402_3
                                      replace hx402_4 := (HB.out.cell (World.block_lt_of_cell? w _ hx402_4)).trans hx402_4
                                      have HR402_4 := Aside0.mk hi402_4
                                      have HC402_4 := Aside0.mk hl402_4
                                      clear hi402_4 hl402_4
                                      replace p402 := eq_true p402
                                      replace q402 := eq_true q402
                                      refine start_ (n := 10) (S := fun w' => w'.cell? ⟨gb401, 0, none⟩ = some (.int .i64 ((rd_T43 x3_1 (ji19)).f0)) ∧ w'.cell? ⟨gb401, 1, none⟩ = some (.int .i64 ((rd_T43 x3_1 (ji19)).f1)) ∧ w'.cell? ⟨gb401, 2, none⟩ = some (.string ((rd_T43 x3_1 (ji19)).f2)) ∧ w'.cell? ⟨gb401, 3, none⟩ = some (.string ((rd_T43 x3_1 (ji19)).f3)) ∧ w'.cell? ⟨gb401, 4, none⟩ = some (.slice A397_4 ((rd_T43 x3_1 (ji19)).f4).length c397_4) ∧ w'.cell? (ad396.add ((x4_1).toNat * 5)) = some (.int .i64 ((rd_T43 l0 x4_1).f0)) ∧ w'.cell? ⟨(ad396.add ((x4_1).toNat * 5)).block, (ad396.add ((x4_1).toNat * 5)).off + 1, none⟩ = some (.int .i64 ((rd_T43 l0 x4_1).f1)) ∧ w'.cell? ⟨(ad396.add ((x4_1).toNat * 5)).block, (ad396.add ((x4_1).toNat * 5)).off + 2, none⟩ = some (.string ((rd_T43 l0 x4_1).f2)) ∧ w'.cell? ⟨(ad396.add ((x4_1).toNat * 5)).block, (ad396.add ((x4_1).toNat * 5)).off + 3, none⟩ = some (.string ((rd_T43 l0 x4_1).f3)) ∧ w'.cell? ⟨(ad396.add ((x4_1).toNat * 5)).block, (ad396.add ((x4_1).toNat * 5)).off + 4, none⟩ = some (.slice A396_4 ((rd_T43 l0 x4_1).f4).length c396_4)) (ds := [9]) #[false, false, false, false, false, false, false, false, false, false] (by kernel_rfl) rfl rfl ⟨(blk_cell BK401.out 0).trans rfl, (blk_cell BK401.out 1).trans rfl, (blk_cell BK401.out 2).trans rfl, (blk_cell BK401.out 3).trans rfl, (blk_cell BK401.out 4).trans rfl, ((HB.out.cell (World.block_lt_of_cell? w _ hw402_0)).trans hw402_0), ((HB.out.cell (World.block_lt_of_cell? w _ hw402_1)).trans hw402_1), ((HB.out.cell (World.block_lt_of_cell? w _ hw402_2)).trans hw402_2), ((HB.out.cell (World.block_lt_of_cell? w _ hw402_3)).trans hw402_3), ((HB.out.cell (World.block_lt_of_cell? w _ hw402_4)).trans hw402_4)⟩ (fun hHeld => ?_); refine with_tabW boltingref04_Normal.tab10 boltingref04_Normal.bits10 (fun HT_ HW_ => ?_)
                                      generalize w29.drew = w30 at HO_3 HO_5 HL397_4 HL398_4 HL400_4 BK401 HB HR402_4 hx402_0 hx402_1 hx402_2 hx402_3 hx402_4 hHeld ⊢
                                      refine pure_ (i := 0) (N := some 75) (v := ?_) (a' := ?_) #[true, false, false, false, false, false, false, false, false, false] rfl rfl (any_of HT_.out (by kernel_rfl)) (fun _ _ _ h => h) (Or.inl ⟨by rfl, ?_⟩) ?_ ?_
                                      rotate_left
                                      · intro w'
                                        go_simp
                                        with_reducible rfl
                                      rotate_left
                                      · simp only [Act.put, List.setIfInBounds_toArray, List.set_cons_zero, List.set_cons_succ, i64_w, i32_w]
                                        rfl
                                      refine pure_ (i := 2) (N := some 77) (v := ?_) (a' := ?_) #[true, false, true, false, false, false, false, false, false, false] rfl rfl (any_of HT_.out (by kernel_rfl)) (fun _ _ _ h => h) (Or.inl ⟨by rfl, ?_⟩) ?_ ?_
                                      rotate_left
                                      · intro w'
                                        go_simp
                                        with_reducible rfl
                                      rotate_left
                                      · simp only [Act.put, List.setIfInBounds_toArray, List.set_cons_zero, List.set_cons_succ, i64_w, i32_w]
                                        rfl
                                      refine pure_ (i := 3) (N := some 78) (v := ?_) (a' := ?_) #[true, false, true, true, false, false, false, false, false, false] rfl rfl (any_of HT_.out (by kernel_rfl)) (fun _ _ _ h => h) (Or.inl ⟨by rfl, ?_⟩) ?_ ?_
                                      rotate_left
                                      · intro w'
                                        go_simp
                                        with_reducible rfl
                                      rotate_left
                                      · simp only [Act.put, List.setIfInBounds_toArray, List.set_cons_zero, List.set_cons_succ, i64_w, i32_w]
                                        rfl
                                      refine pure_ (i := 4) (N := some 79) (v := ?_) (a' := ?_) #[true, false, true, true, true, false, false, false, false, false] rfl rfl (any_of HT_.out (by kernel_rfl)) (fun _ _ _ h => h) (Or.inl ⟨by rfl, ?_⟩) ?_ ?_
                                      rotate_left
                                      · intro w'
                                        go_simp
                                        with_reducible rfl
                                      rotate_left
                                      · simp only [Act.put, List.setIfInBounds_toArray, List.set_cons_zero, List.set_cons_succ, i64_w, i32_w]
                                        rfl
                                      refine pure_ (i := 5) (N := some 80) (v := ?_) (a' := ?_) #[true, false, true, true, true, true, false, false, false, false] rfl rfl (any_of HT_.out (by kernel_rfl)) (fun _ _ _ h => h) (Or.inl ⟨by rfl, ?_⟩) ?_ ?_
                                      rotate_left
                                      · intro w'
                                        go_simp
                                        with_reducible rfl
                                      rotate_left
                                      · simp only [Act.put, List.setIfInBounds_toArray, List.set_cons_zero, List.set_cons_succ, i64_w, i32_w]
                                        rfl
                                      refine take_ (i := 1) (N := some 76) (v := ?_) (a' := ?_) #[true, true, true, true, true, true, false, false, false, false] rfl rfl (take_ofW HT_.out HW_.out (by kernel_rfl)) (fun _ _ _ h => h) (Or.inl ⟨by rfl, ?_⟩) hHeld ?_ ?_
                                      rotate_left
                                      · rintro w' ⟨s0, s1, s2, s3, s4, s5, s6, s7, s8, s9⟩
                                        go_simp
                                        with_reducible rfl
                                      rotate_left
                                      · simp only [Act.put, List.setIfInBounds_toArray, List.set_cons_zero, List.set_cons_succ, i64_w, i32_w]
                                        rfl
                                      refine take_ (i := 6) (N := some 81) (v := ?_) (a' := ?_) #[true, true, true, true, true, true, true, false, false, false] rfl rfl (take_ofW HT_.out HW_.out (by kernel_rfl)) (fun _ _ _ h => h) (Or.inl ⟨by rfl, ?_⟩) hHeld ?_ ?_
                                      rotate_left
                                      · rintro w' ⟨s0, s1, s2, s3, s4, s5, s6, s7, s8, s9⟩
                                        go_simp
                                        with_reducible rfl
                                      rotate_left
                                      · simp only [Act.put, List.setIfInBounds_toArray, List.set_cons_zero, List.set_cons_succ, i64_w, i32_w]
                                        rfl
                                      refine pure_ (i := 7) (N := some 82) (v := ?_) (a' := ?_) #[true, true, true, true, true, true, true, true, false, false] rfl rfl (any_of HT_.out (by kernel_rfl)) (fun _ _ _ h => h) (Or.inl ⟨by rfl, ?_⟩) ?_ ?_
                                      rotate_left
                                      · intro w'
                                        go_simp
                                        with_reducible rfl
                                      rotate_left
                                      · simp only [Act.put, List.setIfInBounds_toArray, List.set_cons_zero, List.set_cons_succ, i64_w, i32_w]
                                        rfl
                                      refine pure_ (i := 8) (N := some 83) (v := ?_) (a' := ?_) #[true, true, true, true, true, true, true, true, true, false] rfl rfl (any_of HT_.out (by kernel_rfl)) (fun _ _ _ h => h) (Or.inl ⟨by rfl, ?_⟩) ?_ ?_
                                      rotate_left
                                      · intro w'
                                        go_simp
                                        with_reducible rfl
                                      rotate_left
                                      · simp only [Act.put, List.setIfInBounds_toArray, List.set_cons_zero, List.set_cons_succ, i64_w, i32_w]
                                        rfl
                                      refine last_ (i := 9) (N := none) #[true, true, true, true, true, true, true, true, true, true] rfl rfl (one_of HT_.out (by kernel_rfl)) (by decide) (fun K hK => ?_)
                                      have hs31 : w30.cell? ⟨gb401, 3, none⟩ = some (.string ((rd_T43 x3_1 (ji19)).f3)) := (blk_cell BK401.out 3).trans rfl
                                      have hfs31 := blk_frozen BK401.out 3
                                      refine skip_ (w1 := ?_) (by rfl) rfl ?_ ?_
                                      rotate_left
                                      · go_simp
                                        rfl
                                      refine hK.out _ _ ?_
                                      clear hK K
                                      refine done_ (done_of HT_.out (by kernel_rfl)) ?_
                                      have n0_ : Aside0 (Kd.N k43 43 (w30.setCell ⟨gb401, 3, none⟩ (.string (((rd_T43 x3_1 (ji19)).f3) ++ ((rd_T43 l0 x4_1).f3)))) w.heap.size (fun k_ => (w.heap.size ≤ k_) ∧ some k_ ≠ (v392 : Value).ownBlock ∧ k_ ≠ gb401) (.slice (some ad397) x3_1.length co12) x3_1) := ⟨by (with_reducible repeat (first | apply Kd.N_alloc | apply Kd.N_drewN | apply Kd.N_drew)); exact Kd.N_mono (Kd.N_far (p := ⟨gb401, 3, none⟩) (Kd.N_mono HO_3.out (fun k_ hk => (⟨hk, hk.2.2⟩ : _ ∧ k_ ≠ gb401))) (fun _ hk => hk.2) (.string (((rd_T43 x3_1 (ji19)).f3) ++ ((rd_T43 l0 x4_1).f3)))) (fun _ hk => ⟨hk.1.1, ⟨hk.1.2.1, hk.1.2.2⟩⟩)⟩
                                      have n1_ : Aside0 (Kd.N k43 43 (w30.setCell ⟨gb401, 3, none⟩ (.string (((rd_T43 x3_1 (ji19)).f3) ++ ((rd_T43 l0 x4_1).f3)))) w.heap.size (fun k_ => (w.heap.size ≤ k_) ∧ some k_ ≠ (.slice (some ad397) x3_1.length co12 : Value).ownBlock ∧ k_ ≠ gb401) v392 t391) := ⟨by (with_reducible repeat (first | apply Kd.N_alloc | apply Kd.N_drewN | apply Kd.N_drew)); exact Kd.N_mono (Kd.N_far (p := ⟨gb401, 3, none⟩) (Kd.N_mono HO_5.out (fun k_ hk => (⟨hk, hk.2.2⟩ : _ ∧ k_ ≠ gb401))) (fun _ hk => hk.2) (.string (((rd_T43 x3_1 (ji19)).f3) ++ ((rd_T43 l0 x4_1).f3)))) (fun _ hk => ⟨hk.1.1, ⟨hk.1.2.1, hk.1.2.2⟩⟩)⟩
                                      have n2_ : Aside0 (Kd.V k46 46 (w30.setCell ⟨gb401, 3, none⟩ (.string (((rd_T43 x3_1 (ji19)).f3) ++ ((rd_T43 l0 x4_1).f3)))) w.heap.size (fun k_ => (w.heap.size ≤ k_) ∧ some k_ ≠ (.slice (some ad397) x3_1.length co12 : Value).ownBlock ∧ some k_ ≠ (v392 : Value).ownBlock ∧ k_ ≠ gb401) (.slice A397_4 ((rd_T43 x3_1 (ji19)).f4).length c397_4) ((rd_T43 x3_1 (ji19)).f4)) := ⟨by (with_reducible repeat (first | apply Kd.V_alloc | apply Kd.V_drewN | apply Kd.V_drew)); exact Kd.V_mono (Kd.V_far (p := ⟨gb401, 3, none⟩) (Kd.V_mono HL397_4.out (fun k_ hk => (⟨hk, hk.2.2.2⟩ : _ ∧ k_ ≠ gb401))) (fun _ hk => hk.2) (.string (((rd_T43 x3_1 (ji19)).f3) ++ ((rd_T43 l0 x4_1).f3)))) (fun _ hk => ⟨hk.1.1, ⟨hk.1.2.1, ⟨hk.1.2.2.1, hk.1.2.2.2⟩⟩⟩)⟩
                                      have n3_ : Aside0 (Kd.V k46 46 (w30.setCell ⟨gb401, 3, none⟩ (.string (((rd_T43 x3_1 (ji19)).f3) ++ ((rd_T43 l0 x4_1).f3)))) w.heap.size (fun k_ => (w.heap.size ≤ k_) ∧ some k_ ≠ (.slice (some ad397) x3_1.length co12 : Value).ownBlock ∧ some k_ ≠ (v392 : Value).ownBlock ∧ k_ ≠ gb401) (.slice A397_4 ((rd_T43 x3_1 (ji19)).f4).length c397_4) ((rd_T43 x3_1 (ji19)).f4)) := ⟨by (with_reducible repeat (first | apply Kd.V_alloc | apply Kd.V_drewN | apply Kd.V_drew)); exact Kd.V_mono (Kd.V_far (p := ⟨gb401, 3, none⟩) (Kd.V_mono HL398_4.out (fun k_ hk => (⟨hk, hk.2.2.2⟩ : _ ∧ k_ ≠ gb401))) (fun _ hk => hk.2) (.string (((rd_T43 x3_1 (ji19)).f3) ++ ((rd_T43 l0 x4_1).f3)))) (fun _ hk => ⟨hk.1.1, ⟨hk.1.2.1, ⟨hk.1.2.2.1, hk.1.2.2.2⟩⟩⟩)⟩
                                      have n4_ : Aside0 (Kd.V k46 46 (w30.setCell ⟨gb401, 3, none⟩ (.string (((rd_T43 x3_1 (ji19)).f3) ++ ((rd_T43 l0 x4_1).f3)))) w.heap.size (fun k_ => (w.heap.size ≤ k_) ∧ some k_ ≠ (.slice (some ad397) x3_1.length co12 : Value).ownBlock ∧ some k_ ≠ (v392 : Value).ownBlock ∧ k_ ≠ gb401) (.slice A397_4 ((rd_T43 x3_1 (ji19)).f4).length c397_4) ((rd_T43 x3_1 (ji19)).f4)) := ⟨by (with_reducible repeat (first | apply Kd.V_alloc | apply Kd.V_drewN | apply Kd.V_drew)); exact Kd.V_mono (Kd.V_far (p := ⟨gb401, 3, none⟩) (Kd.V_mono HL400_4.out (fun k_ hk => (⟨hk, hk.2.2.2⟩ : _ ∧ k_ ≠ gb401))) (fun _ hk => hk.2) (.string (((rd_T43 x3_1 (ji19)).f3) ++ ((rd_T43 l0 x4_1).f3)))) (fun _ hk => ⟨hk.1.1, ⟨hk.1.2.1, ⟨hk.1.2.2.1, hk.1.2.2.2⟩⟩⟩)⟩
                                      have n5_ : Aside0 ((w30.setCell ⟨gb401, 3, none⟩ (.string (((rd_T43 x3_1 (ji19)).f3) ++ ((rd_T43 l0 x4_1).f3)))).heap[gb401]? = some (.cells #[.int .i64 ((rd_T43 x3_1 (ji19)).f0), .int .i64 ((rd_T43 x3_1 (ji19)).f1), .string ((rd_T43 x3_1 (ji19)).f2), .string (((rd_T43 x3_1 (ji19)).f3) ++ ((rd_T43 l0 x4_1).f3)), .slice A397_4 ((rd_T43 x3_1 (ji19)).f4).length c397_4] 43 (0, 0))) := ⟨by (with_reducible repeat (first | refine blk_drewN ?_ _ | refine blk_drew ?_ | refine blk_alloc ?_ _)); refine blk_put (cs := #[.int .i64 ((rd_T43 x3_1 (ji19)).f0), .int .i64 ((rd_T43 x3_1 (ji19)).f1), .string ((rd_T43 x3_1 (ji19)).f2), .string ((rd_T43 x3_1 (ji19)).f3), .slice A397_4 ((rd_T43 x3_1 (ji19)).f4).length c397_4]) ?_ 3 _ rfl; (with_reducible repeat (first | refine blk_drewN ?_ _ | refine blk_drew ?_ | refine blk_alloc ?_ _)); exact BK401.out⟩
                                      have n6_ : Aside0 (Below w.heap.size w (w30.setCell ⟨gb401, 3, none⟩ (.string (((rd_T43 x3_1 (ji19)).f3) ++ ((rd_T43 l0 x4_1).f3))))) := ⟨by repeat (first | (with_reducible first | exact HB.out | apply below_alloc | apply pw_below_drewN | apply below_drew1 | refine below_set ?_ GE401.out) | exact HB.out)⟩
                                      (try clear HO_3)
                                      (try clear HO_5)
                                      (try clear HL397_4)
                                      (try clear HL398_4)
                                      (try clear HL400_4)
                                      (try clear BK401)
                                      (try clear HB)
                                      generalize (w30.setCell ⟨gb401, 3, none⟩ (.string (((rd_T43 x3_1 (ji19)).f3) ++ ((rd_T43 l0 x4_1).f3)))) = w32 at n0_ n1_ n2_ n3_ n4_ n5_ n6_ ⊢
                                      have HO_3 := n0_
                                      have HO_5 := n1_
                                      have HL397_4 := n2_
                                      have HL398_4 := n3_
                                      have HL400_4 := n4_
                                      have BK401 := n5_
                                      have HB := n6_
                                      clear n0_ n1_ n2_ n3_ n4_ n5_ n6_
                                      have hcz33_0 : w32.cell? ⟨gb401, 0, none⟩ = some (.int .i64 ((rd_T43 x3_1 (ji19)).f0)) := (blk_cell BK401.out 0).trans rfl
                                      have hcz33_1 : w32.cell? ⟨gb401, 1, none⟩ = some (.int .i64 ((rd_T43 x3_1 (ji19)).f1)) := (blk_cell BK401.out 1).trans rfl
                                      have hcz33_2 : w32.cell? ⟨gb401, 2, none⟩ = some (.string ((rd_T43 x3_1 (ji19)).f2)) := (blk_cell BK401.out 2).trans rfl
                                      have hcz33_3 : w32.cell? ⟨gb401, 3, none⟩ = some (.string (((rd_T43 x3_1 (ji19)).f3) ++ ((rd_T43 l0 x4_1).f3))) := (blk_cell BK401.out 3).trans rfl
                                      have hcz33_4 : w32.cell? ⟨gb401, 4, none⟩ = some (.slice A397_4 ((rd_T43 x3_1 (ji19)).f4).length c397_4) := (blk_cell BK401.out 4).trans rfl
                                      have hfz33_0 := blk_frozen BK401.out 0
                                      have hfz33_1 := blk_frozen BK401.out 1
                                      have hfz33_2 := blk_frozen BK401.out 2
                                      have hfz33_3 := blk_frozen BK401.out 3
                                      have hfz33_4 := blk_frozen BK401.out 4
                                      have p25 : 0 ≤ ((ji19) : Int) := of_decide_eq_true (by first | (with_reducible assumption) | assumption)
                                      have q25 : ((ji19) : Int) < ((x3_1.length : Int) : Int) := of_decide_eq_true (by first | (with_reducible assumption) | assumption)
                                      obtain ⟨go25, co25, eo25, gb25, gl25, cl25, HG25⟩ := Kd.N_form HO_3.out (by omega)
                                      (first | cases eo25 | (injection eo25 with ea_ en_ ec_; (first | subst ea_ | (injection ea_ with ea_; subst ea_)); subst ec_; clear en_))
                                      have GB25 := Aside0.mk gb25
                                      have GG25 := Aside0.mk HG25
                                      clear gb25 gl25 HG25
                                      (first | simp only [add_plain] at hx397_0 | skip)
                                      (first | simp only [add_plain] at hx397_1 | skip)
                                      (first | simp only [add_plain] at hx397_2 | skip)
                                      (first | simp only [add_plain] at hx397_3 | skip)
                                      (first | simp only [add_plain] at hx397_4 | skip)
                                      (first | simp only [add_plain] at hx398_0 | skip)
                                      (first | simp only [add_plain] at hx398_1 | skip)
                                      (first | simp only [add_plain] at hx398_2 | skip)
                                      (first | simp only [add_plain] at hx398_3 | skip)
                                      (first | simp only [add_plain] at hx398_4 | skip)
                                      (first | simp only [add_plain] at hx400_0 | skip)
                                      (first | simp only [add_plain] at hx400_1 | skip)
                                      (first | simp only [add_plain] at hx400_2 | skip)
                                      (first | simp only [add_plain] at hx400_3 | skip)
                                      (first | simp only [add_plain] at hx400_4 | skip)
                                      obtain ⟨ce25, hcl25, hM25, hcc25, hfr25⟩ := Kd.N_elem HO_3.out z43 ((ji19) : Int) p25 q25
                                      obtain ⟨ua25_4, uc25_4, rfl, ul25_4, ge25_4⟩ := k43_openF hM25
                                      have hx25_0 : w32.cell? ⟨go25, ((ji19) : Int).toNat * 5, none⟩ = some (.int .i64 ((rd_T43 x3_1 (ji19)).f0)) := hcc25 0 _ rfl
                                      have hx25_1 : w32.cell? ⟨go25, ((ji19) : Int).toNat * 5 + 1, none⟩ = some (.int .i64 ((rd_T43 x3_1 (ji19)).f1)) := hcc25 1 _ rfl
                                      have hx25_2 : w32.cell? ⟨go25, ((ji19) : Int).toNat * 5 + 2, none⟩ = some (.string ((rd_T43 x3_1 (ji19)).f2)) := hcc25 2 _ rfl
                                      have hx25_3 : w32.cell? ⟨go25, ((ji19) : Int).toNat * 5 + 3, none⟩ = some (.string ((rd_T43 x3_1 (ji19)).f3)) := hcc25 3 _ rfl
                                      have hx25_4 : w32.cell? ⟨go25, ((ji19) : Int).toNat * 5 + 4, none⟩ = some (.slice ua25_4 ((rd_T43 x3_1 (ji19)).f4).length uc25_4) := hcc25 4 _ rfl
                                      have hf25_0 : w32.frozen? ⟨go25, ((ji19) : Int).toNat * 5, none⟩ = false := hfr25 0
                                      have hf25_1 : w32.frozen? ⟨go25, ((ji19) : Int).toNat * 5 + 1, none⟩ = false := hfr25 1
                                      have hf25_2 : w32.frozen? ⟨go25, ((ji19) : Int).toNat * 5 + 2, none⟩ = false := hfr25 2
                                      have hf25_3 : w32.frozen? ⟨go25, ((ji19) : Int).toNat * 5 + 3, none⟩ = false := hfr25 3
                                      have hf25_4 : w32.frozen? ⟨go25, ((ji19) : Int).toNat * 5 + 4, none⟩ = false := hfr25 4
                                      clear hcl25 hcc25 hfr25 hM25
                                      replace p25 := eq_true p25
                                      replace q25 := eq_true q25
                                      have HX34 := Aside0.mk (show Kd.N k43 43 w32 w.heap.size (fun k_ => (w.heap.size ≤ k_) ∧ some k_ ≠ (v392 : Value).ownBlock ∧ k_ ≠ gb401) (.slice (some ⟨go25, 0, none⟩) x3_1.length co12) x3_1 from (by (with_reducible repeat (first | apply Kd.N_alloc | apply Kd.N_drewN | apply Kd.N_drew)); exact HO_3.out))
                                      obtain ⟨ce34, hcl34, hM34, hcc34, hfr34⟩ := Kd.N_elem HX34.out z43 ((ji19) : Int) (of_decide_eq_true (by first | (with_reducible assumption) | assumption)) (by have h_ : ((ji19) : Int) < ((x3_1.length : Int) : Int) := of_decide_eq_true (by first | (with_reducible assumption) | assumption); first | exact h_ | (have e_ := (Kd.N_reads' HO_3.out).1; omega) | simpa using h_)
                                      obtain ⟨ua34_4, uc34_4, rfl, ul34_4, ge34_4⟩ := k43_openF hM34
                                      have HP34 := Kd.N_seg HX34.out ((ji19) : Int) (of_decide_eq_true (by first | (with_reducible assumption) | assumption)) (by have h_ : ((ji19) : Int) < ((x3_1.length : Int) : Int) := of_decide_eq_true (by first | (with_reducible assumption) | assumption); first | exact h_ | (have e_ := (Kd.N_reads' HO_3.out).1; omega) | simpa using h_) (seg := [.int .i64 ((rd_T43 x3_1 (ji19)).f0), .int .i64 ((rd_T43 x3_1 (ji19)).f1), .string ((rd_T43 x3_1 (ji19)).f2), .string (((rd_T43 x3_1 (ji19)).f3) ++ ((rd_T43 l0 x4_1).f3)), .slice A397_4 ((rd_T43 x3_1 (ji19)).f4).length c397_4]) (j := 0) hcl34 hcc34 (show 5 ≤ 5 from by decide) (x' := (⟨(rd_T43 x3_1 (ji19)).f0, (rd_T43 x3_1 (ji19)).f1, (rd_T43 x3_1 (ji19)).f2, ((rd_T43 x3_1 (ji19)).f3) ++ ((rd_T43 l0 x4_1).f3), (rd_T43 x3_1 (ji19)).f4⟩ : S43)) (k43_mkF _ _ (⟨(rd_T43 x3_1 (ji19)).f0, (rd_T43 x3_1 (ji19)).f1, (rd_T43 x3_1 (ji19)).f2, ((rd_T43 x3_1 (ji19)).f3) ++ ((rd_T43 l0 x4_1).f3), (rd_T43 x3_1 (ji19)).f4⟩ : S43) (Kd.V_reads' (Kd.V_mono (ok' := (fun k_ => ((fun k_ => (w.heap.size ≤ k_) ∧ some k_ ≠ (v392 : Value).ownBlock ∧ k_ ≠ gb401)) k_ ∧ k_ ≠ go25)) (HL400_4.out) (fun k_ hk => ⟨⟨hk.1, ⟨hk.2.2.1, hk.2.2.2⟩⟩, fun e_ => (hk.2.1) (by rw [e_]; rfl)⟩))).2.1 (Kd.V_F (Kd.V_mono (ok' := (fun k_ => ((fun k_ => (w.heap.size ≤ k_) ∧ some k_ ≠ (v392 : Value).ownBlock ∧ k_ ≠ gb401)) k_ ∧ k_ ≠ go25)) (HL400_4.out) (fun k_ hk => ⟨⟨hk.1, ⟨hk.2.2.1, hk.2.2.2⟩⟩, fun e_ => (hk.2.1) (by rw [e_]; rfl)⟩)))) (fun _ hk => hk)
                                      have hx34_0 := hcc34 0 _ rfl
                                      (try simp only [show (k43).sz = 5 from rfl, Nat.mul_one, Nat.add_zero] at hx34_0)
                                      have hf34_0 := hfr34 0
                                      (try simp only [show (k43).sz = 5 from rfl, Nat.mul_one, Nat.add_zero] at hf34_0)
                                      have hx34_1 := hcc34 1 _ rfl
                                      (try simp only [show (k43).sz = 5 from rfl, Nat.mul_one, Nat.add_zero] at hx34_1)
                                      have hf34_1 := hfr34 1
                                      (try simp only [show (k43).sz = 5 from rfl, Nat.mul_one, Nat.add_zero] at hf34_1)
                                      have hx34_2 := hcc34 2 _ rfl
                                      (try simp only [show (k43).sz = 5 from rfl, Nat.mul_one, Nat.add_zero] at hx34_2)
                                      have hf34_2 := hfr34 2
                                      (try simp only [show (k43).sz = 5 from rfl, Nat.mul_one, Nat.add_zero] at hf34_2)
                                      have hx34_3 := hcc34 3 _ rfl
                                      (try simp only [show (k43).sz = 5 from rfl, Nat.mul_one, Nat.add_zero] at hx34_3)
                                      have hf34_3 := hfr34 3
                                      (try simp only [show (k43).sz = 5 from rfl, Nat.mul_one, Nat.add_zero] at hf34_3)
                                      have hx34_4 := hcc34 4 _ rfl
                                      (try simp only [show (k43).sz = 5 from rfl, Nat.mul_one, Nat.add_zero] at hx34_4)
                                      have hf34_4 := hfr34 4
                                      (try simp only [show (k43).sz = 5 from rfl, Nat.mul_one, Nat.add_zero] at hf34_4)
                                      clear hcl34 hcc34 hfr34 hM34
                                      try go_wp2_with (first | ((with_reducible refine gate_store (t := 43) (p := 88) rfl ?_); refine store_event (t := 43) (p := 88) (v := ?vo_w35) (w1 := (((((w32.setCell ⟨go25, ((ji19) : Int).toNat * 5, none⟩ (.int .i64 ((rd_T43 x3_1 (ji19)).f0))).setCell ⟨go25, ((ji19) : Int).toNat * 5 + 1, none⟩ (.int .i64 ((rd_T43 x3_1 (ji19)).f1))).setCell ⟨go25, ((ji19) : Int).toNat * 5 + 2, none⟩ (.string ((rd_T43 x3_1 (ji19)).f2))).setCell ⟨go25, ((ji19) : Int).toNat * 5 + 3, none⟩ (.string (((rd_T43 x3_1 (ji19)).f3) ++ ((rd_T43 l0 x4_1).f3)))).setCell ⟨go25, ((ji19) : Int).toNat * 5 + 4, none⟩ (.slice A397_4 ((rd_T43 x3_1 (ji19)).f4).length c397_4))) ?hg ?ho ?hn ?hr ?_; (case ho => rfl); (case hg => rfl); (case hn => rfl); (case hr => first | (go_simp; done) | (go_simp; rfl)); intro w35 hw; have hg : w32.grownBy w35 (some go25) := (by rw [hw]; exact HP34.2); have hp_ : Kd.N k43 43 w35 w.heap.size (fun k_ => (w.heap.size ≤ k_) ∧ some k_ ≠ (v392 : Value).ownBlock ∧ k_ ≠ gb401) (.slice (some ⟨go25, 0, none⟩) x3_1.length co12) y403 := (by rw [hw, Ny403.out]; exact HP34.1); clear HP34; have n0_ := Aside0.mk (hp_); have n1_ := Aside0.mk (Kd.N_afterv (v := (.slice (some ⟨go25, 0, none⟩) x3_1.length co12)) (v1 := (.slice (some ⟨go25, 0, none⟩) x3_1.length co12)) (ok := (fun k_ => (w.heap.size ≤ k_) ∧ k_ ≠ gb401)) (by (with_reducible repeat (first | apply Kd.N_alloc | apply Kd.N_drewN | apply Kd.N_drew)); exact Kd.N_mono HO_5.out (fun _ hk => ⟨⟨hk.1, hk.2.2⟩, hk.2.1⟩)) hg (.inl rfl)); have n2_ := Aside0.mk (Kd.V_afterv (v := (.slice (some ⟨go25, 0, none⟩) x3_1.length co12)) (v1 := (.slice (some ⟨go25, 0, none⟩) x3_1.length co12)) (ok := (fun k_ => (w.heap.size ≤ k_) ∧ some k_ ≠ (v392 : Value).ownBlock ∧ k_ ≠ gb401)) (by (with_reducible repeat (first | apply Kd.V_alloc | apply Kd.V_drewN | apply Kd.V_drew)); exact Kd.V_mono HL397_4.out (fun _ hk => ⟨⟨hk.1, ⟨hk.2.2.1, hk.2.2.2⟩⟩, hk.2.1⟩)) hg (.inl rfl)); have n3_ := Aside0.mk (Kd.V_afterv (v := (.slice (some ⟨go25, 0, none⟩) x3_1.length co12)) (v1 := (.slice (some ⟨go25, 0, none⟩) x3_1.length co12)) (ok := (fun k_ => (w.heap.size ≤ k_) ∧ some k_ ≠ (v392 : Value).ownBlock ∧ k_ ≠ gb401)) (by (with_reducible repeat (first | apply Kd.V_alloc | apply Kd.V_drewN | apply Kd.V_drew)); exact Kd.V_mono HL398_4.out (fun _ hk => ⟨⟨hk.1, ⟨hk.2.2.1, hk.2.2.2⟩⟩, hk.2.1⟩)) hg (.inl rfl)); have n4_ := Aside0.mk (Kd.V_afterv (v := (.slice (some ⟨go25, 0, none⟩) x3_1.length co12)) (v1 := (.slice (some ⟨go25, 0, none⟩) x3_1.length co12)) (ok := (fun k_ => (w.heap.size ≤ k_) ∧ some k_ ≠ (v392 : Value).ownBlock ∧ k_ ≠ gb401)) (by (with_reducible repeat (first | apply Kd.V_alloc | apply Kd.V_drewN | apply Kd.V_drew)); exact Kd.V_mono HL400_4.out (fun _ hk => ⟨⟨hk.1, ⟨hk.2.2.1, hk.2.2.2⟩⟩, hk.2.1⟩)) hg (.inl rfl)); have n5_ := Aside0.mk (blk_grown (g := gb401) (o := .cells #[.int .i64 ((rd_T43 x3_1 (ji19)).f0), .int .i64 ((rd_T43 x3_1 (ji19)).f1), .string ((rd_T43 x3_1 (ji19)).f2), .string (((rd_T43 x3_1 (ji19)).f3) ++ ((rd_T43 l0 x4_1).f3)), .slice A397_4 ((rd_T43 x3_1 (ji19)).f4).length c397_4] 43 (0, 0)) (by (with_reducible repeat (first | refine blk_drewN ?_ _ | refine blk_drew ?_ | refine blk_alloc ?_ _)); exact BK401.out) hg (Kd.N_away HO_3.out (fun _ hk => hk.2.2))); have n6_ := Aside0.mk ((by rw [hw]; exact below_set (below_set (below_set (below_set (below_set (HB.out) GB25.out) GB25.out) GB25.out) GB25.out) GB25.out : Below w.heap.size w w35)); clear HO_3; clear HO_5; clear HL397_4; clear HL398_4; clear HL400_4; clear BK401; clear HB; have HO_3 := n0_; have HO_5 := n1_; have HL397_4 := n2_; have HL398_4 := n3_; have HL400_4 := n4_; have BK401 := n5_; have HB := n6_; clear n0_ n1_ n2_ n3_ n4_ n5_ n6_; clear hg hw hp_))
                                      go_roundg kj8
                                      case measure => have := HK1.out; have := HJ8.out; omega
                                      case rel => exact ⟨(y403), (wrap64 (x4_1 + 1)), (by first | rfl | (simp; done) | (congr 1; first | (with_reducible assumption) | (symm; with_reducible assumption)) | (simp [*]; done) | (simp only [ne_nil_empty]; done) | (rw [ne_nil_empty]; rfl)), H', ⟨by have := HK1.out; have := HJ8.out; omega⟩, ⟨by (with_reducible repeat (first | apply Kd.N_alloc | apply Kd.N_drewN | apply Kd.N_drew)); exact Kd.N_mono HO_3.out (fun _ hk => hk.1)⟩, ⟨by repeat (first | (with_reducible first | exact HB.out | apply below_alloc | apply pw_below_drewN | apply below_drew1 | refine below_set ?_ GE401.out) | exact HB.out)⟩⟩
                                    · rw [if_neg c24] at H
                                      exact absurd H (by simp)
                                  · rw [if_neg c23] at H
                                    have c23b0 : (((rd_T43 x3_1 (ji19)).f0) == ((rd_T43 l0 x4_1).f0)) = false := beq_eq_false_iff_ne.mpr c23
                                    have c23b1 : (((rd_T43 x3_1 (ji19)).f0) != ((rd_T43 l0 x4_1).f0)) = true := bne_iff_ne.mpr c23
                                    by_cases c36 : x3_1.length + t391.length < 1954687338268
                                    · rw [if_pos c36] at H
                                      have LMc36 := Aside0.mk c36
                                      clear c36
                                      obtain ⟨y404, hy404⟩ : ∃ y_ : List (S43), y_ = (x3_1 ++ t391) := ⟨_, rfl⟩
                                      replace H : (boltingref04_Normal.l0 kj8 l0 y404 (wrap64 (x4_1 + 1))) = some r := by first | (rw [hy404]; with_reducible exact H) | (have H2_ := (Option.bind_some _ _).symm.trans H; rw [hy404]; with_reducible exact H2_) | (have H2_ := (Option.bind_some _ _).symm.trans H; with_reducible exact H2_) | with_reducible exact H | (rw [hy404]; exact H) | exact H
                                      have Ny404 := Aside0.mk hy404
                                      clear hy404
                                      have H' := Aside0.mk H
                                      clear H
                                      try go_wp2
                                      have n0_ := Aside0.mk (Kd.N_drew HO_3.out)
                                      have n1_ := Aside0.mk (Kd.N_drew HO_5.out)
                                      have n2_ := Aside0.mk (below_drew1 HB.out)
                                      clear HO_3
                                      clear HO_5
                                      clear HB
                                      have HO_3 := n0_
                                      have HO_5 := n1_
                                      have HB := n2_
                                      clear n0_ n1_ n2_
                                      have p396 : 0 ≤ (x4_1 : Int) := of_decide_eq_true (by first | (with_reducible assumption) | assumption)
                                      have q396 : x4_1 < (l0.length : Int) := of_decide_eq_true (by first | (with_reducible assumption) | assumption)
                                      obtain ⟨ad396, A396_4, c396_4, e396, hx396_0, hx396_1, hx396_2, hx396_3, hx396_4, hl396_4, hi396_4⟩ := at_T43 HR0.out x4_1 p396 q396
                                      have hy396_4 := Aside0.mk hx396_4
                                      have hw396_4 := hx396_4
                                      have hw396_3 := hx396_3
                                      have hw396_2 := hx396_2
                                      have hw396_1 := hx396_1
                                      have hw396_0 := hx396_0
                                      cases e396
                                      replace hx396_0 := (HB.out.cell (World.block_lt_of_cell? w _ hx396_0)).trans hx396_0
                                      replace hx396_1 := (HB.out.cell (World.block_lt_of_cell? w _ hx396_1)).trans hx396_1
                                      replace hx396_2 := (HB.out.cell (World.block_lt_of_cell? w _ hx396_2)).trans hx396_2
                                      replace hx396_3 := (HB.out.cell (World.block_lt_of_cell? w _ hx396_3)).trans hx396_3
                                      replace hx396_4 := (HB.out.cell (World.block_lt_of_cell? w _ hx396_4)).trans hx396_4
                                      have HR396_4 := Aside0.mk hi396_4
                                      have HC396_4 := Aside0.mk hl396_4
                                      clear hi396_4 hl396_4
                                      replace p396 := eq_true p396
                                      replace q396 := eq_true q396
                                      have p397 : 0 ≤ ((ji19) : Int) := of_decide_eq_true (by first | (with_reducible assumption) | assumption)
                                      have q397 : (ji19) < (x3_1.length : Int) := of_decide_eq_true (by first | (with_reducible assumption) | assumption)
                                      obtain ⟨ad397, A397_4, c397_4, e397, hx397_0, hx397_1, hx397_2, hx397_3, hx397_4, hl397_4, hi397_4⟩ := at_T43 (Kd.N_reads' HO_3.out).2.2 (ji19) p397 q397
                                      cases e397
                                      obtain ⟨ce397, hce397, hMe397, hcc397⟩ := Kd.N_get HO_3.out z43 (ji19) p397 (by first | exact q397 | exact of_decide_eq_true (by first | (with_reducible assumption) | assumption) | (have e_ := (Kd.N_reads' HO_3.out).1; omega))
                                      obtain ⟨ua397_4, uc397_4, rfl, ul397_4, ge397_4⟩ := k43_openF hMe397
                                      have hv397_4 := hcc397 4 _ rfl
                                      rw [add_field _ _ 4 (by omega)] at hv397_4
                                      replace hv397_4 := Option.some.inj (hv397_4.symm.trans hx397_4)
                                      injection hv397_4 with hva_ hvn_ hvc_
                                      rw [hva_] at ge397_4
                                      rw [hvc_] at ul397_4
                                      have HL397_4 := Aside0.mk (show Kd.V k46 46 _ w.heap.size _ _ ((rd_T43 x3_1 (ji19)).f4) from Kd.V_mk ul397_4 ge397_4)
                                      clear hva_ hvn_ hvc_ ge397_4 ul397_4
                                      clear hcc397 hce397
                                      have HR397_4 := Aside0.mk hi397_4
                                      have HC397_4 := Aside0.mk hl397_4
                                      clear hi397_4 hl397_4
                                      replace p397 := eq_true p397
                                      replace q397 := eq_true q397
                                      have p398 : 0 ≤ ((ji19) : Int) := of_decide_eq_true (by first | (with_reducible assumption) | assumption)
                                      have q398 : (ji19) < (x3_1.length : Int) := of_decide_eq_true (by first | (with_reducible assumption) | assumption)
                                      obtain ⟨ad398, A398_4, c398_4, e398, hx398_0, hx398_1, hx398_2, hx398_3, hx398_4, hl398_4, hi398_4⟩ := at_T43 (Kd.N_reads' HO_3.out).2.2 (ji19) p398 q398
                                      obtain rfl : ad397 = ad398 := (by injection e398)
                                      obtain ⟨ce398, hce398, hMe398, hcc398⟩ := Kd.N_get HO_3.out z43 (ji19) p398 (by first | exact q398 | exact of_decide_eq_true (by first | (with_reducible assumption) | assumption) | (have e_ := (Kd.N_reads' HO_3.out).1; omega))
                                      obtain ⟨ua398_4, uc398_4, rfl, ul398_4, ge398_4⟩ := k43_openF hMe398
                                      have hv398_4 := hcc398 4 _ rfl
                                      rw [add_field _ _ 4 (by omega)] at hv398_4
                                      replace hv398_4 := Option.some.inj (hv398_4.symm.trans hx398_4)
                                      injection hv398_4 with hva_ hvn_ hvc_
                                      rw [hva_] at ge398_4
                                      rw [hvc_] at ul398_4
                                      have HL398_4 := Aside0.mk (show Kd.V k46 46 _ w.heap.size _ _ ((rd_T43 x3_1 (ji19)).f4) from Kd.V_mk ul398_4 ge398_4)
                                      clear hva_ hvn_ hvc_ ge398_4 ul398_4
                                      clear hcc398 hce398
                                      have HR398_4 := Aside0.mk hi398_4
                                      have HC398_4 := Aside0.mk hl398_4
                                      clear hi398_4 hl398_4
                                      replace p398 := eq_true p398
                                      replace q398 := eq_true q398
                                      have ea_ := Option.some.inj (hx397_4.symm.trans hx398_4)
                                      injection ea_ with ea_ en_ ec_
                                      subst ea_
                                      subst ec_
                                      clear en_
                                      have p399 : 0 ≤ (x4_1 : Int) := of_decide_eq_true (by first | (with_reducible assumption) | assumption)
                                      have q399 : x4_1 < (l0.length : Int) := of_decide_eq_true (by first | (with_reducible assumption) | assumption)
                                      obtain ⟨ad399, A399_4, c399_4, e399, hx399_0, hx399_1, hx399_2, hx399_3, hx399_4, hl399_4, hi399_4⟩ := at_T43 HR0.out x4_1 p399 q399
                                      have hw399_4 := hx399_4
                                      have hw399_3 := hx399_3
                                      have hw399_2 := hx399_2
                                      have hw399_1 := hx399_1
                                      have hw399_0 := hx399_0
                                      obtain rfl : ad396 = ad399 := (by injection e399)
                                      replace hx399_0 := (HB.out.cell (World.block_lt_of_cell? w _ hx399_0)).trans hx399_0
                                      replace hx399_1 := (HB.out.cell (World.block_lt_of_cell? w _ hx399_1)).trans hx399_1
                                      replace hx399_2 := (HB.out.cell (World.block_lt_of_cell? w _ hx399_2)).trans hx399_2
                                      replace hx399_3 := (HB.out.cell (World.block_lt_of_cell? w _ hx399_3)).trans hx399_3
                                      replace hx399_4 := (HB.out.cell (World.block_lt_of_cell? w _ hx399_4)).trans hx399_4
                                      have HR399_4 := Aside0.mk hi399_4
                                      have HC399_4 := Aside0.mk hl399_4
                                      clear hi399_4 hl399_4
                                      replace p399 := eq_true p399
                                      replace q399 := eq_true q399
                                      have ea_ := Option.some.inj (hx396_4.symm.trans hx399_4)
                                      injection ea_ with ea_ en_ ec_
                                      subst ea_
                                      subst ec_
                                      clear en_
                                      refine start_ (n := 33) (S := fun w' => w'.cell? (ad396.add ((x4_1).toNat * 5)) = some (.int .i64 ((rd_T43 l0 x4_1).f0)) ∧ w'.cell? ⟨(ad396.add ((x4_1).toNat * 5)).block, (ad396.add ((x4_1).toNat * 5)).off + 1, none⟩ = some (.int .i64 ((rd_T43 l0 x4_1).f1)) ∧ w'.cell? ⟨(ad396.add ((x4_1).toNat * 5)).block, (ad396.add ((x4_1).toNat * 5)).off + 2, none⟩ = some (.string ((rd_T43 l0 x4_1).f2)) ∧ w'.cell? ⟨(ad396.add ((x4_1).toNat * 5)).block, (ad396.add ((x4_1).toNat * 5)).off + 3, none⟩ = some (.string ((rd_T43 l0 x4_1).f3)) ∧ w'.cell? ⟨(ad396.add ((x4_1).toNat * 5)).block, (ad396.add ((x4_1).toNat * 5)).off + 4, none⟩ = some (.slice A396_4 ((rd_T43 l0 x4_1).f4).length c396_4) ∧ w'.cell? (ad397.add (((ji19)).toNat * 5)) = some (.int .i64 ((rd_T43 x3_1 (ji19)).f0)) ∧ w'.cell? ⟨(ad397.add (((ji19)).toNat * 5)).block, (ad397.add (((ji19)).toNat * 5)).off + 1, none⟩ = some (.int .i64 ((rd_T43 x3_1 (ji19)).f1)) ∧ w'.cell? ⟨(ad397.add (((ji19)).toNat * 5)).block, (ad397.add (((ji19)).toNat * 5)).off + 2, none⟩ = some (.string ((rd_T43 x3_1 (ji19)).f2)) ∧ w'.cell? ⟨(ad397.add (((ji19)).toNat * 5)).block, (ad397.add (((ji19)).toNat * 5)).off + 3, none⟩ = some (.string ((rd_T43 x3_1 (ji19)).f3)) ∧ w'.cell? ⟨(ad397.add (((ji19)).toNat * 5)).block, (ad397.add (((ji19)).toNat * 5)).off + 4, none⟩ = some (.slice A397_4 ((rd_T43 x3_1 (ji19)).f4).length c397_4) ∧ w'.cell? (ad397.add (((ji19)).toNat * 5)) = some (.int .i64 ((rd_T43 x3_1 (ji19)).f0)) ∧ w'.cell? ⟨(ad397.add (((ji19)).toNat * 5)).block, (ad397.add (((ji19)).toNat * 5)).off + 1, none⟩ = some (.int .i64 ((rd_T43 x3_1 (ji19)).f1)) ∧ w'.cell? ⟨(ad397.add (((ji19)).toNat * 5)).block, (ad397.add (((ji19)).toNat * 5)).off + 2, none⟩ = some (.string ((rd_T43 x3_1 (ji19)).f2)) ∧ w'.cell? ⟨(ad397.add (((ji19)).toNat * 5)).block, (ad397.add (((ji19)).toNat * 5)).off + 3, none⟩ = some (.string ((rd_T43 x3_1 (ji19)).f3)) ∧ w'.cell? ⟨(ad397.add (((ji19)).toNat * 5)).block, (ad397.add (((ji19)).toNat * 5)).off + 4, none⟩ = some (.slice A397_4 ((rd_T43 x3_1 (ji19)).f4).length c397_4) ∧ w'.cell? (ad396.add ((x4_1).toNat * 5)) = some (.int .i64 ((rd_T43 l0 x4_1).f0)) ∧ w'.cell? ⟨(ad396.add ((x4_1).toNat * 5)).block, (ad396.add ((x4_1).toNat * 5)).off + 1, none⟩ = some (.int .i64 ((rd_T43 l0 x4_1).f1)) ∧ w'.cell? ⟨(ad396.add ((x4_1).toNat * 5)).block, (ad396.add ((x4_1).toNat * 5)).off + 2, none⟩ = some (.string ((rd_T43 l0 x4_1).f2)) ∧ w'.cell? ⟨(ad396.add ((x4_1).toNat * 5)).block, (ad396.add ((x4_1).toNat * 5)).off + 3, none⟩ = some (.string ((rd_T43 l0 x4_1).f3)) ∧ w'.cell? ⟨(ad396.add ((x4_1).toNat * 5)).block, (ad396.add ((x4_1).toNat * 5)).off + 4, none⟩ = some (.slice A396_4 ((rd_T43 l0 x4_1).f4).length c396_4)) (ds := []) #[false, false, false, false, false, false, false, false, false, false, false, false, false, false, false, false, false, false, false, false, false, false, false, false, false, false, false, false, false, false, false, false, false] (by kernel_rfl) rfl rfl ⟨((HB.out.cell (World.block_lt_of_cell? w _ hw396_0)).trans hw396_0), ((HB.out.cell (World.block_lt_of_cell? w _ hw396_1)).trans hw396_1), ((HB.out.cell (World.block_lt_of_cell? w _ hw396_2)).trans hw396_2), ((HB.out.cell (World.block_lt_of_cell? w _ hw396_3)).trans hw396_3), ((HB.out.cell (World.block_lt_of_cell? w _ hw396_4)).trans hw396_4), hx397_0, hx397_1, hx397_2, hx397_3, hx397_4, hx398_0, hx398_1, hx398_2, hx398_3, hx398_4, ((HB.out.cell (World.block_lt_of_cell? w _ hw399_0)).trans hw399_0), ((HB.out.cell (World.block_lt_of_cell? w _ hw399_1)).trans hw399_1), ((HB.out.cell (World.block_lt_of_cell? w _ hw399_2)).trans hw399_2), ((HB.out.cell (World.block_lt_of_cell? w _ hw399_3)).trans hw399_3), ((HB.out.cell (World.block_lt_of_cell? w _ hw399_4)).trans hw399_4)⟩ (fun hHeld => ?_); refine with_tabW boltingref04_Normal.tab8 boltingref04_Normal.bits8 (fun HT_ HW_ => ?_)
                                      generalize wc.drew = w37 at HO_3 HO_5 HB HL397_4 HL398_4 HR396_4 HR397_4 HR398_4 HR399_4 hx396_0 hx396_1 hx396_2 hx396_3 hx396_4 hx397_0 hx397_1 hx397_2 hx397_3 hx397_4 hx398_0 hx398_1 hx398_2 hx398_3 hx398_4 hx399_0 hx399_1 hx399_2 hx399_3 hx399_4 hHeld ⊢
                                      refine pure_ (i := 0) (N := some 37) (v := ?_) (a' := ?_) #[true, false, false, false, false, false, false, false, false, false, false, false, false, false, false, false, false, false, false, false, false, false, false, false, false, false, false, false, false, false, false, false, false] rfl rfl (any_of HT_.out (by kernel_rfl)) (fun _ _ _ h => h) (Or.inl ⟨by rfl, ?_⟩) ?_ ?_
                                      rotate_left
                                      · intro w'
                                        go_simp
                                        with_reducible rfl
                                      rotate_left
                                      · simp only [Act.put, List.setIfInBounds_toArray, List.set_cons_zero, List.set_cons_succ, i64_w, i32_w]
                                        rfl
                                      refine pure_ (i := 1) (N := some 38) (v := ?_) (a' := ?_) #[true, true, false, false, false, false, false, false, false, false, false, false, false, false, false, false, false, false, false, false, false, false, false, false, false, false, false, false, false, false, false, false, false] rfl rfl (any_of HT_.out (by kernel_rfl)) (fun _ _ _ h => h) (Or.inl ⟨by rfl, ?_⟩) ?_ ?_
                                      rotate_left
                                      · intro w'
                                        go_simp
                                        with_reducible rfl
                                      rotate_left
                                      · simp only [Act.put, List.setIfInBounds_toArray, List.set_cons_zero, List.set_cons_succ, i64_w, i32_w]
                                        rfl
                                      refine pure_ (i := 2) (N := some 39) (v := ?_) (a' := ?_) #[true, true, true, false, false, false, false, false, false, false, false, false, false, false, false, false, false, false, false, false, false, false, false, false, false, false, false, false, false, false, false, false, false] rfl rfl (any_of HT_.out (by kernel_rfl)) (fun _ _ _ h => h) (Or.inl ⟨by rfl, ?_⟩) ?_ ?_
                                      rotate_left
                                      · intro w'
                                        go_simp
                                        with_reducible rfl
                                      rotate_left
                                      · simp only [Act.put, List.setIfInBounds_toArray, List.set_cons_zero, List.set_cons_succ, i64_w, i32_w]
                                        rfl
                                      refine pure_ (i := 3) (N := some 40) (v := ?_) (a' := ?_) #[true, true, true, true, false, false, false, false, false, false, false, false, false, false, false, false, false, false, false, false, false, false, false, false, false, false, false, false, false, false, false, false, false] rfl rfl (any_of HT_.out (by kernel_rfl)) (fun _ _ _ h => h) (Or.inl ⟨by rfl, ?_⟩) ?_ ?_
                                      rotate_left
                                      · intro w'
                                        go_simp
                                        with_reducible rfl
                                      rotate_left
                                      · simp only [Act.put, List.setIfInBounds_toArray, List.set_cons_zero, List.set_cons_succ, i64_w, i32_w]
                                        rfl
                                      refine take_ (i := 4) (N := some 41) (v := ?_) (a' := ?_) #[true, true, true, true, true, false, false, false, false, false, false, false, false, false, false, false, false, false, false, false, false, false, false, false, false, false, false, false, false, false, false, false, false] rfl rfl (take_ofW HT_.out HW_.out (by kernel_rfl)) (fun _ _ _ h => h) (Or.inl ⟨by rfl, ?_⟩) hHeld ?_ ?_
                                      rotate_left
                                      · rintro w' ⟨s0, s1, s2, s3, s4, s5, s6, s7, s8, s9, s10, s11, s12, s13, s14, s15, s16, s17, s18, s19⟩
                                        go_simp
                                        with_reducible rfl
                                      rotate_left
                                      · simp only [Act.put, List.setIfInBounds_toArray, List.set_cons_zero, List.set_cons_succ, i64_w, i32_w]
                                        rfl
                                      refine pure_ (i := 5) (N := some 42) (v := ?_) (a' := ?_) #[true, true, true, true, true, true, false, false, false, false, false, false, false, false, false, false, false, false, false, false, false, false, false, false, false, false, false, false, false, false, false, false, false] rfl rfl (any_of HT_.out (by kernel_rfl)) (fun _ _ _ h => h) (Or.inl ⟨by rfl, ?_⟩) ?_ ?_
                                      rotate_left
                                      · intro w'
                                        go_simp
                                        with_reducible rfl
                                      rotate_left
                                      · simp only [Act.put, List.setIfInBounds_toArray, List.set_cons_zero, List.set_cons_succ, i64_w, i32_w]
                                        rfl
                                      refine pure_ (i := 6) (N := some 43) (v := ?_) (a' := ?_) #[true, true, true, true, true, true, true, false, false, false, false, false, false, false, false, false, false, false, false, false, false, false, false, false, false, false, false, false, false, false, false, false, false] rfl rfl (any_of HT_.out (by kernel_rfl)) (fun _ _ _ h => h) (Or.inl ⟨by rfl, ?_⟩) ?_ ?_
                                      rotate_left
                                      · intro w'
                                        go_simp
                                        with_reducible rfl
                                      rotate_left
                                      · simp only [Act.put, List.setIfInBounds_toArray, List.set_cons_zero, List.set_cons_succ, i64_w, i32_w]
                                        rfl
                                      refine pure_ (i := 7) (N := some 44) (v := ?_) (a' := ?_) #[true, true, true, true, true, true, true, true, false, false, false, false, false, false, false, false, false, false, false, false, false, false, false, false, false, false, false, false, false, false, false, false, false] rfl rfl (any_of HT_.out (by kernel_rfl)) (fun _ _ _ h => h) (Or.inl ⟨by rfl, ?_⟩) ?_ ?_
                                      rotate_left
                                      · intro w'
                                        go_simp
                                        with_reducible rfl
                                      rotate_left
                                      · simp only [Act.put, List.setIfInBounds_toArray, List.set_cons_zero, List.set_cons_succ, i64_w, i32_w]
                                        rfl
                                      refine pure_ (i := 8) (N := some 45) (v := ?_) (a' := ?_) #[true, true, true, true, true, true, true, true, true, false, false, false, false, false, false, false, false, false, false, false, false, false, false, false, false, false, false, false, false, false, false, false, false] rfl rfl (any_of HT_.out (by kernel_rfl)) (fun _ _ _ h => h) (Or.inl ⟨by rfl, ?_⟩) ?_ ?_
                                      rotate_left
                                      · intro w'
                                        go_simp
                                        with_reducible rfl
                                      rotate_left
                                      · simp only [Act.put, List.setIfInBounds_toArray, List.set_cons_zero, List.set_cons_succ, i64_w, i32_w]
                                        rfl
                                      refine pure_ (i := 9) (N := some 46) (v := ?_) (a' := ?_) #[true, true, true, true, true, true, true, true, true, true, false, false, false, false, false, false, false, false, false, false, false, false, false, false, false, false, false, false, false, false, false, false, false] rfl rfl (any_of HT_.out (by kernel_rfl)) (fun _ _ _ h => h) (Or.inl ⟨by rfl, ?_⟩) ?_ ?_
                                      rotate_left
                                      · intro w'
                                        go_simp
                                        with_reducible rfl
                                      rotate_left
                                      · simp only [Act.put, List.setIfInBounds_toArray, List.set_cons_zero, List.set_cons_succ, i64_w, i32_w]
                                        rfl
                                      refine pure_ (i := 10) (N := some 47) (v := ?_) (a' := ?_) #[true, true, true, true, true, true, true, true, true, true, true, false, false, false, false, false, false, false, false, false, false, false, false, false, false, false, false, false, false, false, false, false, false] rfl rfl (any_of HT_.out (by kernel_rfl)) (fun _ _ _ h => h) (Or.inl ⟨by rfl, ?_⟩) ?_ ?_
                                      rotate_left
                                      · intro w'
                                        go_simp
                                        with_reducible rfl
                                      rotate_left
                                      · simp only [Act.put, List.setIfInBounds_toArray, List.set_cons_zero, List.set_cons_succ, i64_w, i32_w]
                                        rfl
                                      refine pure_ (i := 11) (N := some 48) (v := ?_) (a' := ?_) #[true, true, true, true, true, true, true, true, true, true, true, true, false, false, false, false, false, false, false, false, false, false, false, false, false, false, false, false, false, false, false, false, false] rfl rfl (any_of HT_.out (by kernel_rfl)) (fun _ _ _ h => h) (Or.inl ⟨by rfl, ?_⟩) ?_ ?_
                                      rotate_left
                                      · intro w'
                                        go_simp
                                        with_reducible rfl
                                      rotate_left
                                      · simp only [Act.put, List.setIfInBounds_toArray, List.set_cons_zero, List.set_cons_succ, i64_w, i32_w]
                                        rfl
                                      refine pure_ (i := 12) (N := some 49) (v := ?_) (a' := ?_) #[true, true, true, true, true, true, true, true, true, true, true, true, true, false, false, false, false, false, false, false, false, false, false, false, false, false, false, false, false, false, false, false, false] rfl rfl (any_of HT_.out (by kernel_rfl)) (fun _ _ _ h => h) (Or.inl ⟨by rfl, ?_⟩) ?_ ?_
                                      rotate_left
                                      · intro w'
                                        go_simp
                                        with_reducible rfl
                                      rotate_left
                                      · simp only [Act.put, List.setIfInBounds_toArray, List.set_cons_zero, List.set_cons_succ, i64_w, i32_w]
                                        rfl
                                      refine pure_ (i := 13) (N := some 50) (v := ?_) (a' := ?_) #[true, true, true, true, true, true, true, true, true, true, true, true, true, true, false, false, false, false, false, false, false, false, false, false, false, false, false, false, false, false, false, false, false] rfl rfl (any_of HT_.out (by kernel_rfl)) (fun _ _ _ h => h) (Or.inl ⟨by rfl, ?_⟩) ?_ ?_
                                      rotate_left
                                      · intro w'
                                        go_simp
                                        with_reducible rfl
                                      rotate_left
                                      · simp only [Act.put, List.setIfInBounds_toArray, List.set_cons_zero, List.set_cons_succ, i64_w, i32_w]
                                        rfl
                                      refine pure_ (i := 14) (N := some 51) (v := ?_) (a' := ?_) #[true, true, true, true, true, true, true, true, true, true, true, true, true, true, true, false, false, false, false, false, false, false, false, false, false, false, false, false, false, false, false, false, false] rfl rfl (any_of HT_.out (by kernel_rfl)) (fun _ _ _ h => h) (Or.inl ⟨by rfl, ?_⟩) ?_ ?_
                                      rotate_left
                                      · intro w'
                                        go_simp
                                        with_reducible rfl
                                      rotate_left
                                      · simp only [Act.put, List.setIfInBounds_toArray, List.set_cons_zero, List.set_cons_succ, i64_w, i32_w]
                                        rfl
                                      refine pure_ (i := 15) (N := some 52) (v := ?_) (a' := ?_) #[true, true, true, true, true, true, true, true, true, true, true, true, true, true, true, true, false, false, false, false, false, false, false, false, false, false, false, false, false, false, false, false, false] rfl rfl (any_of HT_.out (by kernel_rfl)) (fun _ _ _ h => h) (Or.inl ⟨by rfl, ?_⟩) ?_ ?_
                                      rotate_left
                                      · intro w'
                                        go_simp
                                        with_reducible rfl
                                      rotate_left
                                      · simp only [Act.put, List.setIfInBounds_toArray, List.set_cons_zero, List.set_cons_succ, i64_w, i32_w]
                                        rfl
                                      refine take_ (i := 16) (N := some 53) (v := ?_) (a' := ?_) #[true, true, true, true, true, true, true, true, true, true, true, true, true, true, true, true, true, false, false, false, false, false, false, false, false, false, false, false, false, false, false, false, false] rfl rfl (take_ofW HT_.out HW_.out (by kernel_rfl)) (fun _ _ _ h => h) (Or.inl ⟨by rfl, ?_⟩) hHeld ?_ ?_
                                      rotate_left
                                      · rintro w' ⟨s0, s1, s2, s3, s4, s5, s6, s7, s8, s9, s10, s11, s12, s13, s14, s15, s16, s17, s18, s19⟩
                                        go_simp
                                        with_reducible rfl
                                      rotate_left
                                      · simp only [Act.put, List.setIfInBounds_toArray, List.set_cons_zero, List.set_cons_succ, i64_w, i32_w]
                                        rfl
                                      refine pure_ (i := 17) (N := some 54) (v := ?_) (a' := ?_) #[true, true, true, true, true, true, true, true, true, true, true, true, true, true, true, true, true, true, false, false, false, false, false, false, false, false, false, false, false, false, false, false, false] rfl rfl (any_of HT_.out (by kernel_rfl)) (fun _ _ _ h => h) (Or.inl ⟨by rfl, ?_⟩) ?_ ?_
                                      rotate_left
                                      · intro w'
                                        go_simp
                                        with_reducible rfl
                                      rotate_left
                                      · simp only [Act.put, List.setIfInBounds_toArray, List.set_cons_zero, List.set_cons_succ, i64_w, i32_w]
                                        rfl
                                      refine pure_ (i := 18) (N := some 55) (v := ?_) (a' := ?_) #[true, true, true, true, true, true, true, true, true, true, true, true, true, true, true, true, true, true, true, false, false, false, false, false, false, false, false, false, false, false, false, false, false] rfl rfl (any_of HT_.out (by kernel_rfl)) (fun _ _ _ h => h) (Or.inl ⟨by rfl, ?_⟩) ?_ ?_
                                      rotate_left
                                      · intro w'
                                        go_simp
                                        with_reducible rfl
                                      rotate_left
                                      · simp only [Act.put, List.setIfInBounds_toArray, List.set_cons_zero, List.set_cons_succ, i64_w, i32_w]
                                        rfl
                                      refine pure_ (i := 19) (N := some 56) (v := ?_) (a' := ?_) #[true, true, true, true, true, true, true, true, true, true, true, true, true, true, true, true, true, true, true, true, false, false, false, false, false, false, false, false, false, false, false, false, false] rfl rfl (any_of HT_.out (by kernel_rfl)) (fun _ _ _ h => h) (Or.inl ⟨by rfl, ?_⟩) ?_ ?_
                                      rotate_left
                                      · intro w'
                                        go_simp
                                        with_reducible rfl
                                      rotate_left
                                      · simp only [Act.put, List.setIfInBounds_toArray, List.set_cons_zero, List.set_cons_succ, i64_w, i32_w]
                                        rfl
                                      refine pure_ (i := 20) (N := some 57) (v := ?_) (a' := ?_) #[true, true, true, true, true, true, true, true, true, true, true, true, true, true, true, true, true, true, true, true, true, false, false, false, false, false, false, false, false, false, false, false, false] rfl rfl (any_of HT_.out (by kernel_rfl)) (fun _ _ _ h => h) (Or.inl ⟨by rfl, ?_⟩) ?_ ?_
                                      rotate_left
                                      · intro w'
                                        go_simp
                                        with_reducible rfl
                                      rotate_left
                                      · simp only [Act.put, List.setIfInBounds_toArray, List.set_cons_zero, List.set_cons_succ, i64_w, i32_w]
                                        rfl
                                      refine pure_ (i := 21) (N := some 58) (v := ?_) (a' := ?_) #[true, true, true, true, true, true, true, true, true, true, true, true, true, true, true, true, true, true, true, true, true, true, false, false, false, false, false, false, false, false, false, false, false] rfl rfl (any_of HT_.out (by kernel_rfl)) (fun _ _ _ h => h) (Or.inl ⟨by rfl, ?_⟩) ?_ ?_
                                      rotate_left
                                      · intro w'
                                        go_simp
                                        with_reducible rfl
                                      rotate_left
                                      · simp only [Act.put, List.setIfInBounds_toArray, List.set_cons_zero, List.set_cons_succ, i64_w, i32_w]
                                        rfl
                                      refine pure_ (i := 22) (N := some 59) (v := ?_) (a' := ?_) #[true, true, true, true, true, true, true, true, true, true, true, true, true, true, true, true, true, true, true, true, true, true, true, false, false, false, false, false, false, false, false, false, false] rfl rfl (any_of HT_.out (by kernel_rfl)) (fun _ _ _ h => h) (Or.inl ⟨by rfl, ?_⟩) ?_ ?_
                                      rotate_left
                                      · intro w'
                                        go_simp
                                        with_reducible rfl
                                      rotate_left
                                      · simp only [Act.put, List.setIfInBounds_toArray, List.set_cons_zero, List.set_cons_succ, i64_w, i32_w]
                                        rfl
                                      refine pure_ (i := 23) (N := some 60) (v := ?_) (a' := ?_) #[true, true, true, true, true, true, true, true, true, true, true, true, true, true, true, true, true, true, true, true, true, true, true, true, false, false, false, false, false, false, false, false, false] rfl rfl (any_of HT_.out (by kernel_rfl)) (fun _ _ _ h => h) (Or.inl ⟨by rfl, ?_⟩) ?_ ?_
                                      rotate_left
                                      · intro w'
                                        go_simp
                                        with_reducible rfl
                                      rotate_left
                                      · simp only [Act.put, List.setIfInBounds_toArray, List.set_cons_zero, List.set_cons_succ, i64_w, i32_w]
                                        rfl
                                      refine pure_ (i := 24) (N := some 61) (v := ?_) (a' := ?_) #[true, true, true, true, true, true, true, true, true, true, true, true, true, true, true, true, true, true, true, true, true, true, true, true, true, false, false, false, false, false, false, false, false] rfl rfl (any_of HT_.out (by kernel_rfl)) (fun _ _ _ h => h) (Or.inl ⟨by rfl, ?_⟩) ?_ ?_
                                      rotate_left
                                      · intro w'
                                        go_simp
                                        with_reducible rfl
                                      rotate_left
                                      · simp only [Act.put, List.setIfInBounds_toArray, List.set_cons_zero, List.set_cons_succ, i64_w, i32_w]
                                        rfl
                                      refine pure_ (i := 26) (N := some 63) (v := ?_) (a' := ?_) #[true, true, true, true, true, true, true, true, true, true, true, true, true, true, true, true, true, true, true, true, true, true, true, true, true, false, true, false, false, false, false, false, false] rfl rfl (any_of HT_.out (by kernel_rfl)) (fun _ _ _ h => h) (Or.inl ⟨by rfl, ?_⟩) ?_ ?_
                                      rotate_left
                                      · intro w'
                                        go_simp
                                        with_reducible rfl
                                      rotate_left
                                      · simp only [Act.put, List.setIfInBounds_toArray, List.set_cons_zero, List.set_cons_succ, i64_w, i32_w]
                                        rfl
                                      refine pure_ (i := 27) (N := some 64) (v := ?_) (a' := ?_) #[true, true, true, true, true, true, true, true, true, true, true, true, true, true, true, true, true, true, true, true, true, true, true, true, true, false, true, true, false, false, false, false, false] rfl rfl (any_of HT_.out (by kernel_rfl)) (fun _ _ _ h => h) (Or.inl ⟨by rfl, ?_⟩) ?_ ?_
                                      rotate_left
                                      · intro w'
                                        go_simp
                                        with_reducible rfl
                                      rotate_left
                                      · simp only [Act.put, List.setIfInBounds_toArray, List.set_cons_zero, List.set_cons_succ, i64_w, i32_w]
                                        rfl
                                      refine pure_ (i := 28) (N := some 65) (v := ?_) (a' := ?_) #[true, true, true, true, true, true, true, true, true, true, true, true, true, true, true, true, true, true, true, true, true, true, true, true, true, false, true, true, true, false, false, false, false] rfl rfl (any_of HT_.out (by kernel_rfl)) (fun _ _ _ h => h) (Or.inl ⟨by rfl, ?_⟩) ?_ ?_
                                      rotate_left
                                      · intro w'
                                        go_simp
                                        with_reducible rfl
                                      rotate_left
                                      · simp only [Act.put, List.setIfInBounds_toArray, List.set_cons_zero, List.set_cons_succ, i64_w, i32_w]
                                        rfl
                                      refine pure_ (i := 29) (N := some 66) (v := ?_) (a' := ?_) #[true, true, true, true, true, true, true, true, true, true, true, true, true, true, true, true, true, true, true, true, true, true, true, true, true, false, true, true, true, true, false, false, false] rfl rfl (any_of HT_.out (by kernel_rfl)) (fun _ _ _ h => h) (Or.inl ⟨by rfl, ?_⟩) ?_ ?_
                                      rotate_left
                                      · intro w'
                                        go_simp
                                        with_reducible rfl
                                      rotate_left
                                      · simp only [Act.put, List.setIfInBounds_toArray, List.set_cons_zero, List.set_cons_succ, i64_w, i32_w]
                                        rfl
                                      refine take_ (i := 25) (N := some 62) (v := ?_) (a' := ?_) #[true, true, true, true, true, true, true, true, true, true, true, true, true, true, true, true, true, true, true, true, true, true, true, true, true, true, true, true, true, true, false, false, false] rfl rfl (take_ofW HT_.out HW_.out (by kernel_rfl)) (fun _ _ _ h => h) (Or.inl ⟨by rfl, ?_⟩) hHeld ?_ ?_
                                      rotate_left
                                      · rintro w' ⟨s0, s1, s2, s3, s4, s5, s6, s7, s8, s9, s10, s11, s12, s13, s14, s15, s16, s17, s18, s19⟩
                                        go_simp
                                        with_reducible rfl
                                      rotate_left
                                      · simp only [Act.put, List.setIfInBounds_toArray, List.set_cons_zero, List.set_cons_succ, i64_w, i32_w]
                                        rfl
                                      refine take_ (i := 30) (N := some 67) (v := ?_) (a' := ?_) #[true, true, true, true, true, true, true, true, true, true, true, true, true, true, true, true, true, true, true, true, true, true, true, true, true, true, true, true, true, true, true, false, false] rfl rfl (take_ofW HT_.out HW_.out (by kernel_rfl)) (fun _ _ _ h => h) (Or.inl ⟨by rfl, ?_⟩) hHeld ?_ ?_
                                      rotate_left
                                      · rintro w' ⟨s0, s1, s2, s3, s4, s5, s6, s7, s8, s9, s10, s11, s12, s13, s14, s15, s16, s17, s18, s19⟩
                                        go_simp
                                        with_reducible rfl
                                      rotate_left
                                      · simp only [Act.put, List.setIfInBounds_toArray, List.set_cons_zero, List.set_cons_succ, i64_w, i32_w]
                                        rfl
                                      refine pure_ (i := 31) (N := some 68) (v := ?_) (a' := ?_) #[true, true, true, true, true, true, true, true, true, true, true, true, true, true, true, true, true, true, true, true, true, true, true, true, true, true, true, true, true, true, true, true, false] rfl rfl (any_of HT_.out (by kernel_rfl)) (fun _ _ _ h => h) (Or.inl ⟨by rfl, ?_⟩) ?_ ?_
                                      rotate_left
                                      · intro w'
                                        go_simp
                                        with_reducible rfl
                                      rotate_left
                                      · simp only [Act.put, List.setIfInBounds_toArray, List.set_cons_zero, List.set_cons_succ, i64_w, i32_w]
                                        rfl
                                      refine pure_ (i := 32) (N := some 69) (v := ?_) (a' := ?_) #[true, true, true, true, true, true, true, true, true, true, true, true, true, true, true, true, true, true, true, true, true, true, true, true, true, true, true, true, true, true, true, true, true] rfl rfl (any_of HT_.out (by kernel_rfl)) (fun _ _ _ h => h) (Or.inl ⟨by rfl, ?_⟩) ?_ ?_
                                      rotate_left
                                      · intro w'
                                        go_simp
                                        with_reducible rfl
                                      rotate_left
                                      · simp only [Act.put, List.setIfInBounds_toArray, List.set_cons_zero, List.set_cons_succ, i64_w, i32_w]
                                        rfl
                                      refine done_ (done_of HT_.out (by kernel_rfl)) ?_
                                      obtain ⟨Ao39, co39, eo39⟩ := Kd.N_slice HO_5.out
                                      subst eo39
                                      try go_wp2_with (first | ((with_reducible refine gate_builtin (b := .append) (xs := #[.tmp 89, .tmp 90]) rfl ?_); at_builtin; refine Kd.N_append_rows k43 (w0 := w) w.heap.size rfl (.tmp 89) (.tmp 90) 22 43 (.agg #[(.int .i64 0), (.int .i64 0), (.string ⟨#[]⟩), (.string ⟨#[]⟩), (.slice none 0 0)]) 72 rfl Try.underlying22 info43 rfl (by decide) (by omega) (.slice (some ad397) x3_1.length co12) x3_1 t391 _ _ _ (fun k_ => (w.heap.size ≤ k_)) (fun k_ => ((fun k_ => (w.heap.size ≤ k_))) k_ ∧ some k_ ≠ (.slice (some ad397) x3_1.length co12 : Value).ownBlock) rfl rfl ?aO ?aR (fun _ hk => hk) ?aF ?aB ?aS ?aL ?_; (case aR => exact (by skip; exact Kd.N_F (Kd.N_mono (ok' := (fun k_ => ((fun k_ => (w.heap.size ≤ k_))) k_ ∧ some k_ ≠ (.slice (some ad397) x3_1.length co12 : Value).ownBlock)) (HO_5.out) (fun k_ hk => ⟨hk.1, hk.2⟩)))); (case aB => exact (by repeat (first | (with_reducible first | exact HB.out | apply below_alloc | apply pw_below_drewN | apply below_drew1) | exact HB.out))); (case aF => exact (fun k_ hk => (Nat.le_trans (below_size (by repeat (first | (with_reducible first | exact HB.out | apply below_alloc | apply pw_below_drewN | apply below_drew1) | exact HB.out))) hk))); (case aO => exact (by (with_reducible repeat (first | apply Kd.N_alloc | apply Kd.N_drewN | apply Kd.N_drew)); exact Kd.N_mono HO_3.out (fun _ hk => hk.1))); (case aS => exact (below_size (by repeat (first | (with_reducible first | exact HB.out | apply below_alloc | apply pw_below_drewN | apply below_drew1) | exact HB.out)))); (case aL => have := LMc36.out; omega); intro v405 w38 ho hb hg hat; rw [← Ny404.out] at ho; have n0_ := Aside0.mk (Kd.N_afterv (ok := (fun k_ => (w.heap.size ≤ k_))) (by (with_reducible repeat (first | apply Kd.N_alloc | apply Kd.N_drewN | apply Kd.N_drew)); exact HO_5.out) hg hat); have n1_ := Aside0.mk (Kd.V_afterv (ok := (fun k_ => (w.heap.size ≤ k_) ∧ some k_ ≠ (.slice Ao39 t391.length co39 : Value).ownBlock)) (by (with_reducible repeat (first | apply Kd.V_alloc | apply Kd.V_drewN | apply Kd.V_drew)); exact HL397_4.out) hg hat); have n2_ := Aside0.mk (Kd.V_afterv (ok := (fun k_ => (w.heap.size ≤ k_) ∧ some k_ ≠ (.slice Ao39 t391.length co39 : Value).ownBlock)) (by (with_reducible repeat (first | apply Kd.V_alloc | apply Kd.V_drewN | apply Kd.V_drew)); exact HL398_4.out) hg hat); have n3_ := Aside0.mk (hb); have n4_ := Aside0.mk (ho); clear HO_5; clear HL397_4; clear HL398_4; clear HB; clear HO_3; have HO_5 := n0_; have HL397_4 := n1_; have HL398_4 := n2_; have HB := n3_; have HO406 := n4_; clear n0_ n1_ n2_ n3_ n4_; clear ho hb hg hat))
                                      go_roundg kj8
                                      case measure => have := HK1.out; have := HJ8.out; omega
                                      case rel => exact ⟨(y404), (wrap64 (x4_1 + 1)), (by first | rfl | (simp; done) | (congr 1; first | (with_reducible assumption) | (symm; with_reducible assumption)) | (simp [*]; done) | (simp only [ne_nil_empty]; done) | (rw [ne_nil_empty]; rfl)), H', ⟨by have := HK1.out; have := HJ8.out; omega⟩, ⟨by (with_reducible repeat (first | apply Kd.N_alloc | apply Kd.N_drewN | apply Kd.N_drew)); exact HO406.out⟩, ⟨by repeat (first | (with_reducible first | exact HB.out | apply below_alloc | apply pw_below_drewN | apply below_drew1) | exact HB.out)⟩⟩
                                    · rw [if_neg c36] at H
                                      exact absurd H (by simp)
                                · rw [if_neg c22] at H
                                  have c22b0 : (((rd_T43 x3_1 (ji19)).f1) == 1) = false := beq_eq_false_iff_ne.mpr c22
                                  have c22b1 : (((rd_T43 x3_1 (ji19)).f1) != 1) = true := bne_iff_ne.mpr c22
                                  by_cases c40 : x3_1.length + t391.length < 1954687338268
                                  · rw [if_pos c40] at H
                                    have LMc40 := Aside0.mk c40
                                    clear c40
                                    obtain ⟨y407, hy407⟩ : ∃ y_ : List (S43), y_ = (x3_1 ++ t391) := ⟨_, rfl⟩
                                    replace H : (boltingref04_Normal.l0 kj8 l0 y407 (wrap64 (x4_1 + 1))) = some r := by first | (rw [hy407]; with_reducible exact H) | (have H2_ := (Option.bind_some _ _).symm.trans H; rw [hy407]; with_reducible exact H2_) | (have H2_ := (Option.bind_some _ _).symm.trans H; with_reducible exact H2_) | with_reducible exact H | (rw [hy407]; exact H) | exact H
                                    have Ny407 := Aside0.mk hy407
                                    clear hy407
                                    have H' := Aside0.mk H
                                    clear H
                                    try go_wp2
                                    have n0_ := Aside0.mk (Kd.N_drew HO_3.out)
                                    have n1_ := Aside0.mk (Kd.N_drew HO_5.out)
                                    have n2_ := Aside0.mk (below_drew1 HB.out)
                                    clear HO_3
                                    clear HO_5
                                    clear HB
                                    have HO_3 := n0_
                                    have HO_5 := n1_
                                    have HB := n2_
                                    clear n0_ n1_ n2_
                                    have p396 : 0 ≤ (x4_1 : Int) := of_decide_eq_true (by first | (with_reducible assumption) | assumption)
                                    have q396 : x4_1 < (l0.length : Int) := of_decide_eq_true (by first | (with_reducible assumption) | assumption)
                                    obtain ⟨ad396, A396_4, c396_4, e396, hx396_0, hx396_1, hx396_2, hx396_3, hx396_4, hl396_4, hi396_4⟩ := at_T43 HR0.out x4_1 p396 q396
                                    have hy396_4 := Aside0.mk hx396_4
                                    have hw396_4 := hx396_4
                                    have hw396_3 := hx396_3
                                    have hw396_2 := hx396_2
                                    have hw396_1 := hx396_1
                                    have hw396_0 := hx396_0
                                    cases e396
                                    replace hx396_0 := (HB.out.cell (World.block_lt_of_cell? w _ hx396_0)).trans hx396_0
                                    replace hx396_1 := (HB.out.cell (World.block_lt_of_cell? w _ hx396_1)).trans hx396_1
                                    replace hx396_2 := (HB.out.cell (World.block_lt_of_cell? w _ hx396_2)).trans hx396_2
                                    replace hx396_3 := (HB.out.cell (World.block_lt_of_cell? w _ hx396_3)).trans hx396_3
                                    replace hx396_4 := (HB.out.cell (World.block_lt_of_cell? w _ hx396_4)).trans hx396_4
                                    have HR396_4 := Aside0.mk hi396_4
                                    have HC396_4 := Aside0.mk hl396_4
                                    clear hi396_4 hl396_4
                                    replace p396 := eq_true p396
                                    replace q396 := eq_true q396
                                    have p397 : 0 ≤ ((ji19) : Int) := of_decide_eq_true (by first | (with_reducible assumption) | assumption)
                                    have q397 : (ji19) < (x3_1.length : Int) := of_decide_eq_true (by first | (with_reducible assumption) | assumption)
                                    obtain ⟨ad397, A397_4, c397_4, e397, hx397_0, hx397_1, hx397_2, hx397_3, hx397_4, hl397_4, hi397_4⟩ := at_T43 (Kd.N_reads' HO_3.out).2.2 (ji19) p397 q397
                                    cases e397
                                    obtain ⟨ce397, hce397, hMe397, hcc397⟩ := Kd.N_get HO_3.out z43 (ji19) p397 (by first | exact q397 | exact of_decide_eq_true (by first | (with_reducible assumption) | assumption) | (have e_ := (Kd.N_reads' HO_3.out).1; omega))
                                    obtain ⟨ua397_4, uc397_4, rfl, ul397_4, ge397_4⟩ := k43_openF hMe397
                                    have hv397_4 := hcc397 4 _ rfl
                                    rw [add_field _ _ 4 (by omega)] at hv397_4
                                    replace hv397_4 := Option.some.inj (hv397_4.symm.trans hx397_4)
                                    injection hv397_4 with hva_ hvn_ hvc_
                                    rw [hva_] at ge397_4
                                    rw [hvc_] at ul397_4
                                    have HL397_4 := Aside0.mk (show Kd.V k46 46 _ w.heap.size _ _ ((rd_T43 x3_1 (ji19)).f4) from Kd.V_mk ul397_4 ge397_4)
                                    clear hva_ hvn_ hvc_ ge397_4 ul397_4
                                    clear hcc397 hce397
                                    have HR397_4 := Aside0.mk hi397_4
                                    have HC397_4 := Aside0.mk hl397_4
                                    clear hi397_4 hl397_4
                                    replace p397 := eq_true p397
                                    replace q397 := eq_true q397
                                    refine start_ (n := 33) (S := fun w' => w'.cell? (ad396.add ((x4_1).toNat * 5)) = some (.int .i64 ((rd_T43 l0 x4_1).f0)) ∧ w'.cell? ⟨(ad396.add ((x4_1).toNat * 5)).block, (ad396.add ((x4_1).toNat * 5)).off + 1, none⟩ = some (.int .i64 ((rd_T43 l0 x4_1).f1)) ∧ w'.cell? ⟨(ad396.add ((x4_1).toNat * 5)).block, (ad396.add ((x4_1).toNat * 5)).off + 2, none⟩ = some (.string ((rd_T43 l0 x4_1).f2)) ∧ w'.cell? ⟨(ad396.add ((x4_1).toNat * 5)).block, (ad396.add ((x4_1).toNat * 5)).off + 3, none⟩ = some (.string ((rd_T43 l0 x4_1).f3)) ∧ w'.cell? ⟨(ad396.add ((x4_1).toNat * 5)).block, (ad396.add ((x4_1).toNat * 5)).off + 4, none⟩ = some (.slice A396_4 ((rd_T43 l0 x4_1).f4).length c396_4) ∧ w'.cell? (ad397.add (((ji19)).toNat * 5)) = some (.int .i64 ((rd_T43 x3_1 (ji19)).f0)) ∧ w'.cell? ⟨(ad397.add (((ji19)).toNat * 5)).block, (ad397.add (((ji19)).toNat * 5)).off + 1, none⟩ = some (.int .i64 ((rd_T43 x3_1 (ji19)).f1)) ∧ w'.cell? ⟨(ad397.add (((ji19)).toNat * 5)).block, (ad397.add (((ji19)).toNat * 5)).off + 2, none⟩ = some (.string ((rd_T43 x3_1 (ji19)).f2)) ∧ w'.cell? ⟨(ad397.add (((ji19)).toNat * 5)).block, (ad397.add (((ji19)).toNat * 5)).off + 3, none⟩ = some (.string ((rd_T43 x3_1 (ji19)).f3)) ∧ w'.cell? ⟨(ad397.add (((ji19)).toNat * 5)).block, (ad397.add (((ji19)).toNat * 5)).off + 4, none⟩ = some (.slice A397_4 ((rd_T43 x3_1 (ji19)).f4).length c397_4)) (ds := []) #[false, false, false, false, false, false, false, false, false, false, false, false, false, false, false, false, false, false, false, false, false, false, false, false, false, false, false, false, false, false, false, false, false] (by kernel_rfl) rfl rfl ⟨((HB.out.cell (World.block_lt_of_cell? w _ hw396_0)).trans hw396_0), ((HB.out.cell (World.block_lt_of_cell? w _ hw396_1)).trans hw396_1), ((HB.out.cell (World.block_lt_of_cell? w _ hw396_2)).trans hw396_2), ((HB.out.cell (World.block_lt_of_cell? w _ hw396_3)).trans hw396_3), ((HB.out.cell (World.block_lt_of_cell? w _ hw396_4)).trans hw396_4), hx397_0, hx397_1, hx397_2, hx397_3, hx397_4⟩ (fun hHeld => ?_); refine with_tabW boltingref04_Normal.tab8 boltingref04_Normal.bits8 (fun HT_ HW_ => ?_)
                                    generalize wc.drew = w41 at HO_3 HO_5 HB HL397_4 HR396_4 HR397_4 hx396_0 hx396_1 hx396_2 hx396_3 hx396_4 hx397_0 hx397_1 hx397_2 hx397_3 hx397_4 hHeld ⊢
                                    refine pure_ (i := 0) (N := some 37) (v := ?_) (a' := ?_) #[true, false, false, false, false, false, false, false, false, false, false, false, false, false, false, false, false, false, false, false, false, false, false, false, false, false, false, false, false, false, false, false, false] rfl rfl (any_of HT_.out (by kernel_rfl)) (fun _ _ _ h => h) (Or.inl ⟨by rfl, ?_⟩) ?_ ?_
                                    rotate_left
                                    · intro w'
                                      go_simp
                                      with_reducible rfl
                                    rotate_left
                                    · simp only [Act.put, List.setIfInBounds_toArray, List.set_cons_zero, List.set_cons_succ, i64_w, i32_w]
                                      rfl
                                    refine pure_ (i := 1) (N := some 38) (v := ?_) (a' := ?_) #[true, true, false, false, false, false, false, false, false, false, false, false, false, false, false, false, false, false, false, false, false, false, false, false, false, false, false, false, false, false, false, false, false] rfl rfl (any_of HT_.out (by kernel_rfl)) (fun _ _ _ h => h) (Or.inl ⟨by rfl, ?_⟩) ?_ ?_
                                    rotate_left
                                    · intro w'
                                      go_simp
                                      with_reducible rfl
                                    rotate_left
                                    · simp only [Act.put, List.setIfInBounds_toArray, List.set_cons_zero, List.set_cons_succ, i64_w, i32_w]
                                      rfl
                                    refine pure_ (i := 2) (N := some 39) (v := ?_) (a' := ?_) #[true, true, true, false, false, false, false, false, false, false, false, false, false, false, false, false, false, false, false, false, false, false, false, false, false, false, false, false, false, false, false, false, false] rfl rfl (any_of HT_.out (by kernel_rfl)) (fun _ _ _ h => h) (Or.inl ⟨by rfl, ?_⟩) ?_ ?_
                                    rotate_left
                                    · intro w'
                                      go_simp
                                      with_reducible rfl
                                    rotate_left
                                    · simp only [Act.put, List.setIfInBounds_toArray, List.set_cons_zero, List.set_cons_succ, i64_w, i32_w]
                                      rfl
                                    refine pure_ (i := 3) (N := some 40) (v := ?_) (a' := ?_) #[true, true, true, true, false, false, false, false, false, false, false, false, false, false, false, false, false, false, false, false, false, false, false, false, false, false, false, false, false, false, false, false, false] rfl rfl (any_of HT_.out (by kernel_rfl)) (fun _ _ _ h => h) (Or.inl ⟨by rfl, ?_⟩) ?_ ?_
                                    rotate_left
                                    · intro w'
                                      go_simp
                                      with_reducible rfl
                                    rotate_left
                                    · simp only [Act.put, List.setIfInBounds_toArray, List.set_cons_zero, List.set_cons_succ, i64_w, i32_w]
                                      rfl
                                    refine take_ (i := 4) (N := some 41) (v := ?_) (a' := ?_) #[true, true, true, true, true, false, false, false, false, false, false, false, false, false, false, false, false, false, false, false, false, false, false, false, false, false, false, false, false, false, false, false, false] rfl rfl (take_ofW HT_.out HW_.out (by kernel_rfl)) (fun _ _ _ h => h) (Or.inl ⟨by rfl, ?_⟩) hHeld ?_ ?_
                                    rotate_left
                                    · rintro w' ⟨s0, s1, s2, s3, s4, s5, s6, s7, s8, s9⟩
                                      go_simp
                                      with_reducible rfl
                                    rotate_left
                                    · simp only [Act.put, List.setIfInBounds_toArray, List.set_cons_zero, List.set_cons_succ, i64_w, i32_w]
                                      rfl
                                    refine pure_ (i := 5) (N := some 42) (v := ?_) (a' := ?_) #[true, true, true, true, true, true, false, false, false, false, false, false, false, false, false, false, false, false, false, false, false, false, false, false, false, false, false, false, false, false, false, false, false] rfl rfl (any_of HT_.out (by kernel_rfl)) (fun _ _ _ h => h) (Or.inl ⟨by rfl, ?_⟩) ?_ ?_
                                    rotate_left
                                    · intro w'
                                      go_simp
                                      with_reducible rfl
                                    rotate_left
                                    · simp only [Act.put, List.setIfInBounds_toArray, List.set_cons_zero, List.set_cons_succ, i64_w, i32_w]
                                      rfl
                                    refine pure_ (i := 6) (N := some 43) (v := ?_) (a' := ?_) #[true, true, true, true, true, true, true, false, false, false, false, false, false, false, false, false, false, false, false, false, false, false, false, false, false, false, false, false, false, false, false, false, false] rfl rfl (any_of HT_.out (by kernel_rfl)) (fun _ _ _ h => h) (Or.inl ⟨by rfl, ?_⟩) ?_ ?_
                                    rotate_left
                                    · intro w'
                                      go_simp
                                      with_reducible rfl
                                    rotate_left
                                    · simp only [Act.put, List.setIfInBounds_toArray, List.set_cons_zero, List.set_cons_succ, i64_w, i32_w]
                                      rfl
                                    refine pure_ (i := 7) (N := some 44) (v := ?_) (a' := ?_) #[true, true, true, true, true, true, true, true, false, false, false, false, false, false, false, false, false, false, false, false, false, false, false, false, false, false, false, false, false, false, false, false, false] rfl rfl (any_of HT_.out (by kernel_rfl)) (fun _ _ _ h => h) (Or.inl ⟨by rfl, ?_⟩) ?_ ?_
                                    rotate_left
                                    · intro w'
                                      go_simp
                                      with_reducible rfl
                                    rotate_left
                                    · simp only [Act.put, List.setIfInBounds_toArray, List.set_cons_zero, List.set_cons_succ, i64_w, i32_w]
                                      rfl
                                    refine pure_ (i := 8) (N := some 45) (v := ?_) (a' := ?_) #[true, true, true, true, true, true, true, true, true, false, false, false, false, false, false, false, false, false, false, false, false, false, false, false, false, false, false, false, false, false, false, false, false] rfl rfl (any_of HT_.out (by kernel_rfl)) (fun _ _ _ h => h) (Or.inl ⟨by rfl, ?_⟩) ?_ ?_
                                    rotate_left
                                    · intro w'
                                      go_simp
                                      with_reducible rfl
                                    rotate_left
                                    · simp only [Act.put, List.setIfInBounds_toArray, List.set_cons_zero, List.set_cons_succ, i64_w, i32_w]
                                      rfl
                                    refine pure_ (i := 9) (N := some 46) (v := ?_) (a' := ?_) #[true, true, true, true, true, true, true, true, true, true, false, false, false, false, false, false, false, false, false, false, false, false, false, false, false, false, false, false, false, false, false, false, false] rfl rfl (any_of HT_.out (by kernel_rfl)) (fun _ _ _ h => h) (Or.inl ⟨by rfl, ?_⟩) ?_ ?_
                                    rotate_left
                                    · intro w'
                                      go_simp
                                      with_reducible rfl
                                    rotate_left
                                    · simp only [Act.put, List.setIfInBounds_toArray, List.set_cons_zero, List.set_cons_succ, i64_w, i32_w]
                                      rfl
                                    refine pure_ (i := 10) (N := some 47) (v := ?_) (a' := ?_) #[true, true, true, true, true, true, true, true, true, true, true, false, false, false, false, false, false, false, false, false, false, false, false, false, false, false, false, false, false, false, false, false, false] rfl rfl (any_of HT_.out (by kernel_rfl)) (fun _ _ _ h => h) (Or.inl ⟨by rfl, ?_⟩) ?_ ?_
                                    rotate_left
                                    · intro w'
                                      go_simp
                                      with_reducible rfl
                                    rotate_left
                                    · simp only [Act.put, List.setIfInBounds_toArray, List.set_cons_zero, List.set_cons_succ, i64_w, i32_w]
                                      rfl
                                    refine pure_ (i := 11) (N := some 48) (v := ?_) (a' := ?_) #[true, true, true, true, true, true, true, true, true, true, true, true, false, false, false, false, false, false, false, false, false, false, false, false, false, false, false, false, false, false, false, false, false] rfl rfl (any_of HT_.out (by kernel_rfl)) (fun _ _ _ h => h) (Or.inl ⟨by rfl, ?_⟩) ?_ ?_
                                    rotate_left
                                    · intro w'
                                      go_simp
                                      with_reducible rfl
                                    rotate_left
                                    · simp only [Act.put, List.setIfInBounds_toArray, List.set_cons_zero, List.set_cons_succ, i64_w, i32_w]
                                      rfl
                                    refine pure_ (i := 12) (N := some 49) (v := ?_) (a' := ?_) #[true, true, true, true, true, true, true, true, true, true, true, true, true, false, false, false, false, false, false, false, false, false, false, false, false, false, false, false, false, false, false, false, false] rfl rfl (any_of HT_.out (by kernel_rfl)) (fun _ _ _ h => h) (Or.inl ⟨by rfl, ?_⟩) ?_ ?_
                                    rotate_left
                                    · intro w'
                                      go_simp
                                      with_reducible rfl
                                    rotate_left
                                    · simp only [Act.put, List.setIfInBounds_toArray, List.set_cons_zero, List.set_cons_succ, i64_w, i32_w]
                                      rfl
                                    refine pure_ (i := 13) (N := some 50) (v := ?_) (a' := ?_) #[true, true, true, true, true, true, true, true, true, true, true, true, true, true, false, false, false, false, false, false, false, false, false, false, false, false, false, false, false, false, false, false, false] rfl rfl (any_of HT_.out (by kernel_rfl)) (fun _ _ _ h => h) (Or.inl ⟨by rfl, ?_⟩) ?_ ?_
                                    rotate_left
                                    · intro w'
                                      go_simp
                                      with_reducible rfl
                                    rotate_left
                                    · simp only [Act.put, List.setIfInBounds_toArray, List.set_cons_zero, List.set_cons_succ, i64_w, i32_w]
                                      rfl
                                    refine pure_ (i := 14) (N := some 51) (v := ?_) (a' := ?_) #[true, true, true, true, true, true, true, true, true, true, true, true, true, true, true, false, false, false, false, false, false, false, false, false, false, false, false, false, false, false, false, false, false] rfl rfl (any_of HT_.out (by kernel_rfl)) (fun _ _ _ h => h) (Or.inl ⟨by rfl, ?_⟩) ?_ ?_
                                    rotate_left
                                    · intro w'
                                      go_simp
                                      with_reducible rfl
                                    rotate_left
                                    · simp only [Act.put, List.setIfInBounds_toArray, List.set_cons_zero, List.set_cons_succ, i64_w, i32_w]
                                      rfl
                                    refine pure_ (i := 15) (N := some 52) (v := ?_) (a' := ?_) #[true, true, true, true, true, true, true, true, true, true, true, true, true, true, true, true, false, false, false, false, false, false, false, false, false, false, false, false, false, false, false, false, false] rfl rfl (any_of HT_.out (by kernel_rfl)) (fun _ _ _ h => h) (Or.inl ⟨by rfl, ?_⟩) ?_ ?_
                                    rotate_left
                                    · intro w'
                                      go_simp
                                      with_reducible rfl
                                    rotate_left
                                    · simp only [Act.put, List.setIfInBounds_toArray, List.set_cons_zero, List.set_cons_succ, i64_w, i32_w]
                                      rfl
                                    refine take_ (i := 16) (N := some 53) (v := ?_) (a' := ?_) #[true, true, true, true, true, true, true, true, true, true, true, true, true, true, true, true, true, false, false, false, false, false, false, false, false, false, false, false, false, false, false, false, false] rfl rfl (take_ofW HT_.out HW_.out (by kernel_rfl)) (fun _ _ _ h => h) (Or.inl ⟨by rfl, ?_⟩) hHeld ?_ ?_
                                    rotate_left
                                    · rintro w' ⟨s0, s1, s2, s3, s4, s5, s6, s7, s8, s9⟩
                                      go_simp
                                      with_reducible rfl
                                    rotate_left
                                    · simp only [Act.put, List.setIfInBounds_toArray, List.set_cons_zero, List.set_cons_succ, i64_w, i32_w]
                                      rfl
                                    refine pure_ (i := 17) (N := some 54) (v := ?_) (a' := ?_) #[true, true, true, true, true, true, true, true, true, true, true, true, true, true, true, true, true, true, false, false, false, false, false, false, false, false, false, false, false, false, false, false, false] rfl rfl (any_of HT_.out (by kernel_rfl)) (fun _ _ _ h => h) (Or.inl ⟨by rfl, ?_⟩) ?_ ?_
                                    rotate_left
                                    · intro w'
                                      go_simp
                                      with_reducible rfl
                                    rotate_left
                                    · simp only [Act.put, List.setIfInBounds_toArray, List.set_cons_zero, List.set_cons_succ, i64_w, i32_w]
                                      rfl
                                    refine pure_ (i := 18) (N := some 55) (v := ?_) (a' := ?_) #[true, true, true, true, true, true, true, true, true, true, true, true, true, true, true, true, true, true, true, false, false, false, false, false, false, false, false, false, false, false, false, false, false] rfl rfl (any_of HT_.out (by kernel_rfl)) (fun _ _ _ h => h) (Or.inl ⟨by rfl, ?_⟩) ?_ ?_
                                    rotate_left
                                    · intro w'
                                      go_simp
                                      with_reducible rfl
                                    rotate_left
                                    · simp only [Act.put, List.setIfInBounds_toArray, List.set_cons_zero, List.set_cons_succ, i64_w, i32_w]
                                      rfl
                                    refine pure_ (i := 19) (N := some 56) (v := ?_) (a' := ?_) #[true, true, true, true, true, true, true, true, true, true, true, true, true, true, true, true, true, true, true, true, false, false, false, false, false, false, false, false, false, false, false, false, false] rfl rfl (any_of HT_.out (by kernel_rfl)) (fun _ _ _ h => h) (Or.inl ⟨by rfl, ?_⟩) ?_ ?_
                                    rotate_left
                                    · intro w'
                                      go_simp
                                      with_reducible rfl
                                    rotate_left
                                    · simp only [Act.put, List.setIfInBounds_toArray, List.set_cons_zero, List.set_cons_succ, i64_w, i32_w]
                                      rfl
                                    refine pure_ (i := 20) (N := some 57) (v := undef) (a' := ?_) #[true, true, true, true, true, true, true, true, true, true, true, true, true, true, true, true, true, true, true, true, true, false, false, false, false, false, false, false, false, false, false, false, false] rfl rfl (any_of HT_.out (by kernel_rfl)) (fun _ _ _ h => h) (Or.inr ⟨by rfl, rfl⟩) ?_ ?_
                                    rotate_left
                                    · simp only [Act.put, List.setIfInBounds_toArray, List.set_cons_zero, List.set_cons_succ, i64_w, i32_w]
                                      rfl
                                    refine pure_ (i := 21) (N := some 58) (v := undef) (a' := ?_) #[true, true, true, true, true, true, true, true, true, true, true, true, true, true, true, true, true, true, true, true, true, true, false, false, false, false, false, false, false, false, false, false, false] rfl rfl (any_of HT_.out (by kernel_rfl)) (fun _ _ _ h => h) (Or.inr ⟨by rfl, rfl⟩) ?_ ?_
                                    rotate_left
                                    · simp only [Act.put, List.setIfInBounds_toArray, List.set_cons_zero, List.set_cons_succ, i64_w, i32_w]
                                      rfl
                                    refine pure_ (i := 22) (N := some 59) (v := undef) (a' := ?_) #[true, true, true, true, true, true, true, true, true, true, true, true, true, true, true, true, true, true, true, true, true, true, true, false, false, false, false, false, false, false, false, false, false] rfl rfl (any_of HT_.out (by kernel_rfl)) (fun _ _ _ h => h) (Or.inr ⟨by rfl, rfl⟩) ?_ ?_
                                    rotate_left
                                    · simp only [Act.put, List.setIfInBounds_toArray, List.set_cons_zero, List.set_cons_succ, i64_w, i32_w]
                                      rfl
                                    refine pure_ (i := 23) (N := some 60) (v := undef) (a' := ?_) #[true, true, true, true, true, true, true, true, true, true, true, true, true, true, true, true, true, true, true, true, true, true, true, true, false, false, false, false, false, false, false, false, false] rfl rfl (any_of HT_.out (by kernel_rfl)) (fun _ _ _ h => h) (Or.inr ⟨by rfl, rfl⟩) ?_ ?_
                                    rotate_left
                                    · simp only [Act.put, List.setIfInBounds_toArray, List.set_cons_zero, List.set_cons_succ, i64_w, i32_w]
                                      rfl
                                    refine pure_ (i := 24) (N := some 61) (v := undef) (a' := ?_) #[true, true, true, true, true, true, true, true, true, true, true, true, true, true, true, true, true, true, true, true, true, true, true, true, true, false, false, false, false, false, false, false, false] rfl rfl (any_of HT_.out (by kernel_rfl)) (fun _ _ _ h => h) (Or.inr ⟨by rfl, rfl⟩) ?_ ?_
                                    rotate_left
                                    · simp only [Act.put, List.setIfInBounds_toArray, List.set_cons_zero, List.set_cons_succ, i64_w, i32_w]
                                      rfl
                                    refine pure_ (i := 25) (N := some 62) (v := undef) (a' := ?_) #[true, true, true, true, true, true, true, true, true, true, true, true, true, true, true, true, true, true, true, true, true, true, true, true, true, true, false, false, false, false, false, false, false] rfl rfl (any_of HT_.out (by kernel_rfl)) (fun _ _ _ h => h) (Or.inr ⟨by rfl, rfl⟩) ?_ ?_
                                    rotate_left
                                    · simp only [Act.put, List.setIfInBounds_toArray, List.set_cons_zero, List.set_cons_succ, i64_w, i32_w]
                                      rfl
                                    refine pure_ (i := 26) (N := some 63) (v := undef) (a' := ?_) #[true, true, true, true, true, true, true, true, true, true, true, true, true, true, true, true, true, true, true, true, true, true, true, true, true, true, true, false, false, false, false, false, false] rfl rfl (any_of HT_.out (by kernel_rfl)) (fun _ _ _ h => h) (Or.inr ⟨by rfl, rfl⟩) ?_ ?_
                                    rotate_left
                                    · simp only [Act.put, List.setIfInBounds_toArray, List.set_cons_zero, List.set_cons_succ, i64_w, i32_w]
                                      rfl
                                    refine pure_ (i := 27) (N := some 64) (v := undef) (a' := ?_) #[true, true, true, true, true, true, true, true, true, true, true, true, true, true, true, true, true, true, true, true, true, true, true, true, true, true, true, true, false, false, false, false, false] rfl rfl (any_of HT_.out (by kernel_rfl)) (fun _ _ _ h => h) (Or.inr ⟨by rfl, rfl⟩) ?_ ?_
                                    rotate_left
                                    · simp only [Act.put, List.setIfInBounds_toArray, List.set_cons_zero, List.set_cons_succ, i64_w, i32_w]
                                      rfl
                                    refine pure_ (i := 28) (N := some 65) (v := undef) (a' := ?_) #[true, true, true, true, true, true, true, true, true, true, true, true, true, true, true, true, true, true, true, true, true, true, true, true, true, true, true, true, true, false, false, false, false] rfl rfl (any_of HT_.out (by kernel_rfl)) (fun _ _ _ h => h) (Or.inr ⟨by rfl, rfl⟩) ?_ ?_
                                    rotate_left
                                    · simp only [Act.put, List.setIfInBounds_toArray, List.set_cons_zero, List.set_cons_succ, i64_w, i32_w]
                                      rfl
                                    refine pure_ (i := 29) (N := some 66) (v := undef) (a' := ?_) #[true, true, true, true, true, true, true, true, true, true, true, true, true, true, true, true, true, true, true, true, true, true, true, true, true, true, true, true, true, true, false, false, false] rfl rfl (any_of HT_.out (by kernel_rfl)) (fun _ _ _ h => h) (Or.inr ⟨by rfl, rfl⟩) ?_ ?_
                                    rotate_left
                                    · simp only [Act.put, List.setIfInBounds_toArray, List.set_cons_zero, List.set_cons_succ, i64_w, i32_w]
                                      rfl
                                    refine pure_ (i := 30) (N := some 67) (v := undef) (a' := ?_) #[true, true, true, true, true, true, true, true, true, true, true, true, true, true, true, true, true, true, true, true, true, true, true, true, true, true, true, true, true, true, true, false, false] rfl rfl (any_of HT_.out (by kernel_rfl)) (fun _ _ _ h => h) (Or.inr ⟨by rfl, rfl⟩) ?_ ?_
                                    rotate_left
                                    · simp only [Act.put, List.setIfInBounds_toArray, List.set_cons_zero, List.set_cons_succ, i64_w, i32_w]
                                      rfl
                                    refine pure_ (i := 31) (N := some 68) (v := undef) (a' := ?_) #[true, true, true, true, true, true, true, true, true, true, true, true, true, true, true, true, true, true, true, true, true, true, true, true, true, true, true, true, true, true, true, true, false] rfl rfl (any_of HT_.out (by kernel_rfl)) (fun _ _ _ h => h) (Or.inr ⟨by rfl, rfl⟩) ?_ ?_
                                    rotate_left
                                    · simp only [Act.put, List.setIfInBounds_toArray, List.set_cons_zero, List.set_cons_succ, i64_w, i32_w]
                                      rfl
                                    refine pure_ (i := 32) (N := some 69) (v := ?_) (a' := ?_) #[true, true, true, true, true, true, true, true, true, true, true, true, true, true, true, true, true, true, true, true, true, true, true, true, true, true, true, true, true, true, true, true, true] rfl rfl (any_of HT_.out (by kernel_rfl)) (fun _ _ _ h => h) (Or.inl ⟨by rfl, ?_⟩) ?_ ?_
                                    rotate_left
                                    · intro w'
                                      go_simp
                                      with_reducible rfl
                                    rotate_left
                                    · simp only [Act.put, List.setIfInBounds_toArray, List.set_cons_zero, List.set_cons_succ, i64_w, i32_w]
                                      rfl
                                    refine done_ (done_of HT_.out (by kernel_rfl)) ?_
                                    obtain ⟨Ao43, co43, eo43⟩ := Kd.N_slice HO_5.out
                                    subst eo43
                                    try go_wp2_with (first | ((with_reducible refine gate_builtin (b := .append) (xs := #[.tmp 89, .tmp 90]) rfl ?_); at_builtin; refine Kd.N_append_rows k43 (w0 := w) w.heap.size rfl (.tmp 89) (.tmp 90) 22 43 (.agg #[(.int .i64 0), (.int .i64 0), (.string ⟨#[]⟩), (.string ⟨#[]⟩), (.slice none 0 0)]) 72 rfl Try.underlying22 info43 rfl (by decide) (by omega) (.slice (some ad397) x3_1.length co12) x3_1 t391 _ _ _ (fun k_ => (w.heap.size ≤ k_)) (fun k_ => ((fun k_ => (w.heap.size ≤ k_))) k_ ∧ some k_ ≠ (.slice (some ad397) x3_1.length co12 : Value).ownBlock) rfl rfl ?aO ?aR (fun _ hk => hk) ?aF ?aB ?aS ?aL ?_; (case aR => exact (by skip; exact Kd.N_F (Kd.N_mono (ok' := (fun k_ => ((fun k_ => (w.heap.size ≤ k_))) k_ ∧ some k_ ≠ (.slice (some ad397) x3_1.length co12 : Value).ownBlock)) (HO_5.out) (fun k_ hk => ⟨hk.1, hk.2⟩)))); (case aB => exact (by repeat (first | (with_reducible first | exact HB.out | apply below_alloc | apply pw_below_drewN | apply below_drew1) | exact HB.out))); (case aF => exact (fun k_ hk => (Nat.le_trans (below_size (by repeat (first | (with_reducible first | exact HB.out | apply below_alloc | apply pw_below_drewN | apply below_drew1) | exact HB.out))) hk))); (case aO => exact (by (with_reducible repeat (first | apply Kd.N_alloc | apply Kd.N_drewN | apply Kd.N_drew)); exact Kd.N_mono HO_3.out (fun _ hk => hk.1))); (case aS => exact (below_size (by repeat (first | (with_reducible first | exact HB.out | apply below_alloc | apply pw_below_drewN | apply below_drew1) | exact HB.out)))); (case aL => have := LMc40.out; omega); intro v408 w42 ho hb hg hat; rw [← Ny407.out] at ho; have n0_ := Aside0.mk (Kd.N_afterv (ok := (fun k_ => (w.heap.size ≤ k_))) (by (with_reducible repeat (first | apply Kd.N_alloc | apply Kd.N_drewN | apply Kd.N_drew)); exact HO_5.out) hg hat); have n1_ := Aside0.mk (Kd.V_afterv (ok := (fun k_ => (w.heap.size ≤ k_) ∧ some k_ ≠ (.slice Ao43 t391.length co43 : Value).ownBlock)) (by (with_reducible repeat (first | apply Kd.V_alloc | apply Kd.V_drewN | apply Kd.V_drew)); exact HL397_4.out) hg hat); have n2_ := Aside0.mk (hb); have n3_ := Aside0.mk (ho); clear HO_5; clear HL397_4; clear HB; clear HO_3; have HO_5 := n0_; have HL397_4 := n1_; have HB := n2_; have HO409 := n3_; clear n0_ n1_ n2_ n3_; clear ho hb hg hat))
                                    go_roundg kj8
                                    case measure => have := HK1.out; have := HJ8.out; omega
                                    case rel => exact ⟨(y407), (wrap64 (x4_1 + 1)), (by first | rfl | (simp; done) | (congr 1; first | (with_reducible assumption) | (symm; with_reducible assumption)) | (simp [*]; done) | (simp only [ne_nil_empty]; done) | (rw [ne_nil_empty]; rfl)), H', ⟨by have := HK1.out; have := HJ8.out; omega⟩, ⟨by (with_reducible repeat (first | apply Kd.N_alloc | apply Kd.N_drewN | apply Kd.N_drew)); exact HO409.out⟩, ⟨by repeat (first | (with_reducible first | exact HB.out | apply below_alloc | apply pw_below_drewN | apply below_drew1) | exact HB.out)⟩⟩
                                  · rw [if_neg c40] at H
                                    exact absurd H (by simp)
                              · rw [if_neg c21] at H
                                exact absurd H (by simp)
                            · rw [if_neg c20] at H
                              exact absurd H (by simp)
                          · rw [if_neg c18] at H
                            have c18b0 : decide (0 < (x3_1.length : Int)) = false := decide_eq_false c18
                            have c18b1 : decide (0 < x3_1.length) = false := decide_eq_false (by omega)
                            clear c18
                            by_cases c44 : x3_1.length + t391.length < 1954687338268
                            · rw [if_pos c44] at H
                              have LMc44 := Aside0.mk c44
                              clear c44
                              obtain ⟨y410, hy410⟩ : ∃ y_ : List (S43), y_ = (x3_1 ++ t391) := ⟨_, rfl⟩
                              replace H : (boltingref04_Normal.l0 kj8 l0 y410 (wrap64 (x4_1 + 1))) = some r := by first | (rw [hy410]; with_reducible exact H) | (have H2_ := (Option.bind_some _ _).symm.trans H; rw [hy410]; with_reducible exact H2_) | (have H2_ := (Option.bind_some _ _).symm.trans H; with_reducible exact H2_) | with_reducible exact H | (rw [hy410]; exact H) | exact H
                              have Ny410 := Aside0.mk hy410
                              clear hy410
                              have H' := Aside0.mk H
                              clear H
                              try go_wp2
                              have n0_ := Aside0.mk (Kd.N_drew HO_3.out)
                              have n1_ := Aside0.mk (Kd.N_drew HO_5.out)
                              have n2_ := Aside0.mk (below_drew1 HB.out)
                              clear HO_3
                              clear HO_5
                              clear HB
                              have HO_3 := n0_
                              have HO_5 := n1_
                              have HB := n2_
                              clear n0_ n1_ n2_
                              have p396 : 0 ≤ (x4_1 : Int) := of_decide_eq_true (by first | (with_reducible assumption) | assumption)
                              have q396 : x4_1 < (l0.length : Int) := of_decide_eq_true (by first | (with_reducible assumption) | assumption)
                              obtain ⟨ad396, A396_4, c396_4, e396, hx396_0, hx396_1, hx396_2, hx396_3, hx396_4, hl396_4, hi396_4⟩ := at_T43 HR0.out x4_1 p396 q396
                              have hy396_4 := Aside0.mk hx396_4
                              have hw396_4 := hx396_4
                              have hw396_3 := hx396_3
                              have hw396_2 := hx396_2
                              have hw396_1 := hx396_1
                              have hw396_0 := hx396_0
                              cases e396
                              replace hx396_0 := (HB.out.cell (World.block_lt_of_cell? w _ hx396_0)).trans hx396_0
                              replace hx396_1 := (HB.out.cell (World.block_lt_of_cell? w _ hx396_1)).trans hx396_1
                              replace hx396_2 := (HB.out.cell (World.block_lt_of_cell? w _ hx396_2)).trans hx396_2
                              replace hx396_3 := (HB.out.cell (World.block_lt_of_cell? w _ hx396_3)).trans hx396_3
                              replace hx396_4 := (HB.out.cell (World.block_lt_of_cell? w _ hx396_4)).trans hx396_4
                              have HR396_4 := Aside0.mk hi396_4
                              have HC396_4 := Aside0.mk hl396_4
                              clear hi396_4 hl396_4
                              replace p396 := eq_true p396
                              replace q396 := eq_true q396
                              refine start_ (n := 33) (S := fun w' => w'.cell? (ad396.add ((x4_1).toNat * 5)) = some (.int .i64 ((rd_T43 l0 x4_1).f0)) ∧ w'.cell? ⟨(ad396.add ((x4_1).toNat * 5)).block, (ad396.add ((x4_1).toNat * 5)).off + 1, none⟩ = some (.int .i64 ((rd_T43 l0 x4_1).f1)) ∧ w'.cell? ⟨(ad396.add ((x4_1).toNat * 5)).block, (ad396.add ((x4_1).toNat * 5)).off + 2, none⟩ = some (.string ((rd_T43 l0 x4_1).f2)) ∧ w'.cell? ⟨(ad396.add ((x4_1).toNat * 5)).block, (ad396.add ((x4_1).toNat * 5)).off + 3, none⟩ = some (.string ((rd_T43 l0 x4_1).f3)) ∧ w'.cell? ⟨(ad396.add ((x4_1).toNat * 5)).block, (ad396.add ((x4_1).toNat * 5)).off + 4, none⟩ = some (.slice A396_4 ((rd_T43 l0 x4_1).f4).length c396_4)) (ds := []) #[false, false, false, false, false, false, false, false, false, false, false, false, false, false, false, false, false, false, false, false, false, false, false, false, false, false, false, false, false, false, false, false, false] (by kernel_rfl) rfl rfl ⟨((HB.out.cell (World.block_lt_of_cell? w _ hw396_0)).trans hw396_0), ((HB.out.cell (World.block_lt_of_cell? w _ hw396_1)).trans hw396_1), ((HB.out.cell (World.block_lt_of_cell? w _ hw396_2)).trans hw396_2), ((HB.out.cell (World.block_lt_of_cell? w _ hw396_3)).trans hw396_3), ((HB.out.cell (World.block_lt_of_cell? w _ hw396_4)).trans hw396_4)⟩ (fun hHeld => ?_); refine with_tabW boltingref04_Normal.tab8 boltingref04_Normal.bits8 (fun HT_ HW_ => ?_)
                              generalize wc.drew = w45 at HO_3 HO_5 HB HR396_4 hx396_0 hx396_1 hx396_2 hx396_3 hx396_4 hHeld ⊢
                              refine pure_ (i := 0) (N := some 37) (v := ?_) (a' := ?_) #[true, false, false, false, false, false, false, false, false, false, false, false, false, false, false, false, false, false, false, false, false, false, false, false, false, false, false, false, false, false, false, false, false] rfl rfl (any_of HT_.out (by kernel_rfl)) (fun _ _ _ h => h) (Or.inl ⟨by rfl, ?_⟩) ?_ ?_
                              rotate_left
                              · intro w'
                                go_simp
                                with_reducible rfl
                              rotate_left
                              · simp only [Act.put, List.setIfInBounds_toArray, List.set_cons_zero, List.set_cons_succ, i64_w, i32_w]
                                rfl
                              refine pure_ (i := 1) (N := some 38) (v := ?_) (a' := ?_) #[true, true, false, false, false, false, false, false, false, false, false, false, false, false, false, false, false, false, false, false, false, false, false, false, false, false, false, false, false, false, false, false, false] rfl rfl (any_of HT_.out (by kernel_rfl)) (fun _ _ _ h => h) (Or.inl ⟨by rfl, ?_⟩) ?_ ?_
                              rotate_left
                              · intro w'
                                go_simp
                                with_reducible rfl
                              rotate_left
                              · simp only [Act.put, List.setIfInBounds_toArray, List.set_cons_zero, List.set_cons_succ, i64_w, i32_w]
                                rfl
                              refine pure_ (i := 2) (N := some 39) (v := ?_) (a' := ?_) #[true, true, true, false, false, false, false, false, false, false, false, false, false, false, false, false, false, false, false, false, false, false, false, false, false, false, false, false, false, false, false, false, false] rfl rfl (any_of HT_.out (by kernel_rfl)) (fun _ _ _ h => h) (Or.inl ⟨by rfl, ?_⟩) ?_ ?_
                              rotate_left
                              · intro w'
                                go_simp
                                with_reducible rfl
                              rotate_left
                              · simp only [Act.put, List.setIfInBounds_toArray, List.set_cons_zero, List.set_cons_succ, i64_w, i32_w]
                                rfl
                              refine pure_ (i := 3) (N := some 40) (v := ?_) (a' := ?_) #[true, true, true, true, false, false, false, false, false, false, false, false, false, false, false, false, false, false, false, false, false, false, false, false, false, false, false, false, false, false, false, false, false] rfl rfl (any_of HT_.out (by kernel_rfl)) (fun _ _ _ h => h) (Or.inl ⟨by rfl, ?_⟩) ?_ ?_
                              rotate_left
                              · intro w'
                                go_simp
                                with_reducible rfl
                              rotate_left
                              · simp only [Act.put, List.setIfInBounds_toArray, List.set_cons_zero, List.set_cons_succ, i64_w, i32_w]
                                rfl
                              refine take_ (i := 4) (N := some 41) (v := ?_) (a' := ?_) #[true, true, true, true, true, false, false, false, false, false, false, false, false, false, false, false, false, false, false, false, false, false, false, false, false, false, false, false, false, false, false, false, false] rfl rfl (take_ofW HT_.out HW_.out (by kernel_rfl)) (fun _ _ _ h => h) (Or.inl ⟨by rfl, ?_⟩) hHeld ?_ ?_
                              rotate_left
                              · rintro w' ⟨s0, s1, s2, s3, s4⟩
                                go_simp
                                with_reducible rfl
                              rotate_left
                              · simp only [Act.put, List.setIfInBounds_toArray, List.set_cons_zero, List.set_cons_succ, i64_w, i32_w]
                                rfl
                              refine pure_ (i := 5) (N := some 42) (v := ?_) (a' := ?_) #[true, true, true, true, true, true, false, false, false, false, false, false, false, false, false, false, false, false, false, false, false, false, false, false, false, false, false, false, false, false, false, false, false] rfl rfl (any_of HT_.out (by kernel_rfl)) (fun _ _ _ h => h) (Or.inl ⟨by rfl, ?_⟩) ?_ ?_
                              rotate_left
                              · intro w'
                                go_simp
                                with_reducible rfl
                              rotate_left
                              · simp only [Act.put, List.setIfInBounds_toArray, List.set_cons_zero, List.set_cons_succ, i64_w, i32_w]
                                rfl
                              refine pure_ (i := 6) (N := some 43) (v := ?_) (a' := ?_) #[true, true, true, true, true, true, true, false, false, false, false, false, false, false, false, false, false, false, false, false, false, false, false, false, false, false, false, false, false, false, false, false, false] rfl rfl (any_of HT_.out (by kernel_rfl)) (fun _ _ _ h => h) (Or.inl ⟨by rfl, ?_⟩) ?_ ?_
                              rotate_left
                              · intro w'
                                go_simp
                                with_reducible rfl
                              rotate_left
                              · simp only [Act.put, List.setIfInBounds_toArray, List.set_cons_zero, List.set_cons_succ, i64_w, i32_w]
                                rfl
                              refine pure_ (i := 7) (N := some 44) (v := ?_) (a' := ?_) #[true, true, true, true, true, true, true, true, false, false, false, false, false, false, false, false, false, false, false, false, false, false, false, false, false, false, false, false, false, false, false, false, false] rfl rfl (any_of HT_.out (by kernel_rfl)) (fun _ _ _ h => h) (Or.inl ⟨by rfl, ?_⟩) ?_ ?_
                              rotate_left
                              · intro w'
                                go_simp
                                with_reducible rfl
                              rotate_left
                              · simp only [Act.put, List.setIfInBounds_toArray, List.set_cons_zero, List.set_cons_succ, i64_w, i32_w]
                                rfl
                              refine pure_ (i := 8) (N := some 45) (v := ?_) (a' := ?_) #[true, true, true, true, true, true, true, true, true, false, false, false, false, false, false, false, false, false, false, false, false, false, false, false, false, false, false, false, false, false, false, false, false] rfl rfl (any_of HT_.out (by kernel_rfl)) (fun _ _ _ h => h) (Or.inl ⟨by rfl, ?_⟩) ?_ ?_
                              rotate_left
                              · intro w'
                                go_simp
                                with_reducible rfl
                              rotate_left
                              · simp only [Act.put, List.setIfInBounds_toArray, List.set_cons_zero, List.set_cons_succ, i64_w, i32_w]
                                rfl
                              refine pure_ (i := 9) (N := some 46) (v := ?_) (a' := ?_) #[true, true, true, true, true, true, true, true, true, true, false, false, false, false, false, false, false, false, false, false, false, false, false, false, false, false, false, false, false, false, false, false, false] rfl rfl (any_of HT_.out (by kernel_rfl)) (fun _ _ _ h => h) (Or.inl ⟨by rfl, ?_⟩) ?_ ?_
                              rotate_left
                              · intro w'
                                go_simp
                                with_reducible rfl
                              rotate_left
                              · simp only [Act.put, List.setIfInBounds_toArray, List.set_cons_zero, List.set_cons_succ, i64_w, i32_w]
                                rfl
                              refine pure_ (i := 10) (N := some 47) (v := ?_) (a' := ?_) #[true, true, true, true, true, true, true, true, true, true, true, false, false, false, false, false, false, false, false, false, false, false, false, false, false, false, false, false, false, false, false, false, false] rfl rfl (any_of HT_.out (by kernel_rfl)) (fun _ _ _ h => h) (Or.inl ⟨by rfl, ?_⟩) ?_ ?_
                              rotate_left
                              · intro w'
                                go_simp
                                with_reducible rfl
                              rotate_left
                              · simp only [Act.put, List.setIfInBounds_toArray, List.set_cons_zero, List.set_cons_succ, i64_w, i32_w]
                                rfl
                              refine pure_ (i := 11) (N := some 48) (v := undef) (a' := ?_) #[true, true, true, true, true, true, true, true, true, true, true, true, false, false, false, false, false, false, false, false, false, false, false, false, false, false, false, false, false, false, false, false, false] rfl rfl (any_of HT_.out (by kernel_rfl)) (fun _ _ _ h => h) (Or.inr ⟨by rfl, rfl⟩) ?_ ?_
                              rotate_left
                              · simp only [Act.put, List.setIfInBounds_toArray, List.set_cons_zero, List.set_cons_succ, i64_w, i32_w]
                                rfl
                              refine pure_ (i := 12) (N := some 49) (v := undef) (a' := ?_) #[true, true, true, true, true, true, true, true, true, true, true, true, true, false, false, false, false, false, false, false, false, false, false, false, false, false, false, false, false, false, false, false, false] rfl rfl (any_of HT_.out (by kernel_rfl)) (fun _ _ _ h => h) (Or.inr ⟨by rfl, rfl⟩) ?_ ?_
                              rotate_left
                              · simp only [Act.put, List.setIfInBounds_toArray, List.set_cons_zero, List.set_cons_succ, i64_w, i32_w]
                                rfl
                              refine pure_ (i := 13) (N := some 50) (v := undef) (a' := ?_) #[true, true, true, true, true, true, true, true, true, true, true, true, true, true, false, false, false, false, false, false, false, false, false, false, false, false, false, false, false, false, false, false, false] rfl rfl (any_of HT_.out (by kernel_rfl)) (fun _ _ _ h => h) (Or.inr ⟨by rfl, rfl⟩) ?_ ?_
                              rotate_left
                              · simp only [Act.put, List.setIfInBounds_toArray, List.set_cons_zero, List.set_cons_succ, i64_w, i32_w]
                                rfl
                              refine pure_ (i := 14) (N := some 51) (v := undef) (a' := ?_) #[true, true, true, true, true, true, true, true, true, true, true, true, true, true, true, false, false, false, false, false, false, false, false, false, false, false, false, false, false, false, false, false, false] rfl rfl (any_of HT_.out (by kernel_rfl)) (fun _ _ _ h => h) (Or.inr ⟨by rfl, rfl⟩) ?_ ?_
                              rotate_left
                              · simp only [Act.put, List.setIfInBounds_toArray, List.set_cons_zero, List.set_cons_succ, i64_w, i32_w]
                                rfl
                              refine pure_ (i := 15) (N := some 52) (v := undef) (a' := ?_) #[true, true, true, true, true, true, true, true, true, true, true, true, true, true, true, true, false, false, false, false, false, false, false, false, false, false, false, false, false, false, false, false, false] rfl rfl (any_of HT_.out (by kernel_rfl)) (fun _ _ _ h => h) (Or.inr ⟨by rfl, rfl⟩) ?_ ?_
                              rotate_left
                              · simp only [Act.put, List.setIfInBounds_toArray, List.set_cons_zero, List.set_cons_succ, i64_w, i32_w]
                                rfl
                              refine pure_ (i := 16) (N := some 53) (v := undef) (a' := ?_) #[true, true, true, true, true, true, true, true, true, true, true, true, true, true, true, true, true, false, false, false, false, false, false, false, false, false, false, false, false, false, false, false, false] rfl rfl (any_of HT_.out (by kernel_rfl)) (fun _ _ _ h => h) (Or.inr ⟨by rfl, rfl⟩) ?_ ?_
                              rotate_left
                              · simp only [Act.put, List.setIfInBounds_toArray, List.set_cons_zero, List.set_cons_succ, i64_w, i32_w]
                                rfl
                              refine pure_ (i := 17) (N := some 54) (v := undef) (a' := ?_) #[true, true, true, true, true, true, true, true, true, true, true, true, true, true, true, true, true, true, false, false, false, false, false, false, false, false, false, false, false, false, false, false, false] rfl rfl (any_of HT_.out (by kernel_rfl)) (fun _ _ _ h => h) (Or.inr ⟨by rfl, rfl⟩) ?_ ?_
                              rotate_left
                              · simp only [Act.put, List.setIfInBounds_toArray, List.set_cons_zero, List.set_cons_succ, i64_w, i32_w]
                                rfl
                              refine pure_ (i := 18) (N := some 55) (v := ?_) (a' := ?_) #[true, true, true, true, true, true, true, true, true, true, true, true, true, true, true, true, true, true, true, false, false, false, false, false, false, false, false, false, false, false, false, false, false] rfl rfl (any_of HT_.out (by kernel_rfl)) (fun _ _ _ h => h) (Or.inl ⟨by rfl, ?_⟩) ?_ ?_
                              rotate_left
                              · intro w'
                                go_simp
                                with_reducible rfl
                              rotate_left
                              · simp only [Act.put, List.setIfInBounds_toArray, List.set_cons_zero, List.set_cons_succ, i64_w, i32_w]
                                rfl
                              refine pure_ (i := 19) (N := some 56) (v := ?_) (a' := ?_) #[true, true, true, true, true, true, true, true, true, true, true, true, true, true, true, true, true, true, true, true, false, false, false, false, false, false, false, false, false, false, false, false, false] rfl rfl (any_of HT_.out (by kernel_rfl)) (fun _ _ _ h => h) (Or.inl ⟨by rfl, ?_⟩) ?_ ?_
                              rotate_left
                              · intro w'
                                go_simp
                                with_reducible rfl
                              rotate_left
                              · simp only [Act.put, List.setIfInBounds_toArray, List.set_cons_zero, List.set_cons_succ, i64_w, i32_w]
                                rfl
                              refine pure_ (i := 20) (N := some 57) (v := undef) (a' := ?_) #[true, true, true, true, true, true, true, true, true, true, true, true, true, true, true, true, true, true, true, true, true, false, false, false, false, false, false, false, false, false, false, false, false] rfl rfl (any_of HT_.out (by kernel_rfl)) (fun _ _ _ h => h) (Or.inr ⟨by rfl, rfl⟩) ?_ ?_
                              rotate_left
                              · simp only [Act.put, List.setIfInBounds_toArray, List.set_cons_zero, List.set_cons_succ, i64_w, i32_w]
                                rfl
                              refine pure_ (i := 21) (N := some 58) (v := undef) (a' := ?_) #[true, true, true, true, true, true, true, true, true, true, true, true, true, true, true, true, true, true, true, true, true, true, false, false, false, false, false, false, false, false, false, false, false] rfl rfl (any_of HT_.out (by kernel_rfl)) (fun _ _ _ h => h) (Or.inr ⟨by rfl, rfl⟩) ?_ ?_
                              rotate_left
                              · simp only [Act.put, List.setIfInBounds_toArray, List.set_cons_zero, List.set_cons_succ, i64_w, i32_w]
                                rfl
                              refine pure_ (i := 22) (N := some 59) (v := undef) (a' := ?_) #[true, true, true, true, true, true, true, true, true, true, true, true, true, true, true, true, true, true, true, true, true, true, true, false, false, false, false, false, false, false, false, false, false] rfl rfl (any_of HT_.out (by kernel_rfl)) (fun _ _ _ h => h) (Or.inr ⟨by rfl, rfl⟩) ?_ ?_
                              rotate_left
                              · simp only [Act.put, List.setIfInBounds_toArray, List.set_cons_zero, List.set_cons_succ, i64_w, i32_w]
                                rfl
                              refine pure_ (i := 23) (N := some 60) (v := undef) (a' := ?_) #[true, true, true, true, true, true, true, true, true, true, true, true, true, true, true, true, true, true, true, true, true, true, true, true, false, false, false, false, false, false, false, false, false] rfl rfl (any_of HT_.out (by kernel_rfl)) (fun _ _ _ h => h) (Or.inr ⟨by rfl, rfl⟩) ?_ ?_
                              rotate_left
                              · simp only [Act.put, List.setIfInBounds_toArray, List.set_cons_zero, List.set_cons_succ, i64_w, i32_w]
                                rfl
                              refine pure_ (i := 24) (N := some 61) (v := undef) (a' := ?_) #[true, true, true, true, true, true, true, true, true, true, true, true, true, true, true, true, true, true, true, true, true, true, true, true, true, false, false, false, false, false, false, false, false] rfl rfl (any_of HT_.out (by kernel_rfl)) (fun _ _ _ h => h) (Or.inr ⟨by rfl, rfl⟩) ?_ ?_
                              rotate_left
                              · simp only [Act.put, List.setIfInBounds_toArray, List.set_cons_zero, List.set_cons_succ, i64_w, i32_w]
                                rfl
                              refine pure_ (i := 25) (N := some 62) (v := undef) (a' := ?_) #[true, true, true, true, true, true, true, true, true, true, true, true, true, true, true, true, true, true, true, true, true, true, true, true, true, true, false, false, false, false, false, false, false] rfl rfl (any_of HT_.out (by kernel_rfl)) (fun _ _ _ h => h) (Or.inr ⟨by rfl, rfl⟩) ?_ ?_
                              rotate_left
                              · simp only [Act.put, List.setIfInBounds_toArray, List.set_cons_zero, List.set_cons_succ, i64_w, i32_w]
                                rfl
                              refine pure_ (i := 26) (N := some 63) (v := undef) (a' := ?_) #[true, true, true, true, true, true, true, true, true, true, true, true, true, true, true, true, true, true, true, true, true, true, true, true, true, true, true, false, false, false, false, false, false] rfl rfl (any_of HT_.out (by kernel_rfl)) (fun _ _ _ h => h) (Or.inr ⟨by rfl, rfl⟩) ?_ ?_
                              rotate_left
                              · simp only [Act.put, List.setIfInBounds_toArray, List.set_cons_zero, List.set_cons_succ, i64_w, i32_w]
                                rfl
                              refine pure_ (i := 27) (N := some 64) (v := undef) (a' := ?_) #[true, true, true, true, true, true, true, true, true, true, true, true, true, true, true, true, true, true, true, true, true, true, true, true, true, true, true, true, false, false, false, false, false] rfl rfl (any_of HT_.out (by kernel_rfl)) (fun _ _ _ h => h) (Or.inr ⟨by rfl, rfl⟩) ?_ ?_
                              rotate_left
                              · simp only [Act.put, List.setIfInBounds_toArray, List.set_cons_zero, List.set_cons_succ, i64_w, i32_w]
                                rfl
                              refine pure_ (i := 28) (N := some 65) (v := undef) (a' := ?_) #[true, true, true, true, true, true, true, true, true, true, true, true, true, true, true, true, true, true, true, true, true, true, true, true, true, true, true, true, true, false, false, false, false] rfl rfl (any_of HT_.out (by kernel_rfl)) (fun _ _ _ h => h) (Or.inr ⟨by rfl, rfl⟩) ?_ ?_
                              rotate_left
                              · simp only [Act.put, List.setIfInBounds_toArray, List.set_cons_zero, List.set_cons_succ, i64_w, i32_w]
                                rfl
                              refine pure_ (i := 29) (N := some 66) (v := undef) (a' := ?_) #[true, true, true, true, true, true, true, true, true, true, true, true, true, true, true, true, true, true, true, true, true, true, true, true, true, true, true, true, true, true, false, false, false] rfl rfl (any_of HT_.out (by kernel_rfl)) (fun _ _ _ h => h) (Or.inr ⟨by rfl, rfl⟩) ?_ ?_
                              rotate_left
                              · simp only [Act.put, List.setIfInBounds_toArray, List.set_cons_zero, List.set_cons_succ, i64_w, i32_w]
                                rfl
                              refine pure_ (i := 30) (N := some 67) (v := undef) (a' := ?_) #[true, true, true, true, true, true, true, true, true, true, true, true, true, true, true, true, true, true, true, true, true, true, true, true, true, true, true, true, true, true, true, false, false] rfl rfl (any_of HT_.out (by kernel_rfl)) (fun _ _ _ h => h) (Or.inr ⟨by rfl, rfl⟩) ?_ ?_
                              rotate_left
                              · simp only [Act.put, List.setIfInBounds_toArray, List.set_cons_zero, List.set_cons_succ, i64_w, i32_w]
                                rfl
                              refine pure_ (i := 31) (N := some 68) (v := undef) (a' := ?_) #[true, true, true, true, true, true, true, true, true, true, true, true, true, true, true, true, true, true, true, true, true, true, true, true, true, true, true, true, true, true, true, true, false] rfl rfl (any_of HT_.out (by kernel_rfl)) (fun _ _ _ h => h) (Or.inr ⟨by rfl, rfl⟩) ?_ ?_
                              rotate_left
                              · simp only [Act.put, List.setIfInBounds_toArray, List.set_cons_zero, List.set_cons_succ, i64_w, i32_w]
                                rfl
                              refine pure_ (i := 32) (N := some 69) (v := ?_) (a' := ?_) #[true, true, true, true, true, true, true, true, true, true, true, true, true, true, true, true, true, true, true, true, true, true, true, true, true, true, true, true, true, true, true, true, true] rfl rfl (any_of HT_.out (by kernel_rfl)) (fun _ _ _ h => h) (Or.inl ⟨by rfl, ?_⟩) ?_ ?_
                              rotate_left
                              · intro w'
                                go_simp
                                with_reducible rfl
                              rotate_left
                              · simp only [Act.put, List.setIfInBounds_toArray, List.set_cons_zero, List.set_cons_succ, i64_w, i32_w]
                                rfl
                              refine done_ (done_of HT_.out (by kernel_rfl)) ?_
                              obtain ⟨Ao47, co47, eo47⟩ := Kd.N_slice HO_5.out
                              subst eo47
                              try go_wp2_with (first | ((with_reducible refine gate_builtin (b := .append) (xs := #[.tmp 89, .tmp 90]) rfl ?_); at_builtin; refine Kd.N_append_rows k43 (w0 := w) w.heap.size rfl (.tmp 89) (.tmp 90) 22 43 (.agg #[(.int .i64 0), (.int .i64 0), (.string ⟨#[]⟩), (.string ⟨#[]⟩), (.slice none 0 0)]) 72 rfl Try.underlying22 info43 rfl (by decide) (by omega) (.slice Ao12 x3_1.length co12) x3_1 t391 _ _ _ (fun k_ => (w.heap.size ≤ k_)) (fun k_ => ((fun k_ => (w.heap.size ≤ k_))) k_ ∧ some k_ ≠ (.slice Ao12 x3_1.length co12 : Value).ownBlock) rfl rfl ?aO ?aR (fun _ hk => hk) ?aF ?aB ?aS ?aL ?_; (case aR => exact (by skip; exact Kd.N_F (Kd.N_mono (ok' := (fun k_ => ((fun k_ => (w.heap.size ≤ k_))) k_ ∧ some k_ ≠ (.slice Ao12 x3_1.length co12 : Value).ownBlock)) (HO_5.out) (fun k_ hk => ⟨hk.1, hk.2⟩)))); (case aB => exact (by repeat (first | (with_reducible first | exact HB.out | apply below_alloc | apply pw_below_drewN | apply below_drew1) | exact HB.out))); (case aF => exact (fun k_ hk => (Nat.le_trans (below_size (by repeat (first | (with_reducible first | exact HB.out | apply below_alloc | apply pw_below_drewN | apply below_drew1) | exact HB.out))) hk))); (case aO => exact (by (with_reducible repeat (first | apply Kd.N_alloc | apply Kd.N_drewN | apply Kd.N_drew)); exact Kd.N_mono HO_3.out (fun _ hk => hk.1))); (case aS => exact (below_size (by repeat (first | (with_reducible first | exact HB.out | apply below_alloc | apply pw_below_drewN | apply below_drew1) | exact HB.out)))); (case aL => have := LMc44.out; omega); intro v411 w46 ho hb hg hat; rw [← Ny410.out] at ho; have n0_ := Aside0.mk (Kd.N_afterv (ok := (fun k_ => (w.heap.size ≤ k_))) (by (with_reducible repeat (first | apply Kd.N_alloc | apply Kd.N_drewN | apply Kd.N_drew)); exact HO_5.out) hg hat); have n1_ := Aside0.mk (hb); have n2_ := Aside0.mk (ho); clear HO_5; clear HB; clear HO_3; have HO_5 := n0_; have HB := n1_; have HO412 := n2_; clear n0_ n1_ n2_; clear ho hb hg hat))
                              go_roundg kj8
                              case measure => have := HK1.out; have := HJ8.out; omega
                              case rel => exact ⟨(y410), (wrap64 (x4_1 + 1)), (by first | rfl | (simp; done) | (congr 1; first | (with_reducible assumption) | (symm; with_reducible assumption)) | (simp [*]; done) | (simp only [ne_nil_empty]; done) | (rw [ne_nil_empty]; rfl)), H', ⟨by have := HK1.out; have := HJ8.out; omega⟩, ⟨by (with_reducible repeat (first | apply Kd.N_alloc | apply Kd.N_drewN | apply Kd.N_drew)); exact HO412.out⟩, ⟨by repeat (first | (with_reducible first | exact HB.out | apply below_alloc | apply pw_below_drewN | apply below_drew1) | exact HB.out)⟩⟩
                            · rw [if_neg c44] at H
                              exact absurd H (by simp)
                        · rw [if_neg c17] at H
                          have c17b0 : (((rd_T43 l0 x4_1).f1) == 1) = false := beq_eq_false_iff_ne.mpr c17
                          have c17b1 : (((rd_T43 l0 x4_1).f1) != 1) = true := bne_iff_ne.mpr c17
                          by_cases c48 : x3_1.length + t391.length < 1954687338268
                          · rw [if_pos c48] at H
                            have LMc48 := Aside0.mk c48
                            clear c48
                            obtain ⟨y413, hy413⟩ : ∃ y_ : List (S43), y_ = (x3_1 ++ t391) := ⟨_, rfl⟩
                            replace H : (boltingref04_Normal.l0 kj8 l0 y413 (wrap64 (x4_1 + 1))) = some r := by first | (rw [hy413]; with_reducible exact H) | (have H2_ := (Option.bind_some _ _).symm.trans H; rw [hy413]; with_reducible exact H2_) | (have H2_ := (Option.bind_some _ _).symm.trans H; with_reducible exact H2_) | with_reducible exact H | (rw [hy413]; exact H) | exact H
                            have Ny413 := Aside0.mk hy413
                            clear hy413
                            have H' := Aside0.mk H
                            clear H
                            try go_wp2
                            have n0_ := Aside0.mk (Kd.N_drew HO_3.out)
                            have n1_ := Aside0.mk (Kd.N_drew HO_5.out)
                            have n2_ := Aside0.mk (below_drew1 HB.out)
                            clear HO_3
                            clear HO_5
                            clear HB
                            have HO_3 := n0_
                            have HO_5 := n1_
                            have HB := n2_
                            clear n0_ n1_ n2_
                            have p396 : 0 ≤ (x4_1 : Int) := of_decide_eq_true (by first | (with_reducible assumption) | assumption)
                            have q396 : x4_1 < (l0.length : Int) := of_decide_eq_true (by first | (with_reducible assumption) | assumption)
                            obtain ⟨ad396, A396_4, c396_4, e396, hx396_0, hx396_1, hx396_2, hx396_3, hx396_4, hl396_4, hi396_4⟩ := at_T43 HR0.out x4_1 p396 q396
                            have hy396_4 := Aside0.mk hx396_4
                            have hw396_4 := hx396_4
                            have hw396_3 := hx396_3
                            have hw396_2 := hx396_2
                            have hw396_1 := hx396_1
                            have hw396_0 := hx396_0
                            cases e396
                            replace hx396_0 := (HB.out.cell (World.block_lt_of_cell? w _ hx396_0)).trans hx396_0
                            replace hx396_1 := (HB.out.cell (World.block_lt_of_cell? w _ hx396_1)).trans hx396_1
                            replace hx396_2 := (HB.out.cell (World.block_lt_of_cell? w _ hx396_2)).trans hx396_2
                            replace hx396_3 := (HB.out.cell (World.block_lt_of_cell? w _ hx396_3)).trans hx396_3
                            replace hx396_4 := (HB.out.cell (World.block_lt_of_cell? w _ hx396_4)).trans hx396_4
                            have HR396_4 := Aside0.mk hi396_4
                            have HC396_4 := Aside0.mk hl396_4
                            clear hi396_4 hl396_4
                            replace p396 := eq_true p396
                            replace q396 := eq_true q396
                            refine start_ (n := 33) (S := fun w' => w'.cell? (ad396.add ((x4_1).toNat * 5)) = some (.int .i64 ((rd_T43 l0 x4_1).f0)) ∧ w'.cell? ⟨(ad396.add ((x4_1).toNat * 5)).block, (ad396.add ((x4_1).toNat * 5)).off + 1, none⟩ = some (.int .i64 ((rd_T43 l0 x4_1).f1)) ∧ w'.cell? ⟨(ad396.add ((x4_1).toNat * 5)).block, (ad396.add ((x4_1).toNat * 5)).off + 2, none⟩ = some (.string ((rd_T43 l0 x4_1).f2)) ∧ w'.cell? ⟨(ad396.add ((x4_1).toNat * 5)).block, (ad396.add ((x4_1).toNat * 5)).off + 3, none⟩ = some (.string ((rd_T43 l0 x4_1).f3)) ∧ w'.cell? ⟨(ad396.add ((x4_1).toNat * 5)).block, (ad396.add ((x4_1).toNat * 5)).off + 4, none⟩ = some (.slice A396_4 ((rd_T43 l0 x4_1).f4).length c396_4)) (ds := []) #[false, false, false, false, false, false, false, false, false, false, false, false, false, false, false, false, false, false, false, false, false, false, false, false, false, false, false, false, false, false, false, false, false] (by kernel_rfl) rfl rfl ⟨((HB.out.cell (World.block_lt_of_cell? w _ hw396_0)).trans hw396_0), ((HB.out.cell (World.block_lt_of_cell? w _ hw396_1)).trans hw396_1), ((HB.out.cell (World.block_lt_of_cell? w _ hw396_2)).trans hw396_2), ((HB.out.cell (World.block_lt_of_cell? w _ hw396_3)).trans hw396_3), ((HB.out.cell (World.block_lt_of_cell? w _ hw396_4)).trans hw396_4)⟩ (fun hHeld => ?_); refine with_tabW boltingref04_Normal.tab8 boltingref04_Normal.bits8 (fun HT_ HW_ => ?_)
                            generalize wc.drew = w49 at HO_3 HO_5 HB HR396_4 hx396_0 hx396_1 hx396_2 hx396_3 hx396_4 hHeld ⊢
                            refine pure_ (i := 0) (N := some 37) (v := ?_) (a' := ?_) #[true, false, false, false, false, false, false, false, false, false, false, false, false, false, false, false, false, false, false, false, false, false, false, false, false, false, false, false, false, false, false, false, false] rfl rfl (any_of HT_.out (by kernel_rfl)) (fun _ _ _ h => h) (Or.inl ⟨by rfl, ?_⟩) ?_ ?_
                            rotate_left
                            · intro w'
                              go_simp
                              with_reducible rfl
                            rotate_left
                            · simp only [Act.put, List.setIfInBounds_toArray, List.set_cons_zero, List.set_cons_succ, i64_w, i32_w]
                              rfl
                            refine pure_ (i := 1) (N := some 38) (v := ?_) (a' := ?_) #[true, true, false, false, false, false, false, false, false, false, false, false, false, false, false, false, false, false, false, false, false, false, false, false, false, false, false, false, false, false, false, false, false] rfl rfl (any_of HT_.out (by kernel_rfl)) (fun _ _ _ h => h) (Or.inl ⟨by rfl, ?_⟩) ?_ ?_
                            rotate_left
                            · intro w'
                              go_simp
                              with_reducible rfl
                            rotate_left
                            · simp only [Act.put, List.setIfInBounds_toArray, List.set_cons_zero, List.set_cons_succ, i64_w, i32_w]
                              rfl
                            refine pure_ (i := 2) (N := some 39) (v := ?_) (a' := ?_) #[true, true, true, false, false, false, false, false, false, false, false, false, false, false, false, false, false, false, false, false, false, false, false, false, false, false, false, false, false, false, false, false, false] rfl rfl (any_of HT_.out (by kernel_rfl)) (fun _ _ _ h => h) (Or.inl ⟨by rfl, ?_⟩) ?_ ?_
                            rotate_left
                            · intro w'
                              go_simp
                              with_reducible rfl
                            rotate_left
                            · simp only [Act.put, List.setIfInBounds_toArray, List.set_cons_zero, List.set_cons_succ, i64_w, i32_w]
                              rfl
                            refine pure_ (i := 3) (N := some 40) (v := ?_) (a' := ?_) #[true, true, true, true, false, false, false, false, false, false, false, false, false, false, false, false, false, false, false, false, false, false, false, false, false, false, false, false, false, false, false, false, false] rfl rfl (any_of HT_.out (by kernel_rfl)) (fun _ _ _ h => h) (Or.inl ⟨by rfl, ?_⟩) ?_ ?_
                            rotate_left
                            · intro w'
                              go_simp
                              with_reducible rfl
                            rotate_left
                            · simp only [Act.put, List.setIfInBounds_toArray, List.set_cons_zero, List.set_cons_succ, i64_w, i32_w]
                              rfl
                            refine take_ (i := 4) (N := some 41) (v := ?_) (a' := ?_) #[true, true, true, true, true, false, false, false, false, false, false, false, false, false, false, false, false, false, false, false, false, false, false, false, false, false, false, false, false, false, false, false, false] rfl rfl (take_ofW HT_.out HW_.out (by kernel_rfl)) (fun _ _ _ h => h) (Or.inl ⟨by rfl, ?_⟩) hHeld ?_ ?_
                            rotate_left
                            · rintro w' ⟨s0, s1, s2, s3, s4⟩
                              go_simp
                              with_reducible rfl
                            rotate_left
                            · simp only [Act.put, List.setIfInBounds_toArray, List.set_cons_zero, List.set_cons_succ, i64_w, i32_w]
                              rfl
                            refine pure_ (i := 5) (N := some 42) (v := ?_) (a' := ?_) #[true, true, true, true, true, true, false, false, false, false, false, false, false, false, false, false, false, false, false, false, false, false, false, false, false, false, false, false, false, false, false, false, false] rfl rfl (any_of HT_.out (by kernel_rfl)) (fun _ _ _ h => h) (Or.inl ⟨by rfl, ?_⟩) ?_ ?_
                            rotate_left
                            · intro w'
                              go_simp
                              with_reducible rfl
                            rotate_left
                            · simp only [Act.put, List.setIfInBounds_toArray, List.set_cons_zero, List.set_cons_succ, i64_w, i32_w]
                              rfl
                            refine pure_ (i := 6) (N := some 43) (v := ?_) (a' := ?_) #[true, true, true, true, true, true, true, false, false, false, false, false, false, false, false, false, false, false, false, false, false, false, false, false, false, false, false, false, false, false, false, false, false] rfl rfl (any_of HT_.out (by kernel_rfl)) (fun _ _ _ h => h) (Or.inl ⟨by rfl, ?_⟩) ?_ ?_
                            rotate_left
                            · intro w'
                              go_simp
                              with_reducible rfl
                            rotate_left
                            · simp only [Act.put, List.setIfInBounds_toArray, List.set_cons_zero, List.set_cons_succ, i64_w, i32_w]
                              rfl
                            refine pure_ (i := 7) (N := some 44) (v := undef) (a' := ?_) #[true, true, true, true, true, true, true, true, false, false, false, false, false, false, false, false, false, false, false, false, false, false, false, false, false, false, false, false, false, false, false, false, false] rfl rfl (any_of HT_.out (by kernel_rfl)) (fun _ _ _ h => h) (Or.inr ⟨by rfl, rfl⟩) ?_ ?_
                            rotate_left
                            · simp only [Act.put, List.setIfInBounds_toArray, List.set_cons_zero, List.set_cons_succ, i64_w, i32_w]
                              rfl
                            refine pure_ (i := 8) (N := some 45) (v := undef) (a' := ?_) #[true, true, true, true, true, true, true, true, true, false, false, false, false, false, false, false, false, false, false, false, false, false, false, false, false, false, false, false, false, false, false, false, false] rfl rfl (any_of HT_.out (by kernel_rfl)) (fun _ _ _ h => h) (Or.inr ⟨by rfl, rfl⟩) ?_ ?_
                            rotate_left
                            · simp only [Act.put, List.setIfInBounds_toArray, List.set_cons_zero, List.set_cons_succ, i64_w, i32_w]
                              rfl
                            refine pure_ (i := 9) (N := some 46) (v := ?_) (a' := ?_) #[true, true, true, true, true, true, true, true, true, true, false, false, false, false, false, false, false, false, false, false, false, false, false, false, false, false, false, false, false, false, false, false, false] rfl rfl (any_of HT_.out (by kernel_rfl)) (fun _ _ _ h => h) (Or.inl ⟨by rfl, ?_⟩) ?_ ?_
                            rotate_left
                            · intro w'
                              go_simp
                              with_reducible rfl
                            rotate_left
                            · simp only [Act.put, List.setIfInBounds_toArray, List.set_cons_zero, List.set_cons_succ, i64_w, i32_w]
                              rfl
                            refine pure_ (i := 10) (N := some 47) (v := ?_) (a' := ?_) #[true, true, true, true, true, true, true, true, true, true, true, false, false, false, false, false, false, false, false, false, false, false, false, false, false, false, false, false, false, false, false, false, false] rfl rfl (any_of HT_.out (by kernel_rfl)) (fun _ _ _ h => h) (Or.inl ⟨by rfl, ?_⟩) ?_ ?_
                            rotate_left
                            · intro w'
                              go_simp
                              with_reducible rfl
                            rotate_left
                            · simp only [Act.put, List.setIfInBounds_toArray, List.set_cons_zero, List.set_cons_succ, i64_w, i32_w]
                              rfl
                            refine pure_ (i := 11) (N := some 48) (v := undef) (a' := ?_) #[true, true, true, true, true, true, true, true, true, true, true, true, false, false, false, false, false, false, false, false, false, false, false, false, false, false, false, false, false, false, false, false, false] rfl rfl (any_of HT_.out (by kernel_rfl)) (fun _ _ _ h => h) (Or.inr ⟨by rfl, rfl⟩) ?_ ?_
                            rotate_left
                            · simp only [Act.put, List.setIfInBounds_toArray, List.set_cons_zero, List.set_cons_succ, i64_w, i32_w]
                              rfl
                            refine pure_ (i := 12) (N := some 49) (v := undef) (a' := ?_) #[true, true, true, true, true, true, true, true, true, true, true, true, true, false, false, false, false, false, false, false, false, false, false, false, false, false, false, false, false, false, false, false, false] rfl rfl (any_of HT_.out (by kernel_rfl)) (fun _ _ _ h => h) (Or.inr ⟨by rfl, rfl⟩) ?_ ?_
                            rotate_left
                            · simp only [Act.put, List.setIfInBounds_toArray, List.set_cons_zero, List.set_cons_succ, i64_w, i32_w]
                              rfl
                            refine pure_ (i := 13) (N := some 50) (v := undef) (a' := ?_) #[true, true, true, true, true, true, true, true, true, true, true, true, true, true, false, false, false, false, false, false, false, false, false, false, false, false, false, false, false, false, false, false, false] rfl rfl (any_of HT_.out (by kernel_rfl)) (fun _ _ _ h => h) (Or.inr ⟨by rfl, rfl⟩) ?_ ?_
                            rotate_left
                            · simp only [Act.put, List.setIfInBounds_toArray, List.set_cons_zero, List.set_cons_succ, i64_w, i32_w]
                              rfl
                            refine pure_ (i := 14) (N := some 51) (v := undef) (a' := ?_) #[true, true, true, true, true, true, true, true, true, true, true, true, true, true, true, false, false, false, false, false, false, false, false, false, false, false, false, false, false, false, false, false, false] rfl rfl (any_of HT_.out (by kernel_rfl)) (fun _ _ _ h => h) (Or.inr ⟨by rfl, rfl⟩) ?_ ?_
                            rotate_left
                            · simp only [Act.put, List.setIfInBounds_toArray, List.set_cons_zero, List.set_cons_succ, i64_w, i32_w]
                              rfl
                            refine pure_ (i := 15) (N := some 52) (v := undef) (a' := ?_) #[true, true, true, true, true, true, true, true, true, true, true, true, true, true, true, true, false, false, false, false, false, false, false, false, false, false, false, false, false, false, false, false, false] rfl rfl (any_of HT_.out (by kernel_rfl)) (fun _ _ _ h => h) (Or.inr ⟨by rfl, rfl⟩) ?_ ?_
                            rotate_left
                            · simp only [Act.put, List.setIfInBounds_toArray, List.set_cons_zero, List.set_cons_succ, i64_w, i32_w]
                              rfl
                            refine pure_ (i := 16) (N := some 53) (v := undef) (a' := ?_) #[true, true, true, true, true, true, true, true, true, true, true, true, true, true, true, true, true, false, false, false, false, false, false, false, false, false, false, false, false, false, false, false, false] rfl rfl (any_of HT_.out (by kernel_rfl)) (fun _ _ _ h => h) (Or.inr ⟨by rfl, rfl⟩) ?_ ?_
                            rotate_left
                            · simp only [Act.put, List.setIfInBounds_toArray, List.set_cons_zero, List.set_cons_succ, i64_w, i32_w]
                              rfl
                            refine pure_ (i := 17) (N := some 54) (v := undef) (a' := ?_) #[true, true, true, true, true, true, true, true, true, true, true, true, true, true, true, true, true, true, false, false, false, false, false, false, false, false, false, false, false, false, false, false, false] rfl rfl (any_of HT_.out (by kernel_rfl)) (fun _ _ _ h => h) (Or.inr ⟨by rfl, rfl⟩) ?_ ?_
                            rotate_left
                            · simp only [Act.put, List.setIfInBounds_toArray, List.set_cons_zero, List.set_cons_succ, i64_w, i32_w]
                              rfl
                            refine pure_ (i := 18) (N := some 55) (v := ?_) (a' := ?_) #[true, true, true, true, true, true, true, true, true, true, true, true, true, true, true, true, true, true, true, false, false, false, false, false, false, false, false, false, false, false, false, false, false] rfl rfl (any_of HT_.out (by kernel_rfl)) (fun _ _ _ h => h) (Or.inl ⟨by rfl, ?_⟩) ?_ ?_
                            rotate_left
                            · intro w'
                              go_simp
                              with_reducible rfl
                            rotate_left
                            · simp only [Act.put, List.setIfInBounds_toArray, List.set_cons_zero, List.set_cons_succ, i64_w, i32_w]
                              rfl
                            refine pure_ (i := 19) (N := some 56) (v := ?_) (a' := ?_) #[true, true, true, true, true, true, true, true, true, true, true, true, true, true, true, true, true, true, true, true, false, false, false, false, false, false, false, false, false, false, false, false, false] rfl rfl (any_of HT_.out (by kernel_rfl)) (fun _ _ _ h => h) (Or.inl ⟨by rfl, ?_⟩) ?_ ?_
                            rotate_left
                            · intro w'
                              go_simp
                              with_reducible rfl
                            rotate_left
                            · simp only [Act.put, List.setIfInBounds_toArray, List.set_cons_zero, List.set_cons_succ, i64_w, i32_w]
                              rfl
                            refine pure_ (i := 20) (N := some 57) (v := undef) (a' := ?_) #[true, true, true, true, true, true, true, true, true, true, true, true, true, true, true, true, true, true, true, true, true, false, false, false, false, false, false, false, false, false, false, false, false] rfl rfl (any_of HT_.out (by kernel_rfl)) (fun _ _ _ h => h) (Or.inr ⟨by rfl, rfl⟩) ?_ ?_
                            rotate_left
                            · simp only [Act.put, List.setIfInBounds_toArray, List.set_cons_zero, List.set_cons_succ, i64_w, i32_w]
                              rfl
                            refine pure_ (i := 21) (N := some 58) (v := undef) (a' := ?_) #[true, true, true, true, true, true, true, true, true, true, true, true, true, true, true, true, true, true, true, true, true, true, false, false, false, false, false, false, false, false, false, false, false] rfl rfl (any_of HT_.out (by kernel_rfl)) (fun _ _ _ h => h) (Or.inr ⟨by rfl, rfl⟩) ?_ ?_
                            rotate_left
                            · simp only [Act.put, List.setIfInBounds_toArray, List.set_cons_zero, List.set_cons_succ, i64_w, i32_w]
                              rfl
                            refine pure_ (i := 22) (N := some 59) (v := undef) (a' := ?_) #[true, true, true, true, true, true, true, true, true, true, true, true, true, true, true, true, true, true, true, true, true, true, true, false, false, false, false, false, false, false, false, false, false] rfl rfl (any_of HT_.out (by kernel_rfl)) (fun _ _ _ h => h) (Or.inr ⟨by rfl, rfl⟩) ?_ ?_
                            rotate_left
                            · simp only [Act.put, List.setIfInBounds_toArray, List.set_cons_zero, List.set_cons_succ, i64_w, i32_w]
                              rfl
                            refine pure_ (i := 23) (N := some 60) (v := undef) (a' := ?_) #[true, true, true, true, true, true, true, true, true, true, true, true, true, true, true, true, true, true, true, true, true, true, true, true, false, false, false, false, false, false, false, false, false] rfl rfl (any_of HT_.out (by kernel_rfl)) (fun _ _ _ h => h) (Or.inr ⟨by rfl, rfl⟩) ?_ ?_
                            rotate_left
                            · simp only [Act.put, List.setIfInBounds_toArray, List.set_cons_zero, List.set_cons_succ, i64_w, i32_w]
                              rfl
                            refine pure_ (i := 24) (N := some 61) (v := undef) (a' := ?_) #[true, true, true, true, true, true, true, true, true, true, true, true, true, true, true, true, true, true, true, true, true, true, true, true, true, false, false, false, false, false, false, false, false] rfl rfl (any_of HT_.out (by kernel_rfl)) (fun _ _ _ h => h) (Or.inr ⟨by rfl, rfl⟩) ?_ ?_
                            rotate_left
                            · simp only [Act.put, List.setIfInBounds_toArray, List.set_cons_zero, List.set_cons_succ, i64_w, i32_w]
                              rfl
                            refine pure_ (i := 25) (N := some 62) (v := undef) (a' := ?_) #[true, true, true, true, true, true, true, true, true, true, true, true, true, true, true, true, true, true, true, true, true, true, true, true, true, true, false, false, false, false, false, false, false] rfl rfl (any_of HT_.out (by kernel_rfl)) (fun _ _ _ h => h) (Or.inr ⟨by rfl, rfl⟩) ?_ ?_
                            rotate_left
                            · simp only [Act.put, List.setIfInBounds_toArray, List.set_cons_zero, List.set_cons_succ, i64_w, i32_w]
                              rfl
                            refine pure_ (i := 26) (N := some 63) (v := undef) (a' := ?_) #[true, true, true, true, true, true, true, true, true, true, true, true, true, true, true, true, true, true, true, true, true, true, true, true, true, true, true, false, false, false, false, false, false] rfl rfl (any_of HT_.out (by kernel_rfl)) (fun _ _ _ h => h) (Or.inr ⟨by rfl, rfl⟩) ?_ ?_
                            rotate_left
                            · simp only [Act.put, List.setIfInBounds_toArray, List.set_cons_zero, List.set_cons_succ, i64_w, i32_w]
                              rfl
                            refine pure_ (i := 27) (N := some 64) (v := undef) (a' := ?_) #[true, true, true, true, true, true, true, true, true, true, true, true, true, true, true, true, true, true, true, true, true, true, true, true, true, true, true, true, false, false, false, false, false] rfl rfl (any_of HT_.out (by kernel_rfl)) (fun _ _ _ h => h) (Or.inr ⟨by rfl, rfl⟩) ?_ ?_
                            rotate_left
                            · simp only [Act.put, List.setIfInBounds_toArray, List.set_cons_zero, List.set_cons_succ, i64_w, i32_w]
                              rfl
                            refine pure_ (i := 28) (N := some 65) (v := undef) (a' := ?_) #[true, true, true, true, true, true, true, true, true, true, true, true, true, true, true, true, true, true, true, true, true, true, true, true, true, true, true, true, true, false, false, false, false] rfl rfl (any_of HT_.out (by kernel_rfl)) (fun _ _ _ h => h) (Or.inr ⟨by rfl, rfl⟩) ?_ ?_
                            rotate_left
                            · simp only [Act.put, List.setIfInBounds_toArray, List.set_cons_zero, List.set_cons_succ, i64_w, i32_w]
                              rfl
                            refine pure_ (i := 29) (N := some 66) (v := undef) (a' := ?_) #[true, true, true, true, true, true, true, true, true, true, true, true, true, true, true, true, true, true, true, true, true, true, true, true, true, true, true, true, true, true, false, false, false] rfl rfl (any_of HT_.out (by kernel_rfl)) (fun _ _ _ h => h) (Or.inr ⟨by rfl, rfl⟩) ?_ ?_
                            rotate_left
                            · simp only [Act.put, List.setIfInBounds_toArray, List.set_cons_zero, List.set_cons_succ, i64_w, i32_w]
                              rfl
                            refine pure_ (i := 30) (N := some 67) (v := undef) (a' := ?_) #[true, true, true, true, true, true, true, true, true, true, true, true, true, true, true, true, true, true, true, true, true, true, true, true, true, true, true, true, true, true, true, false, false] rfl rfl (any_of HT_.out (by kernel_rfl)) (fun _ _ _ h => h) (Or.inr ⟨by rfl, rfl⟩) ?_ ?_
                            rotate_left
                            · simp only [Act.put, List.setIfInBounds_toArray, List.set_cons_zero, List.set_cons_succ, i64_w, i32_w]
                              rfl
                            refine pure_ (i := 31) (N := some 68) (v := undef) (a' := ?_) #[true, true, true, true, true, true, true, true, true, true, true, true, true, true, true, true, true, true, true, true, true, true, true, true, true, true, true, true, true, true, true, true, false] rfl rfl (any_of HT_.out (by kernel_rfl)) (fun _ _ _ h => h) (Or.inr ⟨by rfl, rfl⟩) ?_ ?_
                            rotate_left
                            · simp only [Act.put, List.setIfInBounds_toArray, List.set_cons_zero, List.set_cons_succ, i64_w, i32_w]
                              rfl
                            refine pure_ (i := 32) (N := some 69) (v := ?_) (a' := ?_) #[true, true, true, true, true, true, true, true, true, true, true, true, true, true, true, true, true, true, true, true, true, true, true, true, true, true, true, true, true, true, true, true, true] rfl rfl (any_of HT_.out (by kernel_rfl)) (fun _ _ _ h => h) (Or.inl ⟨by rfl, ?_⟩) ?_ ?_
                            rotate_left
                            · intro w'
                              go_simp
                              with_reducible rfl
                            rotate_left
                            · simp only [Act.put, List.setIfInBounds_toArray, List.set_cons_zero, List.set_cons_succ, i64_w, i32_w]
                              rfl
                            refine done_ (done_of HT_.out (by kernel_rfl)) ?_
                            obtain ⟨Ao51, co51, eo51⟩ := Kd.N_slice HO_5.out
                            subst eo51
                            try go_wp2_with (first | ((with_reducible refine gate_builtin (b := .append) (xs := #[.tmp 89, .tmp 90]) rfl ?_); at_builtin; refine Kd.N_append_rows k43 (w0 := w) w.heap.size rfl (.tmp 89) (.tmp 90) 22 43 (.agg #[(.int .i64 0), (.int .i64 0), (.string ⟨#[]⟩), (.string ⟨#[]⟩), (.slice none 0 0)]) 72 rfl Try.underlying22 info43 rfl (by decide) (by omega) (.slice Ao12 x3_1.length co12) x3_1 t391 _ _ _ (fun k_ => (w.heap.size ≤ k_)) (fun k_ => ((fun k_ => (w.heap.size ≤ k_))) k_ ∧ some k_ ≠ (.slice Ao12 x3_1.length co12 : Value).ownBlock) rfl rfl ?aO ?aR (fun _ hk => hk) ?aF ?aB ?aS ?aL ?_; (case aR => exact (by skip; exact Kd.N_F (Kd.N_mono (ok' := (fun k_ => ((fun k_ => (w.heap.size ≤ k_))) k_ ∧ some k_ ≠ (.slice Ao12 x3_1.length co12 : Value).ownBlock)) (HO_5.out) (fun k_ hk => ⟨hk.1, hk.2⟩)))); (case aB => exact (by repeat (first | (with_reducible first | exact HB.out | apply below_alloc | apply pw_below_drewN | apply below_drew1) | exact HB.out))); (case aF => exact (fun k_ hk => (Nat.le_trans (below_size (by repeat (first | (with_reducible first | exact HB.out | apply below_alloc | apply pw_below_drewN | apply below_drew1) | exact HB.out))) hk))); (case aO => exact (by (with_reducible repeat (first | apply Kd.N_alloc | apply Kd.N_drewN | apply Kd.N_drew)); exact Kd.N_mono HO_3.out (fun _ hk => hk.1))); (case aS => exact (below_size (by repeat (first | (with_reducible first | exact HB.out | apply below_alloc | apply pw_below_drewN | apply below_drew1) | exact HB.out)))); (case aL => have := LMc48.out; omega); intro v414 w50 ho hb hg hat; rw [← Ny413.out] at ho; have n0_ := Aside0.mk (Kd.N_afterv (ok := (fun k_ => (w.heap.size ≤ k_))) (by (with_reducible repeat (first | apply Kd.N_alloc | apply Kd.N_drewN | apply Kd.N_drew)); exact HO_5.out) hg hat); have n1_ := Aside0.mk (hb); have n2_ := Aside0.mk (ho); clear HO_5; clear HB; clear HO_3; have HO_5 := n0_; have HB := n1_; have HO415 := n2_; clear n0_ n1_ n2_; clear ho hb hg hat))
                            go_roundg kj8
                            case measure => have := HK1.out; have := HJ8.out; omega
                            case rel => exact ⟨(y413), (wrap64 (x4_1 + 1)), (by first | rfl | (simp; done) | (congr 1; first | (with_reducible assumption) | (symm; with_reducible assumption)) | (simp [*]; done) | (simp only [ne_nil_empty]; done) | (rw [ne_nil_empty]; rfl)), H', ⟨by have := HK1.out; have := HJ8.out; omega⟩, ⟨by (with_reducible repeat (first | apply Kd.N_alloc | apply Kd.N_drewN | apply Kd.N_drew)); exact HO415.out⟩, ⟨by repeat (first | (with_reducible first | exact HB.out | apply below_alloc | apply pw_below_drewN | apply below_drew1) | exact HB.out)⟩⟩
                          · rw [if_neg c48] at H
                            exact absurd H (by simp)
                      · rw [if_neg c16] at H
                        exact absurd H (by simp)
                    · rw [if_neg c15] at H
                      exact absurd H (by simp)
            · rw [if_neg c7] at H
              exact absurd H (by simp)
          · rw [if_neg c6] at H
            exact absurd H (by simp)
        · rw [if_neg c5] at H
          exact absurd H (by simp)
      · rw [if_neg c4] at H
        have c4b0 : decide (x4_1 < (l0.length : Int)) = false := decide_eq_false c4
        clear c4
        obtain rfl := Option.some.inj H
        go_wp2
        go_ret
        exact ⟨_, by first | rfl | (simp [errW_none, errW_some] <;> rfl) | (simp [*, errW_none, errW_some] <;> rfl), by (with_reducible repeat (first | apply Kd.N_alloc | apply Kd.N_drewN | apply Kd.N_drew)); exact HO_3.out, by repeat (first | (with_reducible first | exact HB.out | apply below_alloc | apply pw_below_drewN | apply below_drew1) | exact HB.out)⟩

end Go.Proofs.Ytllggaogjcknoaa.QA
