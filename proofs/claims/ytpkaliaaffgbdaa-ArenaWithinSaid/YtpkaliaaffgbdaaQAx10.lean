-- Written by a program of this claim's own (wip/gen/gen.py), out of the translation; an ordinary proof text.
import Derived.Test.YtpkaliaaffgbdaaQAx0
import Derived.Test.YtpkaliaaffgbdaaQAx7
namespace Go.Proofs.Ytpkaliaaffgbdaa.QA
open Go.RowKit Go.Proofs.YtpkaliaaffgbdaaW.PrintWords Go.Proofs.YtpkaliaaffgbdaaW.PrintLast Go.Proofs.YtpkaliaaffgbdaaW.PrintMore
attribute [local go_sem] max2_int min2_int max_two min_two max_three min_three max_four min_four   -- for this text's walks alone
set_option linter.unusedVariables false
set_option linter.unusedSimpArgs false

-- NOT PRINTED: function 7 (boltinglaw11_ArenaClones)

-- NOT PRINTED: function 8 (boltinglaw11_ArenaRefuses)

/-! ### boltingref04_Join: function 35 -/
def boltingref04_Join.f (k : Nat) (l0 : List (S54)) (l1 : List (S54)) : Option ((List (S54))) := (boltingref04_Moved.f k l0 0).bind fun t314 => ((boltingref04_Moved.f k l1 0).bind fun t317 => (if t314.length + t317.length < 1954687338268 then (some (t314 ++ t317)) else (none)))
theorem boltingref04_Join.mono : ∀ a0 a1 k, LeO (boltingref04_Join.f k a0 a1) (boltingref04_Join.f (k + 1) a0 a1) := by
 intro a0 a1 k
 unfold boltingref04_Join.f
 repeat' first
   | (with_reducible exact boltingref04_Moved.mono _ _ _)
   | (with_reducible exact LeO.refl _)
   | (with_reducible exact LeO.none _)
   | (with_reducible refine LeO.ite ?_ ?_)
   | (with_reducible refine LeO.bind ?_ (fun _ => ?_))
   | exact boltingref04_Moved.mono _ _ _
   | exact LeO.none _
   | refine LeO.ite ?_ ?_
   | refine LeO.bind ?_ (fun _ => ?_)
set_option maxHeartbeats 8000000 in
set_option maxRecDepth 100000 in
theorem boltingref04_Join.calls (k : Nat) (A0 : Option Addr) (c0 : Nat) (l0 : List (S54)) (A1 : Option Addr) (c1 : Nat) (l1 : List (S54)) (r : List (S54)) (w : World) (hr0 : Kd.C k54 w A0 l0.length l0) (hc0 : l0.length ≤ c0) (hr1 : Kd.C k54 w A1 l1.length l1) (hc1 : l1.length ≤ c1) (h : boltingref04_Join.f k l0 l1 = some r) :
  Calls Try.prog 35 #[.slice A0 l0.length c0, .slice A1 l1.length c1] w fun e w' => ∃ v0_ : Value, e = .returned (v0_) ∧ Kd.N k54 54 w' w.heap.size (fun k_ => (w.heap.size ≤ k_)) v0_ r ∧ Below w.heap.size w w' := by
 have HR0 := Aside0.mk hr0
 have HC0 := Aside0.mk hc0
 clear hr0 hc0
 have HR1 := Aside0.mk hr1
 have HC1 := Aside0.mk hc1
 clear hr1 hc1
 have HB := Aside0.mk (Below.refl w.heap.size w)
 have H : ((boltingref04_Moved.f k l0 0).bind fun t314 => ((boltingref04_Moved.f k l1 0).bind fun t317 => (if t314.length + t317.length < 1954687338268 then (some (t314 ++ t317)) else (none)))) = some r := h
 clear h
 replace H := Option.bind_eq_some_iff.mp H
 obtain ⟨t314, A30, H⟩ := H
 replace H : ((boltingref04_Moved.f k l1 0).bind fun t317 => (if t314.length + t317.length < 1954687338268 then (some (t314 ++ t317)) else (none))) = some r := H
 have A3 := Aside0.mk A30
 clear A30
 replace H := Option.bind_eq_some_iff.mp H
 obtain ⟨t317, A40, H⟩ := H
 replace H : (if t314.length + t317.length < 1954687338268 then (some (t314 ++ t317)) else (none)) = some r := H
 have A4 := Aside0.mk A40
 clear A40
 by_cases c5 : t314.length + t317.length < 1954687338268
 ·rw [if_pos c5] at H
  have LMc5 := Aside0.mk c5
  clear c5
  obtain ⟨y320, hy320⟩ : ∃ y_ : List (S54), y_ = (t314 ++ t317) := ⟨_, rfl⟩
  replace H : (some y320) = some r := by first | (rw [hy320]; with_reducible exact H) | (have H2_ := (Option.bind_some _ _).symm.trans H; rw [hy320]; with_reducible exact H2_) | (have H2_ := (Option.bind_some _ _).symm.trans H; with_reducible exact H2_) | with_reducible exact H | (rw [hy320]; exact H) | exact H
  have Ny320 := Aside0.mk hy320
  clear hy320
  obtain rfl := Option.some.inj H
  go_enter Try.func35, Try.ntmps35
  go_wp2_with (first | ((with_reducible refine gate_callee (f := 65) rfl ?_); refine goesL_ (some 7) rfl rfl Try.func65 (by kernel_rfl) rfl #[.slice A0 l0.length c0, .int .i64 0] rfl (by (try simp only [List.map_toArray, List.map_cons, List.map_nil]); first | done | rfl | (simp only [List.length_drop, List.length_take]; rfl)) ?_; (with_reducible refine (boltingref04_Moved.calls k _ _ l0 0 t314 _ ?side1 ?side2 A3.out).mono ?_); (case side1 => exact aC HR0.out); (case side2 => exact HC0.out); rintro e w6 ⟨v315, rfl, ho0, hb⟩; refine ⟨_, rfl, ?_⟩; have n0_ := Aside0.mk (Kd.N_lower (Kd.N_mono (ok' := fun k_ => (w.heap.size ≤ k_)) (Kd.S_N (Kd.S_bound ho0)) (fun k_ hk_ => (Nat.le_trans (below_size (aB HB)) hk_.2.1))) (below_size (aB HB))); have n1_ := Aside0.mk (below_step (aB HB) hb); clear HB; have HO316 := n0_; have HB := n1_; clear n0_ n1_; (try clear hb); (try clear hb2); (try clear hk); (try clear hi); (try clear ho0)) | ((with_reducible refine gate_callee (f := 65) rfl ?_); refine goesL_ (some 10) rfl rfl Try.func65 (by kernel_rfl) rfl #[.slice A1 l1.length c1, .int .i64 0] rfl (by (try simp only [List.map_toArray, List.map_cons, List.map_nil]); first | done | rfl | (simp only [List.length_drop, List.length_take]; rfl)) ?_; (with_reducible refine (boltingref04_Moved.calls k _ _ l1 0 t317 _ ?side1 ?side2 A4.out).mono ?_); (case side1 => exact aC (Kd.C_below HR1.out HB.out)); (case side2 => exact HC1.out); rintro e w7 ⟨v318, rfl, ho0, hb⟩; refine ⟨_, rfl, ?_⟩; have n0_ := Aside0.mk (Kd.N_elder' (aN HO316) (aS ho0) hb); have n1_ := Aside0.mk (Kd.N_lower (Kd.N_mono (ok' := fun k_ => (w.heap.size ≤ k_) ∧ some k_ ≠ (v315 : Value).ownBlock) (Kd.S_N (Kd.S_bound ho0)) (fun k_ hk_ => ⟨(Nat.le_trans (below_size (aB HB)) hk_.2.1), (Kd.fresh' (Kd.N_lt (aN HO316)) k_ hk_.2.1)⟩)) (below_size (aB HB))); have n2_ := Aside0.mk (below_step (aB HB) hb); clear HO316; clear HB; have HO316 := n0_; have HO319 := n1_; have HB := n2_; clear n0_ n1_ n2_; (try clear hb); (try clear hb2); (try clear hk); (try clear hi); (try clear ho0); obtain ⟨Ao9, co9, eo9⟩ := Kd.N_slice HO319.out; subst eo9) | ((with_reducible refine gate_builtin (b := .append) (xs := #[.tmp 8, .tmp 10]) rfl ?_); at_builtin; refine Kd.N_append_rows k54 (w0 := w) w.heap.size rfl (.tmp 8) (.tmp 10) 23 54 (.agg #[(.int .i64 0), (.int .i64 0), (.string ⟨#[]⟩), (.string ⟨#[]⟩), (.slice none 0 0)]) 72 rfl Try.underlying23 info54 rfl (by decide) (by omega) v315 t314 t317 _ _ _ (fun k_ => (w.heap.size ≤ k_)) (fun k_ => ((fun k_ => (w.heap.size ≤ k_))) k_ ∧ some k_ ≠ (v315 : Value).ownBlock) rfl rfl ?aO ?aR (fun _ hk => hk) ?aF ?aB ?aS ?aL ?_; (case aR => exact (by skip; exact Kd.N_F (Kd.N_mono (ok' := (fun k_ => ((fun k_ => (w.heap.size ≤ k_))) k_ ∧ some k_ ≠ (v315 : Value).ownBlock)) (HO319.out) (fun k_ hk => ⟨hk.1, hk.2⟩)))); (case aB => exact (aB HB)); (case aF => exact (fun k_ hk => (Nat.le_trans (below_size (aB HB)) hk))); (case aO => exact (by (with_reducible repeat (first | apply Kd.N_alloc | apply Kd.N_drewN | apply Kd.N_drew)); exact Kd.N_mono HO316.out (fun _ hk => hk.1))); (case aS => exact (below_size (aB HB))); (case aL => have := LMc5.out; omega); intro v321 w8 ho hb hg hat; rw [← Ny320.out] at ho; have n0_ := Aside0.mk (Kd.N_afterv (ok := (fun k_ => (w.heap.size ≤ k_))) (aN HO319) hg hat); have n1_ := Aside0.mk (hb); have n2_ := Aside0.mk (ho); clear HO319; clear HB; clear HO316; have HO319 := n0_; have HB := n1_; have HO322 := n2_; clear n0_ n1_ n2_; clear ho hb hg hat))
  go_ret
  exact ⟨_, by first | rfl | (simp [errW_none, errW_some] <;> rfl) | (simp [*, errW_none, errW_some] <;> rfl), by (with_reducible repeat (first | apply Kd.N_alloc | apply Kd.N_drewN | apply Kd.N_drew)); exact HO322.out, aB HB⟩
 ·rw [if_neg c5] at H
  exact absurd H (by simp)

-- NOT PRINTED: function 9 (boltinglaw11_ArenaLoads)

/-! ### boltingref04_Parent: function 75 -/
mutual
def boltingref04_Parent.l0 : Nat → List (S54) → Int → Int → Int → Option (Int)
 | 0, _, _, _, _ => none
 | k + 1, x0, x1, x5, x6 => if x6 < x1 then (boltingref04_Parent.j1 k x0 x1 x5 x6 (decide (x1 < (x0.length : Int)))) else (boltingref04_Parent.j1 k x0 x1 x5 x6 false)
def boltingref04_Parent.j1 : Nat → List (S54) → Int → Int → Int → Bool → Option (Int)
 | 0, _, _, _, _, _ => none
 | k + 1, x0, x1, x5, x6, x15 => if x15 = true then (if 0 ≤ x6 then (if x6 < (x0.length : Int) then (if 0 ≤ x1 then (if x1 < (x0.length : Int) then (if ((rd_T54 x0 x6).f0) = (wrap64 (((rd_T54 x0 x1).f0) - 1)) then (boltingref04_Parent.l0 k x0 x1 x6 (wrap64 (x6 + 1))) else (boltingref04_Parent.l0 k x0 x1 x5 (wrap64 (x6 + 1)))) else (none)) else (none)) else (none)) else (none)) else (some x5)
end
def boltingref04_Parent.f (k : Nat) (l0 : List (S54)) (a1 : Int) : Option (Int) := boltingref04_Parent.l0 k l0 a1 (-1) 0
theorem boltingref04_Parent.mono_l : ∀ k, (∀ y0 y1 y2 y3, LeO (boltingref04_Parent.l0 k y0 y1 y2 y3) (boltingref04_Parent.l0 (k + 1) y0 y1 y2 y3)) ∧ (∀ y0 y1 y2 y3 y4, LeO (boltingref04_Parent.j1 k y0 y1 y2 y3 y4) (boltingref04_Parent.j1 (k + 1) y0 y1 y2 y3 y4))
 | 0 => ⟨fun _ _ _ _ r h => by simp [boltingref04_Parent.l0] at h, fun _ _ _ _ _ r h => by simp [boltingref04_Parent.j1] at h⟩
 | k + 1 => by
  obtain ⟨ih0, ih1⟩ := boltingref04_Parent.mono_l k
  refine ⟨?_, ?_⟩
  ·intro y0 y1 y2 y3
   unfold boltingref04_Parent.l0
   repeat' first
   | (with_reducible exact ih0 _ _ _ _)
   | (with_reducible exact ih1 _ _ _ _ _)
   | (with_reducible exact LeO.refl _)
   | (with_reducible exact LeO.none _)
   | (with_reducible refine LeO.ite ?_ ?_)
   | (with_reducible refine LeO.bind ?_ (fun _ => ?_))
   | exact ih0 _ _ _ _
   | exact ih1 _ _ _ _ _
   | exact LeO.none _
   | refine LeO.ite ?_ ?_
   | refine LeO.bind ?_ (fun _ => ?_)
  ·intro y0 y1 y2 y3 y4
   unfold boltingref04_Parent.j1
   repeat' first
   | (with_reducible exact ih0 _ _ _ _)
   | (with_reducible exact ih1 _ _ _ _ _)
   | (with_reducible exact LeO.refl _)
   | (with_reducible exact LeO.none _)
   | (with_reducible refine LeO.ite ?_ ?_)
   | (with_reducible refine LeO.bind ?_ (fun _ => ?_))
   | exact ih0 _ _ _ _
   | exact ih1 _ _ _ _ _
   | exact LeO.none _
   | refine LeO.ite ?_ ?_
   | refine LeO.bind ?_ (fun _ => ?_)
theorem boltingref04_Parent.mono : ∀ a0 a1 k, LeO (boltingref04_Parent.f k a0 a1) (boltingref04_Parent.f (k + 1) a0 a1) := by
 intro a0 a1 k
 obtain ⟨ih0, ih1⟩ := boltingref04_Parent.mono_l k
 unfold boltingref04_Parent.f
 repeat' first
   | (with_reducible exact ih0 _ _ _ _)
   | (with_reducible exact ih1 _ _ _ _ _)
   | (with_reducible exact LeO.refl _)
   | (with_reducible exact LeO.none _)
   | (with_reducible refine LeO.ite ?_ ?_)
   | (with_reducible refine LeO.bind ?_ (fun _ => ?_))
   | exact ih0 _ _ _ _
   | exact ih1 _ _ _ _ _
   | exact LeO.none _
   | refine LeO.ite ?_ ?_
   | refine LeO.bind ?_ (fun _ => ?_)
set_option maxHeartbeats 8000000 in
set_option maxRecDepth 100000 in
theorem boltingref04_Parent.calls (k : Nat) (A0 : Option Addr) (c0 : Nat) (l0 : List (S54)) (a1 : Int) (r : Int) (w : World) (hr0 : Kd.C k54 w A0 l0.length l0) (hc0 : l0.length ≤ c0) (h : boltingref04_Parent.f k l0 a1 = some r) :
  Calls Try.prog 75 #[.slice A0 l0.length c0, .int .i64 a1] w fun e w' => e = .returned (.int .i64 r) ∧ Drawn0 w w' := by
 have HR0 := Aside0.mk hr0
 have HC0 := Aside0.mk hc0
 clear hr0 hc0
 have H : (boltingref04_Parent.l0 k l0 a1 (-1) 0) = some r := h
 clear h
 have H' := Aside0.mk H
 clear H
 go_enter Try.func75, Try.ntmps75
 go_wp2
 repeat (go_quiet (fail); try go_wp2)
 go_loopg [5, 6] k (fun kq v5 v6 w' => ∃ (x5_1 : Int) (x6_1 : Int), v5 = .int .i64 x5_1 ∧ v6 = .int .i64 x6_1 ∧ Aside0 (boltingref04_Parent.l0 kq l0 a1 x5_1 x6_1 = some r) ∧ Aside0 (kq ≤ k) ∧ Drawn0 w w')
 case atStart => exact ⟨((-1)), (0), aE, aE, H', ⟨Nat.le_refl _⟩, by repeat (first | exact Drawn0.refl _ | apply Drawn0.step)⟩
 case round =>
  clear H'
  try clear p2
  obtain ⟨x5_1, x6_1, rfl, rfl, HA, HK1, ⟨m1, rfl⟩⟩ := hrel
  cases gk with
  | zero => exact absurd HA.out (by simp [boltingref04_Parent.l0])
  | succ k1 =>
   have H := HA.out
   clear HA
   simp only [boltingref04_Parent.l0] at H
   have HC3 := Aside0.mk H
   clear H
   go_upto_region 3 with (fail)
   repeat (go_quiet (fail); go_upto_region 3 with (fail))
   go_cut [15] (fun v15 wc => ∃ (kq : Nat) (x15_2 : Bool), v15 = .bool x15_2 ∧ Aside0 (boltingref04_Parent.j1 kq l0 a1 x5_1 x6_1 x15_2 = some r) ∧ Aside0 (kq ≤ k1) ∧ Drawn0 w wc)
   case first =>
    have H := HC3.out
    clear HC3
    by_cases c4 : x6_1 < a1
    ·rw [if_pos c4] at H
     have c4b0 : decide (x6_1 < a1) = true := decide_eq_true c4
     clear c4
     (first | rw [c4b0] | (simp only [i64_w, i32_w]; rw [c4b0]) | skip)
     have H' := Aside0.mk H
     clear H
     go_wp2
     repeat (go_quiet (fail); try go_wp2)
     go_meet
     case rel => exact ⟨_, (decide (a1 < (l0.length : Int))), aE, H', ⟨by have := HK1.out; first | omega | exact Nat.le_refl _⟩, by repeat (first | exact Drawn0.refl _ | apply Drawn0.step)⟩
    ·rw [if_neg c4] at H
     have c4b0 : decide (x6_1 < a1) = false := decide_eq_false c4
     clear c4
     (first | rw [c4b0] | (simp only [i64_w, i32_w]; rw [c4b0]) | skip)
     have H' := Aside0.mk H
     clear H
     go_wp2
     repeat (go_quiet (fail); try go_wp2)
     go_meet
     case rel => exact ⟨_, (false), aE, H', ⟨by have := HK1.out; first | omega | exact Nat.le_refl _⟩, by repeat (first | exact Drawn0.refl _ | apply Drawn0.step)⟩
   case rest =>
    clear HC3
    try clear p2
    try clear c4
    try clear c4b0
    try clear p2
    obtain ⟨kq, x15_2, rfl, HA, HJ2, ⟨mc2, rfl⟩⟩ := hcut
    cases kq with
    | zero => exact absurd HA.out (by simp [boltingref04_Parent.j1])
    | succ kj2 =>
     have H := HA.out
     clear HA
     simp only [boltingref04_Parent.j1] at H
     by_cases c5 : x15_2 = true
     ·subst c5
      have H1 : (if 0 ≤ x6_1 then (if x6_1 < (l0.length : Int) then (if 0 ≤ a1 then (if a1 < (l0.length : Int) then (if ((rd_T54 l0 x6_1).f0) = (wrap64 (((rd_T54 l0 a1).f0) - 1)) then (boltingref04_Parent.l0 kj2 l0 a1 x6_1 (wrap64 (x6_1 + 1))) else (boltingref04_Parent.l0 kj2 l0 a1 x5_1 (wrap64 (x6_1 + 1)))) else (none)) else (none)) else (none)) else (none)) = some r := by rw [if_pos rfl] at H; exact H
      clear H
      have H := H1
      clear H1
      by_cases c6 : 0 ≤ x6_1
      ·rw [if_pos c6] at H
       have c6b0 : decide (0 ≤ x6_1) = true := decide_eq_true c6
       clear c6
       by_cases c7 : x6_1 < (l0.length : Int)
       ·rw [if_pos c7] at H
        have c7b0 : decide (x6_1 < (l0.length : Int)) = true := decide_eq_true c7
        clear c7
        by_cases c8 : 0 ≤ a1
        ·rw [if_pos c8] at H
         have c8b0 : decide (0 ≤ a1) = true := decide_eq_true c8
         clear c8
         by_cases c9 : a1 < (l0.length : Int)
         ·rw [if_pos c9] at H
          have c9b0 : decide (a1 < (l0.length : Int)) = true := decide_eq_true c9
          clear c9
          by_cases c10 : ((rd_T54 l0 x6_1).f0) = (wrap64 (((rd_T54 l0 a1).f0) - 1))
          ·rw [if_pos c10] at H
           have c10b0 : (((rd_T54 l0 x6_1).f0) == (wrap64 (((rd_T54 l0 a1).f0) - 1))) = true := beq_iff_eq.mpr c10
           have c10b1 : (((rd_T54 l0 x6_1).f0) != (wrap64 (((rd_T54 l0 a1).f0) - 1))) = false := bne_eq_false_iff_eq.mpr c10
           clear c10
           have H' := Aside0.mk H
           clear H
           have p323 : 0 ≤ (x6_1 : Int) := of_decide_eq_true aA
           have q323 : x6_1 < (l0.length : Int) := of_decide_eq_true aA
           obtain ⟨ad323, A323_4, c323_4, e323, hx323_0, hx323_1, hx323_2, hx323_3, hx323_4, hl323_4, hi323_4⟩ := at_T54 HR0.out x6_1 p323 q323
           cases e323
           have HR323_4 := Aside0.mk hi323_4
           have HC323_4 := Aside0.mk hl323_4
           clear hi323_4 hl323_4
           replace p323 := eq_true p323
           replace q323 := eq_true q323
           have p324 : 0 ≤ (a1 : Int) := of_decide_eq_true aA
           have q324 : a1 < (l0.length : Int) := of_decide_eq_true aA
           obtain ⟨ad324, A324_4, c324_4, e324, hx324_0, hx324_1, hx324_2, hx324_3, hx324_4, hl324_4, hi324_4⟩ := at_T54 HR0.out a1 p324 q324
           obtain rfl : ad323 = ad324 := (by injection e324)
           have HR324_4 := Aside0.mk hi324_4
           have HC324_4 := Aside0.mk hl324_4
           clear hi324_4 hl324_4
           replace p324 := eq_true p324
           replace q324 := eq_true q324
           go_wp2
           repeat (go_quiet (fail); try go_wp2)
           go_roundg kj2
           case measure => have := HK1.out; have := HJ2.out; omega
           case rel => exact ⟨(x6_1), (wrap64 (x6_1 + 1)), aE, aE, H', ⟨by have := HK1.out; have := HJ2.out; omega⟩, by repeat (first | exact Drawn0.refl _ | apply Drawn0.step)⟩
          ·rw [if_neg c10] at H
           have c10b0 : (((rd_T54 l0 x6_1).f0) == (wrap64 (((rd_T54 l0 a1).f0) - 1))) = false := beq_eq_false_iff_ne.mpr c10
           have c10b1 : (((rd_T54 l0 x6_1).f0) != (wrap64 (((rd_T54 l0 a1).f0) - 1))) = true := bne_iff_ne.mpr c10
           have H' := Aside0.mk H
           clear H
           have p323 : 0 ≤ (x6_1 : Int) := of_decide_eq_true aA
           have q323 : x6_1 < (l0.length : Int) := of_decide_eq_true aA
           obtain ⟨ad323, A323_4, c323_4, e323, hx323_0, hx323_1, hx323_2, hx323_3, hx323_4, hl323_4, hi323_4⟩ := at_T54 HR0.out x6_1 p323 q323
           cases e323
           have HR323_4 := Aside0.mk hi323_4
           have HC323_4 := Aside0.mk hl323_4
           clear hi323_4 hl323_4
           replace p323 := eq_true p323
           replace q323 := eq_true q323
           have p324 : 0 ≤ (a1 : Int) := of_decide_eq_true aA
           have q324 : a1 < (l0.length : Int) := of_decide_eq_true aA
           obtain ⟨ad324, A324_4, c324_4, e324, hx324_0, hx324_1, hx324_2, hx324_3, hx324_4, hl324_4, hi324_4⟩ := at_T54 HR0.out a1 p324 q324
           obtain rfl : ad323 = ad324 := (by injection e324)
           have HR324_4 := Aside0.mk hi324_4
           have HC324_4 := Aside0.mk hl324_4
           clear hi324_4 hl324_4
           replace p324 := eq_true p324
           replace q324 := eq_true q324
           go_wp2
           repeat (go_quiet (fail); try go_wp2)
           go_roundg kj2
           case measure => have := HK1.out; have := HJ2.out; omega
           case rel => exact ⟨(x5_1), (wrap64 (x6_1 + 1)), aE, aE, H', ⟨by have := HK1.out; have := HJ2.out; omega⟩, by repeat (first | exact Drawn0.refl _ | apply Drawn0.step)⟩
         ·rw [if_neg c9] at H
          exact absurd H (by simp)
        ·rw [if_neg c8] at H
         exact absurd H (by simp)
       ·rw [if_neg c7] at H
        exact absurd H (by simp)
      ·rw [if_neg c6] at H
       exact absurd H (by simp)
     ·replace c5 := Bool.eq_false_iff.mpr c5
      subst c5
      have H1 : (some x5_1) = some r := by rw [if_neg (show ¬ (false = true) by decide)] at H; exact H
      clear H
      have H := H1
      clear H1
      obtain rfl := Option.some.inj H
      go_wp2
      repeat (go_quiet (fail); try go_wp2)
      go_ret
      exact ⟨by first | rfl | (simp; done) | (congr 1; first | (with_reducible assumption) | (symm; with_reducible assumption)) | (simp [*]; done) | (simp only [ne_nil_empty]; done) | (rw [ne_nil_empty]; rfl), by repeat (first | exact Drawn0.refl _ | apply Drawn0.step)⟩

end Go.Proofs.Ytpkaliaaffgbdaa.QA
