-- Written by a program of this claim's own (wip/gen/gen.py), out of the translation; an ordinary proof text.
import Derived.Test.YtacffcdjgjiemaaQAx0
import Derived.Test.YtacffcdjgjiemaaQAx1
import Derived.Test.YtacffcdjgjiemaaQAx3
import Derived.Test.YtacffcdjgjiemaaQAx4
namespace Go.Proofs.Ytacffcdjgjiemaa.QA
open Go.RowKit Go.Proofs.YtacffcdjgjiemaaW.PrintWords Go.Proofs.YtacffcdjgjiemaaW.PrintLast Go.Proofs.YtacffcdjgjiemaaW.PrintMore
attribute [local go_sem] max2_int min2_int max_two min_two max_three min_three max_four min_four   -- for this text's walks alone
set_option linter.unusedVariables false
set_option linter.unusedSimpArgs false

/-! ### boltinglaw05_NamesCloses: function 4 -/
mutual
def boltinglaw05_NamesCloses.l0 : Nat → ByteArray → Int → Option (Bool)
  | 0, _, _ => none
  | k + 1, x0, x3 => if x3 < 2 then ((names_Closes.f k x0).bind fun t312 => ((names_Walls.f k x0).bind fun t315 => ((boltingref05_Closes.f k x0).bind fun t318 => ((boltingref02_Equal.f k t312 t318).bind fun t321 => (if t321 = true then ((boltingref05_Walls.f k x0).bind fun t322 => ((boltingref02_Equal.f k t315 t322).bind fun t325 => (if t325 = true then ((boltingref02_Is.f k t312).bind fun t326 => (if t326 = true then ((boltingref02_Is.f k t315).bind fun t327 => (boltinglaw05_NamesCloses.j1 k x0 x3 t312 t315 (!t327))) else (boltinglaw05_NamesCloses.j1 k x0 x3 t312 t315 true))) else (boltinglaw05_NamesCloses.j1 k x0 x3 t312 t315 true)))) else (boltinglaw05_NamesCloses.j1 k x0 x3 t312 t315 true)))))) else ((boltinglaw05_fixed.f k).bind fun t311 => (some t311))
def boltinglaw05_NamesCloses.j1 : Nat → ByteArray → Int → List ByteArray → List ByteArray → Bool → Option (Bool)
  | 0, _, _, _, _, _ => none
  | k + 1, x0, x3, x4, x5, x37 => if x37 = true then (some false) else (boltinglaw05_NamesCloses.l1 k x0 x3 x4 x5 0)
def boltinglaw05_NamesCloses.l1 : Nat → ByteArray → Int → List ByteArray → List ByteArray → Int → Option (Bool)
  | 0, _, _, _, _, _ => none
  | k + 1, x0, x3, x4, x5, x6 => if x6 < (x4.length : Int) then (if 0 ≤ x6 then (boltinglaw05_NamesCloses.l1 k x0 x3 (x4.set (x6 : Int).toNat (⟨#[120]⟩ : ByteArray)) x5 (wrap64 (x6 + 1))) else (none)) else (boltinglaw05_NamesCloses.l2 k x0 x3 x5 0)
def boltinglaw05_NamesCloses.l2 : Nat → ByteArray → Int → List ByteArray → Int → Option (Bool)
  | 0, _, _, _, _ => none
  | k + 1, x0, x3, x5, x7 => if x7 < (x5.length : Int) then (if 0 ≤ x7 then (boltinglaw05_NamesCloses.l2 k x0 x3 (x5.set (x7 : Int).toNat (⟨#[120]⟩ : ByteArray)) (wrap64 (x7 + 1))) else (none)) else (boltinglaw05_NamesCloses.l0 k x0 (wrap64 (x3 + 1)))
end
def boltinglaw05_NamesCloses.f (k : Nat) (a0 : ByteArray) : Option (Bool) := boltinglaw05_NamesCloses.l0 k a0 0
theorem boltinglaw05_NamesCloses.mono_l : ∀ k, (∀ y0 y1, LeO (boltinglaw05_NamesCloses.l0 k y0 y1) (boltinglaw05_NamesCloses.l0 (k + 1) y0 y1)) ∧ (∀ y0 y1 y2 y3 y4, LeO (boltinglaw05_NamesCloses.j1 k y0 y1 y2 y3 y4) (boltinglaw05_NamesCloses.j1 (k + 1) y0 y1 y2 y3 y4)) ∧ (∀ y0 y1 y2 y3 y4, LeO (boltinglaw05_NamesCloses.l1 k y0 y1 y2 y3 y4) (boltinglaw05_NamesCloses.l1 (k + 1) y0 y1 y2 y3 y4)) ∧ (∀ y0 y1 y2 y3, LeO (boltinglaw05_NamesCloses.l2 k y0 y1 y2 y3) (boltinglaw05_NamesCloses.l2 (k + 1) y0 y1 y2 y3))
  | 0 => ⟨fun _ _ r h => by simp [boltinglaw05_NamesCloses.l0] at h, fun _ _ _ _ _ r h => by simp [boltinglaw05_NamesCloses.j1] at h, fun _ _ _ _ _ r h => by simp [boltinglaw05_NamesCloses.l1] at h, fun _ _ _ _ r h => by simp [boltinglaw05_NamesCloses.l2] at h⟩
  | k + 1 => by
    obtain ⟨ih0, ih1, ih2, ih3⟩ := boltinglaw05_NamesCloses.mono_l k
    refine ⟨?_, ?_, ?_, ?_⟩
    · intro y0 y1
      unfold boltinglaw05_NamesCloses.l0
      repeat' first
      | (with_reducible exact ih0 _ _)
      | (with_reducible exact ih1 _ _ _ _ _)
      | (with_reducible exact ih2 _ _ _ _ _)
      | (with_reducible exact ih3 _ _ _ _)
      | (with_reducible exact boltinglaw05_fixed.mono _)
      | (with_reducible exact boltingref02_Equal.mono _ _ _)
      | (with_reducible exact boltingref02_Is.mono _ _)
      | (with_reducible exact boltingref05_Closes.mono _ _)
      | (with_reducible exact boltingref05_Walls.mono _ _)
      | (with_reducible exact names_Closes.mono _ _)
      | (with_reducible exact names_Walls.mono _ _)
      | (with_reducible exact LeO.refl _)
      | (with_reducible exact LeO.none _)
      | (with_reducible refine LeO.ite ?_ ?_)
      | (with_reducible refine LeO.bind ?_ (fun _ => ?_))
      | exact ih0 _ _
      | exact ih1 _ _ _ _ _
      | exact ih2 _ _ _ _ _
      | exact ih3 _ _ _ _
      | exact boltinglaw05_fixed.mono _
      | exact boltingref02_Equal.mono _ _ _
      | exact boltingref02_Is.mono _ _
      | exact boltingref05_Closes.mono _ _
      | exact boltingref05_Walls.mono _ _
      | exact names_Closes.mono _ _
      | exact names_Walls.mono _ _
      | exact LeO.none _
      | refine LeO.ite ?_ ?_
      | refine LeO.bind ?_ (fun _ => ?_)
    · intro y0 y1 y2 y3 y4
      unfold boltinglaw05_NamesCloses.j1
      repeat' first
      | (with_reducible exact ih0 _ _)
      | (with_reducible exact ih1 _ _ _ _ _)
      | (with_reducible exact ih2 _ _ _ _ _)
      | (with_reducible exact ih3 _ _ _ _)
      | (with_reducible exact boltinglaw05_fixed.mono _)
      | (with_reducible exact boltingref02_Equal.mono _ _ _)
      | (with_reducible exact boltingref02_Is.mono _ _)
      | (with_reducible exact boltingref05_Closes.mono _ _)
      | (with_reducible exact boltingref05_Walls.mono _ _)
      | (with_reducible exact names_Closes.mono _ _)
      | (with_reducible exact names_Walls.mono _ _)
      | (with_reducible exact LeO.refl _)
      | (with_reducible exact LeO.none _)
      | (with_reducible refine LeO.ite ?_ ?_)
      | (with_reducible refine LeO.bind ?_ (fun _ => ?_))
      | exact ih0 _ _
      | exact ih1 _ _ _ _ _
      | exact ih2 _ _ _ _ _
      | exact ih3 _ _ _ _
      | exact boltinglaw05_fixed.mono _
      | exact boltingref02_Equal.mono _ _ _
      | exact boltingref02_Is.mono _ _
      | exact boltingref05_Closes.mono _ _
      | exact boltingref05_Walls.mono _ _
      | exact names_Closes.mono _ _
      | exact names_Walls.mono _ _
      | exact LeO.none _
      | refine LeO.ite ?_ ?_
      | refine LeO.bind ?_ (fun _ => ?_)
    · intro y0 y1 y2 y3 y4
      unfold boltinglaw05_NamesCloses.l1
      repeat' first
      | (with_reducible exact ih0 _ _)
      | (with_reducible exact ih1 _ _ _ _ _)
      | (with_reducible exact ih2 _ _ _ _ _)
      | (with_reducible exact ih3 _ _ _ _)
      | (with_reducible exact boltinglaw05_fixed.mono _)
      | (with_reducible exact boltingref02_Equal.mono _ _ _)
      | (with_reducible exact boltingref02_Is.mono _ _)
      | (with_reducible exact boltingref05_Closes.mono _ _)
      | (with_reducible exact boltingref05_Walls.mono _ _)
      | (with_reducible exact names_Closes.mono _ _)
      | (with_reducible exact names_Walls.mono _ _)
      | (with_reducible exact LeO.refl _)
      | (with_reducible exact LeO.none _)
      | (with_reducible refine LeO.ite ?_ ?_)
      | (with_reducible refine LeO.bind ?_ (fun _ => ?_))
      | exact ih0 _ _
      | exact ih1 _ _ _ _ _
      | exact ih2 _ _ _ _ _
      | exact ih3 _ _ _ _
      | exact boltinglaw05_fixed.mono _
      | exact boltingref02_Equal.mono _ _ _
      | exact boltingref02_Is.mono _ _
      | exact boltingref05_Closes.mono _ _
      | exact boltingref05_Walls.mono _ _
      | exact names_Closes.mono _ _
      | exact names_Walls.mono _ _
      | exact LeO.none _
      | refine LeO.ite ?_ ?_
      | refine LeO.bind ?_ (fun _ => ?_)
    · intro y0 y1 y2 y3
      unfold boltinglaw05_NamesCloses.l2
      repeat' first
      | (with_reducible exact ih0 _ _)
      | (with_reducible exact ih1 _ _ _ _ _)
      | (with_reducible exact ih2 _ _ _ _ _)
      | (with_reducible exact ih3 _ _ _ _)
      | (with_reducible exact boltinglaw05_fixed.mono _)
      | (with_reducible exact boltingref02_Equal.mono _ _ _)
      | (with_reducible exact boltingref02_Is.mono _ _)
      | (with_reducible exact boltingref05_Closes.mono _ _)
      | (with_reducible exact boltingref05_Walls.mono _ _)
      | (with_reducible exact names_Closes.mono _ _)
      | (with_reducible exact names_Walls.mono _ _)
      | (with_reducible exact LeO.refl _)
      | (with_reducible exact LeO.none _)
      | (with_reducible refine LeO.ite ?_ ?_)
      | (with_reducible refine LeO.bind ?_ (fun _ => ?_))
      | exact ih0 _ _
      | exact ih1 _ _ _ _ _
      | exact ih2 _ _ _ _ _
      | exact ih3 _ _ _ _
      | exact boltinglaw05_fixed.mono _
      | exact boltingref02_Equal.mono _ _ _
      | exact boltingref02_Is.mono _ _
      | exact boltingref05_Closes.mono _ _
      | exact boltingref05_Walls.mono _ _
      | exact names_Closes.mono _ _
      | exact names_Walls.mono _ _
      | exact LeO.none _
      | refine LeO.ite ?_ ?_
      | refine LeO.bind ?_ (fun _ => ?_)
theorem boltinglaw05_NamesCloses.mono : ∀ a0 k, LeO (boltinglaw05_NamesCloses.f k a0) (boltinglaw05_NamesCloses.f (k + 1) a0) := by
  intro a0 k
  obtain ⟨ih0, ih1, ih2, ih3⟩ := boltinglaw05_NamesCloses.mono_l k
  unfold boltinglaw05_NamesCloses.f
  repeat' first
      | (with_reducible exact ih0 _ _)
      | (with_reducible exact ih1 _ _ _ _ _)
      | (with_reducible exact ih2 _ _ _ _ _)
      | (with_reducible exact ih3 _ _ _ _)
      | (with_reducible exact boltinglaw05_fixed.mono _)
      | (with_reducible exact boltingref02_Equal.mono _ _ _)
      | (with_reducible exact boltingref02_Is.mono _ _)
      | (with_reducible exact boltingref05_Closes.mono _ _)
      | (with_reducible exact boltingref05_Walls.mono _ _)
      | (with_reducible exact names_Closes.mono _ _)
      | (with_reducible exact names_Walls.mono _ _)
      | (with_reducible exact LeO.refl _)
      | (with_reducible exact LeO.none _)
      | (with_reducible refine LeO.ite ?_ ?_)
      | (with_reducible refine LeO.bind ?_ (fun _ => ?_))
      | exact ih0 _ _
      | exact ih1 _ _ _ _ _
      | exact ih2 _ _ _ _ _
      | exact ih3 _ _ _ _
      | exact boltinglaw05_fixed.mono _
      | exact boltingref02_Equal.mono _ _ _
      | exact boltingref02_Is.mono _ _
      | exact boltingref05_Closes.mono _ _
      | exact boltingref05_Walls.mono _ _
      | exact names_Closes.mono _ _
      | exact names_Walls.mono _ _
      | exact LeO.none _
      | refine LeO.ite ?_ ?_
      | refine LeO.bind ?_ (fun _ => ?_)
set_option maxHeartbeats 8000000 in
set_option maxRecDepth 100000 in
theorem boltinglaw05_NamesCloses.calls (k : Nat) (a0 : ByteArray) (r : Bool) (w : World) (h : boltinglaw05_NamesCloses.f k a0 = some r) :
    Calls Try.prog 4 #[.string a0] w fun e w' => e = .returned (.bool r) ∧ Below w.heap.size w w' := by
  have HB := Aside0.mk (Below.refl w.heap.size w)
  have H : (boltinglaw05_NamesCloses.l0 k a0 0) = some r := h
  clear h
  have H' := Aside0.mk H
  clear H
  go_enter Try.func4, Try.ntmps4
  go_wp2
  go_loopg [3] k (fun kq v3 w' => ∃ (x3_1 : Int), v3 = .int .i64 x3_1 ∧ Aside0 (boltinglaw05_NamesCloses.l0 kq a0 x3_1 = some r) ∧ Aside0 (kq ≤ k) ∧ Aside0 (Below w.heap.size w w'))
  case atStart => exact ⟨(0), (by first | rfl | (simp; done) | (congr 1; first | (with_reducible assumption) | (symm; with_reducible assumption)) | (simp [*]; done) | (simp only [ne_nil_empty]; done) | (rw [ne_nil_empty]; rfl)), H', ⟨Nat.le_refl _⟩, ⟨by repeat (first | (with_reducible first | exact HB.out | apply below_alloc | apply pw_below_drewN | apply below_drew1) | exact HB.out)⟩⟩
  case round =>
    clear H'
    obtain ⟨x3_1, rfl, HA, HK1, HB⟩ := hrel
    cases gk with
    | zero => exact absurd HA.out (by simp [boltinglaw05_NamesCloses.l0])
    | succ k1 =>
      have H := HA.out
      clear HA
      simp only [boltinglaw05_NamesCloses.l0] at H
      by_cases c2 : x3_1 < 2
      · rw [if_pos c2] at H
        have c2b0 : decide (x3_1 < 2) = true := decide_eq_true c2
        clear c2
        replace H := Option.bind_eq_some_iff.mp H
        obtain ⟨t312, A30, H⟩ := H
        replace H : ((names_Walls.f k1 a0).bind fun t315 => ((boltingref05_Closes.f k1 a0).bind fun t318 => ((boltingref02_Equal.f k1 t312 t318).bind fun t321 => (if t321 = true then ((boltingref05_Walls.f k1 a0).bind fun t322 => ((boltingref02_Equal.f k1 t315 t322).bind fun t325 => (if t325 = true then ((boltingref02_Is.f k1 t312).bind fun t326 => (if t326 = true then ((boltingref02_Is.f k1 t315).bind fun t327 => (boltinglaw05_NamesCloses.j1 k1 a0 x3_1 t312 t315 (!t327))) else (boltinglaw05_NamesCloses.j1 k1 a0 x3_1 t312 t315 true))) else (boltinglaw05_NamesCloses.j1 k1 a0 x3_1 t312 t315 true)))) else (boltinglaw05_NamesCloses.j1 k1 a0 x3_1 t312 t315 true))))) = some r := H
        have A3 := Aside0.mk A30
        clear A30
        replace H := Option.bind_eq_some_iff.mp H
        obtain ⟨t315, A40, H⟩ := H
        replace H : ((boltingref05_Closes.f k1 a0).bind fun t318 => ((boltingref02_Equal.f k1 t312 t318).bind fun t321 => (if t321 = true then ((boltingref05_Walls.f k1 a0).bind fun t322 => ((boltingref02_Equal.f k1 t315 t322).bind fun t325 => (if t325 = true then ((boltingref02_Is.f k1 t312).bind fun t326 => (if t326 = true then ((boltingref02_Is.f k1 t315).bind fun t327 => (boltinglaw05_NamesCloses.j1 k1 a0 x3_1 t312 t315 (!t327))) else (boltinglaw05_NamesCloses.j1 k1 a0 x3_1 t312 t315 true))) else (boltinglaw05_NamesCloses.j1 k1 a0 x3_1 t312 t315 true)))) else (boltinglaw05_NamesCloses.j1 k1 a0 x3_1 t312 t315 true)))) = some r := H
        have A4 := Aside0.mk A40
        clear A40
        have HC5 := Aside0.mk H
        clear H
        go_upto_region 5 with (first | ((with_reducible refine gate_callee (f := 22) rfl ?_); refine goesL_ (some 13) rfl rfl Try.func22 (by kernel_rfl) rfl #[.string a0] rfl (by (try simp only [List.map_toArray, List.map_cons, List.map_nil]); first | done | rfl | (simp only [List.length_drop, List.length_take]; rfl)) ?_; (with_reducible refine (names_Closes.calls k1 a0 t312 _ A3.out).mono ?_); rintro e w6 ⟨v313, rfl, ho0, hb⟩; refine ⟨_, rfl, ?_⟩; have n0_ := Aside0.mk (Kd.R_lower ho0 (below_size (by repeat (first | (with_reducible first | exact HB.out | apply below_alloc | apply pw_below_drewN | apply below_drew1) | exact HB.out)))); have n1_ := Aside0.mk (below_step (by repeat (first | (with_reducible first | exact HB.out | apply below_alloc | apply pw_below_drewN | apply below_drew1) | exact HB.out)) hb); clear HB; have HO314 := n0_; have HB := n1_; clear n0_ n1_; (try clear hb); (try clear hb2); (try clear hk); (try clear hi); (try clear ho0)) | ((with_reducible refine gate_callee (f := 23) rfl ?_); refine goesL_ (some 15) rfl rfl Try.func23 (by kernel_rfl) rfl #[.string a0] rfl (by (try simp only [List.map_toArray, List.map_cons, List.map_nil]); first | done | rfl | (simp only [List.length_drop, List.length_take]; rfl)) ?_; (with_reducible refine (names_Walls.calls k1 a0 t315 _ A4.out).mono ?_); rintro e w7 ⟨v316, rfl, ho0, hb⟩; refine ⟨_, rfl, ?_⟩; have n0_ := Aside0.mk (Kd.R_elder' (by (with_reducible repeat (first | apply Kd.R_alloc | apply Kd.R_drewN | apply Kd.R_drew)); exact HO314.out) (Kd.R_base ho0) hb); have n1_ := Aside0.mk (Kd.R_lower (Kd.R_new' ho0 (Kd.R_lt (by (with_reducible repeat (first | apply Kd.R_alloc | apply Kd.R_drewN | apply Kd.R_drew)); exact HO314.out))) (below_size (by repeat (first | (with_reducible first | exact HB.out | apply below_alloc | apply pw_below_drewN | apply below_drew1) | exact HB.out)))); have n2_ := Aside0.mk (below_step (by repeat (first | (with_reducible first | exact HB.out | apply below_alloc | apply pw_below_drewN | apply below_drew1) | exact HB.out)) hb); clear HO314; clear HB; have HO314 := n0_; have HO317 := n1_; have HB := n2_; clear n0_ n1_ n2_; (try clear hb); (try clear hb2); (try clear hk); (try clear hi); (try clear ho0)))
        (try simp only [Act.put, List.setIfInBounds_toArray, List.set_cons_zero, List.set_cons_succ])
        go_cut [37] (fun v37 wc => ∃ (kq : Nat) (x37_4 : Bool), v37 = .bool x37_4 ∧ Aside0 (boltinglaw05_NamesCloses.j1 kq a0 x3_1 t312 t315 x37_4 = some r) ∧ Aside0 (kq ≤ k1) ∧ Aside0 (Kd.R Kd.string 9 wc w.heap.size (fun k_ => some k_ ≠ (v316 : Value).ownBlock) v313 t312) ∧ Aside0 (Kd.R Kd.string 9 wc w.heap.size (fun k_ => some k_ ≠ (v313 : Value).ownBlock) v316 t315) ∧ Aside0 (Below w.heap.size w wc))
        case first =>
          have H := HC5.out
          clear HC5
          replace H := Option.bind_eq_some_iff.mp H
          obtain ⟨t318, A80, H⟩ := H
          replace H : ((boltingref02_Equal.f k1 t312 t318).bind fun t321 => (if t321 = true then ((boltingref05_Walls.f k1 a0).bind fun t322 => ((boltingref02_Equal.f k1 t315 t322).bind fun t325 => (if t325 = true then ((boltingref02_Is.f k1 t312).bind fun t326 => (if t326 = true then ((boltingref02_Is.f k1 t315).bind fun t327 => (boltinglaw05_NamesCloses.j1 k1 a0 x3_1 t312 t315 (!t327))) else (boltinglaw05_NamesCloses.j1 k1 a0 x3_1 t312 t315 true))) else (boltinglaw05_NamesCloses.j1 k1 a0 x3_1 t312 t315 true)))) else (boltinglaw05_NamesCloses.j1 k1 a0 x3_1 t312 t315 true))) = some r := H
          have A8 := Aside0.mk A80
          clear A80
          replace H := Option.bind_eq_some_iff.mp H
          obtain ⟨t321, A90, H⟩ := H
          replace H : (if t321 = true then ((boltingref05_Walls.f k1 a0).bind fun t322 => ((boltingref02_Equal.f k1 t315 t322).bind fun t325 => (if t325 = true then ((boltingref02_Is.f k1 t312).bind fun t326 => (if t326 = true then ((boltingref02_Is.f k1 t315).bind fun t327 => (boltinglaw05_NamesCloses.j1 k1 a0 x3_1 t312 t315 (!t327))) else (boltinglaw05_NamesCloses.j1 k1 a0 x3_1 t312 t315 true))) else (boltinglaw05_NamesCloses.j1 k1 a0 x3_1 t312 t315 true)))) else (boltinglaw05_NamesCloses.j1 k1 a0 x3_1 t312 t315 true)) = some r := H
          have A9 := Aside0.mk A90
          clear A90
          by_cases c10 : t321 = true
          · subst c10
            have H1 : ((boltingref05_Walls.f k1 a0).bind fun t322 => ((boltingref02_Equal.f k1 t315 t322).bind fun t325 => (if t325 = true then ((boltingref02_Is.f k1 t312).bind fun t326 => (if t326 = true then ((boltingref02_Is.f k1 t315).bind fun t327 => (boltinglaw05_NamesCloses.j1 k1 a0 x3_1 t312 t315 (!t327))) else (boltinglaw05_NamesCloses.j1 k1 a0 x3_1 t312 t315 true))) else (boltinglaw05_NamesCloses.j1 k1 a0 x3_1 t312 t315 true)))) = some r := by rw [if_pos rfl] at H; exact H
            clear H
            have H := H1
            clear H1
            replace H := Option.bind_eq_some_iff.mp H
            obtain ⟨t322, A110, H⟩ := H
            replace H : ((boltingref02_Equal.f k1 t315 t322).bind fun t325 => (if t325 = true then ((boltingref02_Is.f k1 t312).bind fun t326 => (if t326 = true then ((boltingref02_Is.f k1 t315).bind fun t327 => (boltinglaw05_NamesCloses.j1 k1 a0 x3_1 t312 t315 (!t327))) else (boltinglaw05_NamesCloses.j1 k1 a0 x3_1 t312 t315 true))) else (boltinglaw05_NamesCloses.j1 k1 a0 x3_1 t312 t315 true))) = some r := H
            have A11 := Aside0.mk A110
            clear A110
            replace H := Option.bind_eq_some_iff.mp H
            obtain ⟨t325, A120, H⟩ := H
            replace H : (if t325 = true then ((boltingref02_Is.f k1 t312).bind fun t326 => (if t326 = true then ((boltingref02_Is.f k1 t315).bind fun t327 => (boltinglaw05_NamesCloses.j1 k1 a0 x3_1 t312 t315 (!t327))) else (boltinglaw05_NamesCloses.j1 k1 a0 x3_1 t312 t315 true))) else (boltinglaw05_NamesCloses.j1 k1 a0 x3_1 t312 t315 true)) = some r := H
            have A12 := Aside0.mk A120
            clear A120
            by_cases c13 : t325 = true
            · subst c13
              have H1 : ((boltingref02_Is.f k1 t312).bind fun t326 => (if t326 = true then ((boltingref02_Is.f k1 t315).bind fun t327 => (boltinglaw05_NamesCloses.j1 k1 a0 x3_1 t312 t315 (!t327))) else (boltinglaw05_NamesCloses.j1 k1 a0 x3_1 t312 t315 true))) = some r := by rw [if_pos rfl] at H; exact H
              clear H
              have H := H1
              clear H1
              replace H := Option.bind_eq_some_iff.mp H
              obtain ⟨t326, A140, H⟩ := H
              replace H : (if t326 = true then ((boltingref02_Is.f k1 t315).bind fun t327 => (boltinglaw05_NamesCloses.j1 k1 a0 x3_1 t312 t315 (!t327))) else (boltinglaw05_NamesCloses.j1 k1 a0 x3_1 t312 t315 true)) = some r := H
              have A14 := Aside0.mk A140
              clear A140
              by_cases c15 : t326 = true
              · subst c15
                have H1 : ((boltingref02_Is.f k1 t315).bind fun t327 => (boltinglaw05_NamesCloses.j1 k1 a0 x3_1 t312 t315 (!t327))) = some r := by rw [if_pos rfl] at H; exact H
                clear H
                have H := H1
                clear H1
                replace H := Option.bind_eq_some_iff.mp H
                obtain ⟨t327, A160, H⟩ := H
                replace H : (boltinglaw05_NamesCloses.j1 k1 a0 x3_1 t312 t315 (!t327)) = some r := H
                have A16 := Aside0.mk A160
                clear A160
                have H' := Aside0.mk H
                clear H
                go_wp2_with (first | ((with_reducible refine gate_callee (f := 25) rfl ?_); refine goesL_ (some 18) rfl rfl Try.func25 (by kernel_rfl) rfl #[.string a0] rfl (by (try simp only [List.map_toArray, List.map_cons, List.map_nil]); first | done | rfl | (simp only [List.length_drop, List.length_take]; rfl)) ?_; (with_reducible refine (boltingref05_Closes.calls k1 a0 t318 _ A8.out).mono ?_); rintro e w17 ⟨v319, rfl, ho0, hb⟩; refine ⟨_, rfl, ?_⟩; have n0_ := Aside0.mk (Kd.R_elder' (by (with_reducible repeat (first | apply Kd.R_alloc | apply Kd.R_drewN | apply Kd.R_drew)); exact HO314.out) (Kd.R_base ho0) hb); have n1_ := Aside0.mk (Kd.R_elder' (by (with_reducible repeat (first | apply Kd.R_alloc | apply Kd.R_drewN | apply Kd.R_drew)); exact HO317.out) (Kd.R_base ho0) hb); have n2_ := Aside0.mk (Kd.R_lower (Kd.R_new' (Kd.R_new' ho0 (Kd.R_lt (by (with_reducible repeat (first | apply Kd.R_alloc | apply Kd.R_drewN | apply Kd.R_drew)); exact HO314.out))) (Kd.R_lt (by (with_reducible repeat (first | apply Kd.R_alloc | apply Kd.R_drewN | apply Kd.R_drew)); exact HO317.out))) (below_size (by repeat (first | (with_reducible first | exact HB.out | apply below_alloc | apply pw_below_drewN | apply below_drew1) | exact HB.out)))); have n3_ := Aside0.mk (below_step (by repeat (first | (with_reducible first | exact HB.out | apply below_alloc | apply pw_below_drewN | apply below_drew1) | exact HB.out)) hb); clear HO314; clear HO317; clear HB; have HO314 := n0_; have HO317 := n1_; have HO320 := n2_; have HB := n3_; clear n0_ n1_ n2_ n3_; (try clear hb); (try clear hb2); (try clear hk); (try clear hi); (try clear ho0); obtain ⟨Ao18, co18, eo18⟩ := Kd.R_slice HO314.out; subst eo18; obtain ⟨Ao19, co19, eo19⟩ := Kd.R_slice HO320.out; subst eo19) | ((with_reducible refine gate_callee (f := 24) rfl ?_); refine goesL_ (some 19) rfl rfl Try.func24 (by kernel_rfl) rfl #[.slice Ao18 t312.length co18, .slice Ao19 t318.length co19] rfl (by (try simp only [List.map_toArray, List.map_cons, List.map_nil]); first | done | rfl | (simp only [List.length_drop, List.length_take]; rfl)) ?_; (with_reducible refine (boltingref02_Equal.calls k1 _ _ t312 _ _ t318 true _ ?side1 ?side2 ?side3 ?side4 A9.out).mono ?_); (case side1 => repeat (first | exact (Kd.R_reads' HO314.out).2.2 | (with_reducible refine Kd.C_alloc ?_ _) | (with_reducible refine Kd.C_drewN ?_ _) | (with_reducible refine Kd.C_drew ?_))); (case side2 => exact (Kd.R_reads' HO314.out).2.1); (case side3 => repeat (first | exact (Kd.R_reads' HO320.out).2.2 | (with_reducible refine Kd.C_alloc ?_ _) | (with_reducible refine Kd.C_drewN ?_ _) | (with_reducible refine Kd.C_drew ?_))); (case side4 => exact (Kd.R_reads' HO320.out).2.1); rintro e w' ⟨rfl, ⟨nd, rfl⟩⟩; refine ⟨_, rfl, ?_⟩) | (go_at_call 26; (with_reducible refine (boltingref05_Walls.calls k1 a0 t322 _ A11.out).mono ?_); rintro e w20 ⟨v323, rfl, ho0, hb⟩; have n0_ := Aside0.mk (Kd.R_elder' (by (with_reducible repeat (first | apply Kd.R_alloc | apply Kd.R_drewN | apply Kd.R_drew)); exact HO314.out) (Kd.R_base ho0) hb); have n1_ := Aside0.mk (Kd.R_elder' (by (with_reducible repeat (first | apply Kd.R_alloc | apply Kd.R_drewN | apply Kd.R_drew)); exact HO317.out) (Kd.R_base ho0) hb); have n2_ := Aside0.mk (Kd.R_elder' (by (with_reducible repeat (first | apply Kd.R_alloc | apply Kd.R_drewN | apply Kd.R_drew)); exact HO320.out) (Kd.R_base ho0) hb); have n3_ := Aside0.mk (Kd.R_lower (Kd.R_new' (Kd.R_new' (Kd.R_new' ho0 (Kd.R_lt (by (with_reducible repeat (first | apply Kd.R_alloc | apply Kd.R_drewN | apply Kd.R_drew)); exact HO314.out))) (Kd.R_lt (by (with_reducible repeat (first | apply Kd.R_alloc | apply Kd.R_drewN | apply Kd.R_drew)); exact HO317.out))) (Kd.R_lt (by (with_reducible repeat (first | apply Kd.R_alloc | apply Kd.R_drewN | apply Kd.R_drew)); exact HO320.out))) (below_size (by repeat (first | (with_reducible first | exact HB.out | apply below_alloc | apply pw_below_drewN | apply below_drew1) | exact HB.out)))); have n4_ := Aside0.mk (below_step (by repeat (first | (with_reducible first | exact HB.out | apply below_alloc | apply pw_below_drewN | apply below_drew1) | exact HB.out)) hb); clear HO314; clear HO317; clear HO320; clear HB; have HO314 := n0_; have HO317 := n1_; have HO320 := n2_; have HO324 := n3_; have HB := n4_; clear n0_ n1_ n2_ n3_ n4_; (try clear hb); (try clear hb2); (try clear hk); (try clear hi); (try clear ho0); obtain ⟨Ao21, co21, eo21⟩ := Kd.R_slice HO317.out; subst eo21; obtain ⟨Ao22, co22, eo22⟩ := Kd.R_slice HO324.out; subst eo22) | (go_at_call 24; (with_reducible refine (boltingref02_Equal.calls k1 _ _ t315 _ _ t322 true _ ?side1 ?side2 ?side3 ?side4 A12.out).mono ?_); (case side1 => repeat (first | exact (Kd.R_reads' HO317.out).2.2 | (with_reducible refine Kd.C_alloc ?_ _) | (with_reducible refine Kd.C_drewN ?_ _) | (with_reducible refine Kd.C_drew ?_))); (case side2 => exact (Kd.R_reads' HO317.out).2.1); (case side3 => repeat (first | exact (Kd.R_reads' HO324.out).2.2 | (with_reducible refine Kd.C_alloc ?_ _) | (with_reducible refine Kd.C_drewN ?_ _) | (with_reducible refine Kd.C_drew ?_))); (case side4 => exact (Kd.R_reads' HO324.out).2.1); rintro e w' ⟨rfl, ⟨nd, rfl⟩⟩) | (go_at_call 27; (with_reducible refine (boltingref02_Is.calls k1 _ _ t312 true _ ?side1 ?side2 A14.out).mono ?_); (case side1 => repeat (first | exact (Kd.R_reads' HO314.out).2.2 | (with_reducible refine Kd.C_alloc ?_ _) | (with_reducible refine Kd.C_drewN ?_ _) | (with_reducible refine Kd.C_drew ?_))); (case side2 => exact (Kd.R_reads' HO314.out).2.1); rintro e w' ⟨rfl, ⟨nd, rfl⟩⟩) | (go_at_call 27; (with_reducible refine (boltingref02_Is.calls k1 _ _ t315 t327 _ ?side1 ?side2 A16.out).mono ?_); (case side1 => repeat (first | exact (Kd.R_reads' HO317.out).2.2 | (with_reducible refine Kd.C_alloc ?_ _) | (with_reducible refine Kd.C_drewN ?_ _) | (with_reducible refine Kd.C_drew ?_))); (case side2 => exact (Kd.R_reads' HO317.out).2.1); rintro e w' ⟨rfl, ⟨nd, rfl⟩⟩))
                go_meet
                case rel => exact ⟨_, (!t327), (by first | rfl | (simp; done) | (congr 1; first | (with_reducible assumption) | (symm; with_reducible assumption)) | (simp [*]; done) | (simp only [ne_nil_empty]; done) | (rw [ne_nil_empty]; rfl)), H', ⟨by have := HK1.out; first | omega | exact Nat.le_refl _⟩, ⟨by (with_reducible repeat (first | apply Kd.R_alloc | apply Kd.R_drewN | apply Kd.R_drew)); exact Kd.R_mono HO314.out (fun _ hk => hk.1.1.2)⟩, ⟨by (with_reducible repeat (first | apply Kd.R_alloc | apply Kd.R_drewN | apply Kd.R_drew)); exact Kd.R_mono HO317.out (fun _ hk => hk.1.1.2)⟩, ⟨by repeat (first | (with_reducible first | exact HB.out | apply below_alloc | apply pw_below_drewN | apply below_drew1) | exact HB.out)⟩⟩
              · replace c15 := Bool.eq_false_iff.mpr c15
                subst c15
                have H1 : (boltinglaw05_NamesCloses.j1 k1 a0 x3_1 t312 t315 true) = some r := by rw [if_neg (show ¬ (false = true) by decide)] at H; exact H
                clear H
                have H := H1
                clear H1
                have H' := Aside0.mk H
                clear H
                go_wp2_with (first | ((with_reducible refine gate_callee (f := 25) rfl ?_); refine goesL_ (some 18) rfl rfl Try.func25 (by kernel_rfl) rfl #[.string a0] rfl (by (try simp only [List.map_toArray, List.map_cons, List.map_nil]); first | done | rfl | (simp only [List.length_drop, List.length_take]; rfl)) ?_; (with_reducible refine (boltingref05_Closes.calls k1 a0 t318 _ A8.out).mono ?_); rintro e w23 ⟨v319, rfl, ho0, hb⟩; refine ⟨_, rfl, ?_⟩; have n0_ := Aside0.mk (Kd.R_elder' (by (with_reducible repeat (first | apply Kd.R_alloc | apply Kd.R_drewN | apply Kd.R_drew)); exact HO314.out) (Kd.R_base ho0) hb); have n1_ := Aside0.mk (Kd.R_elder' (by (with_reducible repeat (first | apply Kd.R_alloc | apply Kd.R_drewN | apply Kd.R_drew)); exact HO317.out) (Kd.R_base ho0) hb); have n2_ := Aside0.mk (Kd.R_lower (Kd.R_new' (Kd.R_new' ho0 (Kd.R_lt (by (with_reducible repeat (first | apply Kd.R_alloc | apply Kd.R_drewN | apply Kd.R_drew)); exact HO314.out))) (Kd.R_lt (by (with_reducible repeat (first | apply Kd.R_alloc | apply Kd.R_drewN | apply Kd.R_drew)); exact HO317.out))) (below_size (by repeat (first | (with_reducible first | exact HB.out | apply below_alloc | apply pw_below_drewN | apply below_drew1) | exact HB.out)))); have n3_ := Aside0.mk (below_step (by repeat (first | (with_reducible first | exact HB.out | apply below_alloc | apply pw_below_drewN | apply below_drew1) | exact HB.out)) hb); clear HO314; clear HO317; clear HB; have HO314 := n0_; have HO317 := n1_; have HO320 := n2_; have HB := n3_; clear n0_ n1_ n2_ n3_; (try clear hb); (try clear hb2); (try clear hk); (try clear hi); (try clear ho0); obtain ⟨Ao24, co24, eo24⟩ := Kd.R_slice HO314.out; subst eo24; obtain ⟨Ao25, co25, eo25⟩ := Kd.R_slice HO320.out; subst eo25) | ((with_reducible refine gate_callee (f := 24) rfl ?_); refine goesL_ (some 19) rfl rfl Try.func24 (by kernel_rfl) rfl #[.slice Ao24 t312.length co24, .slice Ao25 t318.length co25] rfl (by (try simp only [List.map_toArray, List.map_cons, List.map_nil]); first | done | rfl | (simp only [List.length_drop, List.length_take]; rfl)) ?_; (with_reducible refine (boltingref02_Equal.calls k1 _ _ t312 _ _ t318 true _ ?side1 ?side2 ?side3 ?side4 A9.out).mono ?_); (case side1 => repeat (first | exact (Kd.R_reads' HO314.out).2.2 | (with_reducible refine Kd.C_alloc ?_ _) | (with_reducible refine Kd.C_drewN ?_ _) | (with_reducible refine Kd.C_drew ?_))); (case side2 => exact (Kd.R_reads' HO314.out).2.1); (case side3 => repeat (first | exact (Kd.R_reads' HO320.out).2.2 | (with_reducible refine Kd.C_alloc ?_ _) | (with_reducible refine Kd.C_drewN ?_ _) | (with_reducible refine Kd.C_drew ?_))); (case side4 => exact (Kd.R_reads' HO320.out).2.1); rintro e w' ⟨rfl, ⟨nd, rfl⟩⟩; refine ⟨_, rfl, ?_⟩) | (go_at_call 26; (with_reducible refine (boltingref05_Walls.calls k1 a0 t322 _ A11.out).mono ?_); rintro e w26 ⟨v323, rfl, ho0, hb⟩; have n0_ := Aside0.mk (Kd.R_elder' (by (with_reducible repeat (first | apply Kd.R_alloc | apply Kd.R_drewN | apply Kd.R_drew)); exact HO314.out) (Kd.R_base ho0) hb); have n1_ := Aside0.mk (Kd.R_elder' (by (with_reducible repeat (first | apply Kd.R_alloc | apply Kd.R_drewN | apply Kd.R_drew)); exact HO317.out) (Kd.R_base ho0) hb); have n2_ := Aside0.mk (Kd.R_elder' (by (with_reducible repeat (first | apply Kd.R_alloc | apply Kd.R_drewN | apply Kd.R_drew)); exact HO320.out) (Kd.R_base ho0) hb); have n3_ := Aside0.mk (Kd.R_lower (Kd.R_new' (Kd.R_new' (Kd.R_new' ho0 (Kd.R_lt (by (with_reducible repeat (first | apply Kd.R_alloc | apply Kd.R_drewN | apply Kd.R_drew)); exact HO314.out))) (Kd.R_lt (by (with_reducible repeat (first | apply Kd.R_alloc | apply Kd.R_drewN | apply Kd.R_drew)); exact HO317.out))) (Kd.R_lt (by (with_reducible repeat (first | apply Kd.R_alloc | apply Kd.R_drewN | apply Kd.R_drew)); exact HO320.out))) (below_size (by repeat (first | (with_reducible first | exact HB.out | apply below_alloc | apply pw_below_drewN | apply below_drew1) | exact HB.out)))); have n4_ := Aside0.mk (below_step (by repeat (first | (with_reducible first | exact HB.out | apply below_alloc | apply pw_below_drewN | apply below_drew1) | exact HB.out)) hb); clear HO314; clear HO317; clear HO320; clear HB; have HO314 := n0_; have HO317 := n1_; have HO320 := n2_; have HO324 := n3_; have HB := n4_; clear n0_ n1_ n2_ n3_ n4_; (try clear hb); (try clear hb2); (try clear hk); (try clear hi); (try clear ho0); obtain ⟨Ao27, co27, eo27⟩ := Kd.R_slice HO317.out; subst eo27; obtain ⟨Ao28, co28, eo28⟩ := Kd.R_slice HO324.out; subst eo28) | (go_at_call 24; (with_reducible refine (boltingref02_Equal.calls k1 _ _ t315 _ _ t322 true _ ?side1 ?side2 ?side3 ?side4 A12.out).mono ?_); (case side1 => repeat (first | exact (Kd.R_reads' HO317.out).2.2 | (with_reducible refine Kd.C_alloc ?_ _) | (with_reducible refine Kd.C_drewN ?_ _) | (with_reducible refine Kd.C_drew ?_))); (case side2 => exact (Kd.R_reads' HO317.out).2.1); (case side3 => repeat (first | exact (Kd.R_reads' HO324.out).2.2 | (with_reducible refine Kd.C_alloc ?_ _) | (with_reducible refine Kd.C_drewN ?_ _) | (with_reducible refine Kd.C_drew ?_))); (case side4 => exact (Kd.R_reads' HO324.out).2.1); rintro e w' ⟨rfl, ⟨nd, rfl⟩⟩) | (go_at_call 27; (with_reducible refine (boltingref02_Is.calls k1 _ _ t312 false _ ?side1 ?side2 A14.out).mono ?_); (case side1 => repeat (first | exact (Kd.R_reads' HO314.out).2.2 | (with_reducible refine Kd.C_alloc ?_ _) | (with_reducible refine Kd.C_drewN ?_ _) | (with_reducible refine Kd.C_drew ?_))); (case side2 => exact (Kd.R_reads' HO314.out).2.1); rintro e w' ⟨rfl, ⟨nd, rfl⟩⟩))
                go_meet
                case rel => exact ⟨_, (true), (by first | rfl | (simp; done) | (congr 1; first | (with_reducible assumption) | (symm; with_reducible assumption)) | (simp [*]; done) | (simp only [ne_nil_empty]; done) | (rw [ne_nil_empty]; rfl)), H', ⟨by have := HK1.out; first | omega | exact Nat.le_refl _⟩, ⟨by (with_reducible repeat (first | apply Kd.R_alloc | apply Kd.R_drewN | apply Kd.R_drew)); exact Kd.R_mono HO314.out (fun _ hk => hk.1.1.2)⟩, ⟨by (with_reducible repeat (first | apply Kd.R_alloc | apply Kd.R_drewN | apply Kd.R_drew)); exact Kd.R_mono HO317.out (fun _ hk => hk.1.1.2)⟩, ⟨by repeat (first | (with_reducible first | exact HB.out | apply below_alloc | apply pw_below_drewN | apply below_drew1) | exact HB.out)⟩⟩
            · replace c13 := Bool.eq_false_iff.mpr c13
              subst c13
              have H1 : (boltinglaw05_NamesCloses.j1 k1 a0 x3_1 t312 t315 true) = some r := by rw [if_neg (show ¬ (false = true) by decide)] at H; exact H
              clear H
              have H := H1
              clear H1
              have H' := Aside0.mk H
              clear H
              go_wp2_with (first | ((with_reducible refine gate_callee (f := 25) rfl ?_); refine goesL_ (some 18) rfl rfl Try.func25 (by kernel_rfl) rfl #[.string a0] rfl (by (try simp only [List.map_toArray, List.map_cons, List.map_nil]); first | done | rfl | (simp only [List.length_drop, List.length_take]; rfl)) ?_; (with_reducible refine (boltingref05_Closes.calls k1 a0 t318 _ A8.out).mono ?_); rintro e w29 ⟨v319, rfl, ho0, hb⟩; refine ⟨_, rfl, ?_⟩; have n0_ := Aside0.mk (Kd.R_elder' (by (with_reducible repeat (first | apply Kd.R_alloc | apply Kd.R_drewN | apply Kd.R_drew)); exact HO314.out) (Kd.R_base ho0) hb); have n1_ := Aside0.mk (Kd.R_elder' (by (with_reducible repeat (first | apply Kd.R_alloc | apply Kd.R_drewN | apply Kd.R_drew)); exact HO317.out) (Kd.R_base ho0) hb); have n2_ := Aside0.mk (Kd.R_lower (Kd.R_new' (Kd.R_new' ho0 (Kd.R_lt (by (with_reducible repeat (first | apply Kd.R_alloc | apply Kd.R_drewN | apply Kd.R_drew)); exact HO314.out))) (Kd.R_lt (by (with_reducible repeat (first | apply Kd.R_alloc | apply Kd.R_drewN | apply Kd.R_drew)); exact HO317.out))) (below_size (by repeat (first | (with_reducible first | exact HB.out | apply below_alloc | apply pw_below_drewN | apply below_drew1) | exact HB.out)))); have n3_ := Aside0.mk (below_step (by repeat (first | (with_reducible first | exact HB.out | apply below_alloc | apply pw_below_drewN | apply below_drew1) | exact HB.out)) hb); clear HO314; clear HO317; clear HB; have HO314 := n0_; have HO317 := n1_; have HO320 := n2_; have HB := n3_; clear n0_ n1_ n2_ n3_; (try clear hb); (try clear hb2); (try clear hk); (try clear hi); (try clear ho0); obtain ⟨Ao30, co30, eo30⟩ := Kd.R_slice HO314.out; subst eo30; obtain ⟨Ao31, co31, eo31⟩ := Kd.R_slice HO320.out; subst eo31) | ((with_reducible refine gate_callee (f := 24) rfl ?_); refine goesL_ (some 19) rfl rfl Try.func24 (by kernel_rfl) rfl #[.slice Ao30 t312.length co30, .slice Ao31 t318.length co31] rfl (by (try simp only [List.map_toArray, List.map_cons, List.map_nil]); first | done | rfl | (simp only [List.length_drop, List.length_take]; rfl)) ?_; (with_reducible refine (boltingref02_Equal.calls k1 _ _ t312 _ _ t318 true _ ?side1 ?side2 ?side3 ?side4 A9.out).mono ?_); (case side1 => repeat (first | exact (Kd.R_reads' HO314.out).2.2 | (with_reducible refine Kd.C_alloc ?_ _) | (with_reducible refine Kd.C_drewN ?_ _) | (with_reducible refine Kd.C_drew ?_))); (case side2 => exact (Kd.R_reads' HO314.out).2.1); (case side3 => repeat (first | exact (Kd.R_reads' HO320.out).2.2 | (with_reducible refine Kd.C_alloc ?_ _) | (with_reducible refine Kd.C_drewN ?_ _) | (with_reducible refine Kd.C_drew ?_))); (case side4 => exact (Kd.R_reads' HO320.out).2.1); rintro e w' ⟨rfl, ⟨nd, rfl⟩⟩; refine ⟨_, rfl, ?_⟩) | (go_at_call 26; (with_reducible refine (boltingref05_Walls.calls k1 a0 t322 _ A11.out).mono ?_); rintro e w32 ⟨v323, rfl, ho0, hb⟩; have n0_ := Aside0.mk (Kd.R_elder' (by (with_reducible repeat (first | apply Kd.R_alloc | apply Kd.R_drewN | apply Kd.R_drew)); exact HO314.out) (Kd.R_base ho0) hb); have n1_ := Aside0.mk (Kd.R_elder' (by (with_reducible repeat (first | apply Kd.R_alloc | apply Kd.R_drewN | apply Kd.R_drew)); exact HO317.out) (Kd.R_base ho0) hb); have n2_ := Aside0.mk (Kd.R_elder' (by (with_reducible repeat (first | apply Kd.R_alloc | apply Kd.R_drewN | apply Kd.R_drew)); exact HO320.out) (Kd.R_base ho0) hb); have n3_ := Aside0.mk (Kd.R_lower (Kd.R_new' (Kd.R_new' (Kd.R_new' ho0 (Kd.R_lt (by (with_reducible repeat (first | apply Kd.R_alloc | apply Kd.R_drewN | apply Kd.R_drew)); exact HO314.out))) (Kd.R_lt (by (with_reducible repeat (first | apply Kd.R_alloc | apply Kd.R_drewN | apply Kd.R_drew)); exact HO317.out))) (Kd.R_lt (by (with_reducible repeat (first | apply Kd.R_alloc | apply Kd.R_drewN | apply Kd.R_drew)); exact HO320.out))) (below_size (by repeat (first | (with_reducible first | exact HB.out | apply below_alloc | apply pw_below_drewN | apply below_drew1) | exact HB.out)))); have n4_ := Aside0.mk (below_step (by repeat (first | (with_reducible first | exact HB.out | apply below_alloc | apply pw_below_drewN | apply below_drew1) | exact HB.out)) hb); clear HO314; clear HO317; clear HO320; clear HB; have HO314 := n0_; have HO317 := n1_; have HO320 := n2_; have HO324 := n3_; have HB := n4_; clear n0_ n1_ n2_ n3_ n4_; (try clear hb); (try clear hb2); (try clear hk); (try clear hi); (try clear ho0); obtain ⟨Ao33, co33, eo33⟩ := Kd.R_slice HO317.out; subst eo33; obtain ⟨Ao34, co34, eo34⟩ := Kd.R_slice HO324.out; subst eo34) | (go_at_call 24; (with_reducible refine (boltingref02_Equal.calls k1 _ _ t315 _ _ t322 false _ ?side1 ?side2 ?side3 ?side4 A12.out).mono ?_); (case side1 => repeat (first | exact (Kd.R_reads' HO317.out).2.2 | (with_reducible refine Kd.C_alloc ?_ _) | (with_reducible refine Kd.C_drewN ?_ _) | (with_reducible refine Kd.C_drew ?_))); (case side2 => exact (Kd.R_reads' HO317.out).2.1); (case side3 => repeat (first | exact (Kd.R_reads' HO324.out).2.2 | (with_reducible refine Kd.C_alloc ?_ _) | (with_reducible refine Kd.C_drewN ?_ _) | (with_reducible refine Kd.C_drew ?_))); (case side4 => exact (Kd.R_reads' HO324.out).2.1); rintro e w' ⟨rfl, ⟨nd, rfl⟩⟩))
              go_meet
              case rel => exact ⟨_, (true), (by first | rfl | (simp; done) | (congr 1; first | (with_reducible assumption) | (symm; with_reducible assumption)) | (simp [*]; done) | (simp only [ne_nil_empty]; done) | (rw [ne_nil_empty]; rfl)), H', ⟨by have := HK1.out; first | omega | exact Nat.le_refl _⟩, ⟨by (with_reducible repeat (first | apply Kd.R_alloc | apply Kd.R_drewN | apply Kd.R_drew)); exact Kd.R_mono HO314.out (fun _ hk => hk.1.1.2)⟩, ⟨by (with_reducible repeat (first | apply Kd.R_alloc | apply Kd.R_drewN | apply Kd.R_drew)); exact Kd.R_mono HO317.out (fun _ hk => hk.1.1.2)⟩, ⟨by repeat (first | (with_reducible first | exact HB.out | apply below_alloc | apply pw_below_drewN | apply below_drew1) | exact HB.out)⟩⟩
          · replace c10 := Bool.eq_false_iff.mpr c10
            subst c10
            have H1 : (boltinglaw05_NamesCloses.j1 k1 a0 x3_1 t312 t315 true) = some r := by rw [if_neg (show ¬ (false = true) by decide)] at H; exact H
            clear H
            have H := H1
            clear H1
            have H' := Aside0.mk H
            clear H
            go_wp2_with (first | ((with_reducible refine gate_callee (f := 25) rfl ?_); refine goesL_ (some 18) rfl rfl Try.func25 (by kernel_rfl) rfl #[.string a0] rfl (by (try simp only [List.map_toArray, List.map_cons, List.map_nil]); first | done | rfl | (simp only [List.length_drop, List.length_take]; rfl)) ?_; (with_reducible refine (boltingref05_Closes.calls k1 a0 t318 _ A8.out).mono ?_); rintro e w35 ⟨v319, rfl, ho0, hb⟩; refine ⟨_, rfl, ?_⟩; have n0_ := Aside0.mk (Kd.R_elder' (by (with_reducible repeat (first | apply Kd.R_alloc | apply Kd.R_drewN | apply Kd.R_drew)); exact HO314.out) (Kd.R_base ho0) hb); have n1_ := Aside0.mk (Kd.R_elder' (by (with_reducible repeat (first | apply Kd.R_alloc | apply Kd.R_drewN | apply Kd.R_drew)); exact HO317.out) (Kd.R_base ho0) hb); have n2_ := Aside0.mk (Kd.R_lower (Kd.R_new' (Kd.R_new' ho0 (Kd.R_lt (by (with_reducible repeat (first | apply Kd.R_alloc | apply Kd.R_drewN | apply Kd.R_drew)); exact HO314.out))) (Kd.R_lt (by (with_reducible repeat (first | apply Kd.R_alloc | apply Kd.R_drewN | apply Kd.R_drew)); exact HO317.out))) (below_size (by repeat (first | (with_reducible first | exact HB.out | apply below_alloc | apply pw_below_drewN | apply below_drew1) | exact HB.out)))); have n3_ := Aside0.mk (below_step (by repeat (first | (with_reducible first | exact HB.out | apply below_alloc | apply pw_below_drewN | apply below_drew1) | exact HB.out)) hb); clear HO314; clear HO317; clear HB; have HO314 := n0_; have HO317 := n1_; have HO320 := n2_; have HB := n3_; clear n0_ n1_ n2_ n3_; (try clear hb); (try clear hb2); (try clear hk); (try clear hi); (try clear ho0); obtain ⟨Ao36, co36, eo36⟩ := Kd.R_slice HO314.out; subst eo36; obtain ⟨Ao37, co37, eo37⟩ := Kd.R_slice HO320.out; subst eo37) | ((with_reducible refine gate_callee (f := 24) rfl ?_); refine goesL_ (some 19) rfl rfl Try.func24 (by kernel_rfl) rfl #[.slice Ao36 t312.length co36, .slice Ao37 t318.length co37] rfl (by (try simp only [List.map_toArray, List.map_cons, List.map_nil]); first | done | rfl | (simp only [List.length_drop, List.length_take]; rfl)) ?_; (with_reducible refine (boltingref02_Equal.calls k1 _ _ t312 _ _ t318 false _ ?side1 ?side2 ?side3 ?side4 A9.out).mono ?_); (case side1 => repeat (first | exact (Kd.R_reads' HO314.out).2.2 | (with_reducible refine Kd.C_alloc ?_ _) | (with_reducible refine Kd.C_drewN ?_ _) | (with_reducible refine Kd.C_drew ?_))); (case side2 => exact (Kd.R_reads' HO314.out).2.1); (case side3 => repeat (first | exact (Kd.R_reads' HO320.out).2.2 | (with_reducible refine Kd.C_alloc ?_ _) | (with_reducible refine Kd.C_drewN ?_ _) | (with_reducible refine Kd.C_drew ?_))); (case side4 => exact (Kd.R_reads' HO320.out).2.1); rintro e w' ⟨rfl, ⟨nd, rfl⟩⟩; refine ⟨_, rfl, ?_⟩))
            go_meet
            case rel => exact ⟨_, (true), (by first | rfl | (simp; done) | (congr 1; first | (with_reducible assumption) | (symm; with_reducible assumption)) | (simp [*]; done) | (simp only [ne_nil_empty]; done) | (rw [ne_nil_empty]; rfl)), H', ⟨by have := HK1.out; first | omega | exact Nat.le_refl _⟩, ⟨by (with_reducible repeat (first | apply Kd.R_alloc | apply Kd.R_drewN | apply Kd.R_drew)); exact Kd.R_mono HO314.out (fun _ hk => hk.1.2)⟩, ⟨by (with_reducible repeat (first | apply Kd.R_alloc | apply Kd.R_drewN | apply Kd.R_drew)); exact Kd.R_mono HO317.out (fun _ hk => hk.1.2)⟩, ⟨by repeat (first | (with_reducible first | exact HB.out | apply below_alloc | apply pw_below_drewN | apply below_drew1) | exact HB.out)⟩⟩
        case rest =>
          clear HC5
          try clear c1
          try clear c2
          try clear c2b0
          try clear p2
          try clear c4
          try clear c10
          try clear c13
          try clear c15
          try clear c22
          try clear c23
          try clear c24
          try clear c25
          obtain ⟨kq, x37_4, rfl, HA, HJ4, HO_4, HO_5, HB⟩ := hcut
          cases kq with
          | zero => exact absurd HA.out (by simp [boltinglaw05_NamesCloses.j1])
          | succ kj4 =>
            have H := HA.out
            clear HA
            simp only [boltinglaw05_NamesCloses.j1] at H
            by_cases c38 : x37_4 = true
            · subst c38
              have H1 : (some false) = some r := by rw [if_pos rfl] at H; exact H
              clear H
              have H := H1
              clear H1
              obtain rfl := Option.some.inj H
              go_wp2
              go_ret
              exact ⟨by first | rfl | (simp [errW_none, errW_some] <;> rfl) | (simp [*, errW_none, errW_some] <;> rfl), by repeat (first | (with_reducible first | exact HB.out | apply below_alloc | apply pw_below_drewN | apply below_drew1) | exact HB.out)⟩
            · replace c38 := Bool.eq_false_iff.mpr c38
              subst c38
              have H1 : (boltinglaw05_NamesCloses.l1 kj4 a0 x3_1 t312 t315 0) = some r := by rw [if_neg (show ¬ (false = true) by decide)] at H; exact H
              clear H
              have H := H1
              clear H1
              have H' := Aside0.mk H
              clear H
              go_wp2
              go_loopg [6] kj4 (fun kq v6 w' => ∃ (x4_3 : List ByteArray) (x6_3 : Int), v6 = .int .i64 x6_3 ∧ Aside0 (boltinglaw05_NamesCloses.l1 kq a0 x3_1 x4_3 t315 x6_3 = some r) ∧ Aside0 (kq ≤ kj4) ∧ Aside0 (Kd.R Kd.string 9 w' w.heap.size (fun k_ => some k_ ≠ (v316 : Value).ownBlock) v313 x4_3) ∧ Aside0 (Kd.R Kd.string 9 w' w.heap.size (fun k_ => some k_ ≠ (v313 : Value).ownBlock) v316 t315) ∧ Aside0 (Below w.heap.size w w'))
              case atStart => exact ⟨(t312), (0), (by first | rfl | (simp; done) | (congr 1; first | (with_reducible assumption) | (symm; with_reducible assumption)) | (simp [*]; done) | (simp only [ne_nil_empty]; done) | (rw [ne_nil_empty]; rfl)), H', ⟨Nat.le_refl _⟩, ⟨by (with_reducible repeat (first | apply Kd.R_alloc | apply Kd.R_drewN | apply Kd.R_drew)); exact HO_4.out⟩, ⟨by (with_reducible repeat (first | apply Kd.R_alloc | apply Kd.R_drewN | apply Kd.R_drew)); exact HO_5.out⟩, ⟨by repeat (first | (with_reducible first | exact HB.out | apply below_alloc | apply pw_below_drewN | apply below_drew1) | exact HB.out)⟩⟩
              case round =>
                clear H'
                try clear c1
                try clear c2
                try clear c2b0
                try clear p2
                try clear c3
                try clear c4
                try clear c10
                try clear c13
                try clear c15
                try clear c22
                try clear c23
                try clear c24
                try clear c25
                try clear c38
                try clear p2
                obtain ⟨x4_3, x6_3, rfl, HA, HK3, HO_4, HO_5, HB⟩ := hrel
                cases gk with
                | zero => exact absurd HA.out (by simp [boltinglaw05_NamesCloses.l1])
                | succ k3 =>
                  have H := HA.out
                  clear HA
                  simp only [boltinglaw05_NamesCloses.l1] at H
                  by_cases c39 : x6_3 < (x4_3.length : Int)
                  · rw [if_pos c39] at H
                    have c39b0 : decide (x6_3 < (x4_3.length : Int)) = true := decide_eq_true c39
                    clear c39
                    by_cases c40 : 0 ≤ x6_3
                    · rw [if_pos c40] at H
                      have c40b0 : decide (0 ≤ x6_3) = true := decide_eq_true c40
                      clear c40
                      obtain ⟨y328, hy328⟩ : ∃ y_ : List ByteArray, y_ = (x4_3.set (x6_3 : Int).toNat (⟨#[120]⟩ : ByteArray)) := ⟨_, rfl⟩
                      replace H : (boltinglaw05_NamesCloses.l1 k3 a0 x3_1 y328 t315 (wrap64 (x6_3 + 1))) = some r := by first | (rw [hy328]; with_reducible exact H) | (have H2_ := (Option.bind_some _ _).symm.trans H; rw [hy328]; with_reducible exact H2_) | (have H2_ := (Option.bind_some _ _).symm.trans H; with_reducible exact H2_) | with_reducible exact H | (rw [hy328]; exact H) | exact H
                      have Ny328 := Aside0.mk hy328
                      clear hy328
                      have H' := Aside0.mk H
                      clear H
                      obtain ⟨Ao42, co42, eo42⟩ := Kd.R_slice HO_4.out
                      subst eo42
                      have p41 : 0 ≤ (x6_3 : Int) := of_decide_eq_true (by first | (with_reducible assumption) | assumption)
                      have q41 : (x6_3 : Int) < ((x4_3.length : Int) : Int) := of_decide_eq_true (by first | (with_reducible assumption) | assumption)
                      obtain ⟨go41, co41, eo41, gb41, gl41, cl41, HG41⟩ := Kd.R_form HO_4.out (by omega)
                      (first | cases eo41 | (injection eo41 with ea_ en_ ec_; (first | subst ea_ | (injection ea_ with ea_; subst ea_)); subst ec_; clear en_))
                      have GB41 := Aside0.mk gb41
                      have GG41 := Aside0.mk HG41
                      clear gb41 gl41 HG41
                      obtain ⟨hx41_0, hf41_0⟩ := Kd.R_celln (⟨#[]⟩ : ByteArray) HO_4.out (x6_3 : Int) p41 q41
                      replace p41 := eq_true p41
                      replace q41 := eq_true q41
                      have HP43 := Kd.R_putg HO_4.out (x6_3 : Int) (⟨#[120]⟩ : ByteArray)
                      go_wp2_with (first | ((with_reducible refine gate_store (t := 9) (p := 46) rfl ?_); refine store_event (t := 9) (p := 46) (v := ?vo_w44) (w1 := (wr.setCell ⟨go41, (x6_3 : Int).toNat, none⟩ (.string (⟨#[120]⟩ : ByteArray)))) ?hg ?ho ?hn ?hr ?_; (case ho => rfl); (case hg => rfl); (case hn => rfl); (case hr => first | (go_simp; done) | (go_simp; rfl)); intro w44 hw; have hg : wr.grownBy w44 (some go41) := (by rw [hw]; exact HP43.2); have hp_ : Kd.R Kd.string 9 w44 w.heap.size (fun k_ => some k_ ≠ (v316 : Value).ownBlock) (.slice (some ⟨go41, 0, none⟩) x4_3.length co42) y328 := (by rw [hw, Ny328.out]; exact HP43.1); clear HP43; have n0_ := Aside0.mk (hp_); have n1_ := Aside0.mk (Kd.R_after (v := (.slice (some ⟨go41, 0, none⟩) x4_3.length co42)) (v1 := (.slice (some ⟨go41, 0, none⟩) x4_3.length co42)) (ok := (fun _ => True)) (by (with_reducible repeat (first | apply Kd.R_alloc | apply Kd.R_drewN | apply Kd.R_drew)); exact Kd.R_mono HO_5.out (fun _ hk => ⟨trivial, hk⟩)) hg (.inl rfl)); have n2_ := Aside0.mk ((by rw [hw]; exact below_set (HB.out) GB41.out : Below w.heap.size w w44)); clear HO_4; clear HO_5; clear HB; have HO_4 := n0_; have HO_5 := n1_; have HB := n2_; clear n0_ n1_ n2_; clear hg hw hp_))
                      go_roundg k3
                      case measure => have := HK1.out; have := HJ4.out; have := HK3.out; omega
                      case rel => exact ⟨(y328), (wrap64 (x6_3 + 1)), (by first | rfl | (simp; done) | (congr 1; first | (with_reducible assumption) | (symm; with_reducible assumption)) | (simp [*]; done) | (simp only [ne_nil_empty]; done) | (rw [ne_nil_empty]; rfl)), H', ⟨by have := HK1.out; have := HJ4.out; have := HK3.out; omega⟩, ⟨by (with_reducible repeat (first | apply Kd.R_alloc | apply Kd.R_drewN | apply Kd.R_drew)); exact HO_4.out⟩, ⟨by (with_reducible repeat (first | apply Kd.R_alloc | apply Kd.R_drewN | apply Kd.R_drew)); exact Kd.R_mono HO_5.out (fun _ hk => hk.2)⟩, ⟨by repeat (first | (with_reducible first | exact HB.out | apply below_alloc | apply pw_below_drewN | apply below_drew1) | exact HB.out)⟩⟩
                    · rw [if_neg c40] at H
                      exact absurd H (by simp)
                  · rw [if_neg c39] at H
                    have c39b0 : decide (x6_3 < (x4_3.length : Int)) = false := decide_eq_false c39
                    clear c39
                    have H' := Aside0.mk H
                    clear H
                    obtain ⟨Ao45, co45, eo45⟩ := Kd.R_slice HO_4.out
                    subst eo45
                    go_wp2
                    go_loopg [7] k3 (fun kq v7 w' => ∃ (x5_4 : List ByteArray) (x7_4 : Int), v7 = .int .i64 x7_4 ∧ Aside0 (boltinglaw05_NamesCloses.l2 kq a0 x3_1 x5_4 x7_4 = some r) ∧ Aside0 (kq ≤ k3) ∧ Aside0 (Kd.R Kd.string 9 w' w.heap.size (fun _ => True) v316 x5_4) ∧ Aside0 (Below w.heap.size w w'))
                    case atStart => exact ⟨(t315), (0), (by first | rfl | (simp; done) | (congr 1; first | (with_reducible assumption) | (symm; with_reducible assumption)) | (simp [*]; done) | (simp only [ne_nil_empty]; done) | (rw [ne_nil_empty]; rfl)), H', ⟨Nat.le_refl _⟩, ⟨by (with_reducible repeat (first | apply Kd.R_alloc | apply Kd.R_drewN | apply Kd.R_drew)); exact Kd.R_mono HO_5.out (fun _ hk => trivial)⟩, ⟨by repeat (first | (with_reducible first | exact HB.out | apply below_alloc | apply pw_below_drewN | apply below_drew1) | exact HB.out)⟩⟩
                    case round =>
                      clear H'
                      try clear c1
                      try clear c2
                      try clear c2b0
                      try clear p2
                      try clear c3
                      try clear c4
                      try clear p4
                      try clear q4
                      try clear hx4
                      try clear hf4
                      try clear p6
                      try clear c10
                      try clear c13
                      try clear c15
                      try clear c22
                      try clear c23
                      try clear c24
                      try clear c25
                      try clear c38
                      try clear c39
                      try clear c39b0
                      try clear c40
                      try clear c40b0
                      try clear p41
                      try clear q41
                      try clear hx41
                      try clear hf41
                      try clear hx41_0
                      try clear p2
                      try clear p41
                      try clear q41
                      obtain ⟨x5_4, x7_4, rfl, HA, HK4, HO_5, HB⟩ := hrel
                      cases gk with
                      | zero => exact absurd HA.out (by simp [boltinglaw05_NamesCloses.l2])
                      | succ k4 =>
                        have H := HA.out
                        clear HA
                        simp only [boltinglaw05_NamesCloses.l2] at H
                        by_cases c46 : x7_4 < (x5_4.length : Int)
                        · rw [if_pos c46] at H
                          have c46b0 : decide (x7_4 < (x5_4.length : Int)) = true := decide_eq_true c46
                          clear c46
                          by_cases c47 : 0 ≤ x7_4
                          · rw [if_pos c47] at H
                            have c47b0 : decide (0 ≤ x7_4) = true := decide_eq_true c47
                            clear c47
                            obtain ⟨y329, hy329⟩ : ∃ y_ : List ByteArray, y_ = (x5_4.set (x7_4 : Int).toNat (⟨#[120]⟩ : ByteArray)) := ⟨_, rfl⟩
                            replace H : (boltinglaw05_NamesCloses.l2 k4 a0 x3_1 y329 (wrap64 (x7_4 + 1))) = some r := by first | (rw [hy329]; with_reducible exact H) | (have H2_ := (Option.bind_some _ _).symm.trans H; rw [hy329]; with_reducible exact H2_) | (have H2_ := (Option.bind_some _ _).symm.trans H; with_reducible exact H2_) | with_reducible exact H | (rw [hy329]; exact H) | exact H
                            have Ny329 := Aside0.mk hy329
                            clear hy329
                            have H' := Aside0.mk H
                            clear H
                            obtain ⟨Ao49, co49, eo49⟩ := Kd.R_slice HO_5.out
                            subst eo49
                            have p48 : 0 ≤ (x7_4 : Int) := of_decide_eq_true (by first | (with_reducible assumption) | assumption)
                            have q48 : (x7_4 : Int) < ((x5_4.length : Int) : Int) := of_decide_eq_true (by first | (with_reducible assumption) | assumption)
                            obtain ⟨go48, co48, eo48, gb48, gl48, cl48, HG48⟩ := Kd.R_form HO_5.out (by omega)
                            (first | cases eo48 | (injection eo48 with ea_ en_ ec_; (first | subst ea_ | (injection ea_ with ea_; subst ea_)); subst ec_; clear en_))
                            have GB48 := Aside0.mk gb48
                            have GG48 := Aside0.mk HG48
                            clear gb48 gl48 HG48
                            obtain ⟨hx48_0, hf48_0⟩ := Kd.R_celln (⟨#[]⟩ : ByteArray) HO_5.out (x7_4 : Int) p48 q48
                            replace p48 := eq_true p48
                            replace q48 := eq_true q48
                            have HP50 := Kd.R_putg HO_5.out (x7_4 : Int) (⟨#[120]⟩ : ByteArray)
                            go_wp2_with (first | ((with_reducible refine gate_store (t := 9) (p := 55) rfl ?_); refine store_event (t := 9) (p := 55) (v := ?vo_w51) (w1 := (wr.setCell ⟨go48, (x7_4 : Int).toNat, none⟩ (.string (⟨#[120]⟩ : ByteArray)))) ?hg ?ho ?hn ?hr ?_; (case ho => rfl); (case hg => rfl); (case hn => rfl); (case hr => first | (go_simp; done) | (go_simp; rfl)); intro w51 hw; have hg : wr.grownBy w51 (some go48) := (by rw [hw]; exact HP50.2); have hp_ : Kd.R Kd.string 9 w51 w.heap.size (fun _ => True) (.slice (some ⟨go48, 0, none⟩) x5_4.length co49) y329 := (by rw [hw, Ny329.out]; exact HP50.1); clear HP50; have n0_ := Aside0.mk (hp_); have n1_ := Aside0.mk ((by rw [hw]; exact below_set (HB.out) GB48.out : Below w.heap.size w w51)); clear HO_5; clear HB; have HO_5 := n0_; have HB := n1_; clear n0_ n1_; clear hg hw hp_))
                            go_roundg k4
                            case measure => have := HK1.out; have := HJ4.out; have := HK3.out; have := HK4.out; omega
                            case rel => exact ⟨(y329), (wrap64 (x7_4 + 1)), (by first | rfl | (simp; done) | (congr 1; first | (with_reducible assumption) | (symm; with_reducible assumption)) | (simp [*]; done) | (simp only [ne_nil_empty]; done) | (rw [ne_nil_empty]; rfl)), H', ⟨by have := HK1.out; have := HJ4.out; have := HK3.out; have := HK4.out; omega⟩, ⟨by (with_reducible repeat (first | apply Kd.R_alloc | apply Kd.R_drewN | apply Kd.R_drew)); exact HO_5.out⟩, ⟨by repeat (first | (with_reducible first | exact HB.out | apply below_alloc | apply pw_below_drewN | apply below_drew1) | exact HB.out)⟩⟩
                          · rw [if_neg c47] at H
                            exact absurd H (by simp)
                        · rw [if_neg c46] at H
                          have c46b0 : decide (x7_4 < (x5_4.length : Int)) = false := decide_eq_false c46
                          clear c46
                          have H' := Aside0.mk H
                          clear H
                          obtain ⟨Ao52, co52, eo52⟩ := Kd.R_slice HO_5.out
                          subst eo52
                          go_wp2
                          go_roundg k4
                          case measure => have := HK1.out; have := HJ4.out; have := HK3.out; have := HK4.out; omega
                          case rel => exact ⟨(wrap64 (x3_1 + 1)), (by first | rfl | (simp; done) | (congr 1; first | (with_reducible assumption) | (symm; with_reducible assumption)) | (simp [*]; done) | (simp only [ne_nil_empty]; done) | (rw [ne_nil_empty]; rfl)), H', ⟨by have := HK1.out; have := HJ4.out; have := HK3.out; have := HK4.out; omega⟩, ⟨by repeat (first | (with_reducible first | exact HB.out | apply below_alloc | apply pw_below_drewN | apply below_drew1) | exact HB.out)⟩⟩
      · rw [if_neg c2] at H
        have c2b0 : decide (x3_1 < 2) = false := decide_eq_false c2
        clear c2
        replace H := Option.bind_eq_some_iff.mp H
        obtain ⟨t311, A530, H⟩ := H
        replace H : (some t311) = some r := H
        have A53 := Aside0.mk A530
        clear A530
        obtain rfl := Option.some.inj H
        go_wp2_with (first | ((with_reducible refine gate_callee (f := 10) rfl ?_); refine goesL_ (some 56) rfl rfl Try.func10 (by kernel_rfl) rfl #[] rfl (by (try simp only [List.map_toArray, List.map_cons, List.map_nil]); first | done | rfl | (simp only [List.length_drop, List.length_take]; rfl)) ?_; (with_reducible refine (boltinglaw05_fixed.calls k1  t311 _ A53.out).mono ?_); rintro e w54 ⟨rfl, hb⟩; refine ⟨_, rfl, ?_⟩; have n0_ := Aside0.mk (below_step (by repeat (first | (with_reducible first | exact HB.out | apply below_alloc | apply pw_below_drewN | apply below_drew1) | exact HB.out)) hb); clear HB; have HB := n0_; clear n0_; (try clear hb); (try clear hb2); (try clear hk); (try clear hi)))
        go_ret
        exact ⟨by first | rfl | (simp [errW_none, errW_some] <;> rfl) | (simp [*, errW_none, errW_some] <;> rfl), by repeat (first | (with_reducible first | exact HB.out | apply below_alloc | apply pw_below_drewN | apply below_drew1) | exact HB.out)⟩

/-- THE ONE PURE STATEMENT of boltinglaw05_NamesCloses: yours. -/
def boltinglaw05_NamesCloses.Pure : Prop := ∀ (a0 : ByteArray), a0.size ≤ 140737488351232 → ∃ k, boltinglaw05_NamesCloses.f k a0 = some true
theorem boltinglaw05_NamesCloses.walk (P : boltinglaw05_NamesCloses.Pure) (a0 : ByteArray) (w : World) (w0 : a0.size ≤ 140737488351232) :
    Calls Try.prog 4 #[.string a0] w fun e w' => e = .returned (.bool true) ∧ Below w.heap.size w w' := by
  obtain ⟨k, h⟩ := P a0 w0
  refine (boltinglaw05_NamesCloses.calls k a0 true w h).mono ?_
  rintro e w' ⟨rfl, hd⟩
  exact ⟨rfl, hd⟩

/-! ### boltingref02_Space: function 38 -/
def boltingref02_Space.f (a0 : Int) : Option (Bool) := if a0 = 32 then (some true) else (if a0 = 9 then (some true) else (if a0 = 10 then (some true) else (if a0 = 12 then (some true) else (some (a0 == 13)))))
set_option maxHeartbeats 8000000 in
set_option maxRecDepth 100000 in
theorem boltingref02_Space.calls (a0 : Int) (r : Bool) (w : World) (h : boltingref02_Space.f a0 = some r) :
    Calls Try.prog 38 #[.int .u8 a0] w fun e w' => e = .returned (.bool r) ∧ Drawn0 w w' := by
  have H : (if a0 = 32 then (some true) else (if a0 = 9 then (some true) else (if a0 = 10 then (some true) else (if a0 = 12 then (some true) else (some (a0 == 13)))))) = some r := h
  clear h
  by_cases c2 : a0 = 32
  · rw [if_pos c2] at H
    have c2b0 : (a0 == 32) = true := beq_iff_eq.mpr c2
    have c2b1 : (a0 != 32) = false := bne_eq_false_iff_eq.mpr c2
    clear c2
    obtain rfl := Option.some.inj H
    go_enter Try.func38, Try.ntmps38
    go_wp2
    go_ret
    exact ⟨by first | rfl | (simp; done) | (congr 1; first | (with_reducible assumption) | (symm; with_reducible assumption)) | (simp [*]; done) | (simp only [ne_nil_empty]; done) | (rw [ne_nil_empty]; rfl), by repeat (first | exact Drawn0.refl _ | apply Drawn0.step)⟩
  · rw [if_neg c2] at H
    have c2b0 : (a0 == 32) = false := beq_eq_false_iff_ne.mpr c2
    have c2b1 : (a0 != 32) = true := bne_iff_ne.mpr c2
    by_cases c3 : a0 = 9
    · rw [if_pos c3] at H
      have c3b0 : (a0 == 9) = true := beq_iff_eq.mpr c3
      have c3b1 : (a0 != 9) = false := bne_eq_false_iff_eq.mpr c3
      clear c3
      obtain rfl := Option.some.inj H
      go_enter Try.func38, Try.ntmps38
      go_wp2
      go_ret
      exact ⟨by first | rfl | (simp; done) | (congr 1; first | (with_reducible assumption) | (symm; with_reducible assumption)) | (simp [*]; done) | (simp only [ne_nil_empty]; done) | (rw [ne_nil_empty]; rfl), by repeat (first | exact Drawn0.refl _ | apply Drawn0.step)⟩
    · rw [if_neg c3] at H
      have c3b0 : (a0 == 9) = false := beq_eq_false_iff_ne.mpr c3
      have c3b1 : (a0 != 9) = true := bne_iff_ne.mpr c3
      by_cases c4 : a0 = 10
      · rw [if_pos c4] at H
        have c4b0 : (a0 == 10) = true := beq_iff_eq.mpr c4
        have c4b1 : (a0 != 10) = false := bne_eq_false_iff_eq.mpr c4
        clear c4
        obtain rfl := Option.some.inj H
        go_enter Try.func38, Try.ntmps38
        go_wp2
        go_ret
        exact ⟨by first | rfl | (simp; done) | (congr 1; first | (with_reducible assumption) | (symm; with_reducible assumption)) | (simp [*]; done) | (simp only [ne_nil_empty]; done) | (rw [ne_nil_empty]; rfl), by repeat (first | exact Drawn0.refl _ | apply Drawn0.step)⟩
      · rw [if_neg c4] at H
        have c4b0 : (a0 == 10) = false := beq_eq_false_iff_ne.mpr c4
        have c4b1 : (a0 != 10) = true := bne_iff_ne.mpr c4
        by_cases c5 : a0 = 12
        · rw [if_pos c5] at H
          have c5b0 : (a0 == 12) = true := beq_iff_eq.mpr c5
          have c5b1 : (a0 != 12) = false := bne_eq_false_iff_eq.mpr c5
          clear c5
          obtain rfl := Option.some.inj H
          go_enter Try.func38, Try.ntmps38
          go_wp2
          go_ret
          exact ⟨by first | rfl | (simp; done) | (congr 1; first | (with_reducible assumption) | (symm; with_reducible assumption)) | (simp [*]; done) | (simp only [ne_nil_empty]; done) | (rw [ne_nil_empty]; rfl), by repeat (first | exact Drawn0.refl _ | apply Drawn0.step)⟩
        · rw [if_neg c5] at H
          have c5b0 : (a0 == 12) = false := beq_eq_false_iff_ne.mpr c5
          have c5b1 : (a0 != 12) = true := bne_iff_ne.mpr c5
          obtain rfl := Option.some.inj H
          go_enter Try.func38, Try.ntmps38
          go_wp2
          go_ret
          exact ⟨by first | rfl | (simp; done) | (congr 1; first | (with_reducible assumption) | (symm; with_reducible assumption)) | (simp [*]; done) | (simp only [ne_nil_empty]; done) | (rw [ne_nil_empty]; rfl), by repeat (first | exact Drawn0.refl _ | apply Drawn0.step)⟩

/-! ### boltingref05_bad: function 36 -/
def boltingref05_bad.f (a0 : Int) (a1 : Bool) : Option (Bool) := (boltingref02_Space.f a0).bind fun t330 => (if t330 = true then (some true) else (if a0 ≥ 65 then (if a0 ≤ 90 then (some true) else (if a0 = 0 then (some true) else (if a0 = 47 then (some true) else (if a0 = 62 then (some true) else (if a1 = true then (if a0 = 34 then (some true) else (if a0 = 39 then (some true) else (if a0 = 60 then (some true) else (some (a0 == 61))))) else (some false)))))) else (if a0 = 0 then (some true) else (if a0 = 47 then (some true) else (if a0 = 62 then (some true) else (if a1 = true then (if a0 = 34 then (some true) else (if a0 = 39 then (some true) else (if a0 = 60 then (some true) else (some (a0 == 61))))) else (some false)))))))
set_option maxHeartbeats 8000000 in
set_option maxRecDepth 100000 in
theorem boltingref05_bad.calls (a0 : Int) (a1 : Bool) (r : Bool) (w : World) (h : boltingref05_bad.f a0 a1 = some r) :
    Calls Try.prog 36 #[.int .u8 a0, .bool a1] w fun e w' => e = .returned (.bool r) ∧ Drawn0 w w' := by
  have H : ((boltingref02_Space.f a0).bind fun t330 => (if t330 = true then (some true) else (if a0 ≥ 65 then (if a0 ≤ 90 then (some true) else (if a0 = 0 then (some true) else (if a0 = 47 then (some true) else (if a0 = 62 then (some true) else (if a1 = true then (if a0 = 34 then (some true) else (if a0 = 39 then (some true) else (if a0 = 60 then (some true) else (some (a0 == 61))))) else (some false)))))) else (if a0 = 0 then (some true) else (if a0 = 47 then (some true) else (if a0 = 62 then (some true) else (if a1 = true then (if a0 = 34 then (some true) else (if a0 = 39 then (some true) else (if a0 = 60 then (some true) else (some (a0 == 61))))) else (some false)))))))) = some r := h
  clear h
  replace H := Option.bind_eq_some_iff.mp H
  obtain ⟨t330, A30, H⟩ := H
  replace H : (if t330 = true then (some true) else (if a0 ≥ 65 then (if a0 ≤ 90 then (some true) else (if a0 = 0 then (some true) else (if a0 = 47 then (some true) else (if a0 = 62 then (some true) else (if a1 = true then (if a0 = 34 then (some true) else (if a0 = 39 then (some true) else (if a0 = 60 then (some true) else (some (a0 == 61))))) else (some false)))))) else (if a0 = 0 then (some true) else (if a0 = 47 then (some true) else (if a0 = 62 then (some true) else (if a1 = true then (if a0 = 34 then (some true) else (if a0 = 39 then (some true) else (if a0 = 60 then (some true) else (some (a0 == 61))))) else (some false))))))) = some r := H
  have A3 := Aside0.mk A30
  clear A30
  by_cases c4 : t330 = true
  · subst c4
    have H1 : (some true) = some r := by rw [if_pos rfl] at H; exact H
    clear H
    have H := H1
    clear H1
    obtain rfl := Option.some.inj H
    go_enter Try.func36, Try.ntmps36
    go_wp2_with (first | ((with_reducible refine gate_callee (f := 38) rfl ?_); refine goesL_ (some 6) rfl rfl Try.func38 (by kernel_rfl) rfl #[.int .u8 a0] rfl (by (try simp only [List.map_toArray, List.map_cons, List.map_nil]); first | done | rfl | (simp only [List.length_drop, List.length_take]; rfl)) ?_; (with_reducible refine (boltingref02_Space.calls a0 true _ A3.out).mono ?_); rintro e w' ⟨rfl, ⟨nd, rfl⟩⟩; refine ⟨_, rfl, ?_⟩))
    go_ret
    exact ⟨by first | rfl | (simp; done) | (congr 1; first | (with_reducible assumption) | (symm; with_reducible assumption)) | (simp [*]; done) | (simp only [ne_nil_empty]; done) | (rw [ne_nil_empty]; rfl), by repeat (first | exact Drawn0.refl _ | apply Drawn0.step)⟩
  · replace c4 := Bool.eq_false_iff.mpr c4
    subst c4
    have H1 : (if a0 ≥ 65 then (if a0 ≤ 90 then (some true) else (if a0 = 0 then (some true) else (if a0 = 47 then (some true) else (if a0 = 62 then (some true) else (if a1 = true then (if a0 = 34 then (some true) else (if a0 = 39 then (some true) else (if a0 = 60 then (some true) else (some (a0 == 61))))) else (some false)))))) else (if a0 = 0 then (some true) else (if a0 = 47 then (some true) else (if a0 = 62 then (some true) else (if a1 = true then (if a0 = 34 then (some true) else (if a0 = 39 then (some true) else (if a0 = 60 then (some true) else (some (a0 == 61))))) else (some false)))))) = some r := by rw [if_neg (show ¬ (false = true) by decide)] at H; exact H
    clear H
    have H := H1
    clear H1
    by_cases c5 : a0 ≥ 65
    · rw [if_pos c5] at H
      have c5b0 : decide (65 ≤ a0) = true := decide_eq_true c5
      clear c5
      by_cases c6 : a0 ≤ 90
      · rw [if_pos c6] at H
        have c6b0 : decide (a0 ≤ 90) = true := decide_eq_true c6
        clear c6
        obtain rfl := Option.some.inj H
        go_enter Try.func36, Try.ntmps36
        go_wp2_with (first | ((with_reducible refine gate_callee (f := 38) rfl ?_); refine goesL_ (some 6) rfl rfl Try.func38 (by kernel_rfl) rfl #[.int .u8 a0] rfl (by (try simp only [List.map_toArray, List.map_cons, List.map_nil]); first | done | rfl | (simp only [List.length_drop, List.length_take]; rfl)) ?_; (with_reducible refine (boltingref02_Space.calls a0 false _ A3.out).mono ?_); rintro e w' ⟨rfl, ⟨nd, rfl⟩⟩; refine ⟨_, rfl, ?_⟩))
        go_ret
        exact ⟨by first | rfl | (simp; done) | (congr 1; first | (with_reducible assumption) | (symm; with_reducible assumption)) | (simp [*]; done) | (simp only [ne_nil_empty]; done) | (rw [ne_nil_empty]; rfl), by repeat (first | exact Drawn0.refl _ | apply Drawn0.step)⟩
      · rw [if_neg c6] at H
        have c6b0 : decide (a0 ≤ 90) = false := decide_eq_false c6
        clear c6
        by_cases c7 : a0 = 0
        · rw [if_pos c7] at H
          have c7b0 : (a0 == 0) = true := beq_iff_eq.mpr c7
          have c7b1 : (a0 != 0) = false := bne_eq_false_iff_eq.mpr c7
          clear c7
          obtain rfl := Option.some.inj H
          go_enter Try.func36, Try.ntmps36
          go_wp2_with (first | ((with_reducible refine gate_callee (f := 38) rfl ?_); refine goesL_ (some 6) rfl rfl Try.func38 (by kernel_rfl) rfl #[.int .u8 a0] rfl (by (try simp only [List.map_toArray, List.map_cons, List.map_nil]); first | done | rfl | (simp only [List.length_drop, List.length_take]; rfl)) ?_; (with_reducible refine (boltingref02_Space.calls a0 false _ A3.out).mono ?_); rintro e w' ⟨rfl, ⟨nd, rfl⟩⟩; refine ⟨_, rfl, ?_⟩))
          go_ret
          exact ⟨by first | rfl | (simp; done) | (congr 1; first | (with_reducible assumption) | (symm; with_reducible assumption)) | (simp [*]; done) | (simp only [ne_nil_empty]; done) | (rw [ne_nil_empty]; rfl), by repeat (first | exact Drawn0.refl _ | apply Drawn0.step)⟩
        · rw [if_neg c7] at H
          have c7b0 : (a0 == 0) = false := beq_eq_false_iff_ne.mpr c7
          have c7b1 : (a0 != 0) = true := bne_iff_ne.mpr c7
          by_cases c8 : a0 = 47
          · rw [if_pos c8] at H
            have c8b0 : (a0 == 47) = true := beq_iff_eq.mpr c8
            have c8b1 : (a0 != 47) = false := bne_eq_false_iff_eq.mpr c8
            clear c8
            obtain rfl := Option.some.inj H
            go_enter Try.func36, Try.ntmps36
            go_wp2_with (first | ((with_reducible refine gate_callee (f := 38) rfl ?_); refine goesL_ (some 6) rfl rfl Try.func38 (by kernel_rfl) rfl #[.int .u8 a0] rfl (by (try simp only [List.map_toArray, List.map_cons, List.map_nil]); first | done | rfl | (simp only [List.length_drop, List.length_take]; rfl)) ?_; (with_reducible refine (boltingref02_Space.calls a0 false _ A3.out).mono ?_); rintro e w' ⟨rfl, ⟨nd, rfl⟩⟩; refine ⟨_, rfl, ?_⟩))
            go_ret
            exact ⟨by first | rfl | (simp; done) | (congr 1; first | (with_reducible assumption) | (symm; with_reducible assumption)) | (simp [*]; done) | (simp only [ne_nil_empty]; done) | (rw [ne_nil_empty]; rfl), by repeat (first | exact Drawn0.refl _ | apply Drawn0.step)⟩
          · rw [if_neg c8] at H
            have c8b0 : (a0 == 47) = false := beq_eq_false_iff_ne.mpr c8
            have c8b1 : (a0 != 47) = true := bne_iff_ne.mpr c8
            by_cases c9 : a0 = 62
            · rw [if_pos c9] at H
              have c9b0 : (a0 == 62) = true := beq_iff_eq.mpr c9
              have c9b1 : (a0 != 62) = false := bne_eq_false_iff_eq.mpr c9
              clear c9
              obtain rfl := Option.some.inj H
              go_enter Try.func36, Try.ntmps36
              go_wp2_with (first | ((with_reducible refine gate_callee (f := 38) rfl ?_); refine goesL_ (some 6) rfl rfl Try.func38 (by kernel_rfl) rfl #[.int .u8 a0] rfl (by (try simp only [List.map_toArray, List.map_cons, List.map_nil]); first | done | rfl | (simp only [List.length_drop, List.length_take]; rfl)) ?_; (with_reducible refine (boltingref02_Space.calls a0 false _ A3.out).mono ?_); rintro e w' ⟨rfl, ⟨nd, rfl⟩⟩; refine ⟨_, rfl, ?_⟩))
              go_ret
              exact ⟨by first | rfl | (simp; done) | (congr 1; first | (with_reducible assumption) | (symm; with_reducible assumption)) | (simp [*]; done) | (simp only [ne_nil_empty]; done) | (rw [ne_nil_empty]; rfl), by repeat (first | exact Drawn0.refl _ | apply Drawn0.step)⟩
            · rw [if_neg c9] at H
              have c9b0 : (a0 == 62) = false := beq_eq_false_iff_ne.mpr c9
              have c9b1 : (a0 != 62) = true := bne_iff_ne.mpr c9
              by_cases c10 : a1 = true
              · subst c10
                have H1 : (if a0 = 34 then (some true) else (if a0 = 39 then (some true) else (if a0 = 60 then (some true) else (some (a0 == 61))))) = some r := by rw [if_pos rfl] at H; exact H
                clear H
                have H := H1
                clear H1
                by_cases c11 : a0 = 34
                · rw [if_pos c11] at H
                  have c11b0 : (a0 == 34) = true := beq_iff_eq.mpr c11
                  have c11b1 : (a0 != 34) = false := bne_eq_false_iff_eq.mpr c11
                  clear c11
                  obtain rfl := Option.some.inj H
                  go_enter Try.func36, Try.ntmps36
                  go_wp2_with (first | ((with_reducible refine gate_callee (f := 38) rfl ?_); refine goesL_ (some 6) rfl rfl Try.func38 (by kernel_rfl) rfl #[.int .u8 a0] rfl (by (try simp only [List.map_toArray, List.map_cons, List.map_nil]); first | done | rfl | (simp only [List.length_drop, List.length_take]; rfl)) ?_; (with_reducible refine (boltingref02_Space.calls a0 false _ A3.out).mono ?_); rintro e w' ⟨rfl, ⟨nd, rfl⟩⟩; refine ⟨_, rfl, ?_⟩))
                  go_ret
                  exact ⟨by first | rfl | (simp; done) | (congr 1; first | (with_reducible assumption) | (symm; with_reducible assumption)) | (simp [*]; done) | (simp only [ne_nil_empty]; done) | (rw [ne_nil_empty]; rfl), by repeat (first | exact Drawn0.refl _ | apply Drawn0.step)⟩
                · rw [if_neg c11] at H
                  have c11b0 : (a0 == 34) = false := beq_eq_false_iff_ne.mpr c11
                  have c11b1 : (a0 != 34) = true := bne_iff_ne.mpr c11
                  by_cases c12 : a0 = 39
                  · rw [if_pos c12] at H
                    have c12b0 : (a0 == 39) = true := beq_iff_eq.mpr c12
                    have c12b1 : (a0 != 39) = false := bne_eq_false_iff_eq.mpr c12
                    clear c12
                    obtain rfl := Option.some.inj H
                    go_enter Try.func36, Try.ntmps36
                    go_wp2_with (first | ((with_reducible refine gate_callee (f := 38) rfl ?_); refine goesL_ (some 6) rfl rfl Try.func38 (by kernel_rfl) rfl #[.int .u8 a0] rfl (by (try simp only [List.map_toArray, List.map_cons, List.map_nil]); first | done | rfl | (simp only [List.length_drop, List.length_take]; rfl)) ?_; (with_reducible refine (boltingref02_Space.calls a0 false _ A3.out).mono ?_); rintro e w' ⟨rfl, ⟨nd, rfl⟩⟩; refine ⟨_, rfl, ?_⟩))
                    go_ret
                    exact ⟨by first | rfl | (simp; done) | (congr 1; first | (with_reducible assumption) | (symm; with_reducible assumption)) | (simp [*]; done) | (simp only [ne_nil_empty]; done) | (rw [ne_nil_empty]; rfl), by repeat (first | exact Drawn0.refl _ | apply Drawn0.step)⟩
                  · rw [if_neg c12] at H
                    have c12b0 : (a0 == 39) = false := beq_eq_false_iff_ne.mpr c12
                    have c12b1 : (a0 != 39) = true := bne_iff_ne.mpr c12
                    by_cases c13 : a0 = 60
                    · rw [if_pos c13] at H
                      have c13b0 : (a0 == 60) = true := beq_iff_eq.mpr c13
                      have c13b1 : (a0 != 60) = false := bne_eq_false_iff_eq.mpr c13
                      clear c13
                      obtain rfl := Option.some.inj H
                      go_enter Try.func36, Try.ntmps36
                      go_wp2_with (first | ((with_reducible refine gate_callee (f := 38) rfl ?_); refine goesL_ (some 6) rfl rfl Try.func38 (by kernel_rfl) rfl #[.int .u8 a0] rfl (by (try simp only [List.map_toArray, List.map_cons, List.map_nil]); first | done | rfl | (simp only [List.length_drop, List.length_take]; rfl)) ?_; (with_reducible refine (boltingref02_Space.calls a0 false _ A3.out).mono ?_); rintro e w' ⟨rfl, ⟨nd, rfl⟩⟩; refine ⟨_, rfl, ?_⟩))
                      go_ret
                      exact ⟨by first | rfl | (simp; done) | (congr 1; first | (with_reducible assumption) | (symm; with_reducible assumption)) | (simp [*]; done) | (simp only [ne_nil_empty]; done) | (rw [ne_nil_empty]; rfl), by repeat (first | exact Drawn0.refl _ | apply Drawn0.step)⟩
                    · rw [if_neg c13] at H
                      have c13b0 : (a0 == 60) = false := beq_eq_false_iff_ne.mpr c13
                      have c13b1 : (a0 != 60) = true := bne_iff_ne.mpr c13
                      obtain rfl := Option.some.inj H
                      go_enter Try.func36, Try.ntmps36
                      go_wp2_with (first | ((with_reducible refine gate_callee (f := 38) rfl ?_); refine goesL_ (some 6) rfl rfl Try.func38 (by kernel_rfl) rfl #[.int .u8 a0] rfl (by (try simp only [List.map_toArray, List.map_cons, List.map_nil]); first | done | rfl | (simp only [List.length_drop, List.length_take]; rfl)) ?_; (with_reducible refine (boltingref02_Space.calls a0 false _ A3.out).mono ?_); rintro e w' ⟨rfl, ⟨nd, rfl⟩⟩; refine ⟨_, rfl, ?_⟩))
                      go_ret
                      exact ⟨by first | rfl | (simp; done) | (congr 1; first | (with_reducible assumption) | (symm; with_reducible assumption)) | (simp [*]; done) | (simp only [ne_nil_empty]; done) | (rw [ne_nil_empty]; rfl), by repeat (first | exact Drawn0.refl _ | apply Drawn0.step)⟩
              · replace c10 := Bool.eq_false_iff.mpr c10
                subst c10
                have H1 : (some false) = some r := by rw [if_neg (show ¬ (false = true) by decide)] at H; exact H
                clear H
                have H := H1
                clear H1
                obtain rfl := Option.some.inj H
                go_enter Try.func36, Try.ntmps36
                go_wp2_with (first | ((with_reducible refine gate_callee (f := 38) rfl ?_); refine goesL_ (some 6) rfl rfl Try.func38 (by kernel_rfl) rfl #[.int .u8 a0] rfl (by (try simp only [List.map_toArray, List.map_cons, List.map_nil]); first | done | rfl | (simp only [List.length_drop, List.length_take]; rfl)) ?_; (with_reducible refine (boltingref02_Space.calls a0 false _ A3.out).mono ?_); rintro e w' ⟨rfl, ⟨nd, rfl⟩⟩; refine ⟨_, rfl, ?_⟩))
                go_ret
                exact ⟨by first | rfl | (simp; done) | (congr 1; first | (with_reducible assumption) | (symm; with_reducible assumption)) | (simp [*]; done) | (simp only [ne_nil_empty]; done) | (rw [ne_nil_empty]; rfl), by repeat (first | exact Drawn0.refl _ | apply Drawn0.step)⟩
    · rw [if_neg c5] at H
      have c5b0 : decide (65 ≤ a0) = false := decide_eq_false c5
      clear c5
      by_cases c14 : a0 = 0
      · rw [if_pos c14] at H
        have c14b0 : (a0 == 0) = true := beq_iff_eq.mpr c14
        have c14b1 : (a0 != 0) = false := bne_eq_false_iff_eq.mpr c14
        clear c14
        obtain rfl := Option.some.inj H
        go_enter Try.func36, Try.ntmps36
        go_wp2_with (first | ((with_reducible refine gate_callee (f := 38) rfl ?_); refine goesL_ (some 6) rfl rfl Try.func38 (by kernel_rfl) rfl #[.int .u8 a0] rfl (by (try simp only [List.map_toArray, List.map_cons, List.map_nil]); first | done | rfl | (simp only [List.length_drop, List.length_take]; rfl)) ?_; (with_reducible refine (boltingref02_Space.calls a0 false _ A3.out).mono ?_); rintro e w' ⟨rfl, ⟨nd, rfl⟩⟩; refine ⟨_, rfl, ?_⟩))
        go_ret
        exact ⟨by first | rfl | (simp; done) | (congr 1; first | (with_reducible assumption) | (symm; with_reducible assumption)) | (simp [*]; done) | (simp only [ne_nil_empty]; done) | (rw [ne_nil_empty]; rfl), by repeat (first | exact Drawn0.refl _ | apply Drawn0.step)⟩
      · rw [if_neg c14] at H
        have c14b0 : (a0 == 0) = false := beq_eq_false_iff_ne.mpr c14
        have c14b1 : (a0 != 0) = true := bne_iff_ne.mpr c14
        by_cases c15 : a0 = 47
        · rw [if_pos c15] at H
          have c15b0 : (a0 == 47) = true := beq_iff_eq.mpr c15
          have c15b1 : (a0 != 47) = false := bne_eq_false_iff_eq.mpr c15
          clear c15
          obtain rfl := Option.some.inj H
          go_enter Try.func36, Try.ntmps36
          go_wp2_with (first | ((with_reducible refine gate_callee (f := 38) rfl ?_); refine goesL_ (some 6) rfl rfl Try.func38 (by kernel_rfl) rfl #[.int .u8 a0] rfl (by (try simp only [List.map_toArray, List.map_cons, List.map_nil]); first | done | rfl | (simp only [List.length_drop, List.length_take]; rfl)) ?_; (with_reducible refine (boltingref02_Space.calls a0 false _ A3.out).mono ?_); rintro e w' ⟨rfl, ⟨nd, rfl⟩⟩; refine ⟨_, rfl, ?_⟩))
          go_ret
          exact ⟨by first | rfl | (simp; done) | (congr 1; first | (with_reducible assumption) | (symm; with_reducible assumption)) | (simp [*]; done) | (simp only [ne_nil_empty]; done) | (rw [ne_nil_empty]; rfl), by repeat (first | exact Drawn0.refl _ | apply Drawn0.step)⟩
        · rw [if_neg c15] at H
          have c15b0 : (a0 == 47) = false := beq_eq_false_iff_ne.mpr c15
          have c15b1 : (a0 != 47) = true := bne_iff_ne.mpr c15
          by_cases c16 : a0 = 62
          · rw [if_pos c16] at H
            have c16b0 : (a0 == 62) = true := beq_iff_eq.mpr c16
            have c16b1 : (a0 != 62) = false := bne_eq_false_iff_eq.mpr c16
            clear c16
            obtain rfl := Option.some.inj H
            go_enter Try.func36, Try.ntmps36
            go_wp2_with (first | ((with_reducible refine gate_callee (f := 38) rfl ?_); refine goesL_ (some 6) rfl rfl Try.func38 (by kernel_rfl) rfl #[.int .u8 a0] rfl (by (try simp only [List.map_toArray, List.map_cons, List.map_nil]); first | done | rfl | (simp only [List.length_drop, List.length_take]; rfl)) ?_; (with_reducible refine (boltingref02_Space.calls a0 false _ A3.out).mono ?_); rintro e w' ⟨rfl, ⟨nd, rfl⟩⟩; refine ⟨_, rfl, ?_⟩))
            go_ret
            exact ⟨by first | rfl | (simp; done) | (congr 1; first | (with_reducible assumption) | (symm; with_reducible assumption)) | (simp [*]; done) | (simp only [ne_nil_empty]; done) | (rw [ne_nil_empty]; rfl), by repeat (first | exact Drawn0.refl _ | apply Drawn0.step)⟩
          · rw [if_neg c16] at H
            have c16b0 : (a0 == 62) = false := beq_eq_false_iff_ne.mpr c16
            have c16b1 : (a0 != 62) = true := bne_iff_ne.mpr c16
            by_cases c17 : a1 = true
            · subst c17
              have H1 : (if a0 = 34 then (some true) else (if a0 = 39 then (some true) else (if a0 = 60 then (some true) else (some (a0 == 61))))) = some r := by rw [if_pos rfl] at H; exact H
              clear H
              have H := H1
              clear H1
              by_cases c18 : a0 = 34
              · rw [if_pos c18] at H
                have c18b0 : (a0 == 34) = true := beq_iff_eq.mpr c18
                have c18b1 : (a0 != 34) = false := bne_eq_false_iff_eq.mpr c18
                clear c18
                obtain rfl := Option.some.inj H
                go_enter Try.func36, Try.ntmps36
                go_wp2_with (first | ((with_reducible refine gate_callee (f := 38) rfl ?_); refine goesL_ (some 6) rfl rfl Try.func38 (by kernel_rfl) rfl #[.int .u8 a0] rfl (by (try simp only [List.map_toArray, List.map_cons, List.map_nil]); first | done | rfl | (simp only [List.length_drop, List.length_take]; rfl)) ?_; (with_reducible refine (boltingref02_Space.calls a0 false _ A3.out).mono ?_); rintro e w' ⟨rfl, ⟨nd, rfl⟩⟩; refine ⟨_, rfl, ?_⟩))
                go_ret
                exact ⟨by first | rfl | (simp; done) | (congr 1; first | (with_reducible assumption) | (symm; with_reducible assumption)) | (simp [*]; done) | (simp only [ne_nil_empty]; done) | (rw [ne_nil_empty]; rfl), by repeat (first | exact Drawn0.refl _ | apply Drawn0.step)⟩
              · rw [if_neg c18] at H
                have c18b0 : (a0 == 34) = false := beq_eq_false_iff_ne.mpr c18
                have c18b1 : (a0 != 34) = true := bne_iff_ne.mpr c18
                by_cases c19 : a0 = 39
                · rw [if_pos c19] at H
                  have c19b0 : (a0 == 39) = true := beq_iff_eq.mpr c19
                  have c19b1 : (a0 != 39) = false := bne_eq_false_iff_eq.mpr c19
                  clear c19
                  obtain rfl := Option.some.inj H
                  go_enter Try.func36, Try.ntmps36
                  go_wp2_with (first | ((with_reducible refine gate_callee (f := 38) rfl ?_); refine goesL_ (some 6) rfl rfl Try.func38 (by kernel_rfl) rfl #[.int .u8 a0] rfl (by (try simp only [List.map_toArray, List.map_cons, List.map_nil]); first | done | rfl | (simp only [List.length_drop, List.length_take]; rfl)) ?_; (with_reducible refine (boltingref02_Space.calls a0 false _ A3.out).mono ?_); rintro e w' ⟨rfl, ⟨nd, rfl⟩⟩; refine ⟨_, rfl, ?_⟩))
                  go_ret
                  exact ⟨by first | rfl | (simp; done) | (congr 1; first | (with_reducible assumption) | (symm; with_reducible assumption)) | (simp [*]; done) | (simp only [ne_nil_empty]; done) | (rw [ne_nil_empty]; rfl), by repeat (first | exact Drawn0.refl _ | apply Drawn0.step)⟩
                · rw [if_neg c19] at H
                  have c19b0 : (a0 == 39) = false := beq_eq_false_iff_ne.mpr c19
                  have c19b1 : (a0 != 39) = true := bne_iff_ne.mpr c19
                  by_cases c20 : a0 = 60
                  · rw [if_pos c20] at H
                    have c20b0 : (a0 == 60) = true := beq_iff_eq.mpr c20
                    have c20b1 : (a0 != 60) = false := bne_eq_false_iff_eq.mpr c20
                    clear c20
                    obtain rfl := Option.some.inj H
                    go_enter Try.func36, Try.ntmps36
                    go_wp2_with (first | ((with_reducible refine gate_callee (f := 38) rfl ?_); refine goesL_ (some 6) rfl rfl Try.func38 (by kernel_rfl) rfl #[.int .u8 a0] rfl (by (try simp only [List.map_toArray, List.map_cons, List.map_nil]); first | done | rfl | (simp only [List.length_drop, List.length_take]; rfl)) ?_; (with_reducible refine (boltingref02_Space.calls a0 false _ A3.out).mono ?_); rintro e w' ⟨rfl, ⟨nd, rfl⟩⟩; refine ⟨_, rfl, ?_⟩))
                    go_ret
                    exact ⟨by first | rfl | (simp; done) | (congr 1; first | (with_reducible assumption) | (symm; with_reducible assumption)) | (simp [*]; done) | (simp only [ne_nil_empty]; done) | (rw [ne_nil_empty]; rfl), by repeat (first | exact Drawn0.refl _ | apply Drawn0.step)⟩
                  · rw [if_neg c20] at H
                    have c20b0 : (a0 == 60) = false := beq_eq_false_iff_ne.mpr c20
                    have c20b1 : (a0 != 60) = true := bne_iff_ne.mpr c20
                    obtain rfl := Option.some.inj H
                    go_enter Try.func36, Try.ntmps36
                    go_wp2_with (first | ((with_reducible refine gate_callee (f := 38) rfl ?_); refine goesL_ (some 6) rfl rfl Try.func38 (by kernel_rfl) rfl #[.int .u8 a0] rfl (by (try simp only [List.map_toArray, List.map_cons, List.map_nil]); first | done | rfl | (simp only [List.length_drop, List.length_take]; rfl)) ?_; (with_reducible refine (boltingref02_Space.calls a0 false _ A3.out).mono ?_); rintro e w' ⟨rfl, ⟨nd, rfl⟩⟩; refine ⟨_, rfl, ?_⟩))
                    go_ret
                    exact ⟨by first | rfl | (simp; done) | (congr 1; first | (with_reducible assumption) | (symm; with_reducible assumption)) | (simp [*]; done) | (simp only [ne_nil_empty]; done) | (rw [ne_nil_empty]; rfl), by repeat (first | exact Drawn0.refl _ | apply Drawn0.step)⟩
            · replace c17 := Bool.eq_false_iff.mpr c17
              subst c17
              have H1 : (some false) = some r := by rw [if_neg (show ¬ (false = true) by decide)] at H; exact H
              clear H
              have H := H1
              clear H1
              obtain rfl := Option.some.inj H
              go_enter Try.func36, Try.ntmps36
              go_wp2_with (first | ((with_reducible refine gate_callee (f := 38) rfl ?_); refine goesL_ (some 6) rfl rfl Try.func38 (by kernel_rfl) rfl #[.int .u8 a0] rfl (by (try simp only [List.map_toArray, List.map_cons, List.map_nil]); first | done | rfl | (simp only [List.length_drop, List.length_take]; rfl)) ?_; (with_reducible refine (boltingref02_Space.calls a0 false _ A3.out).mono ?_); rintro e w' ⟨rfl, ⟨nd, rfl⟩⟩; refine ⟨_, rfl, ?_⟩))
              go_ret
              exact ⟨by first | rfl | (simp; done) | (congr 1; first | (with_reducible assumption) | (symm; with_reducible assumption)) | (simp [*]; done) | (simp only [ne_nil_empty]; done) | (rw [ne_nil_empty]; rfl), by repeat (first | exact Drawn0.refl _ | apply Drawn0.step)⟩

end Go.Proofs.Ytacffcdjgjiemaa.QA
