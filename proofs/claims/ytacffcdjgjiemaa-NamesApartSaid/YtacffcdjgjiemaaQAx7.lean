-- Written by a program of this claim's own (wip/gen/gen.py), out of the translation; an ordinary proof text.
import Derived.Test.YtacffcdjgjiemaaQAx0
import Derived.Test.YtacffcdjgjiemaaQAx1
import Derived.Test.YtacffcdjgjiemaaQAx2
import Derived.Test.YtacffcdjgjiemaaQAx3
namespace Go.Proofs.Ytacffcdjgjiemaa.QA
open Go.RowKit Go.Proofs.YtacffcdjgjiemaaW.PrintWords Go.Proofs.YtacffcdjgjiemaaW.PrintLast Go.Proofs.YtacffcdjgjiemaaW.PrintMore
attribute [local go_sem] max2_int min2_int max_two min_two max_three min_three max_four min_four   -- for this text's walks alone
set_option linter.unusedVariables false
set_option linter.unusedSimpArgs false

/-! ### boltinglaw05_NamesApart: function 6 -/
mutual
def boltinglaw05_NamesApart.j0 : Nat → ByteArray → Int → Option (Bool)
  | 0, _, _ => none
  | k + 1, x0, x3 => (names_Raw.f k x0).bind fun t338 => (if t338 = true then (boltinglaw05_NamesApart.j1 k x0 (wrap64 (x3 + 1))) else (boltinglaw05_NamesApart.j1 k x0 x3))
def boltinglaw05_NamesApart.j1 : Nat → ByteArray → Int → Option (Bool)
  | 0, _, _ => none
  | k + 1, x0, x3 => (names_Soft.f k x0).bind fun t339 => (if t339 = true then (boltinglaw05_NamesApart.j2 k x0 (wrap64 (x3 + 1))) else (boltinglaw05_NamesApart.j2 k x0 x3))
def boltinglaw05_NamesApart.j2 : Nat → ByteArray → Int → Option (Bool)
  | 0, _, _ => none
  | k + 1, x0, x3 => (names_Gone.f k x0).bind fun t340 => (if t340 = true then (boltinglaw05_NamesApart.j3 k x0 (wrap64 (x3 + 1))) else (boltinglaw05_NamesApart.j3 k x0 x3))
def boltinglaw05_NamesApart.j3 : Nat → ByteArray → Int → Option (Bool)
  | 0, _, _ => none
  | k + 1, x0, x3 => (some (([] : List ByteArray) : List ByteArray)).bind fun y341 => ((names_Closes.f k x0).bind fun t344 => (if y341.length + t344.length < 8796093022208 then ((some (y341 ++ t344 : List ByteArray)).bind fun y347 => ((names_Walls.f k x0).bind fun t350 => (if y347.length + t350.length < 8796093022208 then (boltinglaw05_NamesApart.l0 k x0 x3 (y347 ++ t350) 0) else (none)))) else (none)))
def boltinglaw05_NamesApart.l0 : Nat → ByteArray → Int → List ByteArray → Int → Option (Bool)
  | 0, _, _, _, _ => none
  | k + 1, x0, x3, x4, x5 => if x5 < (x4.length : Int) then (if 0 ≤ x5 then ((names_Right.f k (rdOf ByteArray.empty x4 x5)).bind fun t357 => (if t357 = true then (boltinglaw05_NamesApart.l0 k x0 x3 x4 (wrap64 (x5 + 1))) else (some false))) else (none)) else (if x3 ≤ 1 then (if x3 = 0 then ((names_Block.f k x0).bind fun t358 => (if t358 = true then ((names_Right.f k x0).bind fun t359 => (if t359 = true then ((boltinglaw05_fixed.f k).bind fun t360 => (some t360)) else (some false))) else ((boltinglaw05_fixed.f k).bind fun t361 => (some t361)))) else ((names_Right.f k x0).bind fun t362 => (if t362 = true then ((boltinglaw05_fixed.f k).bind fun t363 => (some t363)) else (some false)))) else (some false))
end
def boltinglaw05_NamesApart.f (k : Nat) (a0 : ByteArray) : Option (Bool) := (names_Void.f k a0).bind fun t337 => (if t337 = true then (boltinglaw05_NamesApart.j0 k a0 (0 + 1)) else (boltinglaw05_NamesApart.j0 k a0 0))
theorem boltinglaw05_NamesApart.mono_l : ∀ k, (∀ y0 y1, LeO (boltinglaw05_NamesApart.j0 k y0 y1) (boltinglaw05_NamesApart.j0 (k + 1) y0 y1)) ∧ (∀ y0 y1, LeO (boltinglaw05_NamesApart.j1 k y0 y1) (boltinglaw05_NamesApart.j1 (k + 1) y0 y1)) ∧ (∀ y0 y1, LeO (boltinglaw05_NamesApart.j2 k y0 y1) (boltinglaw05_NamesApart.j2 (k + 1) y0 y1)) ∧ (∀ y0 y1, LeO (boltinglaw05_NamesApart.j3 k y0 y1) (boltinglaw05_NamesApart.j3 (k + 1) y0 y1)) ∧ (∀ y0 y1 y2 y3, LeO (boltinglaw05_NamesApart.l0 k y0 y1 y2 y3) (boltinglaw05_NamesApart.l0 (k + 1) y0 y1 y2 y3))
  | 0 => ⟨fun _ _ r h => by simp [boltinglaw05_NamesApart.j0] at h, fun _ _ r h => by simp [boltinglaw05_NamesApart.j1] at h, fun _ _ r h => by simp [boltinglaw05_NamesApart.j2] at h, fun _ _ r h => by simp [boltinglaw05_NamesApart.j3] at h, fun _ _ _ _ r h => by simp [boltinglaw05_NamesApart.l0] at h⟩
  | k + 1 => by
    obtain ⟨ih0, ih1, ih2, ih3, ih4⟩ := boltinglaw05_NamesApart.mono_l k
    refine ⟨?_, ?_, ?_, ?_, ?_⟩
    · intro y0 y1
      unfold boltinglaw05_NamesApart.j0
      repeat' first
      | (with_reducible exact ih0 _ _)
      | (with_reducible exact ih1 _ _)
      | (with_reducible exact ih2 _ _)
      | (with_reducible exact ih3 _ _)
      | (with_reducible exact ih4 _ _ _ _)
      | (with_reducible exact boltinglaw05_fixed.mono _)
      | (with_reducible exact names_Block.mono _ _)
      | (with_reducible exact names_Closes.mono _ _)
      | (with_reducible exact names_Gone.mono _ _)
      | (with_reducible exact names_Raw.mono _ _)
      | (with_reducible exact names_Right.mono _ _)
      | (with_reducible exact names_Soft.mono _ _)
      | (with_reducible exact names_Void.mono _ _)
      | (with_reducible exact names_Walls.mono _ _)
      | (with_reducible exact LeO.refl _)
      | (with_reducible exact LeO.none _)
      | (with_reducible refine LeO.ite ?_ ?_)
      | (with_reducible refine LeO.bind ?_ (fun _ => ?_))
      | exact ih0 _ _
      | exact ih1 _ _
      | exact ih2 _ _
      | exact ih3 _ _
      | exact ih4 _ _ _ _
      | exact boltinglaw05_fixed.mono _
      | exact names_Block.mono _ _
      | exact names_Closes.mono _ _
      | exact names_Gone.mono _ _
      | exact names_Raw.mono _ _
      | exact names_Right.mono _ _
      | exact names_Soft.mono _ _
      | exact names_Void.mono _ _
      | exact names_Walls.mono _ _
      | exact LeO.none _
      | refine LeO.ite ?_ ?_
      | refine LeO.bind ?_ (fun _ => ?_)
    · intro y0 y1
      unfold boltinglaw05_NamesApart.j1
      repeat' first
      | (with_reducible exact ih0 _ _)
      | (with_reducible exact ih1 _ _)
      | (with_reducible exact ih2 _ _)
      | (with_reducible exact ih3 _ _)
      | (with_reducible exact ih4 _ _ _ _)
      | (with_reducible exact boltinglaw05_fixed.mono _)
      | (with_reducible exact names_Block.mono _ _)
      | (with_reducible exact names_Closes.mono _ _)
      | (with_reducible exact names_Gone.mono _ _)
      | (with_reducible exact names_Raw.mono _ _)
      | (with_reducible exact names_Right.mono _ _)
      | (with_reducible exact names_Soft.mono _ _)
      | (with_reducible exact names_Void.mono _ _)
      | (with_reducible exact names_Walls.mono _ _)
      | (with_reducible exact LeO.refl _)
      | (with_reducible exact LeO.none _)
      | (with_reducible refine LeO.ite ?_ ?_)
      | (with_reducible refine LeO.bind ?_ (fun _ => ?_))
      | exact ih0 _ _
      | exact ih1 _ _
      | exact ih2 _ _
      | exact ih3 _ _
      | exact ih4 _ _ _ _
      | exact boltinglaw05_fixed.mono _
      | exact names_Block.mono _ _
      | exact names_Closes.mono _ _
      | exact names_Gone.mono _ _
      | exact names_Raw.mono _ _
      | exact names_Right.mono _ _
      | exact names_Soft.mono _ _
      | exact names_Void.mono _ _
      | exact names_Walls.mono _ _
      | exact LeO.none _
      | refine LeO.ite ?_ ?_
      | refine LeO.bind ?_ (fun _ => ?_)
    · intro y0 y1
      unfold boltinglaw05_NamesApart.j2
      repeat' first
      | (with_reducible exact ih0 _ _)
      | (with_reducible exact ih1 _ _)
      | (with_reducible exact ih2 _ _)
      | (with_reducible exact ih3 _ _)
      | (with_reducible exact ih4 _ _ _ _)
      | (with_reducible exact boltinglaw05_fixed.mono _)
      | (with_reducible exact names_Block.mono _ _)
      | (with_reducible exact names_Closes.mono _ _)
      | (with_reducible exact names_Gone.mono _ _)
      | (with_reducible exact names_Raw.mono _ _)
      | (with_reducible exact names_Right.mono _ _)
      | (with_reducible exact names_Soft.mono _ _)
      | (with_reducible exact names_Void.mono _ _)
      | (with_reducible exact names_Walls.mono _ _)
      | (with_reducible exact LeO.refl _)
      | (with_reducible exact LeO.none _)
      | (with_reducible refine LeO.ite ?_ ?_)
      | (with_reducible refine LeO.bind ?_ (fun _ => ?_))
      | exact ih0 _ _
      | exact ih1 _ _
      | exact ih2 _ _
      | exact ih3 _ _
      | exact ih4 _ _ _ _
      | exact boltinglaw05_fixed.mono _
      | exact names_Block.mono _ _
      | exact names_Closes.mono _ _
      | exact names_Gone.mono _ _
      | exact names_Raw.mono _ _
      | exact names_Right.mono _ _
      | exact names_Soft.mono _ _
      | exact names_Void.mono _ _
      | exact names_Walls.mono _ _
      | exact LeO.none _
      | refine LeO.ite ?_ ?_
      | refine LeO.bind ?_ (fun _ => ?_)
    · intro y0 y1
      unfold boltinglaw05_NamesApart.j3
      repeat' first
      | (with_reducible exact ih0 _ _)
      | (with_reducible exact ih1 _ _)
      | (with_reducible exact ih2 _ _)
      | (with_reducible exact ih3 _ _)
      | (with_reducible exact ih4 _ _ _ _)
      | (with_reducible exact boltinglaw05_fixed.mono _)
      | (with_reducible exact names_Block.mono _ _)
      | (with_reducible exact names_Closes.mono _ _)
      | (with_reducible exact names_Gone.mono _ _)
      | (with_reducible exact names_Raw.mono _ _)
      | (with_reducible exact names_Right.mono _ _)
      | (with_reducible exact names_Soft.mono _ _)
      | (with_reducible exact names_Void.mono _ _)
      | (with_reducible exact names_Walls.mono _ _)
      | (with_reducible exact LeO.refl _)
      | (with_reducible exact LeO.none _)
      | (with_reducible refine LeO.ite ?_ ?_)
      | (with_reducible refine LeO.bind ?_ (fun _ => ?_))
      | exact ih0 _ _
      | exact ih1 _ _
      | exact ih2 _ _
      | exact ih3 _ _
      | exact ih4 _ _ _ _
      | exact boltinglaw05_fixed.mono _
      | exact names_Block.mono _ _
      | exact names_Closes.mono _ _
      | exact names_Gone.mono _ _
      | exact names_Raw.mono _ _
      | exact names_Right.mono _ _
      | exact names_Soft.mono _ _
      | exact names_Void.mono _ _
      | exact names_Walls.mono _ _
      | exact LeO.none _
      | refine LeO.ite ?_ ?_
      | refine LeO.bind ?_ (fun _ => ?_)
    · intro y0 y1 y2 y3
      unfold boltinglaw05_NamesApart.l0
      repeat' first
      | (with_reducible exact ih0 _ _)
      | (with_reducible exact ih1 _ _)
      | (with_reducible exact ih2 _ _)
      | (with_reducible exact ih3 _ _)
      | (with_reducible exact ih4 _ _ _ _)
      | (with_reducible exact boltinglaw05_fixed.mono _)
      | (with_reducible exact names_Block.mono _ _)
      | (with_reducible exact names_Closes.mono _ _)
      | (with_reducible exact names_Gone.mono _ _)
      | (with_reducible exact names_Raw.mono _ _)
      | (with_reducible exact names_Right.mono _ _)
      | (with_reducible exact names_Soft.mono _ _)
      | (with_reducible exact names_Void.mono _ _)
      | (with_reducible exact names_Walls.mono _ _)
      | (with_reducible exact LeO.refl _)
      | (with_reducible exact LeO.none _)
      | (with_reducible refine LeO.ite ?_ ?_)
      | (with_reducible refine LeO.bind ?_ (fun _ => ?_))
      | exact ih0 _ _
      | exact ih1 _ _
      | exact ih2 _ _
      | exact ih3 _ _
      | exact ih4 _ _ _ _
      | exact boltinglaw05_fixed.mono _
      | exact names_Block.mono _ _
      | exact names_Closes.mono _ _
      | exact names_Gone.mono _ _
      | exact names_Raw.mono _ _
      | exact names_Right.mono _ _
      | exact names_Soft.mono _ _
      | exact names_Void.mono _ _
      | exact names_Walls.mono _ _
      | exact LeO.none _
      | refine LeO.ite ?_ ?_
      | refine LeO.bind ?_ (fun _ => ?_)
theorem boltinglaw05_NamesApart.mono : ∀ a0 k, LeO (boltinglaw05_NamesApart.f k a0) (boltinglaw05_NamesApart.f (k + 1) a0) := by
  intro a0 k
  obtain ⟨ih0, ih1, ih2, ih3, ih4⟩ := boltinglaw05_NamesApart.mono_l k
  unfold boltinglaw05_NamesApart.f
  repeat' first
      | (with_reducible exact ih0 _ _)
      | (with_reducible exact ih1 _ _)
      | (with_reducible exact ih2 _ _)
      | (with_reducible exact ih3 _ _)
      | (with_reducible exact ih4 _ _ _ _)
      | (with_reducible exact boltinglaw05_fixed.mono _)
      | (with_reducible exact names_Block.mono _ _)
      | (with_reducible exact names_Closes.mono _ _)
      | (with_reducible exact names_Gone.mono _ _)
      | (with_reducible exact names_Raw.mono _ _)
      | (with_reducible exact names_Right.mono _ _)
      | (with_reducible exact names_Soft.mono _ _)
      | (with_reducible exact names_Void.mono _ _)
      | (with_reducible exact names_Walls.mono _ _)
      | (with_reducible exact LeO.refl _)
      | (with_reducible exact LeO.none _)
      | (with_reducible refine LeO.ite ?_ ?_)
      | (with_reducible refine LeO.bind ?_ (fun _ => ?_))
      | exact ih0 _ _
      | exact ih1 _ _
      | exact ih2 _ _
      | exact ih3 _ _
      | exact ih4 _ _ _ _
      | exact boltinglaw05_fixed.mono _
      | exact names_Block.mono _ _
      | exact names_Closes.mono _ _
      | exact names_Gone.mono _ _
      | exact names_Raw.mono _ _
      | exact names_Right.mono _ _
      | exact names_Soft.mono _ _
      | exact names_Void.mono _ _
      | exact names_Walls.mono _ _
      | exact LeO.none _
      | refine LeO.ite ?_ ?_
      | refine LeO.bind ?_ (fun _ => ?_)
set_option maxHeartbeats 8000000 in
set_option maxRecDepth 100000 in
theorem boltinglaw05_NamesApart.calls (k : Nat) (a0 : ByteArray) (r : Bool) (w : World) (h : boltinglaw05_NamesApart.f k a0 = some r) :
    Calls Try.prog 6 #[.string a0] w fun e w' => e = .returned (.bool r) ∧ Below w.heap.size w w' := by
  have HB := Aside0.mk (Below.refl w.heap.size w)
  have H : ((names_Void.f k a0).bind fun t337 => (if t337 = true then (boltinglaw05_NamesApart.j0 k a0 (0 + 1)) else (boltinglaw05_NamesApart.j0 k a0 0))) = some r := h
  clear h
  replace H := Option.bind_eq_some_iff.mp H
  obtain ⟨t337, A20, H⟩ := H
  replace H : (if t337 = true then (boltinglaw05_NamesApart.j0 k a0 (0 + 1)) else (boltinglaw05_NamesApart.j0 k a0 0)) = some r := H
  have A2 := Aside0.mk A20
  clear A20
  have HC3 := Aside0.mk H
  clear H
  go_enter Try.func6, Try.ntmps6
  go_upto_if 7 with (first | ((with_reducible refine gate_callee (f := 11) rfl ?_); refine goesL_ (some 7) rfl rfl Try.func11 (by kernel_rfl) rfl #[.string a0] rfl (by (try simp only [List.map_toArray, List.map_cons, List.map_nil]); first | done | rfl | (simp only [List.length_drop, List.length_take]; rfl)) ?_; (with_reducible refine (names_Void.calls k a0 t337 _ A2.out).mono ?_); rintro e w4 ⟨rfl, hb⟩; refine ⟨_, rfl, ?_⟩; have n0_ := Aside0.mk (below_step (by repeat (first | (with_reducible first | exact HB.out | apply below_alloc | apply pw_below_drewN | apply below_drew1) | exact HB.out)) hb); clear HB; have HB := n0_; clear n0_; (try clear hb); (try clear hb2); (try clear hk); (try clear hi)))
  (try simp only [Act.put, List.setIfInBounds_toArray, List.set_cons_zero, List.set_cons_succ])
  go_cut [3] (fun v3 wc => ∃ (kq : Nat) (x3_2 : Int), v3 = .int .i64 x3_2 ∧ Aside0 (boltinglaw05_NamesApart.j0 kq a0 x3_2 = some r) ∧ Aside0 (kq ≤ k) ∧ Aside0 (Below w.heap.size w wc))
  case first =>
    have H := HC3.out
    clear HC3
    by_cases c5 : t337 = true
    · subst c5
      have H1 : (boltinglaw05_NamesApart.j0 k a0 (0 + 1)) = some r := by rw [if_pos rfl] at H; exact H
      clear H
      have H := H1
      clear H1
      have H' := Aside0.mk H
      clear H
      go_wp2
      go_meet
      case rel => exact ⟨_, (0 + 1), (by first | rfl | (simp; done) | (congr 1; first | (with_reducible assumption) | (symm; with_reducible assumption)) | (simp [*]; done) | (simp only [ne_nil_empty]; done) | (rw [ne_nil_empty]; rfl)), H', ⟨by first | omega | exact Nat.le_refl _⟩, ⟨by repeat (first | (with_reducible first | exact HB.out | apply below_alloc | apply pw_below_drewN | apply below_drew1) | exact HB.out)⟩⟩
    · replace c5 := Bool.eq_false_iff.mpr c5
      subst c5
      have H1 : (boltinglaw05_NamesApart.j0 k a0 0) = some r := by rw [if_neg (show ¬ (false = true) by decide)] at H; exact H
      clear H
      have H := H1
      clear H1
      have H' := Aside0.mk H
      clear H
      go_wp2
      go_meet
      case rel => exact ⟨_, (0), (by first | rfl | (simp; done) | (congr 1; first | (with_reducible assumption) | (symm; with_reducible assumption)) | (simp [*]; done) | (simp only [ne_nil_empty]; done) | (rw [ne_nil_empty]; rfl)), H', ⟨by first | omega | exact Nat.le_refl _⟩, ⟨by repeat (first | (with_reducible first | exact HB.out | apply below_alloc | apply pw_below_drewN | apply below_drew1) | exact HB.out)⟩⟩
  case rest =>
    clear HC3
    try clear c1
    try clear p2
    try clear c5
    obtain ⟨kq, x3_2, rfl, HA, HJ2, HB⟩ := hcut
    cases kq with
    | zero => exact absurd HA.out (by simp [boltinglaw05_NamesApart.j0])
    | succ kj2 =>
      have H := HA.out
      clear HA
      simp only [boltinglaw05_NamesApart.j0] at H
      replace H := Option.bind_eq_some_iff.mp H
      obtain ⟨t338, A60, H⟩ := H
      replace H : (if t338 = true then (boltinglaw05_NamesApart.j1 kj2 a0 (wrap64 (x3_2 + 1))) else (boltinglaw05_NamesApart.j1 kj2 a0 x3_2)) = some r := H
      have A6 := Aside0.mk A60
      clear A60
      have HC7 := Aside0.mk H
      clear H
      go_upto_if 11 with (first | ((with_reducible refine gate_callee (f := 14) rfl ?_); refine goesL_ (some 11) rfl rfl Try.func14 (by kernel_rfl) rfl #[.string a0] rfl (by (try simp only [List.map_toArray, List.map_cons, List.map_nil]); first | done | rfl | (simp only [List.length_drop, List.length_take]; rfl)) ?_; (with_reducible refine (names_Raw.calls kj2 a0 t338 _ A6.out).mono ?_); rintro e w8 ⟨rfl, hb⟩; refine ⟨_, rfl, ?_⟩; have n0_ := Aside0.mk (below_step (by repeat (first | (with_reducible first | exact HB.out | apply below_alloc | apply pw_below_drewN | apply below_drew1) | exact HB.out)) hb); clear HB; have HB := n0_; clear n0_; (try clear hb); (try clear hb2); (try clear hk); (try clear hi)))
      (try simp only [Act.put, List.setIfInBounds_toArray, List.set_cons_zero, List.set_cons_succ])
      go_cut [3] (fun v3 wc => ∃ (kq : Nat) (x3_6 : Int), v3 = .int .i64 x3_6 ∧ Aside0 (boltinglaw05_NamesApart.j1 kq a0 x3_6 = some r) ∧ Aside0 (kq ≤ kj2) ∧ Aside0 (Below w.heap.size w wc))
      case first =>
        have H := HC7.out
        clear HC7
        by_cases c9 : t338 = true
        · subst c9
          have H1 : (boltinglaw05_NamesApart.j1 kj2 a0 (wrap64 (x3_2 + 1))) = some r := by rw [if_pos rfl] at H; exact H
          clear H
          have H := H1
          clear H1
          have H' := Aside0.mk H
          clear H
          go_wp2
          go_meet
          case rel => exact ⟨_, (wrap64 (x3_2 + 1)), (by first | rfl | (simp; done) | (congr 1; first | (with_reducible assumption) | (symm; with_reducible assumption)) | (simp [*]; done) | (simp only [ne_nil_empty]; done) | (rw [ne_nil_empty]; rfl)), H', ⟨by have := HJ2.out; first | omega | exact Nat.le_refl _⟩, ⟨by repeat (first | (with_reducible first | exact HB.out | apply below_alloc | apply pw_below_drewN | apply below_drew1) | exact HB.out)⟩⟩
        · replace c9 := Bool.eq_false_iff.mpr c9
          subst c9
          have H1 : (boltinglaw05_NamesApart.j1 kj2 a0 x3_2) = some r := by rw [if_neg (show ¬ (false = true) by decide)] at H; exact H
          clear H
          have H := H1
          clear H1
          have H' := Aside0.mk H
          clear H
          go_wp2
          go_meet
          case rel => exact ⟨_, (x3_2), (by first | rfl | (simp; done) | (congr 1; first | (with_reducible assumption) | (symm; with_reducible assumption)) | (simp [*]; done) | (simp only [ne_nil_empty]; done) | (rw [ne_nil_empty]; rfl)), H', ⟨by have := HJ2.out; first | omega | exact Nat.le_refl _⟩, ⟨by repeat (first | (with_reducible first | exact HB.out | apply below_alloc | apply pw_below_drewN | apply below_drew1) | exact HB.out)⟩⟩
      case rest =>
        clear HC7
        try clear c1
        try clear p2
        try clear c5
        try clear c6
        try clear p6
        try clear c9
        try clear p2
        obtain ⟨kq, x3_6, rfl, HA, HJ6, HB⟩ := hcut
        cases kq with
        | zero => exact absurd HA.out (by simp [boltinglaw05_NamesApart.j1])
        | succ kj6 =>
          have H := HA.out
          clear HA
          simp only [boltinglaw05_NamesApart.j1] at H
          replace H := Option.bind_eq_some_iff.mp H
          obtain ⟨t339, A100, H⟩ := H
          replace H : (if t339 = true then (boltinglaw05_NamesApart.j2 kj6 a0 (wrap64 (x3_6 + 1))) else (boltinglaw05_NamesApart.j2 kj6 a0 x3_6)) = some r := H
          have A10 := Aside0.mk A100
          clear A100
          have HC11 := Aside0.mk H
          clear H
          go_upto_if 15 with (first | ((with_reducible refine gate_callee (f := 16) rfl ?_); refine goesL_ (some 15) rfl rfl Try.func16 (by kernel_rfl) rfl #[.string a0] rfl (by (try simp only [List.map_toArray, List.map_cons, List.map_nil]); first | done | rfl | (simp only [List.length_drop, List.length_take]; rfl)) ?_; (with_reducible refine (names_Soft.calls kj6 a0 t339 _ A10.out).mono ?_); rintro e w12 ⟨rfl, hb⟩; refine ⟨_, rfl, ?_⟩; have n0_ := Aside0.mk (below_step (by repeat (first | (with_reducible first | exact HB.out | apply below_alloc | apply pw_below_drewN | apply below_drew1) | exact HB.out)) hb); clear HB; have HB := n0_; clear n0_; (try clear hb); (try clear hb2); (try clear hk); (try clear hi)))
          (try simp only [Act.put, List.setIfInBounds_toArray, List.set_cons_zero, List.set_cons_succ])
          go_cut [3] (fun v3 wc => ∃ (kq : Nat) (x3_10 : Int), v3 = .int .i64 x3_10 ∧ Aside0 (boltinglaw05_NamesApart.j2 kq a0 x3_10 = some r) ∧ Aside0 (kq ≤ kj6) ∧ Aside0 (Below w.heap.size w wc))
          case first =>
            have H := HC11.out
            clear HC11
            by_cases c13 : t339 = true
            · subst c13
              have H1 : (boltinglaw05_NamesApart.j2 kj6 a0 (wrap64 (x3_6 + 1))) = some r := by rw [if_pos rfl] at H; exact H
              clear H
              have H := H1
              clear H1
              have H' := Aside0.mk H
              clear H
              go_wp2
              go_meet
              case rel => exact ⟨_, (wrap64 (x3_6 + 1)), (by first | rfl | (simp; done) | (congr 1; first | (with_reducible assumption) | (symm; with_reducible assumption)) | (simp [*]; done) | (simp only [ne_nil_empty]; done) | (rw [ne_nil_empty]; rfl)), H', ⟨by have := HJ2.out; have := HJ6.out; first | omega | exact Nat.le_refl _⟩, ⟨by repeat (first | (with_reducible first | exact HB.out | apply below_alloc | apply pw_below_drewN | apply below_drew1) | exact HB.out)⟩⟩
            · replace c13 := Bool.eq_false_iff.mpr c13
              subst c13
              have H1 : (boltinglaw05_NamesApart.j2 kj6 a0 x3_6) = some r := by rw [if_neg (show ¬ (false = true) by decide)] at H; exact H
              clear H
              have H := H1
              clear H1
              have H' := Aside0.mk H
              clear H
              go_wp2
              go_meet
              case rel => exact ⟨_, (x3_6), (by first | rfl | (simp; done) | (congr 1; first | (with_reducible assumption) | (symm; with_reducible assumption)) | (simp [*]; done) | (simp only [ne_nil_empty]; done) | (rw [ne_nil_empty]; rfl)), H', ⟨by have := HJ2.out; have := HJ6.out; first | omega | exact Nat.le_refl _⟩, ⟨by repeat (first | (with_reducible first | exact HB.out | apply below_alloc | apply pw_below_drewN | apply below_drew1) | exact HB.out)⟩⟩
          case rest =>
            clear HC11
            try clear c1
            try clear p2
            try clear c5
            try clear c6
            try clear p6
            try clear c9
            try clear c11
            try clear c13
            try clear p2
            try clear p6
            obtain ⟨kq, x3_10, rfl, HA, HJ10, HB⟩ := hcut
            cases kq with
            | zero => exact absurd HA.out (by simp [boltinglaw05_NamesApart.j2])
            | succ kj10 =>
              have H := HA.out
              clear HA
              simp only [boltinglaw05_NamesApart.j2] at H
              replace H := Option.bind_eq_some_iff.mp H
              obtain ⟨t340, A140, H⟩ := H
              replace H : (if t340 = true then (boltinglaw05_NamesApart.j3 kj10 a0 (wrap64 (x3_10 + 1))) else (boltinglaw05_NamesApart.j3 kj10 a0 x3_10)) = some r := H
              have A14 := Aside0.mk A140
              clear A140
              have HC15 := Aside0.mk H
              clear H
              go_upto_if 19 with (first | ((with_reducible refine gate_callee (f := 20) rfl ?_); refine goesL_ (some 19) rfl rfl Try.func20 (by kernel_rfl) rfl #[.string a0] rfl (by (try simp only [List.map_toArray, List.map_cons, List.map_nil]); first | done | rfl | (simp only [List.length_drop, List.length_take]; rfl)) ?_; (with_reducible refine (names_Gone.calls kj10 a0 t340 _ A14.out).mono ?_); rintro e w16 ⟨rfl, hb⟩; refine ⟨_, rfl, ?_⟩; have n0_ := Aside0.mk (below_step (by repeat (first | (with_reducible first | exact HB.out | apply below_alloc | apply pw_below_drewN | apply below_drew1) | exact HB.out)) hb); clear HB; have HB := n0_; clear n0_; (try clear hb); (try clear hb2); (try clear hk); (try clear hi)))
              (try simp only [Act.put, List.setIfInBounds_toArray, List.set_cons_zero, List.set_cons_succ])
              go_cut [3] (fun v3 wc => ∃ (kq : Nat) (x3_14 : Int), v3 = .int .i64 x3_14 ∧ Aside0 (boltinglaw05_NamesApart.j3 kq a0 x3_14 = some r) ∧ Aside0 (kq ≤ kj10) ∧ Aside0 (Below w.heap.size w wc))
              case first =>
                have H := HC15.out
                clear HC15
                by_cases c17 : t340 = true
                · subst c17
                  have H1 : (boltinglaw05_NamesApart.j3 kj10 a0 (wrap64 (x3_10 + 1))) = some r := by rw [if_pos rfl] at H; exact H
                  clear H
                  have H := H1
                  clear H1
                  have H' := Aside0.mk H
                  clear H
                  go_wp2
                  go_meet
                  case rel => exact ⟨_, (wrap64 (x3_10 + 1)), (by first | rfl | (simp; done) | (congr 1; first | (with_reducible assumption) | (symm; with_reducible assumption)) | (simp [*]; done) | (simp only [ne_nil_empty]; done) | (rw [ne_nil_empty]; rfl)), H', ⟨by have := HJ2.out; have := HJ6.out; have := HJ10.out; first | omega | exact Nat.le_refl _⟩, ⟨by repeat (first | (with_reducible first | exact HB.out | apply below_alloc | apply pw_below_drewN | apply below_drew1) | exact HB.out)⟩⟩
                · replace c17 := Bool.eq_false_iff.mpr c17
                  subst c17
                  have H1 : (boltinglaw05_NamesApart.j3 kj10 a0 x3_10) = some r := by rw [if_neg (show ¬ (false = true) by decide)] at H; exact H
                  clear H
                  have H := H1
                  clear H1
                  have H' := Aside0.mk H
                  clear H
                  go_wp2
                  go_meet
                  case rel => exact ⟨_, (x3_10), (by first | rfl | (simp; done) | (congr 1; first | (with_reducible assumption) | (symm; with_reducible assumption)) | (simp [*]; done) | (simp only [ne_nil_empty]; done) | (rw [ne_nil_empty]; rfl)), H', ⟨by have := HJ2.out; have := HJ6.out; have := HJ10.out; first | omega | exact Nat.le_refl _⟩, ⟨by repeat (first | (with_reducible first | exact HB.out | apply below_alloc | apply pw_below_drewN | apply below_drew1) | exact HB.out)⟩⟩
              case rest =>
                clear HC15
                try clear c1
                try clear c2
                try clear p2
                try clear c5
                try clear c6
                try clear p6
                try clear c9
                try clear c11
                try clear c13
                try clear c14
                try clear c16
                try clear c17
                try clear p2
                try clear p6
                obtain ⟨kq, x3_14, rfl, HA, HJ14, HB⟩ := hcut
                cases kq with
                | zero => exact absurd HA.out (by simp [boltinglaw05_NamesApart.j3])
                | succ kj14 =>
                  have H := HA.out
                  clear HA
                  simp only [boltinglaw05_NamesApart.j3] at H
                  obtain ⟨y341, hy341⟩ : ∃ y_ : List ByteArray, y_ = (([] : List ByteArray)) := ⟨_, rfl⟩
                  replace H : ((names_Closes.f kj14 a0).bind fun t344 => (if y341.length + t344.length < 8796093022208 then ((some (y341 ++ t344 : List ByteArray)).bind fun y347 => ((names_Walls.f kj14 a0).bind fun t350 => (if y347.length + t350.length < 8796093022208 then (boltinglaw05_NamesApart.l0 kj14 a0 x3_14 (y347 ++ t350) 0) else (none)))) else (none))) = some r := by first | (rw [hy341]; with_reducible exact H) | (have H2_ := (Option.bind_some _ _).symm.trans H; rw [hy341]; with_reducible exact H2_) | (have H2_ := (Option.bind_some _ _).symm.trans H; with_reducible exact H2_) | with_reducible exact H | (rw [hy341]; exact H) | exact H
                  have Ny341 := Aside0.mk hy341
                  clear hy341
                  replace H := Option.bind_eq_some_iff.mp H
                  obtain ⟨t344, A180, H⟩ := H
                  replace H : (if y341.length + t344.length < 8796093022208 then ((some (y341 ++ t344 : List ByteArray)).bind fun y347 => ((names_Walls.f kj14 a0).bind fun t350 => (if y347.length + t350.length < 8796093022208 then (boltinglaw05_NamesApart.l0 kj14 a0 x3_14 (y347 ++ t350) 0) else (none)))) else (none)) = some r := H
                  have A18 := Aside0.mk A180
                  clear A180
                  by_cases c19 : y341.length + t344.length < 8796093022208
                  · rw [if_pos c19] at H
                    have LMc19 := Aside0.mk c19
                    clear c19
                    obtain ⟨y347, hy347⟩ : ∃ y_ : List ByteArray, y_ = (y341 ++ t344) := ⟨_, rfl⟩
                    replace H : ((names_Walls.f kj14 a0).bind fun t350 => (if y347.length + t350.length < 8796093022208 then (boltinglaw05_NamesApart.l0 kj14 a0 x3_14 (y347 ++ t350) 0) else (none))) = some r := by first | (rw [hy347]; with_reducible exact H) | (have H2_ := (Option.bind_some _ _).symm.trans H; rw [hy347]; with_reducible exact H2_) | (have H2_ := (Option.bind_some _ _).symm.trans H; with_reducible exact H2_) | with_reducible exact H | (rw [hy347]; exact H) | exact H
                    have Ny347 := Aside0.mk hy347
                    clear hy347
                    replace H := Option.bind_eq_some_iff.mp H
                    obtain ⟨t350, A200, H⟩ := H
                    replace H : (if y347.length + t350.length < 8796093022208 then (boltinglaw05_NamesApart.l0 kj14 a0 x3_14 (y347 ++ t350) 0) else (none)) = some r := H
                    have A20 := Aside0.mk A200
                    clear A200
                    by_cases c21 : y347.length + t350.length < 8796093022208
                    · rw [if_pos c21] at H
                      have LMc21 := Aside0.mk c21
                      clear c21
                      obtain ⟨y353, hy353⟩ : ∃ y_ : List ByteArray, y_ = (y347 ++ t350) := ⟨_, rfl⟩
                      replace H : (boltinglaw05_NamesApart.l0 kj14 a0 x3_14 y353 0) = some r := by first | (rw [hy353]; with_reducible exact H) | (have H2_ := (Option.bind_some _ _).symm.trans H; rw [hy353]; with_reducible exact H2_) | (have H2_ := (Option.bind_some _ _).symm.trans H; with_reducible exact H2_) | with_reducible exact H | (rw [hy353]; exact H) | exact H
                      have Ny353 := Aside0.mk hy353
                      clear hy353
                      have H' := Aside0.mk H
                      clear H
                      go_wp2_with (first | ((with_reducible refine gate_dst (N := 22) rfl ?_); refine Kd.R_lit Kd.string _ 9 ?hg (N := 22) ?hd (xs := ([] : List ByteArray)) (inner := []) (ok := fun _ => True) (okp := fun _ => True) ?hr ?hp (fun _ hk => hk) trivial (Below.refl _ _) (Nat.le_refl _) (by simp) ?_; (case hd => rfl); (case hg => rfl); (case hr => first | (go_simp; done) | (go_simp; rfl)); (case hp => exact (Reps.none _ _)); intro v342 w22 ho23 hb hg_ hnew_; clear hg_ hnew_; (first | rw [← Ny341.out] at ho23 | (simp only [Int.reduceToNat] at ho23; rw [← Ny341.out] at ho23)); have n0_ := Aside0.mk (Kd.R_lower ho23 (below_size (by repeat (first | (with_reducible first | exact HB.out | apply below_alloc | apply pw_below_drewN | apply below_drew1) | exact HB.out)))); have n1_ := Aside0.mk (below_step (by repeat (first | (with_reducible first | exact HB.out | apply below_alloc | apply pw_below_drewN | apply below_drew1) | exact HB.out)) hb); clear HB; have HO343 := n0_; have HB := n1_; clear n0_ n1_; clear hb ho23) | ((with_reducible refine gate_callee (f := 22) rfl ?_); refine goesL_ (some 24) rfl rfl Try.func22 (by kernel_rfl) rfl #[.string a0] rfl (by (try simp only [List.map_toArray, List.map_cons, List.map_nil]); first | done | rfl | (simp only [List.length_drop, List.length_take]; rfl)) ?_; (with_reducible refine (names_Closes.calls kj14 a0 t344 _ A18.out).mono ?_); rintro e w24 ⟨v345, rfl, ho0, hb⟩; refine ⟨_, rfl, ?_⟩; have n0_ := Aside0.mk (Kd.R_elder' (by (with_reducible repeat (first | apply Kd.R_alloc | apply Kd.R_drewN | apply Kd.R_drew)); exact HO343.out) (Kd.R_base ho0) hb); have n1_ := Aside0.mk (Kd.R_lower (Kd.R_new' ho0 (Kd.R_lt (by (with_reducible repeat (first | apply Kd.R_alloc | apply Kd.R_drewN | apply Kd.R_drew)); exact HO343.out))) (below_size (by repeat (first | (with_reducible first | exact HB.out | apply below_alloc | apply pw_below_drewN | apply below_drew1) | exact HB.out)))); have n2_ := Aside0.mk (below_step (by repeat (first | (with_reducible first | exact HB.out | apply below_alloc | apply pw_below_drewN | apply below_drew1) | exact HB.out)) hb); clear HO343; clear HB; have HO343 := n0_; have HO346 := n1_; have HB := n2_; clear n0_ n1_ n2_; (try clear hb); (try clear hb2); (try clear hk); (try clear hi); (try clear ho0); obtain ⟨Ao26, co26, eo26⟩ := Kd.R_slice HO346.out; subst eo26) | ((with_reducible refine gate_builtin (b := .append) (xs := #[.tmp 22, .tmp 24]) rfl ?_); at_builtin; refine Kd.R_append_rows Kd.string (w0 := w) w.heap.size rfl (.tmp 22) (.tmp 24) 25 9 (.string ⟨#[]⟩) 16 rfl Try.underlying25 info9 rfl (by decide) (by omega) v342 y341 t344 _ _ _ (fun k_ => some k_ ≠ (.slice Ao26 t344.length co26 : Value).ownBlock) (fun _ => False) rfl rfl ?aO ?aR (fun _ _ h => h) (fun _ h => h.elim) ?aF ?aB ?aS ?aL ?_; (case aR => repeat (first | exact (Kd.R_reads' HO346.out).2.2 | (with_reducible refine Kd.C_alloc ?_ _) | (with_reducible refine Kd.C_drewN ?_ _) | (with_reducible refine Kd.C_drew ?_))); (case aB => exact (by repeat (first | (with_reducible first | exact HB.out | apply below_alloc | apply pw_below_drewN | apply below_drew1) | exact HB.out))); (case aF => exact (fun k_ hk => Kd.fresh' (Kd.R_lt (by (with_reducible repeat (first | apply Kd.R_alloc | apply Kd.R_drewN | apply Kd.R_drew)); exact HO346.out)) k_ hk)); (case aO => exact (by (with_reducible repeat (first | apply Kd.R_alloc | apply Kd.R_drewN | apply Kd.R_drew)); exact Kd.R_mono HO343.out (fun _ hk => hk.2))); (case aS => exact (below_size (by repeat (first | (with_reducible first | exact HB.out | apply below_alloc | apply pw_below_drewN | apply below_drew1) | exact HB.out)))); (case aL => have := LMc19.out; omega); intro v348 w25 ho hb hg hat; rw [← Ny347.out] at ho; have n0_ := Aside0.mk (Kd.R_after (ok := (fun _ => True)) (by (with_reducible repeat (first | apply Kd.R_alloc | apply Kd.R_drewN | apply Kd.R_drew)); exact HO346.out) hg hat); have n1_ := Aside0.mk (hb); have n2_ := Aside0.mk (ho); clear HO346; clear HB; clear HO343; have HO346 := n0_; have HB := n1_; have HO349 := n2_; clear n0_ n1_ n2_; clear ho hb hg hat) | ((with_reducible refine gate_callee (f := 23) rfl ?_); refine goesL_ (some 28) rfl rfl Try.func23 (by kernel_rfl) rfl #[.string a0] rfl (by (try simp only [List.map_toArray, List.map_cons, List.map_nil]); first | done | rfl | (simp only [List.length_drop, List.length_take]; rfl)) ?_; (with_reducible refine (names_Walls.calls kj14 a0 t350 _ A20.out).mono ?_); rintro e w27 ⟨v351, rfl, ho0, hb⟩; refine ⟨_, rfl, ?_⟩; have n0_ := Aside0.mk (Kd.R_elder' (by (with_reducible repeat (first | apply Kd.R_alloc | apply Kd.R_drewN | apply Kd.R_drew)); exact HO346.out) (Kd.R_base ho0) hb); have n1_ := Aside0.mk (Kd.R_elder' (by (with_reducible repeat (first | apply Kd.R_alloc | apply Kd.R_drewN | apply Kd.R_drew)); exact HO349.out) (Kd.R_base ho0) hb); have n2_ := Aside0.mk (Kd.R_lower (Kd.R_new' (Kd.R_new' ho0 (Kd.R_lt (by (with_reducible repeat (first | apply Kd.R_alloc | apply Kd.R_drewN | apply Kd.R_drew)); exact HO346.out))) (Kd.R_lt (by (with_reducible repeat (first | apply Kd.R_alloc | apply Kd.R_drewN | apply Kd.R_drew)); exact HO349.out))) (below_size (by repeat (first | (with_reducible first | exact HB.out | apply below_alloc | apply pw_below_drewN | apply below_drew1) | exact HB.out)))); have n3_ := Aside0.mk (below_step (by repeat (first | (with_reducible first | exact HB.out | apply below_alloc | apply pw_below_drewN | apply below_drew1) | exact HB.out)) hb); clear HO346; clear HO349; clear HB; have HO346 := n0_; have HO349 := n1_; have HO352 := n2_; have HB := n3_; clear n0_ n1_ n2_ n3_; (try clear hb); (try clear hb2); (try clear hk); (try clear hi); (try clear ho0); obtain ⟨Ao29, co29, eo29⟩ := Kd.R_slice HO352.out; subst eo29) | ((with_reducible refine gate_builtin (b := .append) (xs := #[.tmp 26, .tmp 28]) rfl ?_); at_builtin; refine Kd.R_append_rows Kd.string (w0 := w) w.heap.size rfl (.tmp 26) (.tmp 28) 25 9 (.string ⟨#[]⟩) 16 rfl Try.underlying25 info9 rfl (by decide) (by omega) v348 y347 t350 _ _ _ (fun k_ => some k_ ≠ (.slice Ao26 t344.length co26 : Value).ownBlock ∧ some k_ ≠ (.slice Ao29 t350.length co29 : Value).ownBlock) (fun _ => False) rfl rfl ?aO ?aR (fun _ _ h => h) (fun _ h => h.elim) ?aF ?aB ?aS ?aL ?_; (case aR => repeat (first | exact (Kd.R_reads' HO352.out).2.2 | (with_reducible refine Kd.C_alloc ?_ _) | (with_reducible refine Kd.C_drewN ?_ _) | (with_reducible refine Kd.C_drew ?_))); (case aB => exact (by repeat (first | (with_reducible first | exact HB.out | apply below_alloc | apply pw_below_drewN | apply below_drew1) | exact HB.out))); (case aF => exact (fun k_ hk => ⟨Kd.fresh' (Kd.R_lt (by (with_reducible repeat (first | apply Kd.R_alloc | apply Kd.R_drewN | apply Kd.R_drew)); exact HO346.out)) k_ hk, Kd.fresh' (Kd.R_lt (by (with_reducible repeat (first | apply Kd.R_alloc | apply Kd.R_drewN | apply Kd.R_drew)); exact HO352.out)) k_ hk⟩)); (case aO => exact (by (with_reducible repeat (first | apply Kd.R_alloc | apply Kd.R_drewN | apply Kd.R_drew)); exact HO349.out)); (case aS => exact (below_size (by repeat (first | (with_reducible first | exact HB.out | apply below_alloc | apply pw_below_drewN | apply below_drew1) | exact HB.out)))); (case aL => have := LMc21.out; omega); intro v354 w28 ho hb hg hat; rw [← Ny353.out] at ho; have n0_ := Aside0.mk (Kd.R_after (ok := (fun k_ => some k_ ≠ (.slice Ao29 t350.length co29 : Value).ownBlock)) (by (with_reducible repeat (first | apply Kd.R_alloc | apply Kd.R_drewN | apply Kd.R_drew)); exact Kd.R_mono HO346.out (fun _ hk => ⟨hk.2, hk.1.2⟩)) hg hat); have n1_ := Aside0.mk (Kd.R_after (ok := (fun k_ => some k_ ≠ (.slice Ao26 t344.length co26 : Value).ownBlock)) (by (with_reducible repeat (first | apply Kd.R_alloc | apply Kd.R_drewN | apply Kd.R_drew)); exact Kd.R_mono HO352.out (fun _ hk => ⟨hk.1.2, hk.2⟩)) hg hat); have n2_ := Aside0.mk (hb); have n3_ := Aside0.mk (ho); clear HO346; clear HO352; clear HB; clear HO349; have HO346 := n0_; have HO352 := n1_; have HB := n2_; have HO355 := n3_; clear n0_ n1_ n2_ n3_; clear ho hb hg hat))
                      go_loopg [5] kj14 (fun kq v5 w' => ∃ (x5_5 : Int), v5 = .int .i64 x5_5 ∧ Aside0 (boltinglaw05_NamesApart.l0 kq a0 x3_14 y353 x5_5 = some r) ∧ Aside0 (kq ≤ kj14) ∧ Aside0 (Kd.R Kd.string 9 w' w.heap.size (fun _ => True) v354 y353) ∧ Aside0 (Below w.heap.size w w'))
                      case atStart => exact ⟨(0), (by first | rfl | (simp; done) | (congr 1; first | (with_reducible assumption) | (symm; with_reducible assumption)) | (simp [*]; done) | (simp only [ne_nil_empty]; done) | (rw [ne_nil_empty]; rfl)), H', ⟨Nat.le_refl _⟩, ⟨by (with_reducible repeat (first | apply Kd.R_alloc | apply Kd.R_drewN | apply Kd.R_drew)); exact Kd.R_mono HO355.out (fun _ hk => trivial)⟩, ⟨by repeat (first | (with_reducible first | exact HB.out | apply below_alloc | apply pw_below_drewN | apply below_drew1) | exact HB.out)⟩⟩
                      case round =>
                        clear H'
                        try clear c1
                        try clear c2
                        try clear p2
                        try clear c5
                        try clear c6
                        try clear p6
                        try clear c9
                        try clear c11
                        try clear c13
                        try clear c14
                        try clear c16
                        try clear c17
                        try clear c19
                        try clear c20
                        try clear c21
                        try clear c22
                        try clear c23
                        try clear p2
                        try clear p6
                        obtain ⟨x5_5, rfl, HA, HK5, HO_4, HB⟩ := hrel
                        cases gk with
                        | zero => exact absurd HA.out (by simp [boltinglaw05_NamesApart.l0])
                        | succ k5 =>
                          have H := HA.out
                          clear HA
                          simp only [boltinglaw05_NamesApart.l0] at H
                          by_cases c30 : x5_5 < (y353.length : Int)
                          · rw [if_pos c30] at H
                            have c30b0 : decide (x5_5 < (y353.length : Int)) = true := decide_eq_true c30
                            clear c30
                            by_cases c31 : 0 ≤ x5_5
                            · rw [if_pos c31] at H
                              have c31b0 : decide (0 ≤ x5_5) = true := decide_eq_true c31
                              clear c31
                              replace H := Option.bind_eq_some_iff.mp H
                              obtain ⟨t357, A320, H⟩ := H
                              replace H : (if t357 = true then (boltinglaw05_NamesApart.l0 k5 a0 x3_14 y353 (wrap64 (x5_5 + 1))) else (some false)) = some r := H
                              have A32 := Aside0.mk A320
                              clear A320
                              by_cases c33 : t357 = true
                              · subst c33
                                have H1 : (boltinglaw05_NamesApart.l0 k5 a0 x3_14 y353 (wrap64 (x5_5 + 1))) = some r := by rw [if_pos rfl] at H; exact H
                                clear H
                                have H := H1
                                clear H1
                                have H' := Aside0.mk H
                                clear H
                                obtain ⟨Ao34, co34, eo34⟩ := Kd.R_slice HO_4.out
                                subst eo34
                                have p356 : 0 ≤ (x5_5 : Int) := of_decide_eq_true (by first | (with_reducible assumption) | assumption)
                                have q356 : x5_5 < (y353.length : Int) := of_decide_eq_true (by first | (with_reducible assumption) | assumption)
                                obtain ⟨ad356, e356, hx356_0⟩ := Kd.at_string (Kd.R_reads' HO_4.out).2.2 x5_5 p356 q356
                                cases e356
                                replace p356 := eq_true p356
                                replace q356 := eq_true q356
                                go_wp2_with (first | ((with_reducible refine gate_callee (f := 28) rfl ?_); refine goesL_ (some 40) rfl rfl Try.func28 (by kernel_rfl) rfl #[.string (rdOf ByteArray.empty y353 x5_5)] rfl (by (try simp only [List.map_toArray, List.map_cons, List.map_nil]); first | done | rfl | (simp only [List.length_drop, List.length_take]; rfl)) ?_; (with_reducible refine (names_Right.calls k5 (rdOf ByteArray.empty y353 x5_5) true _ A32.out).mono ?_); rintro e w' ⟨rfl, ⟨nd, rfl⟩⟩; refine ⟨_, rfl, ?_⟩))
                                go_roundg k5
                                case measure => have := HJ2.out; have := HJ6.out; have := HJ10.out; have := HJ14.out; have := HK5.out; omega
                                case rel => exact ⟨(wrap64 (x5_5 + 1)), (by first | rfl | (simp; done) | (congr 1; first | (with_reducible assumption) | (symm; with_reducible assumption)) | (simp [*]; done) | (simp only [ne_nil_empty]; done) | (rw [ne_nil_empty]; rfl)), H', ⟨by have := HJ2.out; have := HJ6.out; have := HJ10.out; have := HJ14.out; have := HK5.out; omega⟩, ⟨by (with_reducible repeat (first | apply Kd.R_alloc | apply Kd.R_drewN | apply Kd.R_drew)); exact HO_4.out⟩, ⟨by repeat (first | (with_reducible first | exact HB.out | apply below_alloc | apply pw_below_drewN | apply below_drew1) | exact HB.out)⟩⟩
                              · replace c33 := Bool.eq_false_iff.mpr c33
                                subst c33
                                have H1 : (some false) = some r := by rw [if_neg (show ¬ (false = true) by decide)] at H; exact H
                                clear H
                                have H := H1
                                clear H1
                                obtain rfl := Option.some.inj H
                                obtain ⟨Ao35, co35, eo35⟩ := Kd.R_slice HO_4.out
                                subst eo35
                                have p356 : 0 ≤ (x5_5 : Int) := of_decide_eq_true (by first | (with_reducible assumption) | assumption)
                                have q356 : x5_5 < (y353.length : Int) := of_decide_eq_true (by first | (with_reducible assumption) | assumption)
                                obtain ⟨ad356, e356, hx356_0⟩ := Kd.at_string (Kd.R_reads' HO_4.out).2.2 x5_5 p356 q356
                                cases e356
                                replace p356 := eq_true p356
                                replace q356 := eq_true q356
                                go_wp2_with (first | ((with_reducible refine gate_callee (f := 28) rfl ?_); refine goesL_ (some 40) rfl rfl Try.func28 (by kernel_rfl) rfl #[.string (rdOf ByteArray.empty y353 x5_5)] rfl (by (try simp only [List.map_toArray, List.map_cons, List.map_nil]); first | done | rfl | (simp only [List.length_drop, List.length_take]; rfl)) ?_; (with_reducible refine (names_Right.calls k5 (rdOf ByteArray.empty y353 x5_5) false _ A32.out).mono ?_); rintro e w' ⟨rfl, ⟨nd, rfl⟩⟩; refine ⟨_, rfl, ?_⟩))
                                go_ret
                                exact ⟨by first | rfl | (simp [errW_none, errW_some] <;> rfl) | (simp [*, errW_none, errW_some] <;> rfl), by repeat (first | (with_reducible first | exact HB.out | apply below_alloc | apply pw_below_drewN | apply below_drew1) | exact HB.out)⟩
                            · rw [if_neg c31] at H
                              exact absurd H (by simp)
                          · rw [if_neg c30] at H
                            have c30b0 : decide (x5_5 < (y353.length : Int)) = false := decide_eq_false c30
                            clear c30
                            by_cases c36 : x3_14 ≤ 1
                            · rw [if_pos c36] at H
                              have c36b0 : decide (x3_14 ≤ 1) = true := decide_eq_true c36
                              clear c36
                              by_cases c37 : x3_14 = 0
                              · rw [if_pos c37] at H
                                have c37b0 : (x3_14 == 0) = true := beq_iff_eq.mpr c37
                                have c37b1 : (x3_14 != 0) = false := bne_eq_false_iff_eq.mpr c37
                                clear c37
                                replace H := Option.bind_eq_some_iff.mp H
                                obtain ⟨t358, A380, H⟩ := H
                                replace H : (if t358 = true then ((names_Right.f k5 a0).bind fun t359 => (if t359 = true then ((boltinglaw05_fixed.f k5).bind fun t360 => (some t360)) else (some false))) else ((boltinglaw05_fixed.f k5).bind fun t361 => (some t361))) = some r := H
                                have A38 := Aside0.mk A380
                                clear A380
                                by_cases c39 : t358 = true
                                · subst c39
                                  have H1 : ((names_Right.f k5 a0).bind fun t359 => (if t359 = true then ((boltinglaw05_fixed.f k5).bind fun t360 => (some t360)) else (some false))) = some r := by rw [if_pos rfl] at H; exact H
                                  clear H
                                  have H := H1
                                  clear H1
                                  replace H := Option.bind_eq_some_iff.mp H
                                  obtain ⟨t359, A400, H⟩ := H
                                  replace H : (if t359 = true then ((boltinglaw05_fixed.f k5).bind fun t360 => (some t360)) else (some false)) = some r := H
                                  have A40 := Aside0.mk A400
                                  clear A400
                                  by_cases c41 : t359 = true
                                  · subst c41
                                    have H1 : ((boltinglaw05_fixed.f k5).bind fun t360 => (some t360)) = some r := by rw [if_pos rfl] at H; exact H
                                    clear H
                                    have H := H1
                                    clear H1
                                    replace H := Option.bind_eq_some_iff.mp H
                                    obtain ⟨t360, A420, H⟩ := H
                                    replace H : (some t360) = some r := H
                                    have A42 := Aside0.mk A420
                                    clear A420
                                    obtain rfl := Option.some.inj H
                                    obtain ⟨Ao43, co43, eo43⟩ := Kd.R_slice HO_4.out
                                    subst eo43
                                    go_wp2_with (first | (go_at_call 18; (with_reducible refine (names_Block.calls k5 a0 true _ A38.out).mono ?_); rintro e w44 ⟨rfl, hb⟩; have n0_ := Aside0.mk (Kd.R_below (by (with_reducible repeat (first | apply Kd.R_alloc | apply Kd.R_drewN | apply Kd.R_drew)); exact HO_4.out) hb); have n1_ := Aside0.mk (below_step (by repeat (first | (with_reducible first | exact HB.out | apply below_alloc | apply pw_below_drewN | apply below_drew1) | exact HB.out)) hb); clear HO_4; clear HB; have HO_4 := n0_; have HB := n1_; clear n0_ n1_; (try clear hb); (try clear hb2); (try clear hk); (try clear hi)) | (go_at_call 28; (with_reducible refine (names_Right.calls k5 a0 true _ A40.out).mono ?_); rintro e w' ⟨rfl, ⟨nd, rfl⟩⟩) | (go_at_call 10; (with_reducible refine (boltinglaw05_fixed.calls k5  t360 _ A42.out).mono ?_); rintro e w45 ⟨rfl, hb⟩; have n0_ := Aside0.mk (Kd.R_below (by (with_reducible repeat (first | apply Kd.R_alloc | apply Kd.R_drewN | apply Kd.R_drew)); exact HO_4.out) hb); have n1_ := Aside0.mk (below_step (by repeat (first | (with_reducible first | exact HB.out | apply below_alloc | apply pw_below_drewN | apply below_drew1) | exact HB.out)) hb); clear HO_4; clear HB; have HO_4 := n0_; have HB := n1_; clear n0_ n1_; (try clear hb); (try clear hb2); (try clear hk); (try clear hi)))
                                    go_ret
                                    exact ⟨by first | rfl | (simp [errW_none, errW_some] <;> rfl) | (simp [*, errW_none, errW_some] <;> rfl), by repeat (first | (with_reducible first | exact HB.out | apply below_alloc | apply pw_below_drewN | apply below_drew1) | exact HB.out)⟩
                                  · replace c41 := Bool.eq_false_iff.mpr c41
                                    subst c41
                                    have H1 : (some false) = some r := by rw [if_neg (show ¬ (false = true) by decide)] at H; exact H
                                    clear H
                                    have H := H1
                                    clear H1
                                    obtain rfl := Option.some.inj H
                                    obtain ⟨Ao46, co46, eo46⟩ := Kd.R_slice HO_4.out
                                    subst eo46
                                    go_wp2_with (first | (go_at_call 18; (with_reducible refine (names_Block.calls k5 a0 true _ A38.out).mono ?_); rintro e w47 ⟨rfl, hb⟩; have n0_ := Aside0.mk (Kd.R_below (by (with_reducible repeat (first | apply Kd.R_alloc | apply Kd.R_drewN | apply Kd.R_drew)); exact HO_4.out) hb); have n1_ := Aside0.mk (below_step (by repeat (first | (with_reducible first | exact HB.out | apply below_alloc | apply pw_below_drewN | apply below_drew1) | exact HB.out)) hb); clear HO_4; clear HB; have HO_4 := n0_; have HB := n1_; clear n0_ n1_; (try clear hb); (try clear hb2); (try clear hk); (try clear hi)) | (go_at_call 28; (with_reducible refine (names_Right.calls k5 a0 false _ A40.out).mono ?_); rintro e w' ⟨rfl, ⟨nd, rfl⟩⟩))
                                    go_ret
                                    exact ⟨by first | rfl | (simp [errW_none, errW_some] <;> rfl) | (simp [*, errW_none, errW_some] <;> rfl), by repeat (first | (with_reducible first | exact HB.out | apply below_alloc | apply pw_below_drewN | apply below_drew1) | exact HB.out)⟩
                                · replace c39 := Bool.eq_false_iff.mpr c39
                                  subst c39
                                  have H1 : ((boltinglaw05_fixed.f k5).bind fun t361 => (some t361)) = some r := by rw [if_neg (show ¬ (false = true) by decide)] at H; exact H
                                  clear H
                                  have H := H1
                                  clear H1
                                  replace H := Option.bind_eq_some_iff.mp H
                                  obtain ⟨t361, A480, H⟩ := H
                                  replace H : (some t361) = some r := H
                                  have A48 := Aside0.mk A480
                                  clear A480
                                  obtain rfl := Option.some.inj H
                                  obtain ⟨Ao49, co49, eo49⟩ := Kd.R_slice HO_4.out
                                  subst eo49
                                  go_wp2_with (first | (go_at_call 18; (with_reducible refine (names_Block.calls k5 a0 false _ A38.out).mono ?_); rintro e w50 ⟨rfl, hb⟩; have n0_ := Aside0.mk (Kd.R_below (by (with_reducible repeat (first | apply Kd.R_alloc | apply Kd.R_drewN | apply Kd.R_drew)); exact HO_4.out) hb); have n1_ := Aside0.mk (below_step (by repeat (first | (with_reducible first | exact HB.out | apply below_alloc | apply pw_below_drewN | apply below_drew1) | exact HB.out)) hb); clear HO_4; clear HB; have HO_4 := n0_; have HB := n1_; clear n0_ n1_; (try clear hb); (try clear hb2); (try clear hk); (try clear hi)) | (go_at_call 10; (with_reducible refine (boltinglaw05_fixed.calls k5  t361 _ A48.out).mono ?_); rintro e w51 ⟨rfl, hb⟩; have n0_ := Aside0.mk (Kd.R_below (by (with_reducible repeat (first | apply Kd.R_alloc | apply Kd.R_drewN | apply Kd.R_drew)); exact HO_4.out) hb); have n1_ := Aside0.mk (below_step (by repeat (first | (with_reducible first | exact HB.out | apply below_alloc | apply pw_below_drewN | apply below_drew1) | exact HB.out)) hb); clear HO_4; clear HB; have HO_4 := n0_; have HB := n1_; clear n0_ n1_; (try clear hb); (try clear hb2); (try clear hk); (try clear hi)))
                                  go_ret
                                  exact ⟨by first | rfl | (simp [errW_none, errW_some] <;> rfl) | (simp [*, errW_none, errW_some] <;> rfl), by repeat (first | (with_reducible first | exact HB.out | apply below_alloc | apply pw_below_drewN | apply below_drew1) | exact HB.out)⟩
                              · rw [if_neg c37] at H
                                have c37b0 : (x3_14 == 0) = false := beq_eq_false_iff_ne.mpr c37
                                have c37b1 : (x3_14 != 0) = true := bne_iff_ne.mpr c37
                                replace H := Option.bind_eq_some_iff.mp H
                                obtain ⟨t362, A520, H⟩ := H
                                replace H : (if t362 = true then ((boltinglaw05_fixed.f k5).bind fun t363 => (some t363)) else (some false)) = some r := H
                                have A52 := Aside0.mk A520
                                clear A520
                                by_cases c53 : t362 = true
                                · subst c53
                                  have H1 : ((boltinglaw05_fixed.f k5).bind fun t363 => (some t363)) = some r := by rw [if_pos rfl] at H; exact H
                                  clear H
                                  have H := H1
                                  clear H1
                                  replace H := Option.bind_eq_some_iff.mp H
                                  obtain ⟨t363, A540, H⟩ := H
                                  replace H : (some t363) = some r := H
                                  have A54 := Aside0.mk A540
                                  clear A540
                                  obtain rfl := Option.some.inj H
                                  obtain ⟨Ao55, co55, eo55⟩ := Kd.R_slice HO_4.out
                                  subst eo55
                                  go_wp2_with (first | (go_at_call 28; (with_reducible refine (names_Right.calls k5 a0 true _ A52.out).mono ?_); rintro e w' ⟨rfl, ⟨nd, rfl⟩⟩) | (go_at_call 10; (with_reducible refine (boltinglaw05_fixed.calls k5  t363 _ A54.out).mono ?_); rintro e w56 ⟨rfl, hb⟩; have n0_ := Aside0.mk (Kd.R_below (by (with_reducible repeat (first | apply Kd.R_alloc | apply Kd.R_drewN | apply Kd.R_drew)); exact HO_4.out) hb); have n1_ := Aside0.mk (below_step (by repeat (first | (with_reducible first | exact HB.out | apply below_alloc | apply pw_below_drewN | apply below_drew1) | exact HB.out)) hb); clear HO_4; clear HB; have HO_4 := n0_; have HB := n1_; clear n0_ n1_; (try clear hb); (try clear hb2); (try clear hk); (try clear hi)))
                                  go_ret
                                  exact ⟨by first | rfl | (simp [errW_none, errW_some] <;> rfl) | (simp [*, errW_none, errW_some] <;> rfl), by repeat (first | (with_reducible first | exact HB.out | apply below_alloc | apply pw_below_drewN | apply below_drew1) | exact HB.out)⟩
                                · replace c53 := Bool.eq_false_iff.mpr c53
                                  subst c53
                                  have H1 : (some false) = some r := by rw [if_neg (show ¬ (false = true) by decide)] at H; exact H
                                  clear H
                                  have H := H1
                                  clear H1
                                  obtain rfl := Option.some.inj H
                                  obtain ⟨Ao57, co57, eo57⟩ := Kd.R_slice HO_4.out
                                  subst eo57
                                  go_wp2_with (first | (go_at_call 28; (with_reducible refine (names_Right.calls k5 a0 false _ A52.out).mono ?_); rintro e w' ⟨rfl, ⟨nd, rfl⟩⟩))
                                  go_ret
                                  exact ⟨by first | rfl | (simp [errW_none, errW_some] <;> rfl) | (simp [*, errW_none, errW_some] <;> rfl), by repeat (first | (with_reducible first | exact HB.out | apply below_alloc | apply pw_below_drewN | apply below_drew1) | exact HB.out)⟩
                            · rw [if_neg c36] at H
                              have c36b0 : decide (x3_14 ≤ 1) = false := decide_eq_false c36
                              clear c36
                              obtain rfl := Option.some.inj H
                              obtain ⟨Ao58, co58, eo58⟩ := Kd.R_slice HO_4.out
                              subst eo58
                              go_wp2
                              go_ret
                              exact ⟨by first | rfl | (simp [errW_none, errW_some] <;> rfl) | (simp [*, errW_none, errW_some] <;> rfl), by repeat (first | (with_reducible first | exact HB.out | apply below_alloc | apply pw_below_drewN | apply below_drew1) | exact HB.out)⟩
                    · rw [if_neg c21] at H
                      exact absurd H (by simp)
                  · rw [if_neg c19] at H
                    exact absurd H (by simp)

/-- THE ONE PURE STATEMENT of boltinglaw05_NamesApart: yours. -/
def boltinglaw05_NamesApart.Pure : Prop := ∀ (a0 : ByteArray), a0.size ≤ 140737488351232 → ∃ k, boltinglaw05_NamesApart.f k a0 = some true
theorem boltinglaw05_NamesApart.walk (P : boltinglaw05_NamesApart.Pure) (a0 : ByteArray) (w : World) (w0 : a0.size ≤ 140737488351232) :
    Calls Try.prog 6 #[.string a0] w fun e w' => e = .returned (.bool true) ∧ Below w.heap.size w w' := by
  obtain ⟨k, h⟩ := P a0 w0
  refine (boltinglaw05_NamesApart.calls k a0 true w h).mono ?_
  rintro e w' ⟨rfl, hd⟩
  exact ⟨rfl, hd⟩

end Go.Proofs.Ytacffcdjgjiemaa.QA
