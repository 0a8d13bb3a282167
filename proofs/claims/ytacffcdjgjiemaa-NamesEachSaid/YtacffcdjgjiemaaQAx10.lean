-- Written by a program of this claim's own (wip/gen/gen.py), out of the translation; an ordinary proof text.
import Derived.Test.YtacffcdjgjiemaaQAx0
import Derived.Test.YtacffcdjgjiemaaQAx2
import Derived.Test.YtacffcdjgjiemaaQAx3
namespace Go.Proofs.Ytacffcdjgjiemaa.QA
open Go.RowKit Go.Proofs.YtacffcdjgjiemaaW.PrintWords Go.Proofs.YtacffcdjgjiemaaW.PrintLast Go.Proofs.YtacffcdjgjiemaaW.PrintMore
attribute [local go_sem] max2_int min2_int max_two min_two max_three min_three max_four min_four   -- for this text's walks alone
set_option linter.unusedVariables false
set_option linter.unusedSimpArgs false

/-! ### boltinglaw05_NamesEach: function 9 -/
mutual
def boltinglaw05_NamesEach.j0 : Nat → ByteArray → Bool → Bool → Option (Bool)
  | 0, _, _, _ => none
  | k + 1, x0, x3, x4 => boltinglaw05_NamesEach.l0 k x0 x3 x4 0
def boltinglaw05_NamesEach.l0 : Nat → ByteArray → Bool → Bool → Int → Option (Bool)
  | 0, _, _, _, _ => none
  | k + 1, x0, x3, x4, x5 => if x5 < (x0.size : Int) then (if x3 = true then (if 0 ≤ x5 then (if x5 ≤ (wrap64 (x5 + 1)) then (if (wrap64 (x5 + 1)) ≤ (x0.size : Int) then ((names_Attr.f k (x0.extract (x5 : Int).toNat ((wrap64 (x5 + 1)) : Int).toNat)).bind fun t407 => (if x4 = true then (if 1 + (x0.extract (x5 : Int).toNat ((wrap64 (x5 + 1)) : Int).toNat).size ≤ 9223372036854775807 then ((names_Right.f k ((⟨#[97]⟩ : ByteArray) ++ (x0.extract (x5 : Int).toNat ((wrap64 (x5 + 1)) : Int).toNat))).bind fun t408 => (boltinglaw05_NamesEach.l0 k x0 t407 t408 (wrap64 (x5 + 1)))) else (none)) else (boltinglaw05_NamesEach.l0 k x0 t407 false (wrap64 (x5 + 1))))) else (none)) else (none)) else (none)) else (if x4 = true then (if 0 ≤ x5 then (if x5 ≤ (wrap64 (x5 + 1)) then (if (wrap64 (x5 + 1)) ≤ (x0.size : Int) then (if 1 + (x0.extract (x5 : Int).toNat ((wrap64 (x5 + 1)) : Int).toNat).size ≤ 9223372036854775807 then ((names_Right.f k ((⟨#[97]⟩ : ByteArray) ++ (x0.extract (x5 : Int).toNat ((wrap64 (x5 + 1)) : Int).toNat))).bind fun t409 => (boltinglaw05_NamesEach.l0 k x0 false t409 (wrap64 (x5 + 1)))) else (none)) else (none)) else (none)) else (none)) else (boltinglaw05_NamesEach.l0 k x0 false false (wrap64 (x5 + 1))))) else ((names_Attr.f k x0).bind fun t410 => (if (t410 == x3) = true then ((names_Right.f k x0).bind fun t411 => (if (t411 == x4) = true then ((boltinglaw05_fixed.f k).bind fun t412 => (some t412)) else (some false))) else (some false)))
end
def boltinglaw05_NamesEach.f (k : Nat) (a0 : ByteArray) : Option (Bool) := if 0 ≤ (mn (a0.size : Int) 200) then (if (mn (a0.size : Int) 200) ≤ (a0.size : Int) then (if (a0.extract 0 ((mn (a0.size : Int) 200) : Int).toNat).toList = ([] : List UInt8) then (boltinglaw05_NamesEach.j0 k (a0.extract 0 ((mn (a0.size : Int) 200) : Int).toNat) ((a0.extract 0 ((mn (a0.size : Int) 200) : Int).toNat).toList != ([] : List UInt8)) false) else (if 0 < ((a0.extract 0 ((mn (a0.size : Int) 200) : Int).toNat).size : Int) then (if (bt (a0.extract 0 ((mn (a0.size : Int) 200) : Int).toNat) 0) ≥ 97 then (boltinglaw05_NamesEach.j0 k (a0.extract 0 ((mn (a0.size : Int) 200) : Int).toNat) ((a0.extract 0 ((mn (a0.size : Int) 200) : Int).toNat).toList != ([] : List UInt8)) (decide ((bt (a0.extract 0 ((mn (a0.size : Int) 200) : Int).toNat) 0) ≤ 122))) else (boltinglaw05_NamesEach.j0 k (a0.extract 0 ((mn (a0.size : Int) 200) : Int).toNat) ((a0.extract 0 ((mn (a0.size : Int) 200) : Int).toNat).toList != ([] : List UInt8)) false)) else (none))) else (none)) else (none)
theorem boltinglaw05_NamesEach.mono_l : ∀ k, (∀ y0 y1 y2, LeO (boltinglaw05_NamesEach.j0 k y0 y1 y2) (boltinglaw05_NamesEach.j0 (k + 1) y0 y1 y2)) ∧ (∀ y0 y1 y2 y3, LeO (boltinglaw05_NamesEach.l0 k y0 y1 y2 y3) (boltinglaw05_NamesEach.l0 (k + 1) y0 y1 y2 y3))
  | 0 => ⟨fun _ _ _ r h => by simp [boltinglaw05_NamesEach.j0] at h, fun _ _ _ _ r h => by simp [boltinglaw05_NamesEach.l0] at h⟩
  | k + 1 => by
    obtain ⟨ih0, ih1⟩ := boltinglaw05_NamesEach.mono_l k
    refine ⟨?_, ?_⟩
    · intro y0 y1 y2
      unfold boltinglaw05_NamesEach.j0
      repeat' first
      | (with_reducible exact ih0 _ _ _)
      | (with_reducible exact ih1 _ _ _ _)
      | (with_reducible exact boltinglaw05_fixed.mono _)
      | (with_reducible exact names_Attr.mono _ _)
      | (with_reducible exact names_Right.mono _ _)
      | (with_reducible exact LeO.refl _)
      | (with_reducible exact LeO.none _)
      | (with_reducible refine LeO.ite ?_ ?_)
      | (with_reducible refine LeO.bind ?_ (fun _ => ?_))
      | exact ih0 _ _ _
      | exact ih1 _ _ _ _
      | exact boltinglaw05_fixed.mono _
      | exact names_Attr.mono _ _
      | exact names_Right.mono _ _
      | exact LeO.none _
      | refine LeO.ite ?_ ?_
      | refine LeO.bind ?_ (fun _ => ?_)
    · intro y0 y1 y2 y3
      unfold boltinglaw05_NamesEach.l0
      repeat' first
      | (with_reducible exact ih0 _ _ _)
      | (with_reducible exact ih1 _ _ _ _)
      | (with_reducible exact boltinglaw05_fixed.mono _)
      | (with_reducible exact names_Attr.mono _ _)
      | (with_reducible exact names_Right.mono _ _)
      | (with_reducible exact LeO.refl _)
      | (with_reducible exact LeO.none _)
      | (with_reducible refine LeO.ite ?_ ?_)
      | (with_reducible refine LeO.bind ?_ (fun _ => ?_))
      | exact ih0 _ _ _
      | exact ih1 _ _ _ _
      | exact boltinglaw05_fixed.mono _
      | exact names_Attr.mono _ _
      | exact names_Right.mono _ _
      | exact LeO.none _
      | refine LeO.ite ?_ ?_
      | refine LeO.bind ?_ (fun _ => ?_)
theorem boltinglaw05_NamesEach.mono : ∀ a0 k, LeO (boltinglaw05_NamesEach.f k a0) (boltinglaw05_NamesEach.f (k + 1) a0) := by
  intro a0 k
  obtain ⟨ih0, ih1⟩ := boltinglaw05_NamesEach.mono_l k
  unfold boltinglaw05_NamesEach.f
  repeat' first
      | (with_reducible exact ih0 _ _ _)
      | (with_reducible exact ih1 _ _ _ _)
      | (with_reducible exact boltinglaw05_fixed.mono _)
      | (with_reducible exact names_Attr.mono _ _)
      | (with_reducible exact names_Right.mono _ _)
      | (with_reducible exact LeO.refl _)
      | (with_reducible exact LeO.none _)
      | (with_reducible refine LeO.ite ?_ ?_)
      | (with_reducible refine LeO.bind ?_ (fun _ => ?_))
      | exact ih0 _ _ _
      | exact ih1 _ _ _ _
      | exact boltinglaw05_fixed.mono _
      | exact names_Attr.mono _ _
      | exact names_Right.mono _ _
      | exact LeO.none _
      | refine LeO.ite ?_ ?_
      | refine LeO.bind ?_ (fun _ => ?_)
set_option maxHeartbeats 8000000 in
set_option maxRecDepth 100000 in
theorem boltinglaw05_NamesEach.calls (k : Nat) (a0 : ByteArray) (r : Bool) (w : World) (h : boltinglaw05_NamesEach.f k a0 = some r) :
    Calls Try.prog 9 #[.string a0] w fun e w' => e = .returned (.bool r) ∧ Below w.heap.size w w' := by
  have HB := Aside0.mk (Below.refl w.heap.size w)
  have H : (if 0 ≤ (mn (a0.size : Int) 200) then (if (mn (a0.size : Int) 200) ≤ (a0.size : Int) then (if (a0.extract 0 ((mn (a0.size : Int) 200) : Int).toNat).toList = ([] : List UInt8) then (boltinglaw05_NamesEach.j0 k (a0.extract 0 ((mn (a0.size : Int) 200) : Int).toNat) ((a0.extract 0 ((mn (a0.size : Int) 200) : Int).toNat).toList != ([] : List UInt8)) false) else (if 0 < ((a0.extract 0 ((mn (a0.size : Int) 200) : Int).toNat).size : Int) then (if (bt (a0.extract 0 ((mn (a0.size : Int) 200) : Int).toNat) 0) ≥ 97 then (boltinglaw05_NamesEach.j0 k (a0.extract 0 ((mn (a0.size : Int) 200) : Int).toNat) ((a0.extract 0 ((mn (a0.size : Int) 200) : Int).toNat).toList != ([] : List UInt8)) (decide ((bt (a0.extract 0 ((mn (a0.size : Int) 200) : Int).toNat) 0) ≤ 122))) else (boltinglaw05_NamesEach.j0 k (a0.extract 0 ((mn (a0.size : Int) 200) : Int).toNat) ((a0.extract 0 ((mn (a0.size : Int) 200) : Int).toNat).toList != ([] : List UInt8)) false)) else (none))) else (none)) else (none)) = some r := h
  clear h
  obtain ⟨ji2, hji2⟩ : ∃ j_ : Int, (mn (a0.size : Int) 200) = j_ := ⟨_, rfl⟩
  replace H : (if 0 ≤ (ji2) then (if (ji2) ≤ (a0.size : Int) then (if (a0.extract 0 ((ji2) : Int).toNat).toList = ([] : List UInt8) then (boltinglaw05_NamesEach.j0 k (a0.extract 0 ((ji2) : Int).toNat) ((a0.extract 0 ((ji2) : Int).toNat).toList != ([] : List UInt8)) false) else (if 0 < ((a0.extract 0 ((ji2) : Int).toNat).size : Int) then (if (bt (a0.extract 0 ((ji2) : Int).toNat) 0) ≥ 97 then (boltinglaw05_NamesEach.j0 k (a0.extract 0 ((ji2) : Int).toNat) ((a0.extract 0 ((ji2) : Int).toNat).toList != ([] : List UInt8)) (decide ((bt (a0.extract 0 ((ji2) : Int).toNat) 0) ≤ 122))) else (boltinglaw05_NamesEach.j0 k (a0.extract 0 ((ji2) : Int).toNat) ((a0.extract 0 ((ji2) : Int).toNat).toList != ([] : List UInt8)) false)) else (none))) else (none)) else (none)) = some r := by first | (rw [hji2] at H; exact H) | (simp only [hji2] at H ⊢; exact H)
  (try (have hji2h : ji2 ≤ 200 := by (rw [← hji2]; unfold mn; (repeat' split) <;> omega)))
  (try (have hji2g : ji2 ≤ 64 := by omega))
  (try (have hji2l : 0 ≤ ji2 := by (rw [← hji2]; unfold mn; (repeat' split) <;> omega)))
  (try (have hji2m : 0 ≤ ji2 := by omega))
  have hji2_ : (if 200 < (a0.size : Int) then 200 else (a0.size : Int)) = ji2 := hji2
  by_cases c3 : 0 ≤ (ji2)
  · rw [if_pos c3] at H
    have c3b0 := eq_true c3
    have c3b1 : decide (0 ≤ (ji2)) = true := decide_eq_true c3
    clear c3
    by_cases c4 : (ji2) ≤ (a0.size : Int)
    · rw [if_pos c4] at H
      have c4b0 := eq_true c4
      have c4b1 : decide ((ji2) ≤ (a0.size : Int)) = true := decide_eq_true c4
      clear c4
      have HC5 := Aside0.mk H
      clear H
      go_enter Try.func9, Try.ntmps9
      go_upto_region 2 with (fail)
      repeat (go_quiet (fail); go_upto_region 2 with (fail))
      obtain ⟨sx, hsx⟩ : ∃ sx : ByteArray, a0.extract 0 ((ji2) : Int).toNat = sx := ⟨_, rfl⟩
      rw [hsx] at HC5 ⊢
      go_cut [3, 4] (fun v3 v4 wc => ∃ (kq : Nat) (x3_4 : Bool) (x4_4 : Bool), v3 = .bool x3_4 ∧ v4 = .bool x4_4 ∧ Aside0 (boltinglaw05_NamesEach.j0 kq sx x3_4 x4_4 = some r) ∧ Aside0 (kq ≤ k) ∧ Aside0 (Below w.heap.size w wc))
      case first =>
        have H := HC5.out
        clear HC5
        by_cases c6 : sx.toList = ([] : List UInt8)
        · rw [if_pos c6] at H
          have c6b0 : (sx.toList == ([] : List UInt8)) = true := beq_iff_eq.mpr c6
          have c6b1 : (sx.toList != ([] : List UInt8)) = false := bne_eq_false_iff_eq.mpr c6
          clear c6
          (first | rw [c6b0] | (simp only [i64_w, i32_w]; rw [c6b0]) | skip)
          have H' := Aside0.mk H
          clear H
          go_wp2
          repeat (go_quiet (fail); try go_wp2)
          go_meet
          case rel => exact ⟨_, ((sx.toList != ([] : List UInt8))), (false), (by first | rfl | (simp; done) | (congr 1; first | (with_reducible assumption) | (symm; with_reducible assumption)) | (simp only [← hji2] <;> (first | rfl | simp)) | (simp [*]; done)), (by first | rfl | (simp; done) | (congr 1; first | (with_reducible assumption) | (symm; with_reducible assumption)) | (simp [*]; done) | (simp only [ne_nil_empty]; done) | (rw [ne_nil_empty]; rfl)), H', ⟨by first | omega | exact Nat.le_refl _⟩, ⟨by repeat (first | (with_reducible first | exact HB.out | apply below_alloc | apply pw_below_drewN | apply below_drew1) | exact HB.out)⟩⟩
        · rw [if_neg c6] at H
          have c6b0 : (sx.toList == ([] : List UInt8)) = false := beq_eq_false_iff_ne.mpr c6
          have c6b1 : (sx.toList != ([] : List UInt8)) = true := bne_iff_ne.mpr c6
          (first | rw [c6b0] | (simp only [i64_w, i32_w]; rw [c6b0]) | skip)
          by_cases c7 : 0 < (sx.size : Int)
          · rw [if_pos c7] at H
            have c7b0 : decide (0 < (sx.size : Int)) = true := decide_eq_true c7
            have c7b1 : decide (0 < sx.size) = true := decide_eq_true (by omega)
            clear c7
            by_cases c9 : (bt sx 0) ≥ 97
            · rw [if_pos c9] at H
              have c9b0 : decide (97 ≤ (bt sx 0)) = true := decide_eq_true c9
              clear c9
              have H' := Aside0.mk H
              clear H
              have p8 : 0 ≤ (0 : Int) := (by omega)
              have q8 : 0 < sx.size := (by have : (0 : Int) < (sx.size : Int) := of_decide_eq_true (by first | (with_reducible assumption) | assumption); omega)
              have hx8 : ∀ h : 0 < sx.size, ((sx[0]'h).toNat : Int) = bt sx 0 := bt_at sx 0
              clear p8
              have qi8 : (0 < (sx.size : Int)) = True := eq_true (of_decide_eq_true (by first | (with_reducible assumption) | assumption))
              replace q8 := eq_true q8
              have p10 : 0 ≤ (0 : Int) := (by omega)
              have q10 : 0 < sx.size := (by have : (0 : Int) < (sx.size : Int) := of_decide_eq_true (by first | (with_reducible assumption) | assumption); omega)
              have hx10 : ∀ h : 0 < sx.size, ((sx[0]'h).toNat : Int) = bt sx 0 := bt_at sx 0
              clear p10
              have qi10 : (0 < (sx.size : Int)) = True := eq_true (of_decide_eq_true (by first | (with_reducible assumption) | assumption))
              replace q10 := eq_true q10
              go_wp2
              repeat (go_quiet (fail); try go_wp2)
              go_meet
              case rel => exact ⟨_, ((sx.toList != ([] : List UInt8))), (decide ((bt sx 0) ≤ 122)), (by first | rfl | (simp; done) | (congr 1; first | (with_reducible assumption) | (symm; with_reducible assumption)) | (simp only [← hji2] <;> (first | rfl | simp)) | (simp [*]; done)), (by first | rfl | (simp; done) | (congr 1; first | (with_reducible assumption) | (symm; with_reducible assumption)) | (simp only [← hji2] <;> (first | rfl | simp)) | (simp [*]; done)), H', ⟨by first | omega | exact Nat.le_refl _⟩, ⟨by repeat (first | (with_reducible first | exact HB.out | apply below_alloc | apply pw_below_drewN | apply below_drew1) | exact HB.out)⟩⟩
            · rw [if_neg c9] at H
              have c9b0 : decide (97 ≤ (bt sx 0)) = false := decide_eq_false c9
              clear c9
              have H' := Aside0.mk H
              clear H
              have p8 : 0 ≤ (0 : Int) := (by omega)
              have q8 : 0 < sx.size := (by have : (0 : Int) < (sx.size : Int) := of_decide_eq_true (by first | (with_reducible assumption) | assumption); omega)
              have hx8 : ∀ h : 0 < sx.size, ((sx[0]'h).toNat : Int) = bt sx 0 := bt_at sx 0
              clear p8
              have qi8 : (0 < (sx.size : Int)) = True := eq_true (of_decide_eq_true (by first | (with_reducible assumption) | assumption))
              replace q8 := eq_true q8
              go_wp2
              repeat (go_quiet (fail); try go_wp2)
              go_meet
              case rel => exact ⟨_, ((sx.toList != ([] : List UInt8))), (false), (by first | rfl | (simp; done) | (congr 1; first | (with_reducible assumption) | (symm; with_reducible assumption)) | (simp only [← hji2] <;> (first | rfl | simp)) | (simp [*]; done)), (by first | rfl | (simp; done) | (congr 1; first | (with_reducible assumption) | (symm; with_reducible assumption)) | (simp [*]; done) | (simp only [ne_nil_empty]; done) | (rw [ne_nil_empty]; rfl)), H', ⟨by first | omega | exact Nat.le_refl _⟩, ⟨by repeat (first | (with_reducible first | exact HB.out | apply below_alloc | apply pw_below_drewN | apply below_drew1) | exact HB.out)⟩⟩
          · rw [if_neg c7] at H
            exact absurd H (by simp)
      case rest =>
        clear HC5
        try clear p1
        try clear q1
        try clear hx1
        try clear qi1
        try clear p2
        try clear c3
        try clear c3b0
        try clear c3b1
        try clear c4
        try clear c4b0
        try clear c4b1
        try clear c6
        try clear c6b0
        try clear c6b1
        try clear c7
        try clear c7b0
        try clear c7b1
        try clear p8
        try clear q8
        try clear hx8
        try clear qi8
        try clear c9
        try clear c9b0
        try clear p10
        try clear q10
        try clear hx10
        try clear qi10
        try clear p10
        try clear p8
        try clear q10
        try clear q8
        obtain ⟨kq, x3_4, x4_4, rfl, rfl, HA, HJ4, HB⟩ := hcut
        cases kq with
        | zero => exact absurd HA.out (by simp [boltinglaw05_NamesEach.j0])
        | succ kj4 =>
          have H := HA.out
          clear HA
          simp only [boltinglaw05_NamesEach.j0] at H
          have H' := Aside0.mk H
          clear H
          go_wp2
          repeat (go_quiet (fail); try go_wp2)
          go_loopg [3, 4, 5] kj4 (fun kq v3 v4 v5 w' => ∃ (x3_2 : Bool) (x4_2 : Bool) (x5_2 : Int), v3 = .bool x3_2 ∧ v4 = .bool x4_2 ∧ v5 = .int .i64 x5_2 ∧ Aside0 (boltinglaw05_NamesEach.l0 kq sx x3_2 x4_2 x5_2 = some r) ∧ Aside0 (kq ≤ kj4) ∧ Aside0 (Below w.heap.size w w'))
          case atStart => exact ⟨(x3_4), (x4_4), (0), (by first | rfl | (simp; done) | (congr 1; first | (with_reducible assumption) | (symm; with_reducible assumption)) | (simp [*]; done) | (simp only [ne_nil_empty]; done) | (rw [ne_nil_empty]; rfl)), (by first | rfl | (simp; done) | (congr 1; first | (with_reducible assumption) | (symm; with_reducible assumption)) | (simp [*]; done) | (simp only [ne_nil_empty]; done) | (rw [ne_nil_empty]; rfl)), (by first | rfl | (simp; done) | (congr 1; first | (with_reducible assumption) | (symm; with_reducible assumption)) | (simp [*]; done) | (simp only [ne_nil_empty]; done) | (rw [ne_nil_empty]; rfl)), H', ⟨Nat.le_refl _⟩, ⟨by repeat (first | (with_reducible first | exact HB.out | apply below_alloc | apply pw_below_drewN | apply below_drew1) | exact HB.out)⟩⟩
          case round =>
            clear H'
            try clear p1
            try clear q1
            try clear hx1
            try clear qi1
            try clear p2
            try clear c3
            try clear c3b0
            try clear c3b1
            try clear c4
            try clear c4b0
            try clear c4b1
            try clear c6
            try clear c6b0
            try clear c6b1
            try clear c7
            try clear c7b0
            try clear c7b1
            try clear p8
            try clear q8
            try clear hx8
            try clear qi8
            try clear c9
            try clear c9b0
            try clear p10
            try clear q10
            try clear hx10
            try clear qi10
            try clear p1
            try clear p10
            try clear p2
            try clear p8
            try clear q1
            try clear q10
            try clear q8
            obtain ⟨x3_2, x4_2, x5_2, rfl, rfl, rfl, HA, HK2, HB⟩ := hrel
            cases gk with
            | zero => exact absurd HA.out (by simp [boltinglaw05_NamesEach.l0])
            | succ k2 =>
              have H := HA.out
              clear HA
              simp only [boltinglaw05_NamesEach.l0] at H
              by_cases c11 : x5_2 < (sx.size : Int)
              · rw [if_pos c11] at H
                have c11b0 : decide (x5_2 < (sx.size : Int)) = true := decide_eq_true c11
                clear c11
                by_cases c12 : x3_2 = true
                · subst c12
                  have H1 : (if 0 ≤ x5_2 then (if x5_2 ≤ (wrap64 (x5_2 + 1)) then (if (wrap64 (x5_2 + 1)) ≤ (sx.size : Int) then ((names_Attr.f k2 (sx.extract (x5_2 : Int).toNat ((wrap64 (x5_2 + 1)) : Int).toNat)).bind fun t407 => (if x4_2 = true then (if 1 + (sx.extract (x5_2 : Int).toNat ((wrap64 (x5_2 + 1)) : Int).toNat).size ≤ 9223372036854775807 then ((names_Right.f k2 ((⟨#[97]⟩ : ByteArray) ++ (sx.extract (x5_2 : Int).toNat ((wrap64 (x5_2 + 1)) : Int).toNat))).bind fun t408 => (boltinglaw05_NamesEach.l0 k2 sx t407 t408 (wrap64 (x5_2 + 1)))) else (none)) else (boltinglaw05_NamesEach.l0 k2 sx t407 false (wrap64 (x5_2 + 1))))) else (none)) else (none)) else (none)) = some r := by rw [if_pos rfl] at H; exact H
                  clear H
                  have H := H1
                  clear H1
                  by_cases c13 : 0 ≤ x5_2
                  · rw [if_pos c13] at H
                    have c13b0 := eq_true c13
                    have c13b1 : decide (0 ≤ x5_2) = true := decide_eq_true c13
                    clear c13
                    by_cases c14 : x5_2 ≤ (wrap64 (x5_2 + 1))
                    · rw [if_pos c14] at H
                      have c14b0 := eq_true c14
                      have c14b1 : decide (x5_2 ≤ (wrap64 (x5_2 + 1))) = true := decide_eq_true c14
                      by_cases c15 : (wrap64 (x5_2 + 1)) ≤ (sx.size : Int)
                      · rw [if_pos c15] at H
                        have c15b0 := eq_true c15
                        have c15b1 : decide ((wrap64 (x5_2 + 1)) ≤ (sx.size : Int)) = true := decide_eq_true c15
                        replace H := Option.bind_eq_some_iff.mp H
                        obtain ⟨t407, A160, H⟩ := H
                        replace H : (if x4_2 = true then (if 1 + (sx.extract (x5_2 : Int).toNat ((wrap64 (x5_2 + 1)) : Int).toNat).size ≤ 9223372036854775807 then ((names_Right.f k2 ((⟨#[97]⟩ : ByteArray) ++ (sx.extract (x5_2 : Int).toNat ((wrap64 (x5_2 + 1)) : Int).toNat))).bind fun t408 => (boltinglaw05_NamesEach.l0 k2 sx t407 t408 (wrap64 (x5_2 + 1)))) else (none)) else (boltinglaw05_NamesEach.l0 k2 sx t407 false (wrap64 (x5_2 + 1)))) = some r := H
                        have A16 := Aside0.mk A160
                        clear A160
                        by_cases c17 : x4_2 = true
                        · subst c17
                          have H1 : (if 1 + (sx.extract (x5_2 : Int).toNat ((wrap64 (x5_2 + 1)) : Int).toNat).size ≤ 9223372036854775807 then ((names_Right.f k2 ((⟨#[97]⟩ : ByteArray) ++ (sx.extract (x5_2 : Int).toNat ((wrap64 (x5_2 + 1)) : Int).toNat))).bind fun t408 => (boltinglaw05_NamesEach.l0 k2 sx t407 t408 (wrap64 (x5_2 + 1)))) else (none)) = some r := by rw [if_pos rfl] at H; exact H
                          clear H
                          have H := H1
                          clear H1
                          have c18b0 := eq_true (of_decide_eq_true (by first | (with_reducible assumption) | assumption) : 0 ≤ x5_2)
                          have c19b0 := eq_true (of_decide_eq_true (by first | (with_reducible assumption) | assumption) : x5_2 ≤ (wrap64 (x5_2 + 1)))
                          have c20b0 := eq_true (of_decide_eq_true (by first | (with_reducible assumption) | assumption) : (wrap64 (x5_2 + 1)) ≤ (sx.size : Int))
                          by_cases c21 : 1 + (sx.extract (x5_2 : Int).toNat ((wrap64 (x5_2 + 1)) : Int).toNat).size ≤ 9223372036854775807
                          · rw [if_pos c21] at H
                            have c21b0 := eq_true c21
                            have c21b1 : decide (1 + (sx.extract (x5_2 : Int).toNat ((wrap64 (x5_2 + 1)) : Int).toNat).size ≤ 9223372036854775807) = true := decide_eq_true c21
                            try have c21b2 : (9223372036854775807 < 1 + (sx.extract (x5_2 : Int).toNat ((wrap64 (x5_2 + 1)) : Int).toNat).size) = False := eq_false (Nat.not_lt.2 c21)
                            have c21b3 : ¬ (9223372036854775807 < 1 + (sx.extract x5_2.toNat (wrap64 (x5_2 + 1)).toNat).size) := Nat.not_lt.2 c21
                            have c21b4 : ¬ (9223372036854775807 < (⟨#[97]⟩ : ByteArray).size + (sx.extract x5_2.toNat (wrap64 (x5_2 + 1)).toNat).size) := Nat.not_lt.2 c21
                            have c21b5 := c21b3
                            rw [ByteArray.size_extract] at c21b5
                            replace H := Option.bind_eq_some_iff.mp H
                            obtain ⟨t408, A220, H⟩ := H
                            replace H : (boltinglaw05_NamesEach.l0 k2 sx t407 t408 (wrap64 (x5_2 + 1))) = some r := H
                            have A22 := Aside0.mk A220
                            clear A220
                            have H' := Aside0.mk H
                            clear H
                            go_wp2_with (first | (go_at_call 30; (with_reducible refine (names_Attr.calls k2 (sx.extract (x5_2 : Int).toNat ((wrap64 (x5_2 + 1)) : Int).toNat) t407 _ A16.out).mono ?_); rintro e w' ⟨rfl, ⟨nd, rfl⟩⟩; (try first | exact ⟨rfl, _, World.drewN_drewN _ _ _⟩ | exact ⟨rfl, _, Eq.trans (World.drewN_drewN _ _ _) (congrArg (World.drewN _) (Nat.add_assoc _ _ _))⟩)) | (go_at_call 28; (with_reducible refine (names_Right.calls k2 ((⟨#[97]⟩ : ByteArray) ++ (sx.extract (x5_2 : Int).toNat ((wrap64 (x5_2 + 1)) : Int).toNat)) t408 _ A22.out).mono ?_); rintro e w' ⟨rfl, ⟨nd, rfl⟩⟩; (try first | exact ⟨rfl, _, World.drewN_drewN _ _ _⟩ | exact ⟨rfl, _, Eq.trans (World.drewN_drewN _ _ _) (congrArg (World.drewN _) (Nat.add_assoc _ _ _))⟩)))
                            repeat (go_quiet (first | (go_at_call 30; (with_reducible refine (names_Attr.calls k2 (sx.extract (x5_2 : Int).toNat ((wrap64 (x5_2 + 1)) : Int).toNat) t407 _ A16.out).mono ?_); rintro e w' ⟨rfl, ⟨nd, rfl⟩⟩; (try first | exact ⟨rfl, _, World.drewN_drewN _ _ _⟩ | exact ⟨rfl, _, Eq.trans (World.drewN_drewN _ _ _) (congrArg (World.drewN _) (Nat.add_assoc _ _ _))⟩)) | (go_at_call 28; (with_reducible refine (names_Right.calls k2 ((⟨#[97]⟩ : ByteArray) ++ (sx.extract (x5_2 : Int).toNat ((wrap64 (x5_2 + 1)) : Int).toNat)) t408 _ A22.out).mono ?_); rintro e w' ⟨rfl, ⟨nd, rfl⟩⟩; (try first | exact ⟨rfl, _, World.drewN_drewN _ _ _⟩ | exact ⟨rfl, _, Eq.trans (World.drewN_drewN _ _ _) (congrArg (World.drewN _) (Nat.add_assoc _ _ _))⟩))); try go_wp2_with (first | (go_at_call 30; (with_reducible refine (names_Attr.calls k2 (sx.extract (x5_2 : Int).toNat ((wrap64 (x5_2 + 1)) : Int).toNat) t407 _ A16.out).mono ?_); rintro e w' ⟨rfl, ⟨nd, rfl⟩⟩; (try first | exact ⟨rfl, _, World.drewN_drewN _ _ _⟩ | exact ⟨rfl, _, Eq.trans (World.drewN_drewN _ _ _) (congrArg (World.drewN _) (Nat.add_assoc _ _ _))⟩)) | (go_at_call 28; (with_reducible refine (names_Right.calls k2 ((⟨#[97]⟩ : ByteArray) ++ (sx.extract (x5_2 : Int).toNat ((wrap64 (x5_2 + 1)) : Int).toNat)) t408 _ A22.out).mono ?_); rintro e w' ⟨rfl, ⟨nd, rfl⟩⟩; (try first | exact ⟨rfl, _, World.drewN_drewN _ _ _⟩ | exact ⟨rfl, _, Eq.trans (World.drewN_drewN _ _ _) (congrArg (World.drewN _) (Nat.add_assoc _ _ _))⟩))))
                            go_roundg k2
                            case measure => have := HJ4.out; have := HK2.out; omega
                            case rel => exact ⟨(t407), (t408), (wrap64 (x5_2 + 1)), (by first | rfl | (simp; done) | (congr 1; first | (with_reducible assumption) | (symm; with_reducible assumption)) | (simp [*]; done) | (simp only [ne_nil_empty]; done) | (rw [ne_nil_empty]; rfl)), (by first | rfl | (simp; done) | (congr 1; first | (with_reducible assumption) | (symm; with_reducible assumption)) | (simp [*]; done) | (simp only [ne_nil_empty]; done) | (rw [ne_nil_empty]; rfl)), (by first | rfl | (simp; done) | (congr 1; first | (with_reducible assumption) | (symm; with_reducible assumption)) | (simp [*]; done) | (simp only [ne_nil_empty]; done) | (rw [ne_nil_empty]; rfl)), H', ⟨by have := HJ4.out; have := HK2.out; omega⟩, ⟨by repeat (first | (with_reducible first | exact HB.out | apply below_alloc | apply pw_below_drewN | apply below_drew1) | exact HB.out)⟩⟩
                          · rw [if_neg c21] at H
                            exact absurd H (by simp)
                        · replace c17 := Bool.eq_false_iff.mpr c17
                          subst c17
                          have H1 : (boltinglaw05_NamesEach.l0 k2 sx t407 false (wrap64 (x5_2 + 1))) = some r := by rw [if_neg (show ¬ (false = true) by decide)] at H; exact H
                          clear H
                          have H := H1
                          clear H1
                          have H' := Aside0.mk H
                          clear H
                          go_wp2_with (first | (go_at_call 30; (with_reducible refine (names_Attr.calls k2 (sx.extract (x5_2 : Int).toNat ((wrap64 (x5_2 + 1)) : Int).toNat) t407 _ A16.out).mono ?_); rintro e w' ⟨rfl, ⟨nd, rfl⟩⟩; (try first | exact ⟨rfl, _, World.drewN_drewN _ _ _⟩ | exact ⟨rfl, _, Eq.trans (World.drewN_drewN _ _ _) (congrArg (World.drewN _) (Nat.add_assoc _ _ _))⟩)))
                          repeat (go_quiet (first | (go_at_call 30; (with_reducible refine (names_Attr.calls k2 (sx.extract (x5_2 : Int).toNat ((wrap64 (x5_2 + 1)) : Int).toNat) t407 _ A16.out).mono ?_); rintro e w' ⟨rfl, ⟨nd, rfl⟩⟩; (try first | exact ⟨rfl, _, World.drewN_drewN _ _ _⟩ | exact ⟨rfl, _, Eq.trans (World.drewN_drewN _ _ _) (congrArg (World.drewN _) (Nat.add_assoc _ _ _))⟩))); try go_wp2_with (first | (go_at_call 30; (with_reducible refine (names_Attr.calls k2 (sx.extract (x5_2 : Int).toNat ((wrap64 (x5_2 + 1)) : Int).toNat) t407 _ A16.out).mono ?_); rintro e w' ⟨rfl, ⟨nd, rfl⟩⟩; (try first | exact ⟨rfl, _, World.drewN_drewN _ _ _⟩ | exact ⟨rfl, _, Eq.trans (World.drewN_drewN _ _ _) (congrArg (World.drewN _) (Nat.add_assoc _ _ _))⟩))))
                          go_roundg k2
                          case measure => have := HJ4.out; have := HK2.out; omega
                          case rel => exact ⟨(t407), (false), (wrap64 (x5_2 + 1)), (by first | rfl | (simp; done) | (congr 1; first | (with_reducible assumption) | (symm; with_reducible assumption)) | (simp [*]; done) | (simp only [ne_nil_empty]; done) | (rw [ne_nil_empty]; rfl)), (by first | rfl | (simp; done) | (congr 1; first | (with_reducible assumption) | (symm; with_reducible assumption)) | (simp [*]; done) | (simp only [ne_nil_empty]; done) | (rw [ne_nil_empty]; rfl)), (by first | rfl | (simp; done) | (congr 1; first | (with_reducible assumption) | (symm; with_reducible assumption)) | (simp [*]; done) | (simp only [ne_nil_empty]; done) | (rw [ne_nil_empty]; rfl)), H', ⟨by have := HJ4.out; have := HK2.out; omega⟩, ⟨by repeat (first | (with_reducible first | exact HB.out | apply below_alloc | apply pw_below_drewN | apply below_drew1) | exact HB.out)⟩⟩
                      · rw [if_neg c15] at H
                        exact absurd H (by simp)
                    · rw [if_neg c14] at H
                      exact absurd H (by simp)
                  · rw [if_neg c13] at H
                    exact absurd H (by simp)
                · replace c12 := Bool.eq_false_iff.mpr c12
                  subst c12
                  have H1 : (if x4_2 = true then (if 0 ≤ x5_2 then (if x5_2 ≤ (wrap64 (x5_2 + 1)) then (if (wrap64 (x5_2 + 1)) ≤ (sx.size : Int) then (if 1 + (sx.extract (x5_2 : Int).toNat ((wrap64 (x5_2 + 1)) : Int).toNat).size ≤ 9223372036854775807 then ((names_Right.f k2 ((⟨#[97]⟩ : ByteArray) ++ (sx.extract (x5_2 : Int).toNat ((wrap64 (x5_2 + 1)) : Int).toNat))).bind fun t409 => (boltinglaw05_NamesEach.l0 k2 sx false t409 (wrap64 (x5_2 + 1)))) else (none)) else (none)) else (none)) else (none)) else (boltinglaw05_NamesEach.l0 k2 sx false false (wrap64 (x5_2 + 1)))) = some r := by rw [if_neg (show ¬ (false = true) by decide)] at H; exact H
                  clear H
                  have H := H1
                  clear H1
                  by_cases c23 : x4_2 = true
                  · subst c23
                    have H1 : (if 0 ≤ x5_2 then (if x5_2 ≤ (wrap64 (x5_2 + 1)) then (if (wrap64 (x5_2 + 1)) ≤ (sx.size : Int) then (if 1 + (sx.extract (x5_2 : Int).toNat ((wrap64 (x5_2 + 1)) : Int).toNat).size ≤ 9223372036854775807 then ((names_Right.f k2 ((⟨#[97]⟩ : ByteArray) ++ (sx.extract (x5_2 : Int).toNat ((wrap64 (x5_2 + 1)) : Int).toNat))).bind fun t409 => (boltinglaw05_NamesEach.l0 k2 sx false t409 (wrap64 (x5_2 + 1)))) else (none)) else (none)) else (none)) else (none)) = some r := by rw [if_pos rfl] at H; exact H
                    clear H
                    have H := H1
                    clear H1
                    by_cases c24 : 0 ≤ x5_2
                    · rw [if_pos c24] at H
                      have c24b0 := eq_true c24
                      have c24b1 : decide (0 ≤ x5_2) = true := decide_eq_true c24
                      clear c24
                      by_cases c25 : x5_2 ≤ (wrap64 (x5_2 + 1))
                      · rw [if_pos c25] at H
                        have c25b0 := eq_true c25
                        have c25b1 : decide (x5_2 ≤ (wrap64 (x5_2 + 1))) = true := decide_eq_true c25
                        by_cases c26 : (wrap64 (x5_2 + 1)) ≤ (sx.size : Int)
                        · rw [if_pos c26] at H
                          have c26b0 := eq_true c26
                          have c26b1 : decide ((wrap64 (x5_2 + 1)) ≤ (sx.size : Int)) = true := decide_eq_true c26
                          by_cases c27 : 1 + (sx.extract (x5_2 : Int).toNat ((wrap64 (x5_2 + 1)) : Int).toNat).size ≤ 9223372036854775807
                          · rw [if_pos c27] at H
                            have c27b0 := eq_true c27
                            have c27b1 : decide (1 + (sx.extract (x5_2 : Int).toNat ((wrap64 (x5_2 + 1)) : Int).toNat).size ≤ 9223372036854775807) = true := decide_eq_true c27
                            try have c27b2 : (9223372036854775807 < 1 + (sx.extract (x5_2 : Int).toNat ((wrap64 (x5_2 + 1)) : Int).toNat).size) = False := eq_false (Nat.not_lt.2 c27)
                            have c27b3 : ¬ (9223372036854775807 < 1 + (sx.extract x5_2.toNat (wrap64 (x5_2 + 1)).toNat).size) := Nat.not_lt.2 c27
                            have c27b4 : ¬ (9223372036854775807 < (⟨#[97]⟩ : ByteArray).size + (sx.extract x5_2.toNat (wrap64 (x5_2 + 1)).toNat).size) := Nat.not_lt.2 c27
                            have c27b5 := c27b3
                            rw [ByteArray.size_extract] at c27b5
                            replace H := Option.bind_eq_some_iff.mp H
                            obtain ⟨t409, A280, H⟩ := H
                            replace H : (boltinglaw05_NamesEach.l0 k2 sx false t409 (wrap64 (x5_2 + 1))) = some r := H
                            have A28 := Aside0.mk A280
                            clear A280
                            have H' := Aside0.mk H
                            clear H
                            go_wp2_with (first | (go_at_call 28; (with_reducible refine (names_Right.calls k2 ((⟨#[97]⟩ : ByteArray) ++ (sx.extract (x5_2 : Int).toNat ((wrap64 (x5_2 + 1)) : Int).toNat)) t409 _ A28.out).mono ?_); rintro e w' ⟨rfl, ⟨nd, rfl⟩⟩; (try first | exact ⟨rfl, _, World.drewN_drewN _ _ _⟩ | exact ⟨rfl, _, Eq.trans (World.drewN_drewN _ _ _) (congrArg (World.drewN _) (Nat.add_assoc _ _ _))⟩)))
                            repeat (go_quiet (first | (go_at_call 28; (with_reducible refine (names_Right.calls k2 ((⟨#[97]⟩ : ByteArray) ++ (sx.extract (x5_2 : Int).toNat ((wrap64 (x5_2 + 1)) : Int).toNat)) t409 _ A28.out).mono ?_); rintro e w' ⟨rfl, ⟨nd, rfl⟩⟩; (try first | exact ⟨rfl, _, World.drewN_drewN _ _ _⟩ | exact ⟨rfl, _, Eq.trans (World.drewN_drewN _ _ _) (congrArg (World.drewN _) (Nat.add_assoc _ _ _))⟩))); try go_wp2_with (first | (go_at_call 28; (with_reducible refine (names_Right.calls k2 ((⟨#[97]⟩ : ByteArray) ++ (sx.extract (x5_2 : Int).toNat ((wrap64 (x5_2 + 1)) : Int).toNat)) t409 _ A28.out).mono ?_); rintro e w' ⟨rfl, ⟨nd, rfl⟩⟩; (try first | exact ⟨rfl, _, World.drewN_drewN _ _ _⟩ | exact ⟨rfl, _, Eq.trans (World.drewN_drewN _ _ _) (congrArg (World.drewN _) (Nat.add_assoc _ _ _))⟩))))
                            go_roundg k2
                            case measure => have := HJ4.out; have := HK2.out; omega
                            case rel => exact ⟨(false), (t409), (wrap64 (x5_2 + 1)), (by first | rfl | (simp; done) | (congr 1; first | (with_reducible assumption) | (symm; with_reducible assumption)) | (simp [*]; done) | (simp only [ne_nil_empty]; done) | (rw [ne_nil_empty]; rfl)), (by first | rfl | (simp; done) | (congr 1; first | (with_reducible assumption) | (symm; with_reducible assumption)) | (simp [*]; done) | (simp only [ne_nil_empty]; done) | (rw [ne_nil_empty]; rfl)), (by first | rfl | (simp; done) | (congr 1; first | (with_reducible assumption) | (symm; with_reducible assumption)) | (simp [*]; done) | (simp only [ne_nil_empty]; done) | (rw [ne_nil_empty]; rfl)), H', ⟨by have := HJ4.out; have := HK2.out; omega⟩, ⟨by repeat (first | (with_reducible first | exact HB.out | apply below_alloc | apply pw_below_drewN | apply below_drew1) | exact HB.out)⟩⟩
                          · rw [if_neg c27] at H
                            exact absurd H (by simp)
                        · rw [if_neg c26] at H
                          exact absurd H (by simp)
                      · rw [if_neg c25] at H
                        exact absurd H (by simp)
                    · rw [if_neg c24] at H
                      exact absurd H (by simp)
                  · replace c23 := Bool.eq_false_iff.mpr c23
                    subst c23
                    have H1 : (boltinglaw05_NamesEach.l0 k2 sx false false (wrap64 (x5_2 + 1))) = some r := by rw [if_neg (show ¬ (false = true) by decide)] at H; exact H
                    clear H
                    have H := H1
                    clear H1
                    have H' := Aside0.mk H
                    clear H
                    go_wp2
                    repeat (go_quiet (fail); try go_wp2)
                    go_roundg k2
                    case measure => have := HJ4.out; have := HK2.out; omega
                    case rel => exact ⟨(false), (false), (wrap64 (x5_2 + 1)), (by first | rfl | (simp; done) | (congr 1; first | (with_reducible assumption) | (symm; with_reducible assumption)) | (simp [*]; done) | (simp only [ne_nil_empty]; done) | (rw [ne_nil_empty]; rfl)), (by first | rfl | (simp; done) | (congr 1; first | (with_reducible assumption) | (symm; with_reducible assumption)) | (simp [*]; done) | (simp only [ne_nil_empty]; done) | (rw [ne_nil_empty]; rfl)), (by first | rfl | (simp; done) | (congr 1; first | (with_reducible assumption) | (symm; with_reducible assumption)) | (simp [*]; done) | (simp only [ne_nil_empty]; done) | (rw [ne_nil_empty]; rfl)), H', ⟨by have := HJ4.out; have := HK2.out; omega⟩, ⟨by repeat (first | (with_reducible first | exact HB.out | apply below_alloc | apply pw_below_drewN | apply below_drew1) | exact HB.out)⟩⟩
              · rw [if_neg c11] at H
                have c11b0 : decide (x5_2 < (sx.size : Int)) = false := decide_eq_false c11
                clear c11
                replace H := Option.bind_eq_some_iff.mp H
                obtain ⟨t410, A290, H⟩ := H
                replace H : (if (t410 == x3_2) = true then ((names_Right.f k2 sx).bind fun t411 => (if (t411 == x4_2) = true then ((boltinglaw05_fixed.f k2).bind fun t412 => (some t412)) else (some false))) else (some false)) = some r := H
                have A29 := Aside0.mk A290
                clear A290
                by_cases c30 : (t410 == x3_2) = true
                · rw [if_pos c30] at H
                  have c30b0 : (t410 == x3_2) = true := c30
                  (try (have c30b1 : decide (t410 = x3_2) = true := by simpa using c30))
                  (try (have c30b2 : (t410 == x3_2) = true := by simpa using c30))
                  clear c30
                  replace H := Option.bind_eq_some_iff.mp H
                  obtain ⟨t411, A310, H⟩ := H
                  replace H : (if (t411 == x4_2) = true then ((boltinglaw05_fixed.f k2).bind fun t412 => (some t412)) else (some false)) = some r := H
                  have A31 := Aside0.mk A310
                  clear A310
                  by_cases c32 : (t411 == x4_2) = true
                  · rw [if_pos c32] at H
                    have c32b0 : (t411 == x4_2) = true := c32
                    (try (have c32b1 : decide (t411 = x4_2) = true := by simpa using c32))
                    (try (have c32b2 : (t411 == x4_2) = true := by simpa using c32))
                    clear c32
                    replace H := Option.bind_eq_some_iff.mp H
                    obtain ⟨t412, A330, H⟩ := H
                    replace H : (some t412) = some r := H
                    have A33 := Aside0.mk A330
                    clear A330
                    obtain rfl := Option.some.inj H
                    go_wp2_with (first | (go_at_call 30; (with_reducible refine (names_Attr.calls k2 sx t410 _ A29.out).mono ?_); rintro e w' ⟨rfl, ⟨nd, rfl⟩⟩; (try first | exact ⟨rfl, _, World.drewN_drewN _ _ _⟩ | exact ⟨rfl, _, Eq.trans (World.drewN_drewN _ _ _) (congrArg (World.drewN _) (Nat.add_assoc _ _ _))⟩)) | (go_at_call 28; (with_reducible refine (names_Right.calls k2 sx t411 _ A31.out).mono ?_); rintro e w' ⟨rfl, ⟨nd, rfl⟩⟩; (try first | exact ⟨rfl, _, World.drewN_drewN _ _ _⟩ | exact ⟨rfl, _, Eq.trans (World.drewN_drewN _ _ _) (congrArg (World.drewN _) (Nat.add_assoc _ _ _))⟩)) | (go_at_call 10; (with_reducible refine (boltinglaw05_fixed.calls k2  t412 _ A33.out).mono ?_); rintro e w34 ⟨rfl, hb⟩; have n0_ := Aside0.mk (below_step (by repeat (first | (with_reducible first | exact HB.out | apply below_alloc | apply pw_below_drewN | apply below_drew1) | exact HB.out)) hb); clear HB; have HB := n0_; clear n0_; (try clear hb); (try clear hb2); (try clear hk); (try clear hi)))
                    repeat (go_quiet (first | (go_at_call 30; (with_reducible refine (names_Attr.calls k2 sx t410 _ A29.out).mono ?_); rintro e w' ⟨rfl, ⟨nd, rfl⟩⟩; (try first | exact ⟨rfl, _, World.drewN_drewN _ _ _⟩ | exact ⟨rfl, _, Eq.trans (World.drewN_drewN _ _ _) (congrArg (World.drewN _) (Nat.add_assoc _ _ _))⟩)) | (go_at_call 28; (with_reducible refine (names_Right.calls k2 sx t411 _ A31.out).mono ?_); rintro e w' ⟨rfl, ⟨nd, rfl⟩⟩; (try first | exact ⟨rfl, _, World.drewN_drewN _ _ _⟩ | exact ⟨rfl, _, Eq.trans (World.drewN_drewN _ _ _) (congrArg (World.drewN _) (Nat.add_assoc _ _ _))⟩)) | (go_at_call 10; (with_reducible refine (boltinglaw05_fixed.calls k2  t412 _ A33.out).mono ?_); rintro e w34 ⟨rfl, hb⟩; have n0_ := Aside0.mk (below_step (by repeat (first | (with_reducible first | exact HB.out | apply below_alloc | apply pw_below_drewN | apply below_drew1) | exact HB.out)) hb); clear HB; have HB := n0_; clear n0_; (try clear hb); (try clear hb2); (try clear hk); (try clear hi))); try go_wp2_with (first | (go_at_call 30; (with_reducible refine (names_Attr.calls k2 sx t410 _ A29.out).mono ?_); rintro e w' ⟨rfl, ⟨nd, rfl⟩⟩; (try first | exact ⟨rfl, _, World.drewN_drewN _ _ _⟩ | exact ⟨rfl, _, Eq.trans (World.drewN_drewN _ _ _) (congrArg (World.drewN _) (Nat.add_assoc _ _ _))⟩)) | (go_at_call 28; (with_reducible refine (names_Right.calls k2 sx t411 _ A31.out).mono ?_); rintro e w' ⟨rfl, ⟨nd, rfl⟩⟩; (try first | exact ⟨rfl, _, World.drewN_drewN _ _ _⟩ | exact ⟨rfl, _, Eq.trans (World.drewN_drewN _ _ _) (congrArg (World.drewN _) (Nat.add_assoc _ _ _))⟩)) | (go_at_call 10; (with_reducible refine (boltinglaw05_fixed.calls k2  t412 _ A33.out).mono ?_); rintro e w34 ⟨rfl, hb⟩; have n0_ := Aside0.mk (below_step (by repeat (first | (with_reducible first | exact HB.out | apply below_alloc | apply pw_below_drewN | apply below_drew1) | exact HB.out)) hb); clear HB; have HB := n0_; clear n0_; (try clear hb); (try clear hb2); (try clear hk); (try clear hi))))
                    go_ret
                    exact ⟨by first | rfl | (simp [errW_none, errW_some] <;> rfl) | (simp only [← hji2]; first | rfl | (simp [errW_none, errW_some] <;> rfl)) | (simp [*, errW_none, errW_some] <;> rfl), by repeat (first | (with_reducible first | exact HB.out | apply below_alloc | apply pw_below_drewN | apply below_drew1) | exact HB.out)⟩
                  · rw [if_neg c32] at H
                    have c32b0 : (t411 == x4_2) = false := by simpa using c32
                    (try (have c32b1 : decide (t411 = x4_2) = false := by simpa using c32))
                    (try (have c32b2 : (t411 == x4_2) = false := by simpa using c32))
                    (try (have c32b3 : ¬ (t411 = x4_2) := by simpa using c32))
                    clear c32
                    obtain rfl := Option.some.inj H
                    go_wp2_with (first | (go_at_call 30; (with_reducible refine (names_Attr.calls k2 sx t410 _ A29.out).mono ?_); rintro e w' ⟨rfl, ⟨nd, rfl⟩⟩; (try first | exact ⟨rfl, _, World.drewN_drewN _ _ _⟩ | exact ⟨rfl, _, Eq.trans (World.drewN_drewN _ _ _) (congrArg (World.drewN _) (Nat.add_assoc _ _ _))⟩)) | (go_at_call 28; (with_reducible refine (names_Right.calls k2 sx t411 _ A31.out).mono ?_); rintro e w' ⟨rfl, ⟨nd, rfl⟩⟩; (try first | exact ⟨rfl, _, World.drewN_drewN _ _ _⟩ | exact ⟨rfl, _, Eq.trans (World.drewN_drewN _ _ _) (congrArg (World.drewN _) (Nat.add_assoc _ _ _))⟩)))
                    repeat (go_quiet (first | (go_at_call 30; (with_reducible refine (names_Attr.calls k2 sx t410 _ A29.out).mono ?_); rintro e w' ⟨rfl, ⟨nd, rfl⟩⟩; (try first | exact ⟨rfl, _, World.drewN_drewN _ _ _⟩ | exact ⟨rfl, _, Eq.trans (World.drewN_drewN _ _ _) (congrArg (World.drewN _) (Nat.add_assoc _ _ _))⟩)) | (go_at_call 28; (with_reducible refine (names_Right.calls k2 sx t411 _ A31.out).mono ?_); rintro e w' ⟨rfl, ⟨nd, rfl⟩⟩; (try first | exact ⟨rfl, _, World.drewN_drewN _ _ _⟩ | exact ⟨rfl, _, Eq.trans (World.drewN_drewN _ _ _) (congrArg (World.drewN _) (Nat.add_assoc _ _ _))⟩))); try go_wp2_with (first | (go_at_call 30; (with_reducible refine (names_Attr.calls k2 sx t410 _ A29.out).mono ?_); rintro e w' ⟨rfl, ⟨nd, rfl⟩⟩; (try first | exact ⟨rfl, _, World.drewN_drewN _ _ _⟩ | exact ⟨rfl, _, Eq.trans (World.drewN_drewN _ _ _) (congrArg (World.drewN _) (Nat.add_assoc _ _ _))⟩)) | (go_at_call 28; (with_reducible refine (names_Right.calls k2 sx t411 _ A31.out).mono ?_); rintro e w' ⟨rfl, ⟨nd, rfl⟩⟩; (try first | exact ⟨rfl, _, World.drewN_drewN _ _ _⟩ | exact ⟨rfl, _, Eq.trans (World.drewN_drewN _ _ _) (congrArg (World.drewN _) (Nat.add_assoc _ _ _))⟩))))
                    go_ret
                    exact ⟨by first | rfl | (simp [errW_none, errW_some] <;> rfl) | (simp only [← hji2]; first | rfl | (simp [errW_none, errW_some] <;> rfl)) | (simp [*, errW_none, errW_some] <;> rfl), by repeat (first | (with_reducible first | exact HB.out | apply below_alloc | apply pw_below_drewN | apply below_drew1) | exact HB.out)⟩
                · rw [if_neg c30] at H
                  have c30b0 : (t410 == x3_2) = false := by simpa using c30
                  (try (have c30b1 : decide (t410 = x3_2) = false := by simpa using c30))
                  (try (have c30b2 : (t410 == x3_2) = false := by simpa using c30))
                  (try (have c30b3 : ¬ (t410 = x3_2) := by simpa using c30))
                  clear c30
                  obtain rfl := Option.some.inj H
                  go_wp2_with (first | (go_at_call 30; (with_reducible refine (names_Attr.calls k2 sx t410 _ A29.out).mono ?_); rintro e w' ⟨rfl, ⟨nd, rfl⟩⟩; (try first | exact ⟨rfl, _, World.drewN_drewN _ _ _⟩ | exact ⟨rfl, _, Eq.trans (World.drewN_drewN _ _ _) (congrArg (World.drewN _) (Nat.add_assoc _ _ _))⟩)))
                  repeat (go_quiet (first | (go_at_call 30; (with_reducible refine (names_Attr.calls k2 sx t410 _ A29.out).mono ?_); rintro e w' ⟨rfl, ⟨nd, rfl⟩⟩; (try first | exact ⟨rfl, _, World.drewN_drewN _ _ _⟩ | exact ⟨rfl, _, Eq.trans (World.drewN_drewN _ _ _) (congrArg (World.drewN _) (Nat.add_assoc _ _ _))⟩))); try go_wp2_with (first | (go_at_call 30; (with_reducible refine (names_Attr.calls k2 sx t410 _ A29.out).mono ?_); rintro e w' ⟨rfl, ⟨nd, rfl⟩⟩; (try first | exact ⟨rfl, _, World.drewN_drewN _ _ _⟩ | exact ⟨rfl, _, Eq.trans (World.drewN_drewN _ _ _) (congrArg (World.drewN _) (Nat.add_assoc _ _ _))⟩))))
                  go_ret
                  exact ⟨by first | rfl | (simp [errW_none, errW_some] <;> rfl) | (simp only [← hji2]; first | rfl | (simp [errW_none, errW_some] <;> rfl)) | (simp [*, errW_none, errW_some] <;> rfl), by repeat (first | (with_reducible first | exact HB.out | apply below_alloc | apply pw_below_drewN | apply below_drew1) | exact HB.out)⟩
    · rw [if_neg c4] at H
      exact absurd H (by simp)
  · rw [if_neg c3] at H
    exact absurd H (by simp)

/-- THE ONE PURE STATEMENT of boltinglaw05_NamesEach: yours. -/
def boltinglaw05_NamesEach.Pure : Prop := ∀ (a0 : ByteArray), a0.size ≤ 140737488351232 → ∃ k, boltinglaw05_NamesEach.f k a0 = some true
theorem boltinglaw05_NamesEach.walk (P : boltinglaw05_NamesEach.Pure) (a0 : ByteArray) (w : World) (w0 : a0.size ≤ 140737488351232) :
    Calls Try.prog 9 #[.string a0] w fun e w' => e = .returned (.bool true) ∧ Below w.heap.size w w' := by
  obtain ⟨k, h⟩ := P a0 w0
  refine (boltinglaw05_NamesEach.calls k a0 true w h).mono ?_
  rintro e w' ⟨rfl, hd⟩
  exact ⟨rfl, hd⟩

end Go.Proofs.Ytacffcdjgjiemaa.QA
