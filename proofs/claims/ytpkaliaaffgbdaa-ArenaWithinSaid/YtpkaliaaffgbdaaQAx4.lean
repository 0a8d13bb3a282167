-- Written by a program of this claim's own (wip/gen/gen.py), out of the translation; an ordinary proof text.
import Derived.Test.YtpkaliaaffgbdaaQAx0
import Derived.Test.YtpkaliaaffgbdaaQAx2
import Derived.Test.YtpkaliaaffgbdaaQAx3
namespace Go.Proofs.Ytpkaliaaffgbdaa.QA
open Go.RowKit Go.Proofs.YtpkaliaaffgbdaaW.PrintWords Go.Proofs.YtpkaliaaffgbdaaW.PrintLast Go.Proofs.YtpkaliaaffgbdaaW.PrintMore
attribute [local go_sem] max2_int min2_int max_two min_two max_three min_three max_four min_four   -- for this text's walks alone
set_option linter.unusedVariables false
set_option linter.unusedSimpArgs false

/-! ### fold_Letter: function 84 -/
def fold_Letter.f (a0 : Int) : Option (Bool) := if a0 ≥ 97 then (if a0 ≤ 122 then (some true) else (if a0 ≥ 65 then (some (decide (a0 ≤ 90))) else (some false))) else (if a0 ≥ 65 then (some (decide (a0 ≤ 90))) else (some false))
set_option maxHeartbeats 8000000 in
set_option maxRecDepth 100000 in
theorem fold_Letter.calls (a0 : Int) (r : Bool) (w : World) (h : fold_Letter.f a0 = some r) :
  Calls Try.prog 84 #[.int .u8 a0] w fun e w' => e = .returned (.bool r) ∧ Drawn0 w w' := by
 have H : (if a0 ≥ 97 then (if a0 ≤ 122 then (some true) else (if a0 ≥ 65 then (some (decide (a0 ≤ 90))) else (some false))) else (if a0 ≥ 65 then (some (decide (a0 ≤ 90))) else (some false))) = some r := h
 clear h
 by_cases c2 : a0 ≥ 97
 ·rw [if_pos c2] at H
  have c2b0 : decide (97 ≤ a0) = true := decide_eq_true c2
  clear c2
  by_cases c3 : a0 ≤ 122
  ·rw [if_pos c3] at H
   have c3b0 : decide (a0 ≤ 122) = true := decide_eq_true c3
   clear c3
   obtain rfl := Option.some.inj H
   go_enter Try.func84, Try.ntmps84
   go_wp2
   go_ret
   exact ⟨by first | rfl | (simp; done) | (congr 1; first | (with_reducible assumption) | (symm; with_reducible assumption)) | (simp [*]; done) | (simp only [ne_nil_empty]; done) | (rw [ne_nil_empty]; rfl), by repeat (first | exact Drawn0.refl _ | apply Drawn0.step)⟩
  ·rw [if_neg c3] at H
   have c3b0 : decide (a0 ≤ 122) = false := decide_eq_false c3
   clear c3
   by_cases c4 : a0 ≥ 65
   ·rw [if_pos c4] at H
    have c4b0 : decide (65 ≤ a0) = true := decide_eq_true c4
    clear c4
    obtain rfl := Option.some.inj H
    go_enter Try.func84, Try.ntmps84
    go_wp2
    go_ret
    exact ⟨by first | rfl | (simp; done) | (congr 1; first | (with_reducible assumption) | (symm; with_reducible assumption)) | (simp [*]; done) | (simp only [ne_nil_empty]; done) | (rw [ne_nil_empty]; rfl), by repeat (first | exact Drawn0.refl _ | apply Drawn0.step)⟩
   ·rw [if_neg c4] at H
    have c4b0 : decide (65 ≤ a0) = false := decide_eq_false c4
    clear c4
    obtain rfl := Option.some.inj H
    go_enter Try.func84, Try.ntmps84
    go_wp2
    go_ret
    exact ⟨by first | rfl | (simp; done) | (congr 1; first | (with_reducible assumption) | (symm; with_reducible assumption)) | (simp [*]; done) | (simp only [ne_nil_empty]; done) | (rw [ne_nil_empty]; rfl), by repeat (first | exact Drawn0.refl _ | apply Drawn0.step)⟩
 ·rw [if_neg c2] at H
  have c2b0 : decide (97 ≤ a0) = false := decide_eq_false c2
  clear c2
  by_cases c5 : a0 ≥ 65
  ·rw [if_pos c5] at H
   have c5b0 : decide (65 ≤ a0) = true := decide_eq_true c5
   clear c5
   obtain rfl := Option.some.inj H
   go_enter Try.func84, Try.ntmps84
   go_wp2
   go_ret
   exact ⟨by first | rfl | (simp; done) | (congr 1; first | (with_reducible assumption) | (symm; with_reducible assumption)) | (simp [*]; done) | (simp only [ne_nil_empty]; done) | (rw [ne_nil_empty]; rfl), by repeat (first | exact Drawn0.refl _ | apply Drawn0.step)⟩
  ·rw [if_neg c5] at H
   have c5b0 : decide (65 ≤ a0) = false := decide_eq_false c5
   clear c5
   obtain rfl := Option.some.inj H
   go_enter Try.func84, Try.ntmps84
   go_wp2
   go_ret
   exact ⟨by first | rfl | (simp; done) | (congr 1; first | (with_reducible assumption) | (symm; with_reducible assumption)) | (simp [*]; done) | (simp only [ne_nil_empty]; done) | (rw [ne_nil_empty]; rfl), by repeat (first | exact Drawn0.refl _ | apply Drawn0.step)⟩

/-! ### names_Right: function 70 -/
def names_Right.f (k : Nat) (a0 : ByteArray) : Option (Bool) := (names_plain.f k a0 (⟨#[47, 62]⟩ : ByteArray)).bind fun t143 => (if t143 = true then (if 0 < (a0.size : Int) then ((fold_Letter.f (bt a0 0)).bind fun t144 => (some t144)) else (none)) else (some false))
theorem names_Right.mono : ∀ a0 k, LeO (names_Right.f k a0) (names_Right.f (k + 1) a0) := by
 intro a0 k
 unfold names_Right.f
 repeat' first
   | (with_reducible exact names_plain.mono _ _ _)
   | (with_reducible exact LeO.refl _)
   | (with_reducible exact LeO.none _)
   | (with_reducible refine LeO.ite ?_ ?_)
   | (with_reducible refine LeO.bind ?_ (fun _ => ?_))
   | exact names_plain.mono _ _ _
   | exact LeO.none _
   | refine LeO.ite ?_ ?_
   | refine LeO.bind ?_ (fun _ => ?_)
set_option maxHeartbeats 8000000 in
set_option maxRecDepth 100000 in
theorem names_Right.calls (k : Nat) (a0 : ByteArray) (r : Bool) (w : World) (h : names_Right.f k a0 = some r) :
  Calls Try.prog 70 #[.string a0] w fun e w' => e = .returned (.bool r) ∧ Drawn0 w w' := by
 have H : ((names_plain.f k a0 (⟨#[47, 62]⟩ : ByteArray)).bind fun t143 => (if t143 = true then (if 0 < (a0.size : Int) then ((fold_Letter.f (bt a0 0)).bind fun t144 => (some t144)) else (none)) else (some false))) = some r := h
 clear h
 replace H := Option.bind_eq_some_iff.mp H
 obtain ⟨t143, A20, H⟩ := H
 replace H : (if t143 = true then (if 0 < (a0.size : Int) then ((fold_Letter.f (bt a0 0)).bind fun t144 => (some t144)) else (none)) else (some false)) = some r := H
 have A2 := Aside0.mk A20
 clear A20
 by_cases c3 : t143 = true
 ·subst c3
  have H1 : (if 0 < (a0.size : Int) then ((fold_Letter.f (bt a0 0)).bind fun t144 => (some t144)) else (none)) = some r := by rw [if_pos rfl] at H; exact H
  clear H
  have H := H1
  clear H1
  by_cases c4 : 0 < (a0.size : Int)
  ·rw [if_pos c4] at H
   have c4b0 : decide (0 < (a0.size : Int)) = true := decide_eq_true c4
   have c4b1 : decide (0 < a0.size) = true := decide_eq_true (by omega)
   clear c4
   replace H := Option.bind_eq_some_iff.mp H
   obtain ⟨t144, A60, H⟩ := H
   replace H : (some t144) = some r := H
   have A6 := Aside0.mk A60
   clear A60
   obtain rfl := Option.some.inj H
   go_enter Try.func70, Try.ntmps70
   go_wp2_with (first | ((with_reducible refine gate_callee (f := 71) rfl ?_); refine goesL_ (some 4) rfl rfl Try.func71 (by kernel_rfl) rfl #[.string a0, .string (⟨#[47, 62]⟩ : ByteArray)] rfl (by (try simp only [List.map_toArray, List.map_cons, List.map_nil]); first | done | rfl | (simp only [List.length_drop, List.length_take]; rfl)) ?_; (with_reducible refine (names_plain.calls k a0 (⟨#[47, 62]⟩ : ByteArray) true _ A2.out).mono ?_); rintro e w' ⟨rfl, ⟨nd, rfl⟩⟩; refine ⟨_, rfl, ?_⟩; have p5 : 0 ≤ (0 : Int) := (by omega); have q5 : 0 < a0.size := (by have : (0 : Int) < (a0.size : Int) := of_decide_eq_true aA; omega); have hx5 : ∀ h : 0 < a0.size, ((a0[0]'h).toNat : Int) = bt a0 0 := bt_at a0 0; clear p5; have qi5 : (0 < (a0.size : Int)) = True := eq_true (of_decide_eq_true aA); replace q5 := eq_true q5) | (go_at_call 84; (with_reducible refine (fold_Letter.calls (bt a0 0) t144 _ A6.out).mono ?_); rintro e w' ⟨rfl, ⟨nd, rfl⟩⟩))
   go_ret
   exact ⟨by first | rfl | (simp; done) | (congr 1; first | (with_reducible assumption) | (symm; with_reducible assumption)) | (simp [*]; done) | (simp only [ne_nil_empty]; done) | (rw [ne_nil_empty]; rfl), by repeat (first | exact Drawn0.refl _ | apply Drawn0.step)⟩
  ·rw [if_neg c4] at H
   exact absurd H (by simp)
 ·replace c3 := Bool.eq_false_iff.mpr c3
  subst c3
  have H1 : (some false) = some r := by rw [if_neg (show ¬ (false = true) by decide)] at H; exact H
  clear H
  have H := H1
  clear H1
  obtain rfl := Option.some.inj H
  go_enter Try.func70, Try.ntmps70
  go_wp2_with (first | ((with_reducible refine gate_callee (f := 71) rfl ?_); refine goesL_ (some 4) rfl rfl Try.func71 (by kernel_rfl) rfl #[.string a0, .string (⟨#[47, 62]⟩ : ByteArray)] rfl (by (try simp only [List.map_toArray, List.map_cons, List.map_nil]); first | done | rfl | (simp only [List.length_drop, List.length_take]; rfl)) ?_; (with_reducible refine (names_plain.calls k a0 (⟨#[47, 62]⟩ : ByteArray) false _ A2.out).mono ?_); rintro e w' ⟨rfl, ⟨nd, rfl⟩⟩; refine ⟨_, rfl, ?_⟩))
  go_ret
  exact ⟨by first | rfl | (simp; done) | (congr 1; first | (with_reducible assumption) | (symm; with_reducible assumption)) | (simp [*]; done) | (simp only [ne_nil_empty]; done) | (rw [ne_nil_empty]; rfl), by repeat (first | exact Drawn0.refl _ | apply Drawn0.step)⟩

/-! ### arena_may: function 45 -/
def arena_may.f (k : Nat) (a0 : Int) (a1 : ByteArray) (a2 : ByteArray) : Option (Bool) := if a0 = 0 then ((names_Right.f k a1).bind fun t145 => (if t145 = true then (some (a2.toList == ([] : List UInt8))) else (some false))) else (if a0 = 1 then (some (a1.toList == ([] : List UInt8))) else (if a0 = 2 then (some (a1.toList == ([] : List UInt8))) else (some false)))
theorem arena_may.mono : ∀ a0 a1 a2 k, LeO (arena_may.f k a0 a1 a2) (arena_may.f (k + 1) a0 a1 a2) := by
 intro a0 a1 a2 k
 unfold arena_may.f
 repeat' first
   | (with_reducible exact names_Right.mono _ _)
   | (with_reducible exact LeO.refl _)
   | (with_reducible exact LeO.none _)
   | (with_reducible refine LeO.ite ?_ ?_)
   | (with_reducible refine LeO.bind ?_ (fun _ => ?_))
   | exact names_Right.mono _ _
   | exact LeO.none _
   | refine LeO.ite ?_ ?_
   | refine LeO.bind ?_ (fun _ => ?_)
set_option maxHeartbeats 8000000 in
set_option maxRecDepth 100000 in
theorem arena_may.calls (k : Nat) (a0 : Int) (a1 : ByteArray) (a2 : ByteArray) (r : Bool) (w : World) (h : arena_may.f k a0 a1 a2 = some r) :
  Calls Try.prog 45 #[.int .i64 a0, .string a1, .string a2] w fun e w' => e = .returned (.bool r) ∧ Drawn0 w w' := by
 have H : (if a0 = 0 then ((names_Right.f k a1).bind fun t145 => (if t145 = true then (some (a2.toList == ([] : List UInt8))) else (some false))) else (if a0 = 1 then (some (a1.toList == ([] : List UInt8))) else (if a0 = 2 then (some (a1.toList == ([] : List UInt8))) else (some false)))) = some r := h
 clear h
 by_cases c4 : a0 = 0
 ·rw [if_pos c4] at H
  have c4b0 : (a0 == 0) = true := beq_iff_eq.mpr c4
  have c4b1 : (a0 != 0) = false := bne_eq_false_iff_eq.mpr c4
  clear c4
  replace H := Option.bind_eq_some_iff.mp H
  obtain ⟨t145, A50, H⟩ := H
  replace H : (if t145 = true then (some (a2.toList == ([] : List UInt8))) else (some false)) = some r := H
  have A5 := Aside0.mk A50
  clear A50
  by_cases c6 : t145 = true
  ·subst c6
   have H1 : (some (a2.toList == ([] : List UInt8))) = some r := by rw [if_pos rfl] at H; exact H
   clear H
   have H := H1
   clear H1
   obtain rfl := Option.some.inj H
   go_enter Try.func45, Try.ntmps45
   go_wp2_with (first | ((with_reducible refine gate_callee (f := 70) rfl ?_); refine goesL_ (some 11) rfl rfl Try.func70 (by kernel_rfl) rfl #[.string a1] rfl (by (try simp only [List.map_toArray, List.map_cons, List.map_nil]); first | done | rfl | (simp only [List.length_drop, List.length_take]; rfl)) ?_; (with_reducible refine (names_Right.calls k a1 true _ A5.out).mono ?_); rintro e w' ⟨rfl, ⟨nd, rfl⟩⟩; refine ⟨_, rfl, ?_⟩))
   go_ret
   exact ⟨by first | rfl | (simp; done) | (congr 1; first | (with_reducible assumption) | (symm; with_reducible assumption)) | (simp [*]; done) | (simp only [ne_nil_empty]; done) | (rw [ne_nil_empty]; rfl), by repeat (first | exact Drawn0.refl _ | apply Drawn0.step)⟩
  ·replace c6 := Bool.eq_false_iff.mpr c6
   subst c6
   have H1 : (some false) = some r := by rw [if_neg (show ¬ (false = true) by decide)] at H; exact H
   clear H
   have H := H1
   clear H1
   obtain rfl := Option.some.inj H
   go_enter Try.func45, Try.ntmps45
   go_wp2_with (first | ((with_reducible refine gate_callee (f := 70) rfl ?_); refine goesL_ (some 11) rfl rfl Try.func70 (by kernel_rfl) rfl #[.string a1] rfl (by (try simp only [List.map_toArray, List.map_cons, List.map_nil]); first | done | rfl | (simp only [List.length_drop, List.length_take]; rfl)) ?_; (with_reducible refine (names_Right.calls k a1 false _ A5.out).mono ?_); rintro e w' ⟨rfl, ⟨nd, rfl⟩⟩; refine ⟨_, rfl, ?_⟩))
   go_ret
   exact ⟨by first | rfl | (simp; done) | (congr 1; first | (with_reducible assumption) | (symm; with_reducible assumption)) | (simp [*]; done) | (simp only [ne_nil_empty]; done) | (rw [ne_nil_empty]; rfl), by repeat (first | exact Drawn0.refl _ | apply Drawn0.step)⟩
 ·rw [if_neg c4] at H
  have c4b0 : (a0 == 0) = false := beq_eq_false_iff_ne.mpr c4
  have c4b1 : (a0 != 0) = true := bne_iff_ne.mpr c4
  by_cases c7 : a0 = 1
  ·rw [if_pos c7] at H
   have c7b0 : (a0 == 1) = true := beq_iff_eq.mpr c7
   have c7b1 : (a0 != 1) = false := bne_eq_false_iff_eq.mpr c7
   clear c7
   obtain rfl := Option.some.inj H
   go_enter Try.func45, Try.ntmps45
   go_wp2
   go_ret
   exact ⟨by first | rfl | (simp; done) | (congr 1; first | (with_reducible assumption) | (symm; with_reducible assumption)) | (simp [*]; done) | (simp only [ne_nil_empty]; done) | (rw [ne_nil_empty]; rfl), by repeat (first | exact Drawn0.refl _ | apply Drawn0.step)⟩
  ·rw [if_neg c7] at H
   have c7b0 : (a0 == 1) = false := beq_eq_false_iff_ne.mpr c7
   have c7b1 : (a0 != 1) = true := bne_iff_ne.mpr c7
   by_cases c8 : a0 = 2
   ·rw [if_pos c8] at H
    have c8b0 : (a0 == 2) = true := beq_iff_eq.mpr c8
    have c8b1 : (a0 != 2) = false := bne_eq_false_iff_eq.mpr c8
    clear c8
    obtain rfl := Option.some.inj H
    go_enter Try.func45, Try.ntmps45
    go_wp2
    go_ret
    exact ⟨by first | rfl | (simp; done) | (congr 1; first | (with_reducible assumption) | (symm; with_reducible assumption)) | (simp [*]; done) | (simp only [ne_nil_empty]; done) | (rw [ne_nil_empty]; rfl), by repeat (first | exact Drawn0.refl _ | apply Drawn0.step)⟩
   ·rw [if_neg c8] at H
    have c8b0 : (a0 == 2) = false := beq_eq_false_iff_ne.mpr c8
    have c8b1 : (a0 != 2) = true := bne_iff_ne.mpr c8
    obtain rfl := Option.some.inj H
    go_enter Try.func45, Try.ntmps45
    go_wp2
    go_ret
    exact ⟨by first | rfl | (simp; done) | (congr 1; first | (with_reducible assumption) | (symm; with_reducible assumption)) | (simp [*]; done) | (simp only [ne_nil_empty]; done) | (rw [ne_nil_empty]; rfl), by repeat (first | exact Drawn0.refl _ | apply Drawn0.step)⟩

-- NOT PRINTED: function 46 (arena_Doc_add)

-- NOT PRINTED: function 21 (arena_Doc_Make)

/-! ### arena_Doc_element: function 47 -/
def arena_Doc_element.f (s0_0 : List (S79)) (a1 : Int) : Option (Bool) := (arena_Doc_some.f s0_0 a1).bind fun t151 => (if t151 = true then (if 0 ≤ a1 then (if a1 < (s0_0.length : Int) then (some (((rd_T79 s0_0 a1).f0.f1) == 0)) else (none)) else (none)) else (some false))
set_option maxHeartbeats 8000000 in
set_option maxRecDepth 100000 in
theorem arena_Doc_element.calls (g : Nat) (s0_0 : List (S79)) (a1 : Int) (r : Bool) (w0 w : World) (hI : IsS82 w0 w g s0_0) (hB : Below w0.heap.size w0 w) (h : arena_Doc_element.f s0_0 a1 = some r) :
  Calls Try.prog 47 #[.pointer (some ⟨g, 0, none⟩), .int .i64 a1] w fun e w' => e = .returned (.bool r) ∧ IsS82 w0 w' g s0_0 ∧ Below w0.heap.size w0 w' ∧ KeepBut w w' g none := by
 have HI0 := Aside0.mk hI
 have HK := Aside0.mk (KeepBut.refl w g none)
 have HL := Aside0.mk hB.size
 clear hI
 have HW0 := Aside0.mk hB.size
 have HB := Aside0.mk hB
 clear hB
 have H : ((arena_Doc_some.f s0_0 a1).bind fun t151 => (if t151 = true then (if 0 ≤ a1 then (if a1 < (s0_0.length : Int) then (some (((rd_T79 s0_0 a1).f0.f1) == 0)) else (none)) else (none)) else (some false))) = some r := h
 clear h
 replace H := Option.bind_eq_some_iff.mp H
 obtain ⟨t151, A30, H⟩ := H
 replace H : (if t151 = true then (if 0 ≤ a1 then (if a1 < (s0_0.length : Int) then (some (((rd_T79 s0_0 a1).f0.f1) == 0)) else (none)) else (none)) else (some false)) = some r := H
 have A3 := Aside0.mk A30
 clear A30
 by_cases c4 : t151 = true
 ·subst c4
  have H1 : (if 0 ≤ a1 then (if a1 < (s0_0.length : Int) then (some (((rd_T79 s0_0 a1).f0.f1) == 0)) else (none)) else (none)) = some r := by rw [if_pos rfl] at H; exact H
  clear H
  have H := H1
  clear H1
  by_cases c5 : 0 ≤ a1
  ·rw [if_pos c5] at H
   have c5b0 : decide (0 ≤ a1) = true := decide_eq_true c5
   clear c5
   by_cases c6 : a1 < (s0_0.length : Int)
   ·rw [if_pos c6] at H
    have c6b0 : decide (a1 < (s0_0.length : Int)) = true := decide_eq_true c6
    clear c6
    obtain rfl := Option.some.inj H
    go_enter Try.func47, Try.ntmps47
    go_wp2_with (first | ((with_reducible refine gate_callee (f := 39) rfl ?_); refine goesL_ (some 7) rfl rfl Try.func39 (by kernel_rfl) rfl #[.pointer (some ⟨g, 0, none⟩), .int .i64 a1] rfl (by (try simp only [List.map_toArray, List.map_cons, List.map_nil]); first | done | rfl | (simp only [List.length_drop, List.length_take]; rfl)) ?_; (with_reducible refine (arena_Doc_some.calls g s0_0 a1 true w0 _ ?side1 ?side2 A3.out).mono ?_); (case side1 => repeat (first | (with_reducible first | exact HI0.out | apply IsS82.alloc | apply IsS82.drewN | apply IsS82.drew) | exact HI0.out)); (case side2 => repeat (first | (with_reducible first | exact HB.out | apply below_alloc | apply pw_below_drewN | apply below_drew1 | refine below_set ?_ (IsS82.ge HI0.out)) | exact HB.out)); rintro e w7 ⟨rfl, hi, hb, hk⟩; refine ⟨_, rfl, ?_⟩; have n0_ := Aside0.mk (KeepBut.trans (by repeat (first | (with_reducible first | exact HK.out | apply KeepBut.set_ | apply keep_drewN | apply keep_drew | apply keep_alloc) | exact HK.out)) hk (.inl rfl)); have n1_ := Aside0.mk (hb); have n2_ := Aside0.mk (hi); clear HK; clear HB; clear HI0; have HK := n0_; have HB := n1_; have HI0 := n2_; clear n0_ n1_ n2_; (try clear hb); (try clear hb2); (try clear hk); (try clear hi); obtain ⟨ASz8_0, cSz8_0, HGz8, hgz8, HSz8_0⟩ := HI0.out; have hcz8_0 := cellS82_0 HGz8; clear HGz8 hgz8; have p152 : 0 ≤ (a1 : Int) := of_decide_eq_true aA; have q152 : a1 < (s0_0.length : Int) := of_decide_eq_true aA; obtain ⟨ad152, A152_4, c152_4, A152_6, c152_6, e152, hx152_0, hx152_1, hx152_2, hx152_3, hx152_4, hx152_5, hx152_6, hl152_4, hi152_4, hl152_6, hi152_6⟩ := at_T79 HSz8_0 a1 p152 q152; cases e152; replace hx152_0 := pw_cell_below HB.out hx152_0; replace hx152_1 := pw_cell_below HB.out hx152_1; replace hx152_2 := pw_cell_below HB.out hx152_2; replace hx152_3 := pw_cell_below HB.out hx152_3; replace hx152_4 := pw_cell_below HB.out hx152_4; replace hx152_5 := pw_cell_below HB.out hx152_5; replace hx152_6 := pw_cell_below HB.out hx152_6; have HR152_4 := Aside0.mk hi152_4; have HC152_4 := Aside0.mk hl152_4; clear hi152_4 hl152_4; have HR152_6 := Aside0.mk hi152_6; have HC152_6 := Aside0.mk hl152_6; clear hi152_6 hl152_6; replace p152 := eq_true p152; replace q152 := eq_true q152))
    go_ret
    exact ⟨by first | rfl | (simp [errW_none, errW_some] <;> rfl) | (simp [*, errW_none, errW_some] <;> rfl), by repeat (first | (with_reducible first | exact HI0.out | apply IsS82.alloc | apply IsS82.drewN | apply IsS82.drew) | exact HI0.out), by repeat (first | (with_reducible first | exact HB.out | apply below_alloc | apply pw_below_drewN | apply below_drew1 | refine below_set ?_ (IsS82.ge HI0.out)) | exact HB.out), by repeat (first | (with_reducible first | exact HK.out | apply KeepBut.set_ | apply keep_drewN | apply keep_drew | apply keep_alloc) | exact HK.out)⟩
   ·rw [if_neg c6] at H
    exact absurd H (by simp)
  ·rw [if_neg c5] at H
   exact absurd H (by simp)
 ·replace c4 := Bool.eq_false_iff.mpr c4
  subst c4
  have H1 : (some false) = some r := by rw [if_neg (show ¬ (false = true) by decide)] at H; exact H
  clear H
  have H := H1
  clear H1
  obtain rfl := Option.some.inj H
  go_enter Try.func47, Try.ntmps47
  go_wp2_with (first | ((with_reducible refine gate_callee (f := 39) rfl ?_); refine goesL_ (some 7) rfl rfl Try.func39 (by kernel_rfl) rfl #[.pointer (some ⟨g, 0, none⟩), .int .i64 a1] rfl (by (try simp only [List.map_toArray, List.map_cons, List.map_nil]); first | done | rfl | (simp only [List.length_drop, List.length_take]; rfl)) ?_; (with_reducible refine (arena_Doc_some.calls g s0_0 a1 false w0 _ ?side1 ?side2 A3.out).mono ?_); (case side1 => repeat (first | (with_reducible first | exact HI0.out | apply IsS82.alloc | apply IsS82.drewN | apply IsS82.drew) | exact HI0.out)); (case side2 => repeat (first | (with_reducible first | exact HB.out | apply below_alloc | apply pw_below_drewN | apply below_drew1 | refine below_set ?_ (IsS82.ge HI0.out)) | exact HB.out)); rintro e w9 ⟨rfl, hi, hb, hk⟩; refine ⟨_, rfl, ?_⟩; have n0_ := Aside0.mk (KeepBut.trans (by repeat (first | (with_reducible first | exact HK.out | apply KeepBut.set_ | apply keep_drewN | apply keep_drew | apply keep_alloc) | exact HK.out)) hk (.inl rfl)); have n1_ := Aside0.mk (hb); have n2_ := Aside0.mk (hi); clear HK; clear HB; clear HI0; have HK := n0_; have HB := n1_; have HI0 := n2_; clear n0_ n1_ n2_; (try clear hb); (try clear hb2); (try clear hk); (try clear hi)))
  go_ret
  exact ⟨by first | rfl | (simp [errW_none, errW_some] <;> rfl) | (simp [*, errW_none, errW_some] <;> rfl), by repeat (first | (with_reducible first | exact HI0.out | apply IsS82.alloc | apply IsS82.drewN | apply IsS82.drew) | exact HI0.out), by repeat (first | (with_reducible first | exact HB.out | apply below_alloc | apply pw_below_drewN | apply below_drew1 | refine below_set ?_ (IsS82.ge HI0.out)) | exact HB.out), by repeat (first | (with_reducible first | exact HK.out | apply KeepBut.set_ | apply keep_drewN | apply keep_drew | apply keep_alloc) | exact HK.out)⟩

/-! ### names_Attr: function 48 -/
def names_Attr.f (k : Nat) (a0 : ByteArray) : Option (Bool) := (names_plain.f k a0 (⟨#[47, 62, 34, 39, 60, 61]⟩ : ByteArray)).bind fun t153 => (some t153)
theorem names_Attr.mono : ∀ a0 k, LeO (names_Attr.f k a0) (names_Attr.f (k + 1) a0) := by
 intro a0 k
 unfold names_Attr.f
 repeat' first
   | (with_reducible exact names_plain.mono _ _ _)
   | (with_reducible exact LeO.refl _)
   | (with_reducible exact LeO.none _)
   | (with_reducible refine LeO.ite ?_ ?_)
   | (with_reducible refine LeO.bind ?_ (fun _ => ?_))
   | exact names_plain.mono _ _ _
   | exact LeO.none _
   | refine LeO.ite ?_ ?_
   | refine LeO.bind ?_ (fun _ => ?_)
set_option maxHeartbeats 8000000 in
set_option maxRecDepth 100000 in
theorem names_Attr.calls (k : Nat) (a0 : ByteArray) (r : Bool) (w : World) (h : names_Attr.f k a0 = some r) :
  Calls Try.prog 48 #[.string a0] w fun e w' => e = .returned (.bool r) ∧ Drawn0 w w' := by
 have H : ((names_plain.f k a0 (⟨#[47, 62, 34, 39, 60, 61]⟩ : ByteArray)).bind fun t153 => (some t153)) = some r := h
 clear h
 replace H := Option.bind_eq_some_iff.mp H
 obtain ⟨t153, A20, H⟩ := H
 replace H : (some t153) = some r := H
 have A2 := Aside0.mk A20
 clear A20
 obtain rfl := Option.some.inj H
 go_enter Try.func48, Try.ntmps48
 go_wp2_with (first | ((with_reducible refine gate_callee (f := 71) rfl ?_); refine goesL_ (some 4) rfl rfl Try.func71 (by kernel_rfl) rfl #[.string a0, .string (⟨#[47, 62, 34, 39, 60, 61]⟩ : ByteArray)] rfl (by (try simp only [List.map_toArray, List.map_cons, List.map_nil]); first | done | rfl | (simp only [List.length_drop, List.length_take]; rfl)) ?_; (with_reducible refine (names_plain.calls k a0 (⟨#[47, 62, 34, 39, 60, 61]⟩ : ByteArray) t153 _ A2.out).mono ?_); rintro e w' ⟨rfl, ⟨nd, rfl⟩⟩; refine ⟨_, rfl, ?_⟩))
 go_ret
 exact ⟨by first | rfl | (simp; done) | (congr 1; first | (with_reducible assumption) | (symm; with_reducible assumption)) | (simp [*]; done) | (simp only [ne_nil_empty]; done) | (rw [ne_nil_empty]; rfl), by repeat (first | exact Drawn0.refl _ | apply Drawn0.step)⟩

-- NOT PRINTED: function 22 (arena_Doc_Attr)

-- NOT PRINTED: function 60 (api_Attr_60)

-- NOT PRINTED: function 62 (api_Attr_62)

-- NOT PRINTED: function 27 (arena_Doc_Drop)

/-! ### arena_Doc_Len: function 30 -/
def arena_Doc_Len.f (s0_0 : List (S79)) : Option (Int) := some (s0_0.length : Int)
set_option maxHeartbeats 8000000 in
set_option maxRecDepth 100000 in
theorem arena_Doc_Len.calls (g : Nat) (s0_0 : List (S79)) (r : Int) (w0 w : World) (hI : IsS82 w0 w g s0_0) (hB : Below w0.heap.size w0 w) (h : arena_Doc_Len.f s0_0 = some r) :
  Calls Try.prog 30 #[.pointer (some ⟨g, 0, none⟩)] w fun e w' => e = .returned (.int .i64 r) ∧ IsS82 w0 w' g s0_0 ∧ Below w0.heap.size w0 w' ∧ KeepBut w w' g none := by
 have HI0 := Aside0.mk hI
 have HK := Aside0.mk (KeepBut.refl w g none)
 have HL := Aside0.mk hB.size
 clear hI
 have HW0 := Aside0.mk hB.size
 have HB := Aside0.mk hB
 clear hB
 have H : (some (s0_0.length : Int)) = some r := h
 clear h
 obtain rfl := Option.some.inj H
 obtain ⟨ASz2_0, cSz2_0, HGz2, hgz2, HSz2_0⟩ := HI0.out
 have hcz2_0 := cellS82_0 HGz2
 clear HGz2 hgz2
 go_enter Try.func30, Try.ntmps30
 go_wp2
 go_ret
 exact ⟨by first | rfl | (simp [errW_none, errW_some] <;> rfl) | (simp [*, errW_none, errW_some] <;> rfl), by repeat (first | (with_reducible first | exact HI0.out | apply IsS82.alloc | apply IsS82.drewN | apply IsS82.drew) | exact HI0.out), by repeat (first | (with_reducible first | exact HB.out | apply below_alloc | apply pw_below_drewN | apply below_drew1 | refine below_set ?_ (IsS82.ge HI0.out)) | exact HB.out), by repeat (first | (with_reducible first | exact HK.out | apply KeepBut.set_ | apply keep_drewN | apply keep_drew | apply keep_alloc) | exact HK.out)⟩

-- NOT PRINTED: function 63 (arena_Doc_load)

-- NOT PRINTED: function 31 (arena_Doc_Clone)

-- NOT PRINTED: function 13 (boltinglaw11_fixed)

-- NOT PRINTED: function 25 (arena_Doc_Row)

-- NOT PRINTED: function 5 (boltinglaw11_ArenaAttrs)

-- NOT PRINTED: function 19 (boltingref11_New)

-- NOT PRINTED: function 32 (arena_Doc_Data)

-- NOT PRINTED: function 95 (api_Row_95)

-- NOT PRINTED: function 89 (api_Row_89)

/-! ### rows_big: function 79 -/
def bigB (x : S54) : Bool := decide (x.f0 ≥ 60)
theorem big1_calls (x : S54) (A : Option Addr) (c : Nat) (w : World) :
  Calls Try.prog 90 #[vrow x A c] w fun e w' => e = .returned (.bool (bigB x)) ∧ Below w.heap.size w w' := by
 go_enter Try.func90, Try.ntmps90
 go_wp2
 go_ret
 exact ⟨by simp [bigB], by repeat (first | exact Below.refl _ _ | apply below_alloc | apply pw_below_drewN | apply below_drew1)⟩
/-- The first row from place i on that meets p, or -1. -/
def idxFrom (p : S54 → Bool) : Nat → List S54 → Int
 | _, [] => -1
 | i, x :: l => if p x then i else idxFrom p (i + 1) l
theorem idxFrom_any (p : S54 → Bool) (l : List S54) : ∀ i, decide (idxFrom p i l ≥ 0) = l.any p := by
 induction l with
 | nil => intro i; rfl
 | cons x l ih =>
  intro i
  unfold idxFrom
  cases h : p x with
  | true => simp [h]
  | false => simpa [h] using ih (i + 1)
set_option maxHeartbeats 2000000 in
set_option maxRecDepth 100000 in
theorem bigIndex_calls (A0 : Option Addr) (c0 : Nat) (l0 : List (S54)) (w : World) (hr0 : Kd.C k54 w A0 l0.length l0) (hc0 : l0.length ≤ c0) :
  Calls Try.prog 95 #[.slice A0 l0.length c0, .func (.func 90) #[] #[]] w fun e w' => e = .returned (.int .i64 (idxFrom bigB 0 l0)) ∧ Below w.heap.size w w' := by
 have hm := Kd.C_max hr0
 have HR0 := Aside0.mk hr0
 have HC0 := Aside0.mk hc0
 clear hr0 hc0
 have HB := Aside0.mk (Below.refl w.heap.size w)
 go_enter Try.func95, Try.ntmps95
 go_wp2
 go_loopg [5, 8] l0.length (fun gg v5 v8 w' => ∃ kk : Nat, kk ≤ l0.length ∧ l0.length - kk ≤ gg ∧ v8 = .int .i64 kk ∧ Aside0 (idxFrom bigB kk (l0.drop kk) = idxFrom bigB 0 l0) ∧ Aside0 (Below w.heap.size w w'))
 case atStart => exact ⟨0, Nat.zero_le _, by omega, rfl, ⟨rfl⟩, HB⟩
 case round =>
  clear HB
  obtain ⟨kk, hkk, hg, rfl, HA, HB⟩ := hrel
  by_cases hlt : kk < l0.length
  ·have hltz : (kk : Int) < (l0.length : Int) := by omega
   have hd : l0.drop kk = rd_T54 l0 kk :: l0.drop (kk + 1) := by
    rw [List.drop_eq_getElem_cons hlt]
    simp [rd_T54, List.getElem?_eq_getElem hlt]
   obtain ⟨ad, A4, c4, e4, hx0, hx1, hx2, hx3, hx4, hl4, hi4⟩ := at_T54 HR0.out (kk : Int) (by omega) hltz
   cases e4
   simp only [Int.toNat_natCast] at hx0 hx1 hx2 hx3 hx4
   replace hx0 := (HB.out.cell (World.block_lt_of_cell? w _ hx0)).trans hx0
   replace hx1 := (HB.out.cell (World.block_lt_of_cell? w _ hx1)).trans hx1
   replace hx2 := (HB.out.cell (World.block_lt_of_cell? w _ hx2)).trans hx2
   replace hx3 := (HB.out.cell (World.block_lt_of_cell? w _ hx3)).trans hx3
   replace hx4 := (HB.out.cell (World.block_lt_of_cell? w _ hx4)).trans hx4
   have HA' := HA.out
   rw [hd] at HA'
   clear hd
   cases hq : bigB (rd_T54 l0 kk) with
   | true =>
    have HQ := Aside0.mk hq
    clear hq
    have HA2 : Aside0 ((kk : Int) = idxFrom bigB 0 l0) := ⟨by rw [← HA']; simp [idxFrom, HQ.out]⟩
    clear HA'
    have hcall := big1_calls (rd_T54 l0 kk) A4 c4 wr
    rw [HQ.out] at hcall
    go_wp2_with (go_at_call 90; refine hcall.mono ?_; rintro e w' ⟨rfl, hb'⟩)
    go_ret
    exact ⟨by rw [← HA2.out]; rfl, below_step HB.out hb'⟩
   | false =>
    have HQ := Aside0.mk hq
    clear hq
    have HA2 : Aside0 (idxFrom bigB (kk + 1) (l0.drop (kk + 1)) = idxFrom bigB 0 l0) := ⟨by rw [← HA']; simp [idxFrom, HQ.out]⟩
    clear HA'
    have hcall := big1_calls (rd_T54 l0 kk) A4 c4 wr
    rw [HQ.out] at hcall
    go_wp2_with (go_at_call 90; refine hcall.mono ?_; rintro e w' ⟨rfl, hb'⟩)
    go_roundg (l0.length - (kk + 1))
    case measure => omega
    case rel => exact ⟨kk + 1, by omega, by omega, by go_num, HA2, ⟨below_step HB.out hb'⟩⟩
  ·have hltz : ¬ (kk : Int) < (l0.length : Int) := by omega
   obtain rfl : kk = l0.length := by omega
   have HA2 : Aside0 (-1 = idxFrom bigB 0 l0) := ⟨by rw [← HA.out, List.drop_length]; rfl⟩
   clear HA
   go_wp2
   go_ret
   exact ⟨by rw [← HA2.out]; rfl, HB.out⟩
theorem bigContains_calls (A0 : Option Addr) (c0 : Nat) (l0 : List (S54)) (w : World) (hr0 : Kd.C k54 w A0 l0.length l0) (hc0 : l0.length ≤ c0) :
  Calls Try.prog 89 #[.slice A0 l0.length c0, .func (.func 90) #[] #[]] w fun e w' => e = .returned (.bool (l0.any bigB)) ∧ Below w.heap.size w w' := by
 have hi := bigIndex_calls A0 c0 l0 w hr0 hc0
 rw [← idxFrom_any bigB l0 0]
 generalize idxFrom bigB 0 l0 = n at hi ⊢
 clear hr0 hc0
 go_enter Try.func89, Try.ntmps89
 go_wp2_with (go_at_call 95; refine hi.mono ?_; rintro e w' ⟨rfl, hb'⟩)
 go_ret
 exact ⟨rfl, hb'⟩
def rows_big.f (l0 : List (S54)) : Option (Bool) := some (decide ((l0.length : Int) > 4096) || l0.any bigB)
theorem rows_big.calls (A0 : Option Addr) (c0 : Nat) (l0 : List (S54)) (r : Bool) (w : World) (hr0 : Kd.C k54 w A0 l0.length l0) (hc0 : l0.length ≤ c0) (h : rows_big.f l0 = some r) :
  Calls Try.prog 79 #[.slice A0 l0.length c0] w fun e w' => e = .returned (.bool r) ∧ Below w.heap.size w w' := by
 have hi := bigContains_calls A0 c0 l0 w hr0 hc0
 obtain rfl := Option.some.inj h
 clear hr0 hc0 h
 by_cases c : (l0.length : Int) > 4096
 ·have c0b : decide (4096 < (l0.length : Int)) = true := decide_eq_true c
  have hr : Aside0 ((decide ((l0.length : Int) > 4096) || l0.any bigB) = true) := ⟨by rw [decide_eq_true c]; rfl⟩
  clear c hi
  rw [hr.out]
  go_enter Try.func79, Try.ntmps79
  go_wp2
  repeat (go_quiet (fail); try go_wp2)
  go_ret
  exact ⟨rfl, by repeat (first | exact Below.refl _ _ | apply below_alloc | apply pw_below_drewN | apply below_drew1)⟩
 ·have c0b : decide (4096 < (l0.length : Int)) = false := decide_eq_false c
  have hr : Aside0 ((decide ((l0.length : Int) > 4096) || l0.any bigB) = l0.any bigB) := ⟨by rw [decide_eq_false c]; rfl⟩
  clear c
  rw [hr.out]
  generalize l0.any bigB = b at hi ⊢
  clear hr
  go_enter Try.func79, Try.ntmps79
  go_wp2_with (go_at_call 89; refine hi.mono ?_; rintro e w' ⟨rfl, hb'⟩)
  go_ret
  exact ⟨rfl, hb'⟩


end Go.Proofs.Ytpkaliaaffgbdaa.QA
