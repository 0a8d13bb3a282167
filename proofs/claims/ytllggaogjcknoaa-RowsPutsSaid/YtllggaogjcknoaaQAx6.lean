-- Written by a program of this claim's own (wip/gen/gen.py), out of the translation; an ordinary proof text.
import Derived.Test.YtllggaogjcknoaaQAx0
import Derived.Test.YtllggaogjcknoaaQAx5
namespace Go.Proofs.Ytllggaogjcknoaa.QA
open Go.RowKit Go.Proofs.YtllggaogjcknoaaW.PrintWords Go.Proofs.YtllggaogjcknoaaW.PrintLast Go.Proofs.YtllggaogjcknoaaW.PrintMore
attribute [local go_sem] max2_int min2_int max_two min_two max_three min_three max_four min_four   -- for this text's walks alone
set_option linter.unusedVariables false
set_option linter.unusedSimpArgs false

/-! ### boltinglaw04_nums: function 23 -/
def boltinglaw04_nums.l0 : Nat → List Int → List Int → Int → Option (Bool)
 | 0, _, _, _ => none
 | k + 1, x0, x1, x5 => if x5 < (x0.length : Int) then (if 0 ≤ x5 then (if x5 < (x1.length : Int) then (if (rd x0 x5) = (rd x1 x5) then (boltinglaw04_nums.l0 k x0 x1 (wrap64 (x5 + 1))) else (some false)) else (none)) else (none)) else (some true)
def boltinglaw04_nums.f (k : Nat) (l0 : List Int) (l1 : List Int) : Option (Bool) := if (l0.length : Int) = (l1.length : Int) then (boltinglaw04_nums.l0 k l0 l1 0) else (some false)
theorem boltinglaw04_nums.mono_l : ∀ k, (∀ y0 y1 y2, LeO (boltinglaw04_nums.l0 k y0 y1 y2) (boltinglaw04_nums.l0 (k + 1) y0 y1 y2))
 | 0 => fun _ _ _ r h => by simp [boltinglaw04_nums.l0] at h
 | k + 1 => by
  have ih0 := boltinglaw04_nums.mono_l k
  ·intro y0 y1 y2
   unfold boltinglaw04_nums.l0
   repeat' first
   | (with_reducible exact ih0 _ _ _)
   | (with_reducible exact LeO.refl _)
   | (with_reducible exact LeO.none _)
   | (with_reducible refine LeO.ite ?_ ?_)
   | (with_reducible refine LeO.bind ?_ (fun _ => ?_))
   | exact ih0 _ _ _
   | exact LeO.none _
   | refine LeO.ite ?_ ?_
   | refine LeO.bind ?_ (fun _ => ?_)
theorem boltinglaw04_nums.mono : ∀ a0 a1 k, LeO (boltinglaw04_nums.f k a0 a1) (boltinglaw04_nums.f (k + 1) a0 a1) := by
 intro a0 a1 k
 have ih0 := boltinglaw04_nums.mono_l k
 unfold boltinglaw04_nums.f
 repeat' first
   | (with_reducible exact ih0 _ _ _)
   | (with_reducible exact LeO.refl _)
   | (with_reducible exact LeO.none _)
   | (with_reducible refine LeO.ite ?_ ?_)
   | (with_reducible refine LeO.bind ?_ (fun _ => ?_))
   | exact ih0 _ _ _
   | exact LeO.none _
   | refine LeO.ite ?_ ?_
   | refine LeO.bind ?_ (fun _ => ?_)
set_option maxHeartbeats 8000000 in
set_option maxRecDepth 100000 in
theorem boltinglaw04_nums.calls (k : Nat) (A0 : Option Addr) (c0 : Nat) (l0 : List Int) (A1 : Option Addr) (c1 : Nat) (l1 : List Int) (r : Bool) (w : World) (hr0 : Kd.C (Kd.int .i64) w A0 l0.length l0) (hc0 : l0.length ≤ c0) (hr1 : Kd.C (Kd.int .i64) w A1 l1.length l1) (hc1 : l1.length ≤ c1) (h : boltinglaw04_nums.f k l0 l1 = some r) :
  Calls Try.prog 23 #[.slice A0 l0.length c0, .slice A1 l1.length c1] w fun e w' => e = .returned (.bool r) ∧ Drawn0 w w' := by
 have HR0 := Aside0.mk hr0
 have HC0 := Aside0.mk hc0
 clear hr0 hc0
 have HR1 := Aside0.mk hr1
 have HC1 := Aside0.mk hc1
 clear hr1 hc1
 have H : (if (l0.length : Int) = (l1.length : Int) then (boltinglaw04_nums.l0 k l0 l1 0) else (some false)) = some r := h
 clear h
 by_cases c3 : (l0.length : Int) = (l1.length : Int)
 ·rw [if_pos c3] at H
  have c3b0 : ((l0.length : Int) == (l1.length : Int)) = true := beq_iff_eq.mpr c3
  have c3b1 : ((l0.length : Int) != (l1.length : Int)) = false := bne_eq_false_iff_eq.mpr c3
  have c3b2 : (l0.length == l1.length) = true := by first | simpa using c3 | (simp at c3 ⊢; omega)
  clear c3
  have H' := Aside0.mk H
  clear H
  go_enter Try.func23, Try.ntmps23
  go_wp2
  repeat (go_quiet (fail); try go_wp2)
  go_loopg [5] k (fun kq v5 w' => ∃ (x5_1 : Int), v5 = .int .i64 x5_1 ∧ Aside0 (boltinglaw04_nums.l0 kq l0 l1 x5_1 = some r) ∧ Aside0 (kq ≤ k) ∧ Drawn0 w w')
  case atStart => exact ⟨(0), aE, H', ⟨Nat.le_refl _⟩, by repeat (first | exact Drawn0.refl _ | apply Drawn0.step)⟩
  case round =>
   clear H'
   try clear c1
   try clear c2
   try clear p2
   try clear c3
   try clear c3b0
   try clear c3b1
   try clear c3b2
   obtain ⟨x5_1, rfl, HA, HK1, ⟨m1, rfl⟩⟩ := hrel
   cases gk with
   | zero => exact absurd HA.out (by simp [boltinglaw04_nums.l0])
   | succ k1 =>
    have H := HA.out
    clear HA
    simp only [boltinglaw04_nums.l0] at H
    by_cases c4 : x5_1 < (l0.length : Int)
    ·rw [if_pos c4] at H
     have c4b0 : decide (x5_1 < (l0.length : Int)) = true := decide_eq_true c4
     clear c4
     by_cases c5 : 0 ≤ x5_1
     ·rw [if_pos c5] at H
      have c5b0 : decide (0 ≤ x5_1) = true := decide_eq_true c5
      clear c5
      by_cases c6 : x5_1 < (l1.length : Int)
      ·rw [if_pos c6] at H
       have c6b0 : decide (x5_1 < (l1.length : Int)) = true := decide_eq_true c6
       clear c6
       by_cases c7 : (rd l0 x5_1) = (rd l1 x5_1)
       ·rw [if_pos c7] at H
        have c7b0 : ((rd l0 x5_1) == (rd l1 x5_1)) = true := beq_iff_eq.mpr c7
        have c7b1 : ((rd l0 x5_1) != (rd l1 x5_1)) = false := bne_eq_false_iff_eq.mpr c7
        clear c7
        have H' := Aside0.mk H
        clear H
        have p138 : 0 ≤ (x5_1 : Int) := of_decide_eq_true aA
        have q138 : x5_1 < (l0.length : Int) := of_decide_eq_true aA
        obtain ⟨ad138, e138, hx138_0⟩ := Kd.at_int HR0.out x5_1 p138 q138
        cases e138
        replace p138 := eq_true p138
        replace q138 := eq_true q138
        have p139 : 0 ≤ (x5_1 : Int) := of_decide_eq_true aA
        have q139 : x5_1 < (l1.length : Int) := of_decide_eq_true aA
        obtain ⟨ad139, e139, hx139_0⟩ := Kd.at_int HR1.out x5_1 p139 q139
        cases e139
        replace p139 := eq_true p139
        replace q139 := eq_true q139
        go_wp2
        repeat (go_quiet (fail); try go_wp2)
        go_roundg k1
        case measure => have := HK1.out; omega
        case rel => exact ⟨(wrap64 (x5_1 + 1)), aE, H', ⟨by have := HK1.out; omega⟩, by repeat (first | exact Drawn0.refl _ | apply Drawn0.step)⟩
       ·rw [if_neg c7] at H
        have c7b0 : ((rd l0 x5_1) == (rd l1 x5_1)) = false := beq_eq_false_iff_ne.mpr c7
        have c7b1 : ((rd l0 x5_1) != (rd l1 x5_1)) = true := bne_iff_ne.mpr c7
        obtain rfl := Option.some.inj H
        have p138 : 0 ≤ (x5_1 : Int) := of_decide_eq_true aA
        have q138 : x5_1 < (l0.length : Int) := of_decide_eq_true aA
        obtain ⟨ad138, e138, hx138_0⟩ := Kd.at_int HR0.out x5_1 p138 q138
        cases e138
        replace p138 := eq_true p138
        replace q138 := eq_true q138
        have p139 : 0 ≤ (x5_1 : Int) := of_decide_eq_true aA
        have q139 : x5_1 < (l1.length : Int) := of_decide_eq_true aA
        obtain ⟨ad139, e139, hx139_0⟩ := Kd.at_int HR1.out x5_1 p139 q139
        cases e139
        replace p139 := eq_true p139
        replace q139 := eq_true q139
        go_wp2
        repeat (go_quiet (fail); try go_wp2)
        go_ret
        exact ⟨by first | rfl | (simp; done) | (congr 1; first | (with_reducible assumption) | (symm; with_reducible assumption)) | (simp [*]; done) | (simp only [ne_nil_empty]; done) | (rw [ne_nil_empty]; rfl), by repeat (first | exact Drawn0.refl _ | apply Drawn0.step)⟩
      ·rw [if_neg c6] at H
       exact absurd H (by simp)
     ·rw [if_neg c5] at H
      exact absurd H (by simp)
    ·rw [if_neg c4] at H
     have c4b0 : decide (x5_1 < (l0.length : Int)) = false := decide_eq_false c4
     clear c4
     obtain rfl := Option.some.inj H
     go_wp2
     repeat (go_quiet (fail); try go_wp2)
     go_ret
     exact ⟨by first | rfl | (simp; done) | (congr 1; first | (with_reducible assumption) | (symm; with_reducible assumption)) | (simp [*]; done) | (simp only [ne_nil_empty]; done) | (rw [ne_nil_empty]; rfl), by repeat (first | exact Drawn0.refl _ | apply Drawn0.step)⟩
 ·rw [if_neg c3] at H
  have c3b0 : ((l0.length : Int) == (l1.length : Int)) = false := beq_eq_false_iff_ne.mpr c3
  have c3b1 : ((l0.length : Int) != (l1.length : Int)) = true := bne_iff_ne.mpr c3
  have c3b2 : (l0.length == l1.length) = false := by first | simpa using c3 | (simp at c3 ⊢; omega)
  obtain rfl := Option.some.inj H
  go_enter Try.func23, Try.ntmps23
  go_wp2
  repeat (go_quiet (fail); try go_wp2)
  go_ret
  exact ⟨by first | rfl | (simp; done) | (congr 1; first | (with_reducible assumption) | (symm; with_reducible assumption)) | (simp [*]; done) | (simp only [ne_nil_empty]; done) | (rw [ne_nil_empty]; rfl), by repeat (first | exact Drawn0.refl _ | apply Drawn0.step)⟩

-- NOT PRINTED: function 45 (rows_kids)

/-! ### rows_Kids: function 24 -/
section
open Go.Shelf
attribute [local go_sem] Oper.semAt_some
/-- Where node i's tree ends. -/
def endN (l : List S43) (i : Nat) : Nat := i + 1 + ((l.drop (i + 1)).takeWhile fun x => decide (x.f0 > (rd_T43 l (i : Int)).f0)).length
theorem endN_lt (l : List S43) (i : Nat) : i < endN l i := by unfold endN; omega
theorem endN_le (l : List S43) (i : Nat) (h : i < l.length) : endN l i ≤ l.length := by
 unfold endN
 have := (List.takeWhile_sublist (l := l.drop (i + 1)) fun x => decide (x.f0 > (rd_T43 l (i : Int)).f0)).length_le
 simp only [List.length_drop] at this
 omega
theorem rows_End.is_l (l : List S43) (hm : l.length < 9223372036854775807) (i : Nat) (hi : i < l.length) (d : Nat) : ∀ (k j : Nat), j + d = l.length → d < k →
  rows_End.l0 k l (i : Int) (j : Int) = some ((j + ((l.drop j).takeWhile fun x => decide (x.f0 > (rd_T43 l (i : Int)).f0)).length : Nat) : Int) := by
 induction d with
 | zero =>
  intro k j hj hk
  obtain ⟨k, rfl⟩ : ∃ m, k = m + 1 := ⟨k - 1, by omega⟩
  simp only [rows_End.l0]
  rw [if_neg (by omega), List.drop_of_length_le (by omega)]
  rfl
 | succ d ih =>
  intro k j hj hk
  obtain ⟨k, rfl⟩ : ∃ m, k = m + 1 := ⟨k - 1, by omega⟩
  simp only [rows_End.l0]
  rw [if_pos (by omega), if_pos (by omega), if_pos (by omega), if_pos (by omega), up1 (by omega), ih k (j + 1) (by omega) (by omega), List.drop_eq_getElem_cons (show j < l.length by omega), List.takeWhile_cons, ← rd_T43_at l j (by omega)]
  by_cases h : (rd_T43 l (j : Int)).f0 > (rd_T43 l (i : Int)).f0
  ·rw [if_pos h, if_pos (decide_eq_true h)]
   simp only [List.length_cons]
   congr 2
   omega
  ·rw [if_neg h, if_neg (by rw [decide_eq_false h]; decide)]
   rfl
theorem rows_End.is (l : List S43) (hm : l.length < 9223372036854775807) (i : Nat) (hi : i < l.length) : rows_End.f (l.length + 1) l (i : Int) = some ((endN l i : Nat) : Int) := by
 unfold rows_End.f rows_is.f
 rw [if_pos (by omega)]
 simp only [Option.bind_some]
 rw [if_pos (by simpa using hi), up1 (by omega), rows_End.is_l l hm i hi (l.length - (i + 1)) _ (i + 1) (by omega) (by omega)]
 rfl
theorem rows_End.n_calls (l : List S43) (A : Option Addr) (c : Nat) (w : World) (hr : Kd.C k43 w A l.length l) (hc : l.length ≤ c) (hm : l.length < 9223372036854775807) (i : Nat) (hi : i < l.length) :
  Calls Try.prog 19 #[.slice A l.length c, .int .i64 i] w fun e w' => e = .returned (.int .i64 ((endN l i : Nat) : Int)) ∧ ∃ n, w' = w.drewN n :=
 (rows_End.calls (l.length + 1) A c l i _ w hr hc (rows_End.is l hm i hi)).mono fun _ _ ⟨he, hd⟩ => ⟨he, hd.out⟩
/-- The kids from k on, below e0. -/
def kidsN (l : List S43) : Nat → Nat → Nat → List Nat
 | 0, _, _ => []
 | n + 1, k, e0 => if k < e0 then k :: kidsN l n (endN l k) e0 else []
theorem kidsN_more (l : List S43) (e0 : Nat) : ∀ (n m k : Nat), e0 ≤ k + n → e0 ≤ k + m → kidsN l n k e0 = kidsN l m k e0
 | 0, 0, k, _, _ => rfl
 | 0, m + 1, k, h, _ => by
  unfold kidsN
  rw [if_neg (by omega)]
 | n + 1, 0, k, _, h => by
  unfold kidsN
  rw [if_neg (by omega)]
 | n + 1, m + 1, k, h1, h2 => by
  unfold kidsN
  by_cases h : k < e0
  ·rw [if_pos h, if_pos h, kidsN_more l e0 n m (endN l k) (by have := endN_lt l k; omega) (by have := endN_lt l k; omega)]
  ·rw [if_neg h, if_neg h]
theorem kidsN_length (l : List S43) (e0 : Nat) : ∀ (n k : Nat), (kidsN l n k e0).length ≤ n
 | 0, _ => Nat.le_refl _
 | n + 1, k => by
  unfold kidsN
  split
  ·simp only [List.length_cons]
   have := kidsN_length l e0 n (endN l k)
   omega
  ·simp
/-- A node's kids; the roots for -1. -/
def kidsOf (l : List S43) (i : Int) : List Nat :=
 if i = -1 then kidsN l l.length 0 l.length else if 0 ≤ i ∧ i < (l.length : Int) then kidsN l l.length (i.toNat + 1) (endN l i.toNat) else []
/-- What a round must keep: all that lay below n₀, and the two variables that the iterator reads. -/
def KpB (n₀ b1 b2 : Nat) (W W' : World) : Prop := Below n₀ W W' ∧ W'.heap[b1]? = W.heap[b1]? ∧ W'.heap[b2]? = W.heap[b2]?
theorem KpB.trans {n₀ b1 b2 : Nat} {A B C : World} (h : KpB n₀ b1 b2 A B) (k : KpB n₀ b1 b2 B C) : KpB n₀ b1 b2 A C := ⟨h.1.trans k.1, k.2.1.trans h.2.1, k.2.2.trans h.2.2⟩
theorem KpB.drewN {n₀ b1 b2 : Nat} {A B : World} (h : KpB n₀ b1 b2 A B) (n : Nat) : KpB n₀ b1 b2 A (B.drewN n) := ⟨pw_below_drewN h.1 n, h.2.1, h.2.2⟩
def IsKids (l : List S43) (k e0 : Nat) (ys : List Nat) : Prop := ys = kidsN l l.length k e0
def AnyPre (_ : List Nat) : Prop := True
set_option maxHeartbeats 2000000 in
set_option maxRecDepth 100000 in
/-- The iterator: whatever the loop's body does that keeps what lay below n₀ and the two variables. -/
theorem kids1_in (i : Int) (from_ e0 : Nat) (l Bl Bi n₀ : Nat) (A0 : Option Addr) (c0 : Nat) (l0 : List S43) (hm : l0.length < 9223372036854775807) (hc0 : l0.length ≤ c0) (he0 : e0 ≤ l0.length)
  (hi : (i = -1 ∧ from_ = 0 ∧ e0 = l0.length) ∨ (0 ≤ i ∧ i < (l0.length : Int) ∧ from_ = i.toNat + 1 ∧ e0 = endN l0 i.toNat)) (J Jx : List Nat → World → Prop)
  (w0 : World) (hr0 : Kd.C k43 w0 A0 l0.length l0) (hn₀ : w0.heap.size = n₀)
  (hJd : ∀ pre W n, J pre W → J pre (W.drewN n))
  (hY : ∀ pre x W, J pre W → pre.length < l0.length + 1 → YieldAt Fence.wide 5 Try.prog l #[.int .i64 (x : Nat)] W fun e W' =>
   (e = .returned (.bool true) ∧ J (pre ++ [x]) W' ∧ KpB n₀ Bl Bi W W') ∨ (e = .returned (.bool false) ∧ Jx (pre ++ [x]) W'))
  (W : World) (hb : Below n₀ w0 W) (hBl : W.heap[Bl]? = some (.cells #[.slice A0 l0.length c0] 22 (0, 0))) (hBi : W.heap[Bi]? = some (.cells #[.int .i64 i] 3 (0, 0))) (h0 : J [] W) :
  CallsIn Fence.wide 6 Try.prog 52 #[.func (.yield l) #[] #[], .pointer (some ⟨Bl, 0, none⟩), .pointer (some ⟨Bi, 0, none⟩)] W fun e W' => (∃ v, e = .returned v) ∧
   ((∃ ys, IsKids l0 from_ e0 ys ∧ J ys W') ∨ (∃ pre, AnyPre pre ∧ Jx pre W')) := by
 subst hn₀
 have HR0 := Aside0.mk hr0
 have HB := Aside0.mk hb
 have HBL := Aside0.mk hBl
 have HBI := Aside0.mk hBi
 have cl : W.cell? ⟨Bl, 0, none⟩ = some (.slice A0 l0.length c0) := (blk_cell hBl 0).trans rfl
 have ci : W.cell? ⟨Bi, 0, none⟩ = some (.int .i64 i) := (blk_cell hBi 0).trans rfl
 have hF : Fence.wide.fn 52 := trivial
 have hF2 : Fence.wide.fn 19 := trivial
 have hro : Fence.wide.round = none := rfl
 clear hr0 hb hBl hBi
 rcases hi with ⟨rfl, rfl, rfl⟩ | ⟨hi0, hi1, rfl, rfl⟩
 ·refine callsIn_of_wp Try.func52 rfl hF ?_ hro
  simp only [Try.ntmps52, List.size_toArray, List.length_cons, List.length_nil, Nat.reduceAdd, Nat.reduceSub, Array.replicate_succ, Array.replicate_zero, List.push_toArray, List.append_toArray, List.nil_append, List.cons_append]
  gi_wp2
  refine wpIn_wide.2 ?_
  go_quiet (fail)
  gi_wp2
  gi_loopw [6] (fun v6 wr => ∃ (k : Nat) (pre : List Nat), v6 = .int .i64 (k : Nat) ∧ Aside0 (pre ++ kidsN l0 l0.length k l0.length = kidsN l0 l0.length 0 l0.length ∧ pre.length ≤ k) ∧ Aside0 (J pre wr) ∧ Aside0 (Below w0.heap.size w0 wr) ∧ Aside0 (wr.heap[Bl]? = some (.cells #[.slice A0 l0.length c0] 22 (0, 0)) ∧ wr.heap[Bi]? = some (.cells #[.int .i64 (-1)] 3 (0, 0)))) (fun v6 _ => l0.length - (intOf v6).toNat)
  case atStart => exact ⟨0, [], rfl, ⟨rfl, Nat.zero_le _⟩, ⟨by repeat (first | exact h0 | apply hJd)⟩, ⟨by repeat (first | exact HB.out | apply pw_below_drewN)⟩, ⟨HBL.out, HBI.out⟩⟩
  case round =>
   clear HB HBL HBI cl ci
   obtain ⟨k, pre, rfl, HK, HJ, HB, HX⟩ := hrel
   have cl : wr.cell? ⟨Bl, 0, none⟩ = some (.slice A0 l0.length c0) := (blk_cell HX.out.1 0).trans rfl
   by_cases hlt : k < l0.length
   ·have hltl : k < l0.length := by omega
    have hunf : Aside0 (kidsN l0 l0.length k l0.length = k :: kidsN l0 l0.length (endN l0 k) l0.length) := ⟨by
     rw [kidsN_more l0 l0.length l0.length (l0.length + 1) k (by omega) (by omega)]
     conv => lhs; unfold kidsN
     rw [if_pos hlt]⟩
    have hpl : pre.length < l0.length + 1 := by have := HK.out.2; omega
    obtain ⟨fn, tmps, assign, body, hy, hR⟩ := hY pre k wr HJ.out hpl
    clear hpl
    have hltz : (k : Int) < (l0.length : Int) := by omega
    have hend := rows_End.n_calls l0 A0 c0
    gi_wp2
    refine hR.mono ?_
    rintro e W3 (⟨rfl, hJ3, hk3⟩ | ⟨rfl, hJx3⟩)
    ·have HB3 : Aside0 (Below w0.heap.size w0 W3) := ⟨HB.out.trans hk3.1⟩
     have HX3 : Aside0 (W3.heap[Bl]? = some (.cells #[.slice A0 l0.length c0] 22 (0, 0)) ∧ W3.heap[Bi]? = some (.cells #[.int .i64 (-1)] 3 (0, 0))) := ⟨hk3.2.1.trans HX.out.1, hk3.2.2.trans HX.out.2⟩
     have HJ3 := Aside0.mk hJ3
     clear hJ3 hk3
     have cl3 : W3.cell? ⟨Bl, 0, none⟩ = some (.slice A0 l0.length c0) := (blk_cell HX3.out.1 0).trans rfl
     have hc3 := hend W3 (Kd.C_below HR0.out HB3.out) hc0 hm k hltl
     clear hend
     gi_wp2_with (gi_at_call 19; refine (callsIn_wide.2 hc3).mono ?_; rintro e w' ⟨rfl, nd, rfl⟩)
     go_roundw
     case rel => exact ⟨endN l0 k, pre ++ [k], rfl, ⟨by rw [← HK.out.1, hunf.out]; simp, by have := HK.out.2; have := endN_lt l0 k; simp; omega⟩, ⟨hJd _ _ _ HJ3.out⟩, ⟨pw_below_drewN HB3.out nd⟩, ⟨HX3.out.1, HX3.out.2⟩⟩
     case measure => have := endN_lt l0 k; simp [intOf]; omega
    ·gi_wp2
     refine bodyPost_ret (results_none rfl _ _ _) rfl ?_
     exact ⟨⟨_, rfl⟩, .inr ⟨pre ++ [k], trivial, hJx3⟩⟩
   ·have hltz : ¬ (k : Int) < (l0.length : Int) := by omega
    have hz : Aside0 (kidsN l0 l0.length k l0.length = []) := ⟨by
     rw [kidsN_more l0 l0.length l0.length 0 k (by omega) (by omega)]
     rfl⟩
    gi_wp2
    go_end0
    exact ⟨⟨_, rfl⟩, .inl ⟨pre, by unfold IsKids; rw [← HK.out.1, hz.out, List.append_nil], HJ.out⟩⟩
 ·obtain ⟨ii, rfl⟩ := Int.eq_ofNat_of_zero_le hi0
  rw [Int.toNat_natCast] at he0 ⊢
  have hii : ii < l0.length := by omega
  have hb1 : ((ii : Int) == -1) = false := beq_eq_false_iff_ne.2 (by omega)
  have hb2 : ((ii : Int) != -1) = true := bne_iff_ne.2 (by omega)
  have hup : IntKind.i64.wrap ((ii : Int) + 1) = (ii : Int) + 1 := IntWalk.i64_in _ (by omega)
  refine callsIn_of_wp Try.func52 rfl hF ?_ hro
  simp only [Try.ntmps52, List.size_toArray, List.length_cons, List.length_nil, Nat.reduceAdd, Nat.reduceSub, Array.replicate_succ, Array.replicate_zero, List.push_toArray, List.append_toArray, List.nil_append, List.cons_append]
  gi_wp2
  refine wpIn_wide.2 ?_
  go_quiet (fail)
  gi_wp2
  refine wpIn_wide.2 ?_
  have hq : ∀ nq x, Calls Try.prog 19 #[.slice A0 l0.length c0, .int .i64 (ii : Int)] (W.drewN (nq + x)) fun e w'' => e = .returned (.int .i64 ((endN l0 ii : Nat) : Int)) ∧ ∃ n, w'' = W.drewN (nq + n) := fun nq x =>
   (rows_End.n_calls l0 A0 c0 _ (Kd.C_below HR0.out (by repeat (first | exact HB.out | apply pw_below_drewN))) hc0 hm ii hii).mono fun _ _ ⟨he, m, hw⟩ => ⟨he, x + m, by rw [hw, World.drewN_drewN, Nat.add_assoc]⟩
  go_quiet ((go_at_call 19; exact hq _ _))
  gi_wp2
  gi_loopw [6] (fun v6 wr => ∃ (k : Nat) (pre : List Nat), v6 = .int .i64 (k : Nat) ∧ Aside0 (pre ++ kidsN l0 l0.length k (endN l0 ii) = kidsN l0 l0.length (ii + 1) (endN l0 ii) ∧ pre.length ≤ k) ∧ Aside0 (J pre wr) ∧ Aside0 (Below w0.heap.size w0 wr) ∧ Aside0 (wr.heap[Bl]? = some (.cells #[.slice A0 l0.length c0] 22 (0, 0)) ∧ wr.heap[Bi]? = some (.cells #[.int .i64 (ii : Int)] 3 (0, 0)))) (fun v6 _ => (endN l0 ii) - (intOf v6).toNat)
  case atStart => exact ⟨(ii + 1), [], by go_num, ⟨rfl, Nat.zero_le _⟩, ⟨by repeat (first | exact h0 | apply hJd)⟩, ⟨by repeat (first | exact HB.out | apply pw_below_drewN)⟩, ⟨HBL.out, HBI.out⟩⟩
  case round =>
   clear HB HBL HBI cl ci
   obtain ⟨k, pre, rfl, HK, HJ, HB, HX⟩ := hrel
   have cl : wr.cell? ⟨Bl, 0, none⟩ = some (.slice A0 l0.length c0) := (blk_cell HX.out.1 0).trans rfl
   by_cases hlt : k < (endN l0 ii)
   ·have hltl : k < l0.length := by omega
    have hunf : Aside0 (kidsN l0 l0.length k (endN l0 ii) = k :: kidsN l0 l0.length (endN l0 k) (endN l0 ii)) := ⟨by
     rw [kidsN_more l0 (endN l0 ii) l0.length (l0.length + 1) k (by omega) (by omega)]
     conv => lhs; unfold kidsN
     rw [if_pos hlt]⟩
    have hpl : pre.length < l0.length + 1 := by have := HK.out.2; omega
    obtain ⟨fn, tmps, assign, body, hy, hR⟩ := hY pre k wr HJ.out hpl
    clear hpl
    have hltz : (k : Int) < (((endN l0 ii : Nat) : Int) : Int) := by omega
    have hend := rows_End.n_calls l0 A0 c0
    gi_wp2
    refine hR.mono ?_
    rintro e W3 (⟨rfl, hJ3, hk3⟩ | ⟨rfl, hJx3⟩)
    ·have HB3 : Aside0 (Below w0.heap.size w0 W3) := ⟨HB.out.trans hk3.1⟩
     have HX3 : Aside0 (W3.heap[Bl]? = some (.cells #[.slice A0 l0.length c0] 22 (0, 0)) ∧ W3.heap[Bi]? = some (.cells #[.int .i64 (ii : Int)] 3 (0, 0))) := ⟨hk3.2.1.trans HX.out.1, hk3.2.2.trans HX.out.2⟩
     have HJ3 := Aside0.mk hJ3
     clear hJ3 hk3
     have cl3 : W3.cell? ⟨Bl, 0, none⟩ = some (.slice A0 l0.length c0) := (blk_cell HX3.out.1 0).trans rfl
     have hc3 := hend W3 (Kd.C_below HR0.out HB3.out) hc0 hm k hltl
     clear hend
     gi_wp2_with (gi_at_call 19; refine (callsIn_wide.2 hc3).mono ?_; rintro e w' ⟨rfl, nd, rfl⟩)
     go_roundw
     case rel => exact ⟨endN l0 k, pre ++ [k], rfl, ⟨by rw [← HK.out.1, hunf.out]; simp, by have := HK.out.2; have := endN_lt l0 k; simp; omega⟩, ⟨hJd _ _ _ HJ3.out⟩, ⟨pw_below_drewN HB3.out nd⟩, ⟨HX3.out.1, HX3.out.2⟩⟩
     case measure => have := endN_lt l0 k; simp [intOf]; omega
    ·gi_wp2
     refine bodyPost_ret (results_none rfl _ _ _) rfl ?_
     exact ⟨⟨_, rfl⟩, .inr ⟨pre ++ [k], trivial, hJx3⟩⟩
   ·have hltz : ¬ (k : Int) < (((endN l0 ii : Nat) : Int) : Int) := by omega
    have hz : Aside0 (kidsN l0 l0.length k (endN l0 ii) = []) := ⟨by
     rw [kidsN_more l0 (endN l0 ii) l0.length 0 k (by omega) (by omega)]
     rfl⟩
    gi_wp2
    go_end0
    exact ⟨⟨_, rfl⟩, .inl ⟨pre, by unfold IsKids; rw [← HK.out.1, hz.out, List.append_nil], HJ.out⟩⟩
theorem kids_info : (Try.prog.info? 3).map (fun i => (i.zero, i.size, i.bytes)) = some (some (.int .i64 0), 1, 8) := by kernel_rfl
/-- 'out = append(out, k)' in the loop's body: all that the walk owes. L: where the loop began: the two variables of the iterator lie below it. -/
theorem boxed_appended2 {W w1 : World} {n₀ L B : Nat} {t e : TypeId} {size : Nat} {v v' : Value} {k m : Nat} {xs ys : List Value} {tmp : Obj}
  (hv : Boxed W B t v) (hte : t ≠ e) (hrow : W.ownsRow L e size v k xs) (hL : n₀ ≤ L) (hLW : L ≤ W.heap.size) (hB : n₀ ≤ B)
  (hown' : w1.ownsRow L e size v' m ys) (hgrow : (W.alloc tmp).grownBy w1 v.ownBlock) :
  Boxed w1 B t v ∧ Boxed (w1.setCell ⟨B, 0, none⟩ v') B t v' ∧ (w1.setCell ⟨B, 0, none⟩ v').ownsRow L e size v' m ys ∧ KeepsOthers W (w1.setCell ⟨B, 0, none⟩ v') ∧ Below n₀ W (w1.setCell ⟨B, 0, none⟩ v') ∧
   ∀ j, j ≠ B → j < L → (w1.setCell ⟨B, 0, none⟩ v').heap[j]? = W.heap[j]? := by
 have hv1 : Boxed w1 B t v := (hv.alloc tmp).kept hgrow (hv.not_row hte hrow)
 have hrl : ∀ j, v.ownBlock = some j → L ≤ j := by
  intro j ej
  rcases hrow.2 with ⟨rfl, _⟩ | ⟨g, cap, cur, rfl, hb, _, _⟩
  ·simp [Value.ownBlock] at ej
  ·obtain rfl : g = j := by simpa [Value.ownBlock] using ej
   exact hb
 refine ⟨hv1, hv1.set v', hown'.kept (grownBy_setCell' w1 B v') (.inr (hv1.not_row hte hown').symm), ?_, ?_, ?_⟩
 ·refine ((KeepsOthers.alloc W tmp).trans (KeepsOthers.of_grownBy hgrow fun j o ej hj => ?_)).trans (KeepsOthers.setCell _ _ _)
  rcases (hrow.alloc tmp).2 with ⟨rfl, _⟩ | ⟨g, cap, cur, rfl, _, hgb, _⟩
  ·simp [Value.ownBlock] at ej
  ·obtain rfl : g = j := by simpa [Value.ownBlock] using ej
   rw [hgb] at hj; cases hj; rfl
 ·exact (((Below.refl n₀ W).alloc (Nat.le_trans hL hLW) tmp).grown hgrow (by simp; omega) fun j ej => Nat.le_trans hL (hrl j ej)).setCell (p := ⟨B, 0, none⟩) hB v'
 ·intro j hj hjL
  have h1 := Below.heap_setCell w1 ⟨B, 0, none⟩ v' j hj
  have h2 := hgrow.block j (by simp; omega) (fun e' => by have := hrl j e'.symm; omega)
  rw [h1, h2]
  exact Below.heap_alloc W tmp j (by omega)
def intsOf (l : List Nat) : List Int := l.map fun n : Nat => (n : Int)
theorem intsOf_snoc (l : List Nat) (x : Nat) : (intsOf (l ++ [x])) = intsOf l ++ [(x : Int)] := by simp [intsOf]
theorem intsOf_length (l : List Nat) : (intsOf l).length = l.length := by simp [intsOf]
/-- What is handed back: the numbers, in memory of the call's own. -/
def KidsOut (w : World) (ks : List Nat) (e : Ending) (w' : World) : Prop := ∃ v, e = .returned v ∧ Kd.R (Kd.int .i64) 3 w' w.heap.size (fun _ => True) v (intsOf ks) ∧ Below w.heap.size w w'
def KidsRow (n L : Nat) (pre : List Nat) (W : World) : Prop := ∃ v, Boxed W n 32 v ∧ W.ownsRow L 3 1 v (intsOf pre).length ((intsOf pre).map (Value.int .i64)) ∧ True
set_option maxHeartbeats 4000000 in
set_option maxRecDepth 100000 in
theorem kids_some (i : Int) (from_ e0 : Nat) (A0 : Option Addr) (c0 : Nat) (l0 : List S43) (w : World) (hm : l0.length < 1954687338268) (hc0 : l0.length ≤ c0) (he0 : e0 ≤ l0.length)
  (hi : (i = -1 ∧ from_ = 0 ∧ e0 = l0.length) ∨ (0 ≤ i ∧ i < (l0.length : Int) ∧ from_ = i.toNat + 1 ∧ e0 = endN l0 i.toNat)) (hr0 : Kd.C k43 w A0 l0.length l0) :
  CallsIn Fence.wide 7 Try.prog 24 #[.slice A0 l0.length c0, .int .i64 i] w fun e w' => KidsOut w (kidsN l0 l0.length from_ e0) e w' := by
 obtain ⟨i0, hti, hz0, hz1, hz2⟩ := info_parts kids_info
 have HR0 := Aside0.mk hr0
 have HC0 := Aside0.mk hc0
 have HI := Aside0.mk hi
 have hF : Fence.wide.fn 24 := trivial
 have hF2 : Fence.wide.fn 45 := trivial
 have hF3 : Fence.wide.fn 44 := trivial
 have hF4 : Fence.wide.fn 52 := trivial
 have hro : Fence.wide.round = none := rfl
 have hKC : ∀ W : World, Calls Try.prog 45 #[.slice A0 l0.length c0, .int .i64 i] W fun e w' => e = .returned (.func (.func 52) #[] #[.pointer (some ⟨W.heap.size, 0, none⟩), .pointer (some ⟨W.heap.size + 1, 0, none⟩)]) ∧ w' = (W.alloc (.cells #[.slice A0 l0.length c0] 22)).alloc (.cells #[.int .i64 i] 3) := by
  intro W
  go_enter Try.func45, Try.ntmps45
  go_wp2
  go_ret
  exact ⟨rfl, rfl⟩
 have hIs : 0 ≤ i → i < (l0.length : Int) → ∀ W : World, Below w.heap.size w W → Calls Try.prog 44 #[.slice A0 l0.length c0, .int .i64 i] W fun e w' => e = .returned (.bool true) ∧ Drawn0 W w' := fun h0 h1 W hb =>
  rows_is.calls A0 c0 l0 i true W (Kd.C_below HR0.out hb) HC0.out (by unfold rows_is.f; rw [if_pos h0, decide_eq_true h1])
 clear hr0 hc0 hi
 refine callsIn_of_wp_marks Try.func24 rfl hF ?_ hro
 simp only [Try.ntmps24, List.size_toArray, List.length_cons, List.length_nil, Nat.reduceAdd, Nat.reduceSub, Array.replicate_succ, Array.replicate_zero, List.push_toArray, List.append_toArray, List.nil_append, List.cons_append]
 by_cases hi1 : i = -1
 ·have HI1 : Aside0 (from_ = 0 ∧ e0 = l0.length) := ⟨by
   rcases HI.out with h | h
   ·exact h.2
   ·omega⟩
  clear HI
  subst hi1
  gi_wp2_with (gi_at_call 45; refine (callsIn_wide.2 (hKC _)).mono ?_; rintro e w' ⟨rfl, rfl⟩)
  have hb0 : Below w.heap.size w (w) := Below.refl _ _
  have bO := Boxed.new (w) 32 (.slice none 0 0)
  have bL := Boxed.new ((w).alloc (.cells #[.slice none 0 0] 32)) 22 (.slice A0 l0.length c0)
  have bI := Boxed.new (((w).alloc (.cells #[.slice none 0 0] 32)).alloc (.cells #[.slice A0 l0.length c0] 22)) 3 (.int .i64 (-1))
  simp only [World.size_alloc] at bL bI
  have hB0 : Below w.heap.size w ((((w).alloc (.cells #[.slice none 0 0] 32)).alloc (.cells #[.slice A0 l0.length c0] 22)).alloc (.cells #[.int .i64 (-1)] 3)) := ((hb0.alloc hb0.size _).alloc (by simp) _).alloc (by simp; omega) _
  have hB0' := Aside0.mk hB0
  have BO := Aside0.mk ((bO.alloc (.cells #[.slice A0 l0.length c0] 22)).alloc (.cells #[.int .i64 (-1)] 3))
  have BL := Aside0.mk (bL.alloc (.cells #[.int .i64 (-1)] 3))
  have BI := Aside0.mk bI
  clear hB0 bO bL bI
  refine wpIn_rangeFunc_ownG hro (show 1 ≤ 7 by omega) (gf := 52) (lb := #[.pointer (some ⟨w.heap.size + 1, 0, none⟩), .pointer (some ⟨w.heap.size + 2, 0, none⟩)]) rfl hF4 (enters_of Try.func52 (by kernel_rfl) rfl)
   (encs := fun x : Nat => #[.int .i64 (x : Int)]) (Kp := KpB w.heap.size (w.heap.size + 1) (w.heap.size + 2)) (S := IsKids l0 from_ e0) (Sp := AnyPre) (N := l0.length + 1)
   (w0 := ((((w).alloc (.cells #[.slice none 0 0] 32)).alloc (.cells #[.slice A0 l0.length c0] 22)).alloc (.cells #[.int .i64 (-1)] 3)))
   (fun l J Jx W hW hJ hJx hY h0 => kids1_in (-1) from_ e0 l (w.heap.size + 1) (w.heap.size + 2) w.heap.size A0 c0 l0 (by omega) HC0.out he0 (.inl ⟨rfl, HI1.out⟩) J Jx w HR0.out rfl (fun pre W n h => hJ pre W _ none h ⟨rfl, rfl, rfl, Nat.le_refl _, fun _ _ _ => rfl⟩ (fun r e => by cases e)) hY W (hB0'.out.trans (hW.mono (by simp; omega))) ((hW.block _ (by simp)).trans BL.out) ((hW.block _ (by simp)).trans BI.out) h0)
   KpB.trans (fun W l o o' hl ho hc hk => ⟨belowK_b (w := w) (Nat.le_refl _) W l o o' (by simp at hl; omega) ho hc hk, (grownBy_putObj' W l o').block _ (by have := (Array.getElem?_eq_some_iff.1 ho).1; simp at hl; omega) (by simp at hl; simp; omega), (grownBy_putObj' W l o').block _ (by have := (Array.getElem?_eq_some_iff.1 ho).1; simp at hl; omega) (by simp at hl; simp; omega)⟩) (Below.refl _ _) (fun _ => rfl)
   (fun pre W => KidsRow w.heap.size (w.heap.size + 3) pre W ∧ Below w.heap.size w W ∧ w.heap.size + 3 ≤ W.heap.size)
   (fun _ _ _ => False)
   (OwnFrom.and (Own.from (holdsRow_own (w.heap.size + 3) w.heap.size 32 3 1 (fun pre => (intsOf pre).length) (fun pre => (intsOf pre).map (Value.int .i64)) (fun _ _ => True)) _) (OwnFrom.and (ownFrom_below (Nat.le_refl _) (by simp; omega)) (fun _ _ _ _ hs hg _ => Nat.le_trans hs hg.size)))
   (fun _ _ _ _ _ hs _ _ => hs)
   ⟨⟨_, BO.out, World.ownsRow_nil _ _ _ _, trivial⟩, hB0'.out, by simp⟩
   (fun x => { tmps := #[.slice A0 l0.length c0, .int .i64 (-1), undef, undef, .slice none 0 0, .pointer (some ⟨w.heap.size, 0, none⟩), .int .i64 (x : Int), .int .i64 (-1), .bool false, .bool false, undef, undef, undef, undef, .bool false, .slice A0 l0.length c0, .int .i64 (-1), .func (.func 52) #[] #[.pointer (some ⟨w.heap.size + 1, 0, none⟩), .pointer (some ⟨w.heap.size + 2, 0, none⟩)], .int .i64 (x : Int), undef, undef, undef, undef, undef], defers := [] }) ?assign ?body ?done ?stop
  case assign =>
   intro l x W K hK
   gi_wp2
   exact hK
  case body =>
   rintro l pre x W ⟨⟨v, hv, hrow, _⟩, hB, hW⟩ hlt
   have hc := hv.cell
   have hml : (intsOf pre).length + 1 ≤ maxLen := by rw [intsOf_length]; unfold maxLen; omega
   have hby : ((intsOf pre).length + 1) * 8 ≤ 140737488355328 := by rw [intsOf_length]; omega
   have HB := Aside0.mk hB
   have HW := Aside0.mk hW
   clear hB hW
   gi_wp2_with (gi_at_builtin; refine wpListIn_append_own _ rfl _ _ 32 rfl (w.heap.size + 3) 3 i0 (.int .i64 0) 1 8 Try.underlying32 hti hz0 hz1 hz2 rfl (by decide) _ _ _ rfl (hrow.alloc _) ⟨W.heap.size, 0, none⟩ 1 1 [.int .i64 (x : Int)] rfl rfl (cell_one_new _ _ _) (by simp [Value.oneCell']) hml hby (by have := HW.out; simp; omega) ?_; intro v' w1 hown' hgrow _; obtain ⟨g', cap', rfl⟩ := ownsRow_succ hown'; obtain ⟨hv1, hv2, hr2, hk2, hb2, hj2⟩ := boxed_appended2 (n₀ := w.heap.size) hv (by decide) hrow (by omega) HW.out (by omega) hown' hgrow; have hc1 := hv1.cell; have hf1 := hv1.frozen)
   exact ⟨hk2.from _, ⟨hb2, hj2 _ (by omega) (by omega), hj2 _ (by omega) (by omega)⟩, ⟨_, hv2, by rw [intsOf_snoc]; simpa using hr2, trivial⟩, HB.out.trans hb2, Nat.le_trans HW.out hk2.size⟩
  case done =>
   rintro D ys W hD hS ⟨⟨v, hv, hrow, _⟩, hB, _⟩ hK
   have hc := hv.cell
   have HS := Aside0.mk hS
   have HB := Aside0.mk hB
   clear hS hB
   gi_wp2
   refine ⟨by simp, .inl ⟨_, _, rfl, run_takeDeferred hK, ?_⟩⟩
   refine ⟨_, results_tmp rfl _ _ _, v, rfl, ?_, HB.out.trans (belowK_b (w := w) (Nat.le_refl _) W D _ _ (by simp at hD; omega) hK rfl rfl)⟩
   have h1 := Kd.R_of_own (h1 := fun _ => rfl) (ok := fun _ => True) (ownsRow_putObj hrow (.deferred none) hK rfl) (fun _ _ => trivial)
   have h2 : ys = kidsN l0 l0.length from_ e0 := HS.out
   rw [← h2]
   exact Kd.R_lower h1 (by omega)
  case stop =>
   rintro D c pre W _ _ h _
   exact h.elim
 ·have hi0 : 0 ≤ i ∧ i < (l0.length : Int) := by
   rcases HI.out with h | h
   ·exact absurd h.1 hi1
   ·exact ⟨h.1, h.2.1⟩
  have hb1 : (i == -1) = false := beq_eq_false_iff_ne.2 hi1
  have hb2 : (i != -1) = true := bne_iff_ne.2 hi1
  have hcall := hIs hi0.1 hi0.2 w (Below.refl _ _)
  gi_wp2_with (first | (gi_at_call 45; refine (callsIn_wide.2 (hKC _)).mono ?_; rintro e w' ⟨rfl, rfl⟩) | (gi_at_call 44; refine (callsIn_wide.2 hcall).mono ?_; rintro e w' ⟨rfl, ⟨nd, rfl⟩⟩))
  have hb0 : Below w.heap.size w (w.drewN nd) := pw_below_drewN (Below.refl _ _) nd
  have bO := Boxed.new (w.drewN nd) 32 (.slice none 0 0)
  have bL := Boxed.new ((w.drewN nd).alloc (.cells #[.slice none 0 0] 32)) 22 (.slice A0 l0.length c0)
  have bI := Boxed.new (((w.drewN nd).alloc (.cells #[.slice none 0 0] 32)).alloc (.cells #[.slice A0 l0.length c0] 22)) 3 (.int .i64 i)
  simp only [World.size_alloc] at bL bI
  have hB0 : Below w.heap.size w ((((w.drewN nd).alloc (.cells #[.slice none 0 0] 32)).alloc (.cells #[.slice A0 l0.length c0] 22)).alloc (.cells #[.int .i64 i] 3)) := ((hb0.alloc hb0.size _).alloc (by simp) _).alloc (by simp; omega) _
  have hB0' := Aside0.mk hB0
  have BO := Aside0.mk ((bO.alloc (.cells #[.slice A0 l0.length c0] 22)).alloc (.cells #[.int .i64 i] 3))
  have BL := Aside0.mk (bL.alloc (.cells #[.int .i64 i] 3))
  have BI := Aside0.mk bI
  clear hB0 bO bL bI
  refine wpIn_rangeFunc_ownG hro (show 1 ≤ 7 by omega) (gf := 52) (lb := #[.pointer (some ⟨w.heap.size + 1, 0, none⟩), .pointer (some ⟨w.heap.size + 2, 0, none⟩)]) rfl hF4 (enters_of Try.func52 (by kernel_rfl) rfl)
   (encs := fun x : Nat => #[.int .i64 (x : Int)]) (Kp := KpB w.heap.size (w.heap.size + 1) (w.heap.size + 2)) (S := IsKids l0 from_ e0) (Sp := AnyPre) (N := l0.length + 1)
   (w0 := ((((w.drewN nd).alloc (.cells #[.slice none 0 0] 32)).alloc (.cells #[.slice A0 l0.length c0] 22)).alloc (.cells #[.int .i64 i] 3)))
   (fun l J Jx W hW hJ hJx hY h0 => kids1_in i from_ e0 l (w.heap.size + 1) (w.heap.size + 2) w.heap.size A0 c0 l0 (by omega) HC0.out he0 (HI.out) J Jx w HR0.out rfl (fun pre W n h => hJ pre W _ none h ⟨rfl, rfl, rfl, Nat.le_refl _, fun _ _ _ => rfl⟩ (fun r e => by cases e)) hY W (hB0'.out.trans (hW.mono (by simp; omega))) ((hW.block _ (by simp)).trans BL.out) ((hW.block _ (by simp)).trans BI.out) h0)
   KpB.trans (fun W l o o' hl ho hc hk => ⟨belowK_b (w := w) (Nat.le_refl _) W l o o' (by simp at hl; omega) ho hc hk, (grownBy_putObj' W l o').block _ (by have := (Array.getElem?_eq_some_iff.1 ho).1; simp at hl; omega) (by simp at hl; simp; omega), (grownBy_putObj' W l o').block _ (by have := (Array.getElem?_eq_some_iff.1 ho).1; simp at hl; omega) (by simp at hl; simp; omega)⟩) (Below.refl _ _) (fun _ => rfl)
   (fun pre W => KidsRow w.heap.size (w.heap.size + 3) pre W ∧ Below w.heap.size w W ∧ w.heap.size + 3 ≤ W.heap.size)
   (fun _ _ _ => False)
   (OwnFrom.and (Own.from (holdsRow_own (w.heap.size + 3) w.heap.size 32 3 1 (fun pre => (intsOf pre).length) (fun pre => (intsOf pre).map (Value.int .i64)) (fun _ _ => True)) _) (OwnFrom.and (ownFrom_below (Nat.le_refl _) (by simp; omega)) (fun _ _ _ _ hs hg _ => Nat.le_trans hs hg.size)))
   (fun _ _ _ _ _ hs _ _ => hs)
   ⟨⟨_, BO.out, World.ownsRow_nil _ _ _ _, trivial⟩, hB0'.out, by simp⟩
   (fun x => { tmps := #[.slice A0 l0.length c0, .int .i64 i, undef, undef, .slice none 0 0, .pointer (some ⟨w.heap.size, 0, none⟩), .int .i64 (x : Int), .int .i64 i, .bool true, .bool true, .slice A0 l0.length c0, .int .i64 i, .bool true, .bool false, .bool false, .slice A0 l0.length c0, .int .i64 i, .func (.func 52) #[] #[.pointer (some ⟨w.heap.size + 1, 0, none⟩), .pointer (some ⟨w.heap.size + 2, 0, none⟩)], .int .i64 (x : Int), undef, undef, undef, undef, undef], defers := [] }) ?assign ?body ?done ?stop
  case assign =>
   intro l x W K hK
   gi_wp2
   exact hK
  case body =>
   rintro l pre x W ⟨⟨v, hv, hrow, _⟩, hB, hW⟩ hlt
   have hc := hv.cell
   have hml : (intsOf pre).length + 1 ≤ maxLen := by rw [intsOf_length]; unfold maxLen; omega
   have hby : ((intsOf pre).length + 1) * 8 ≤ 140737488355328 := by rw [intsOf_length]; omega
   have HB := Aside0.mk hB
   have HW := Aside0.mk hW
   clear hB hW
   gi_wp2_with (gi_at_builtin; refine wpListIn_append_own _ rfl _ _ 32 rfl (w.heap.size + 3) 3 i0 (.int .i64 0) 1 8 Try.underlying32 hti hz0 hz1 hz2 rfl (by decide) _ _ _ rfl (hrow.alloc _) ⟨W.heap.size, 0, none⟩ 1 1 [.int .i64 (x : Int)] rfl rfl (cell_one_new _ _ _) (by simp [Value.oneCell']) hml hby (by have := HW.out; simp; omega) ?_; intro v' w1 hown' hgrow _; obtain ⟨g', cap', rfl⟩ := ownsRow_succ hown'; obtain ⟨hv1, hv2, hr2, hk2, hb2, hj2⟩ := boxed_appended2 (n₀ := w.heap.size) hv (by decide) hrow (by omega) HW.out (by omega) hown' hgrow; have hc1 := hv1.cell; have hf1 := hv1.frozen)
   exact ⟨hk2.from _, ⟨hb2, hj2 _ (by omega) (by omega), hj2 _ (by omega) (by omega)⟩, ⟨_, hv2, by rw [intsOf_snoc]; simpa using hr2, trivial⟩, HB.out.trans hb2, Nat.le_trans HW.out hk2.size⟩
  case done =>
   rintro D ys W hD hS ⟨⟨v, hv, hrow, _⟩, hB, _⟩ hK
   have hc := hv.cell
   have HS := Aside0.mk hS
   have HB := Aside0.mk hB
   clear hS hB
   gi_wp2
   refine ⟨by simp, .inl ⟨_, _, rfl, run_takeDeferred hK, ?_⟩⟩
   refine ⟨_, results_tmp rfl _ _ _, v, rfl, ?_, HB.out.trans (belowK_b (w := w) (Nat.le_refl _) W D _ _ (by simp at hD; omega) hK rfl rfl)⟩
   have h1 := Kd.R_of_own (h1 := fun _ => rfl) (ok := fun _ => True) (ownsRow_putObj hrow (.deferred none) hK rfl) (fun _ _ => trivial)
   have h2 : ys = kidsN l0 l0.length from_ e0 := HS.out
   rw [← h2]
   exact Kd.R_lower h1 (by omega)
  case stop =>
   rintro D c pre W _ _ h _
   exact h.elim
def rows_Kids.f (l0 : List (S43)) (a1 : Int) : Option (List Int) := if l0.length < 1954687338268 then some (intsOf (kidsOf l0 a1)) else none
set_option maxHeartbeats 2000000 in
theorem rows_Kids.calls (A0 : Option Addr) (c0 : Nat) (l0 : List (S43)) (a1 : Int) (r : List Int) (w : World) (hr0 : Kd.C k43 w A0 l0.length l0) (hc0 : l0.length ≤ c0) (h : rows_Kids.f l0 a1 = some r) :
  Calls Try.prog 24 #[.slice A0 l0.length c0, .int .i64 a1] w fun e w' => ∃ v0_ : Value, e = .returned (v0_) ∧ Kd.R (Kd.int .i64) 3 w' w.heap.size (fun _ => True) v0_ r ∧ Below w.heap.size w w' := by
 unfold rows_Kids.f at h
 by_cases c : l0.length < 1954687338268
 rotate_left
 ·rw [if_neg c] at h; exact absurd h (by simp)
 rw [if_pos c] at h
 obtain rfl := Option.some.inj h
 clear h
 by_cases h1 : a1 = -1
 ·have := callsIn_wide.1 (kids_some a1 0 l0.length A0 c0 l0 w c hc0 (Nat.le_refl _) (.inl ⟨h1, rfl, rfl⟩) hr0)
  unfold kidsOf
  rw [if_pos h1]
  exact this
 by_cases h2 : 0 ≤ a1 ∧ a1 < (l0.length : Int)
 ·have := callsIn_wide.1 (kids_some a1 (a1.toNat + 1) (endN l0 a1.toNat) A0 c0 l0 w c hc0 (endN_le l0 _ (by omega)) (.inr ⟨h2.1, h2.2, rfl, rfl⟩) hr0)
  unfold kidsOf
  rw [if_neg h1, if_pos h2]
  exact this
 ·have hk : kidsOf l0 a1 = [] := by unfold kidsOf; rw [if_neg h1, if_neg h2]
  rw [hk]
  have hcall := rows_is.calls A0 c0 l0 a1 false w hr0 hc0 (by
   unfold rows_is.f
   by_cases h0 : a1 ≥ 0
   ·rw [if_pos h0, decide_eq_false (fun e => h2 ⟨h0, e⟩)]
   ·rw [if_neg h0])
  have hb1 : (a1 == -1) = false := beq_eq_false_iff_ne.2 h1
  have hb2 : (a1 != -1) = true := bne_iff_ne.2 h1
  clear h1 h2 hk hr0 hc0 c
  go_enter Try.func24, Try.ntmps24
  go_wp2_with (go_at_call 44; refine hcall.mono ?_; rintro e w' ⟨rfl, ⟨nd, rfl⟩⟩)
  go_ret
  exact ⟨_, rfl, Kd.R_nil _ _ _ _ _, by repeat (first | exact Below.refl _ _ | apply below_alloc | apply pw_below_drewN | apply below_drew1)⟩

end


-- NOT PRINTED: function 56 (abi_NoEscape)

-- NOT PRINTED: function 53 (strings_Builder_copyCheck)

-- NOT PRINTED: function 46 (strings_Builder_WriteString)

-- NOT PRINTED: function 47 (strings_Builder_String)

end Go.Proofs.Ytllggaogjcknoaa.QA
