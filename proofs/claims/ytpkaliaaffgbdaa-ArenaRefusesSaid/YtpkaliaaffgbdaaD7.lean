/- slices.Backward at []int: the iterator; a range over it. -/
import Derived.Test.YtpkaliaaffgbdaaD6
namespace Go.Proofs.Ytpkaliaaffgbdaa.QA
open Go.RowKit Go.Proofs.YtpkaliaaffgbdaaW.PrintWords Go.Proofs.YtpkaliaaffgbdaaW.PrintLast Go.Proofs.YtpkaliaaffgbdaaW.PrintMore
attribute [local go_sem] max2_int min2_int max_two min_two max_three min_three max_four min_four   -- for this text's walks alone
set_option linter.unusedVariables false
set_option linter.unusedSimpArgs false

open Go Go.Shelf
attribute [local go_sem] Oper.semAt_some
/-- What has come when k rounds are over. -/
def backAt (ks : List Int) (j : Nat) : Int × Int := (((ks.length - 1 - j : Nat) : Int), (ks[ks.length - 1 - j]?).getD 0)
def uptoB (ks : List Int) (k : Nat) : List (Int × Int) := (List.range k).map (backAt ks)
theorem uptoB_succ (ks : List Int) (k : Nat) : uptoB ks (k + 1) = uptoB ks k ++ [backAt ks k] := by simp [uptoB, List.range_succ]
theorem uptoB_length (ks : List Int) (k : Nat) : (uptoB ks k).length = k := by simp [uptoB]
theorem uptoB_all (ks : List Int) : (uptoB ks ks.length).map (·.2) = ks.reverse := by
  apply List.ext_getElem
  · simp [uptoB]
  · intro i h1 h2
    have : i < ks.length := by simpa using h2
    simp [uptoB, backAt, List.getElem?_eq_getElem (show ks.length - 1 - i < ks.length by omega)]
/-- What a round must keep: all that lay below n₀, and the variable that the iterator reads. -/
def KpB (n₀ b : Nat) (W W' : World) : Prop := Below n₀ W W' ∧ W'.heap[b]? = W.heap[b]?
theorem KpB.trans {n₀ b : Nat} {A B C : World} (h : KpB n₀ b A B) (k : KpB n₀ b B C) : KpB n₀ b A C := ⟨h.1.trans k.1, k.2.trans h.2⟩
def IsBack (ks : List Int) (ys : List (Int × Int)) : Prop := ys = uptoB ks ks.length
def AnyPre (_ : List (Int × Int)) : Prop := True
theorem back_calls (A : Option Addr) (n c : Nat) (w : World) : Calls Try.prog 38 #[.slice A n c] w fun e w' => e = .returned (.func (.func 66) #[] #[.pointer (some ⟨w.heap.size, 0, none⟩)]) ∧ w' = w.alloc (.cells #[.slice A n c] 32) := by
  go_enter Try.func38, Try.ntmps38
  go_wp2
  go_ret
  exact ⟨rfl, rfl⟩
set_option maxRecDepth 100000 in
set_option maxHeartbeats 2000000 in
theorem back1_in (l B n₀ : Nat) (A : Option Addr) (c : Nat) (ks : List Int) (hc0 : ks.length ≤ c) (hm : ks.length < 1000000) (J Jx : List (Int × Int) → World → Prop) (w0 : World) (hr0 : Kd.C (Kd.int .i64) w0 A ks.length ks) (hn : w0.heap.size = n₀)
    (hY : ∀ pre x W, J pre W → pre.length < ks.length → YieldAt Fence.wide 5 Try.prog l #[.int .i64 x.1, .int .i64 x.2] W fun e W' =>
      (e = .returned (.bool true) ∧ J (pre ++ [x]) W' ∧ KpB n₀ B W W') ∨ (e = .returned (.bool false) ∧ Jx (pre ++ [x]) W'))
    (W : World) (hb : Below n₀ w0 W) (hB : W.heap[B]? = some (.cells #[.slice A ks.length c] 32 (0, 0))) (h0 : J [] W) :
    CallsIn Fence.wide 6 Try.prog 66 #[.func (.yield l) #[] #[], .pointer (some ⟨B, 0, none⟩)] W fun e W' => (∃ v, e = .returned v) ∧
      ((∃ ys, IsBack ks ys ∧ J ys W') ∨ (∃ pre, AnyPre pre ∧ Jx pre W')) := by
  have hF : Fence.wide.fn 66 := trivial
  have hro : Fence.wide.round = none := rfl
  have cl : W.cell? ⟨B, 0, none⟩ = some (.slice A ks.length c) := (blk_cell hB 0).trans rfl
  have HB := Aside0.mk hB
  have HW := Aside0.mk hb
  have HR := Aside0.mk hr0
  have hw1 : wrap64 ((ks.length : Int) - 1) = (ks.length : Int) - 1 := by unfold wrap64; omega
  clear hB hb hr0
  refine callsIn_of_wp Try.func66 rfl hF ?_ hro
  simp only [Try.ntmps66, List.size_toArray, List.length_cons, List.length_nil, Nat.reduceAdd, Nat.reduceSub, Array.replicate_succ, Array.replicate_zero, List.push_toArray, List.append_toArray, List.nil_append, List.cons_append]
  gi_wp2
  gi_loopw [3] (fun i wr => ∃ k : Nat, k ≤ ks.length ∧ i = .int .i64 ((ks.length : Int) - 1 - k) ∧ J (uptoB ks k) wr ∧ Aside0 (KpB n₀ B W wr))
    (fun i _ => (intOf i + 1).toNat)
  case atStart => exact ⟨0, Nat.zero_le _, by simp, h0, ⟨⟨Below.refl _ _, rfl⟩⟩⟩
  case round =>
    obtain ⟨k, hk, rfl, hJs, hnx⟩ := hrel
    by_cases hlt : k < ks.length
    · obtain ⟨m, hme⟩ : ∃ m, m = ks.length - 1 - k := ⟨_, rfl⟩
      have hi : m < ks.length := by omega
      have hba : backAt ks k = ((m : Int), rd ks (m : Int)) := by
        unfold backAt rd
        rw [← hme, Int.toNat_natCast, List.getD_eq_getElem?_getD]
      have hYk := hY _ (backAt ks k) wr hJs (by rw [uptoB_length]; exact hlt)
      rw [← uptoB_succ, hba] at hYk
      obtain ⟨fn, tmps, assign, body, hy, hR⟩ := hYk
      obtain ⟨ad, e, hx⟩ := Kd.at_int HR.out (m : Int) (by omega) (by omega)
      subst e
      rw [Int.toNat_natCast] at hx
      have hlt0 := block_lt_of_cell hx
      have hx' := ((HW.out.trans hnx.out.1).cell (p := ad.add m) (by rw [← hn]; exact hlt0)).trans hx
      have e1 : ((ks.length : Int) - 1 - k) = (m : Int) := by omega
      have hcl := (World.cell?_of_block (a := ⟨B, 0, none⟩) hnx.out.2).trans cl
      have hz : (m : Int) < (ks.length : Int) := by omega
      have hw2 : wrap64 ((m : Int) - 1) = (m : Int) - 1 := by unfold wrap64; omega
      generalize rd ks (m : Int) = v at hy hx hx'
      rw [e1]
      dsimp only at hy
      have HM := Aside0.mk hme
      clear cl e1 hx hw1 hme hba
      gi_wp2
      refine hR.mono ?_
      rintro e W3 (⟨rfl, hJ3, hk3⟩ | ⟨rfl, hJx3⟩)
      · gi_wp2
        go_roundw
        case rel => exact ⟨k + 1, by omega, by have := HM.out; congr 1; omega, hJ3, ⟨hnx.out.trans hk3⟩⟩
        case measure => have := HM.out; simp [intOf]
      · gi_wp2
        refine bodyPost_ret (results_none rfl _ _ _) rfl ?_
        exact ⟨⟨_, rfl⟩, .inr ⟨_, trivial, hJx3⟩⟩
    · obtain rfl : k = ks.length := by omega
      gi_wp2
      go_end0
      exact ⟨⟨_, rfl⟩, .inl ⟨_, rfl, hJs⟩⟩
end Go.Proofs.Ytpkaliaaffgbdaa.QA
