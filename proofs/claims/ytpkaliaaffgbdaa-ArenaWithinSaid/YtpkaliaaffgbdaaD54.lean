/- The law ArenaWithin. -/
import Derived.Test.YtpkaliaaffgbdaaM15
import Derived.Test.YtpkaliaaffgbdaaD53
namespace Go.Proofs.Ytpkaliaaffgbdaa.QA
open Go.RowKit Go.Proofs.YtpkaliaaffgbdaaW.PrintWords Go.Proofs.YtpkaliaaffgbdaaW.PrintLast Go.Proofs.YtpkaliaaffgbdaaW.PrintMore
attribute [local go_sem] max2_int min2_int max_two min_two max_three min_three max_four min_four   -- for this text's walks alone
set_option linter.unusedVariables false
set_option linter.unusedSimpArgs false

open Go
section
variable {w W : World} {F : Nat → Prop} {g gR : Nat} {xs xr : List S79}
theorem Both.withinA (h : Both w W F g gR xs xr) (k : Nat) (n o : Int) {r : Bool} (hr : withinF xs k n o = some r) : Calls Try.prog 28 #[.pointer (some ⟨g, 0, none⟩), .int .i64 n, .int .i64 o] W fun e w' => e = .returned (.bool r) ∧ Both w w' F g gR xs xr := by
  obtain ⟨ok, okr, h2, hF⟩ := h
  refine (Doc_Within h2.a k n o r hr).mono ?_
  rintro e w' ⟨rfl, ⟨m, rfl⟩⟩
  exact ⟨rfl, Both.quiet ⟨ok, okr, h2, hF⟩ (pw_below_drewN (Below.refl _ _) m)⟩
theorem Both.withinR (h : Both w W F g gR xs xr) (hp : 0 < xr.length) (k : Nat) (n o : Int) {r : Bool} (hr : withinF xr k n o = some r) : Calls Try.prog 29 #[.pointer (some ⟨gR, 0, none⟩), .int .i64 n, .int .i64 o] W fun e w' => e = .returned (.bool r) ∧ Both w w' F g gR xs xr := by
  obtain ⟨ok, okr, h2, hF⟩ := h
  refine (RD_Within h2.r hp k n o r hr).mono ?_
  rintro e w' ⟨rfl, ⟨m, rfl⟩⟩
  exact ⟨rfl, Both.quiet ⟨ok, okr, h2, hF⟩ (pw_below_drewN (Below.refl _ _) m)⟩
theorem both_rowsA (h : Both w W F g gR xs xr) (hF : Fit xs) (k : Nat) (n : Int) {r : List S54} (hr : rowsR xs k n = some r) : Calls Try.prog 11 #[.pointer (some ⟨g, 0, none⟩), .int .i64 n] W fun e w' => ∃ A c, e = .returned (.slice A r.length c) ∧ Both w w' F g gR xs xr := by
  obtain ⟨ok, okr, h2, hF2⟩ := h
  refine (Doc_Rows h2.a hF k n r hr).mono ?_
  rintro e w' ⟨v, rfl, hS, hB⟩
  obtain ⟨A, c, rfl⟩ := Kd.S_slice hS
  exact ⟨A, c, rfl, Both.quiet ⟨ok, okr, h2, hF2⟩ hB⟩
theorem Both.cellX (h : Both w W F g gR xs xr) : ∃ A c, W.cell? ⟨gR, 0, none⟩ = some (.slice A xr.length c) := by
  obtain ⟨ok, okr, h2, hF⟩ := h
  obtain ⟨A, c, hc⟩ := h2.r.cellX
  exact ⟨A, c, hc⟩
theorem both_new (w : World) : Calls Try.prog 18 #[] w fun e w' => ∃ g, e = .returned (.pointer (some ⟨g, 0, none⟩)) ∧ Has w w' g newDoc := Has.new w w (Below.refl _ _)
end
theorem round_in {m n k q : Nat} (h : m < n) (hg : n - m ≤ k) (hq : q ≤ m) : n - (m + 1) < k ∧ 1 ≤ m + 1 ∧ m + 1 ≤ n ∧ q + 1 ≤ m + 1 ∧ q ≤ m + 1 := by omega
theorem round_op {kk n k : Nat} (h : kk < n) (h2 : kk < 40) (hg : n - kk ≤ k) : n - (kk + 1) < k ∧ kk + 1 ≤ n ∧ kk + 1 ≤ 40 := by omega
set_option maxHeartbeats 16000000 in
set_option maxRecDepth 100000 in
theorem ArenaWithin_calls (w : World) (A0 : Option Addr) (c0 : Nat) (l0 : List SOp) (hC : Kd.C kOp w A0 l0.length l0) (hc0 : l0.length ≤ c0) (hs : ∀ a ∈ l0, a.f5.size ≤ 140737488351232) (a b : Int) :
    Calls Try.prog 6 #[.slice A0 l0.length c0, .int .i64 a, .int .i64 b] w fun e w' => e = .returned (.bool true) ∧ Below w.heap.size w w' := by
  have HC := Aside0.mk hC
  have HS0 := Aside0.mk hs
  clear hC hs
  go_enter Try.func6, Try.ntmps6
  go_wp2_with (first | (go_at_call 18; refine (both_new w).mono ?_; rintro e w1 ⟨g, rfl, hS⟩; have HS := Aside0.mk hS; clear hS) | (go_at_call 19; refine (RD_New w1).mono ?_; rintro e w2 ⟨gR, rfl, hD, hB⟩; have HB := Aside0.mk (Both.start HS.out hB hD); clear HS hD hB))
  go_loopg [9] l0.length (fun gg v9 W => ∃ (kk : Nat) (xs : List S79), kk ≤ l0.length ∧ kk ≤ 40 ∧ l0.length - kk ≤ gg ∧ v9 = .int .i64 (kk : Int) ∧ Aside0 (Both w W (fun _ => False) g gR xs xs ∧ Good (kk + 4) xs ∧ Neat xs))
  case atStart => exact ⟨0, newDoc, Nat.zero_le _, Nat.zero_le _, by omega, rfl, ⟨⟨HB.out, good_new.weak (Nat.zero_le _), neat_new⟩⟩⟩
  case round =>
    clear HB
    obtain ⟨kk, xs, hkk, hk40, hgg, rfl, HR⟩ := hrel
    have HB := Aside0.mk HR.out.1
    have HG := Aside0.mk HR.out.2.1
    have HN := Aside0.mk HR.out.2.2
    clear HR
    obtain ⟨AX, cX, hcx⟩ := HB.out.cellX
    by_cases hlt : kk < l0.length ∧ kk < 40 ∧ xs.length < 300
    rotate_left
    · have hx : (¬ kk < l0.length) ∨ (kk < l0.length ∧ ¬ kk < 40) ∨ (kk < l0.length ∧ kk < 40 ∧ ¬ xs.length < 300) := by omega
      obtain ⟨k, r, hk, _⟩ := withinF_some HG.out a b
      obtain ⟨l, hl, _⟩ := rowsR_some HG.out 0
      have HK := Aside0.mk hk
      have HL := Aside0.mk hl
      have HP := Aside0.mk HG.out.tree.pos
      have HCN := Aside0.mk (cnt0_rows HG.out hl)
      have HXL := Aside0.mk HG.out.len
      clear hlt hk hl HN
      rcases hx with hx | ⟨hx, hy⟩ | ⟨hx, hy, hz⟩
      all_goals
        cases r
        all_goals
          go_wp2_with (first | (go_at_call 28; refine (HB.out.withinA k a b HK.out).mono ?_; rintro e w1 ⟨rfl, hS⟩; clear HB hcx; have HB := Aside0.mk hS; clear hS) | (go_at_call 29; refine (HB.out.withinR HP.out k a b HK.out).mono ?_; rintro e w2 ⟨rfl, hS⟩; clear HB; have HB := Aside0.mk hS; clear hS))
          go_loopg [10, 11] xs.length (fun gg v10 v11 W => ∃ (m q : Nat), 1 ≤ m ∧ m ≤ xs.length ∧ xs.length - m ≤ gg ∧ q ≤ m ∧ v10 = .int .i64 (q : Int) ∧ v11 = .int .i64 (m : Int) ∧ Aside0 (cnt0 xs m = q + 1 ∧ Both w W (fun _ => False) g gR xs xs))
          case atStart => exact ⟨1, 0, Nat.le_refl _, HP.out, by omega, Nat.zero_le _, rfl, rfl, ⟨⟨cnt0_one xs, HB.out⟩⟩⟩
          case round =>
            clear HB
            obtain ⟨m, q, hm1, hm, hgg, hqm, rfl, rfl, HI⟩ := hrel
            obtain ⟨AX, cX, hcx⟩ := HI.out.2.cellX
            have HB := Aside0.mk HI.out.2
            by_cases hmx : m < xs.length
            · have z1 : (m : Int) < (xs.length : Int) := by omega
              have HMS := Aside0.mk (round_in hmx hgg hqm)
              have hsc := cnt0_succ xs m
              rw [HI.out.1] at hsc
              obtain ⟨k2, hk2⟩ := within0 HG.out m hmx
              have HXM := Aside0.mk (show m ≤ 4096 from by have := HXL.out; omega)
              have hw := up1 (i := q) (by have := HXM.out; omega)
              clear HI hgg hx hqm hm1 hm hmx
              cases hin : in0 xs m with
              | true =>
                rw [hin, if_pos rfl] at hsc
                rw [hin] at hk2
                have HSC := Aside0.mk hsc
                have HK2 := Aside0.mk hk2
                clear hsc hk2 hin
                have hw2 := up1 (i := m) (by have := HXM.out; omega)
                go_wp2_with (first | (go_at_call 28; refine (HB.out.withinA k2 (m : Int) 0 HK2.out).mono ?_; rintro e w3 ⟨rfl, hS⟩; clear HB hcx; have HB := Aside0.mk hS; clear hS))
                go_roundg (xs.length - (m + 1))
                case measure => exact HMS.out.1
                case rel => exact ⟨m + 1, q + 1, HMS.out.2.1, HMS.out.2.2.1, Nat.le_refl _, HMS.out.2.2.2.1, by first | rfl | go_num, by first | rfl | go_num, ⟨⟨HSC.out, HB.out⟩⟩⟩
              | false =>
                rw [hin, if_neg (by decide), Nat.add_zero] at hsc
                rw [hin] at hk2
                have HSC := Aside0.mk hsc
                have HK2 := Aside0.mk hk2
                clear hsc hk2 hin
                have hw2 := up1 (i := m) (by have := HXM.out; omega)
                go_wp2_with (first | (go_at_call 28; refine (HB.out.withinA k2 (m : Int) 0 HK2.out).mono ?_; rintro e w3 ⟨rfl, hS⟩; clear HB hcx; have HB := Aside0.mk hS; clear hS))
                go_roundg (xs.length - (m + 1))
                case measure => exact HMS.out.1
                case rel => exact ⟨m + 1, q, HMS.out.2.1, HMS.out.2.2.1, Nat.le_refl _, HMS.out.2.2.2.2, by first | rfl | go_num, by first | rfl | go_num, ⟨⟨HSC.out, HB.out⟩⟩⟩
            · obtain rfl : m = xs.length := by omega
              have z1 : ¬ (xs.length : Int) < (xs.length : Int) := by omega
              have hq : q = l.length := by have := HI.out.1; have := HCN.out; omega
              subst hq
              clear HI hx hgg hqm hmx
              go_wp2_with (first | (go_at_call 11; refine (both_rowsA HB.out (HG.out.fit (by omega)) _ 0 HL.out).mono ?_; rintro e w4 ⟨Ar, cr, rfl, hS⟩; clear HB hcx; have HB := Aside0.mk hS; clear hS) | (go_at_call 13; refine (fixed_calls _).mono ?_; rintro e w5 ⟨rfl, hB⟩; have HE := Aside0.mk (HB.out.quiet hB).bel; clear hB))
              go_ret
              exact ⟨rfl, HE.out⟩
    · obtain ⟨hlt1, hlt2, hlt3⟩ := hlt
      have d1 : decide ((kk : Int) < (l0.length : Int)) = true := decide_eq_true (by omega)
      have d2 : decide ((kk : Int) < 40) = true := decide_eq_true (by omega)
      have d3 : decide ((xs.length : Int) < 300) = true := decide_eq_true (by omega)
      have z1 : (kk : Int) < (l0.length : Int) := by omega
      obtain ⟨ad, A7, c7, e4, ⟨hx0, hx1, hx2, hx3, hx4, hx5, hx6, hx7⟩, hl7, hi7⟩ := at_Op HC.out kk hlt1
      subst e4
      have hn5 := HS0.out l0[kk] (List.getElem_mem hlt1)
      have hB := HB.out.bel
      replace hx0 := (hB.cell (block_lt_of_cell hx0)).trans hx0
      replace hx1 := (hB.cell (block_lt_of_cell hx1)).trans hx1
      replace hx2 := (hB.cell (block_lt_of_cell hx2)).trans hx2
      replace hx3 := (hB.cell (block_lt_of_cell hx3)).trans hx3
      replace hx4 := (hB.cell (block_lt_of_cell hx4)).trans hx4
      replace hx5 := (hB.cell (block_lt_of_cell hx5)).trans hx5
      replace hx6 := (hB.cell (block_lt_of_cell hx6)).trans hx6
      replace hx7 := (hB.cell (block_lt_of_cell hx7)).trans hx7
      have HL7 := Aside0.mk (And.intro hl7 hi7)
      clear hl7 hi7 hB
      generalize l0[kk] = o at hn5 HL7 hx0 hx1 hx2 hx3 hx4 hx5 hx6 hx7
      have HN5 := Aside0.mk hn5
      clear hn5
      by_cases h8 : o.f0 = 8
      · rw [h8] at hx0
        clear HL7 HN5
        go_wp2
        go_roundg (l0.length - (kk + 1))
        case measure => omega
        case rel => exact ⟨kk + 1, xs, by omega, by omega, by omega, by go_num, ⟨⟨HB.out, HG.out.weak (by omega), HN.out⟩⟩⟩
      · have h8b : (o.f0 != 8) = true := bne_iff_ne.2 h8
        obtain ⟨an, e, ys, hA, hR, hG2, hN2, ha⟩ := ans_some HG.out (by omega) (by omega) HN.out o HN5.out
        have HA := Aside0.mk (And.intro hA (And.intro hR ha))
        have HG2 := Aside0.mk (And.intro hG2 hN2)
        clear hA hR hG2 hN2 ha h8
        go_wp2_with (first | (go_at_call 23; refine (tells_calls w _ g gR (kk + 4) xs xs ys ys HB.out HG.out (by omega) o A7 c7 HL7.out.1 HL7.out.2 HN5.out an an e e HA.out.1 HA.out.2.1 HA.out.2.2).mono ?_; rintro q W4 ⟨bb, rfl, hbb, hB2⟩; obtain rfl := hbb rfl rfl; have HE := Aside0.mk hB2; clear hB2 hbb))
        go_roundg (l0.length - (kk + 1))
        case measure => omega
        case rel => exact ⟨kk + 1, ys, by omega, by omega, by omega, by go_num, ⟨⟨HE.out, by have h_ := HG2.out.1; rwa [show kk + 4 + 1 = kk + 1 + 4 by omega] at h_, HG2.out.2⟩⟩⟩
end Go.Proofs.Ytpkaliaaffgbdaa.QA
