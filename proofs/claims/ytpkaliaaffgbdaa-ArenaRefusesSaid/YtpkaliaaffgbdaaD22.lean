/- The law ArenaRefuses. -/
import Derived.Test.YtpkaliaaffgbdaaD21
namespace Go.Proofs.Ytpkaliaaffgbdaa.QA
open Go.RowKit Go.Proofs.YtpkaliaaffgbdaaW.PrintWords Go.Proofs.YtpkaliaaffgbdaaW.PrintLast Go.Proofs.YtpkaliaaffgbdaaW.PrintMore
attribute [local go_sem] max2_int min2_int max_two min_two max_three min_three max_four min_four   -- for this text's walks alone
set_option linter.unusedVariables false
set_option linter.unusedSimpArgs false

open Go
set_option maxHeartbeats 16000000 in
set_option maxRecDepth 100000 in
theorem ArenaRefuses_calls (w : World) (A0 : Option Addr) (c0 : Nat) (l0 : List SOp) (hC : Kd.C kOp w A0 l0.length l0) (hc0 : l0.length ≤ c0) (hs : ∀ a ∈ l0, a.f5.size ≤ 140737488351232) :
    Calls Try.prog 8 #[.slice A0 l0.length c0] w fun e w' => e = .returned (.bool true) ∧ Below w.heap.size w w' := by
  have HC := Aside0.mk hC
  have HS0 := Aside0.mk hs
  clear hC hs
  go_enter Try.func8, Try.ntmps8
  have k1 := Aside0.mk trivial
  go_wp2_with (first | (go_at_call 18; clear k1; refine (Has.new w w (Below.refl _ _)).mono ?_; rintro e w1 ⟨g, rfl, hS⟩; have HS := Aside0.mk hS; clear hS))
  go_loopg [4] l0.length (fun gg v4 W => ∃ (kk : Nat) (xs : List S79), kk ≤ l0.length ∧ kk ≤ 40 ∧ l0.length - kk ≤ gg ∧ v4 = .int .i64 (kk : Int) ∧ Aside0 (Has w W g xs ∧ Good (kk + 4) xs))
  case atStart => exact ⟨0, newDoc, Nat.zero_le _, Nat.zero_le _, by omega, rfl, ⟨⟨HS.out, good_new.weak (Nat.zero_le _)⟩⟩⟩
  case round =>
    clear HS
    obtain ⟨kk, xs, hkk, hk40, hgg, rfl, HR⟩ := hrel
    have k1 := Aside0.mk trivial
    have k9 := Aside0.mk trivial
    by_cases hlt : kk < l0.length ∧ kk < 40 ∧ xs.length < 300
    rotate_left
    · have hx : (¬ kk < l0.length) ∨ (kk < l0.length ∧ ¬ kk < 40) ∨ (kk < l0.length ∧ kk < 40 ∧ ¬ xs.length < 300) := by omega
      have HH := Aside0.mk HR.out.1
      clear HR hlt
      rcases hx with hx | ⟨hx, hy⟩ | ⟨hx, hy, hz⟩
      all_goals
        go_wp2_with (first | (go_at_call 30; clear k1; refine (HH.out.len rfl).mono ?_; rintro e w1 ⟨rfl, hS, _⟩; clear HH; have HH := Aside0.mk hS; clear hS) | (go_at_call 13; clear k9; refine (fixed_calls _).mono ?_; rintro e w1 ⟨rfl, hB⟩; have HE := Aside0.mk (HH.out.quiet hB).bel; clear hB))
        go_ret
        exact ⟨rfl, HE.out⟩
    · obtain ⟨hlt1, hlt2, hlt3⟩ := hlt
      have d1 : decide ((kk : Int) < (l0.length : Int)) = true := decide_eq_true (by omega)
      have d2 : decide ((kk : Int) < 40) = true := decide_eq_true (by omega)
      have d3 : decide ((xs.length : Int) < 300) = true := decide_eq_true (by omega)
      have z1 : (kk : Int) < (l0.length : Int) := by omega
      obtain ⟨ad, A7, c7, e4, ⟨hx0, hx1, hx2, hx3, hx4, hx5, hx6, hx7⟩, hl7, hi7⟩ := at_Op HC.out kk hlt1
      subst e4
      have hn5 := HS0.out l0[kk] (List.getElem_mem hlt1)
      have HX : Aside0 (∀ W, Below w.heap.size w W → W.cell? (ad.add (kk * 8)) = some (.int .i64 l0[kk].f0) ∧ W.cell? ⟨(ad.add (kk * 8)).block, (ad.add (kk * 8)).off + 1, none⟩ = some (.int .i64 l0[kk].f1) ∧ W.cell? ⟨(ad.add (kk * 8)).block, (ad.add (kk * 8)).off + 2, none⟩ = some (.int .i64 l0[kk].f2) ∧ W.cell? ⟨(ad.add (kk * 8)).block, (ad.add (kk * 8)).off + 3, none⟩ = some (.int .i64 l0[kk].f3) ∧ W.cell? ⟨(ad.add (kk * 8)).block, (ad.add (kk * 8)).off + 4, none⟩ = some (.int .i64 l0[kk].f4) ∧ W.cell? ⟨(ad.add (kk * 8)).block, (ad.add (kk * 8)).off + 5, none⟩ = some (.string l0[kk].f5) ∧ W.cell? ⟨(ad.add (kk * 8)).block, (ad.add (kk * 8)).off + 6, none⟩ = some (.string l0[kk].f6) ∧ W.cell? ⟨(ad.add (kk * 8)).block, (ad.add (kk * 8)).off + 7, none⟩ = some (.slice A7 l0[kk].f7.length c7)) :=
        ⟨fun W hB => ⟨(hB.cell (block_lt_of_cell hx0)).trans hx0, (hB.cell (block_lt_of_cell hx1)).trans hx1, (hB.cell (block_lt_of_cell hx2)).trans hx2, (hB.cell (block_lt_of_cell hx3)).trans hx3, (hB.cell (block_lt_of_cell hx4)).trans hx4, (hB.cell (block_lt_of_cell hx5)).trans hx5, (hB.cell (block_lt_of_cell hx6)).trans hx6, (hB.cell (block_lt_of_cell hx7)).trans hx7⟩⟩
      have HL7 := Aside0.mk (And.intro hl7 hi7)
      clear hx0 hx1 hx2 hx3 hx4 hx5 hx6 hx7 hl7 hi7
      generalize l0[kk] = o at hn5 HX HL7
      obtain ⟨f0, f1, f2, f3, f4, f5, f6, f7⟩ := o
      dsimp only at hn5 HX HL7
      have HN5 := Aside0.mk hn5
      clear hn5
      have HH := Aside0.mk HR.out.1
      have HG := Aside0.mk HR.out.2
      clear HR
      obtain ⟨r, hr, _⟩ := rowsR_some HG.out 0
      have HRR := Aside0.mk hr
      clear hr
      have k2 := Aside0.mk trivial
      have k3 := Aside0.mk trivial
      have k4 := Aside0.mk trivial
      have k5 := Aside0.mk trivial
      have k6 := Aside0.mk trivial
      have k7 := Aside0.mk trivial
      have k8 := Aside0.mk trivial
      have hk : f0 = 0 ∨ f0 = 1 ∨ f0 = 2 ∨ f0 = 3 ∨ f0 = 4 ∨ f0 = 5 ∨ f0 = 6 ∨ f0 = 7 ∨ (f0 ≠ 0 ∧ f0 ≠ 1 ∧ f0 ≠ 2 ∧ f0 ≠ 3 ∧ f0 ≠ 4 ∧ f0 ≠ 5 ∧ f0 ≠ 6 ∧ f0 ≠ 7) := by omega
      rcases hk with rfl | rfl | rfl | rfl | rfl | rfl | rfl | rfl | ⟨m0, m1, m2, m3, m4, m5, m6, m7⟩
      · obtain ⟨ee, ys, hK, hO⟩ := op_make w g HG.out f4 f5 f6 HN5.out
        have HO := Aside0.mk hO
        have HK := Aside0.mk hK
        clear hO hK
        by_cases he : ee = 0
        · subst he
          have hle := HK.out.2.1
          have hlf : decide ((ys.length : Int) < (xs.length : Int)) = false := decide_eq_false (by omega)
          go_wp2_with (first | (go_at_call 30; clear k1; refine (HH.out.len rfl).mono ?_; rintro e w1 ⟨rfl, hS, _⟩; clear HH; have HH := Aside0.mk hS; clear hS; obtain ⟨y0, y1, y2, y3, y4, y5, y6, y7⟩ := HX.out _ HH.out.bel) | (go_at_call 30; clear k2; refine ((HH.out.quiet (below_alloc (Below.refl _ _) _)).len rfl).mono ?_; rintro e w2 ⟨rfl, hS, hB⟩; have HBX := Aside0.mk ((hB.block w1.heap.size (by simp)).trans (blk_new w1 _)); clear HH; have HH := Aside0.mk hS; clear hS hB y0 y1 y2 y3 y4 y5 y6 y7) | (go_at_call 11; clear k3; refine (rows_LInv HH.out (HG.out.fit (by omega)) _ HRR.out).mono ?_; rintro e w3 ⟨A1, c1, rfl, hL, hB⟩; have bx := (hB.block w1.heap.size (blk_lt HBX.out)).trans HBX.out; have q0 := (blk_cell bx 0).trans rfl; have q1 := (blk_cell bx 1).trans rfl; have q2 := (blk_cell bx 2).trans rfl; have q3 := (blk_cell bx 3).trans rfl; have q4 := (blk_cell bx 4).trans rfl; have q5 := (blk_cell bx 5).trans rfl; have q6 := (blk_cell bx 6).trans rfl; have q7 := (blk_cell bx 7).trans rfl; clear HH HBX bx hB; have HL := Aside0.mk hL; clear hL) | (go_at_call 21; clear k4; refine (HO.out _ _ _ HL.out).mono ?_; rintro e w4 ⟨a4, rfl, hL⟩; clear HL; have HL := Aside0.mk hL; clear q0 q1 q2 q3 q4 q5 q6 q7; clear hL) | (go_at_call 30; clear k5; refine (HL.out.len rfl).mono ?_; rintro e w4 ⟨rfl, hL⟩; clear HL; have HL := Aside0.mk hL; clear hL))
          go_roundg (l0.length - (kk + 1))
          case measure => omega
          case rel => exact ⟨kk + 1, ys, by omega, by omega, by omega, by go_num, ⟨⟨HL.out.has, by have h_ := HK.out.2.2; rwa [show kk + 4 + 1 = kk + 1 + 4 by omega] at h_⟩⟩⟩
        · have hys := HK.out.1 he
          subst hys
          have he0 : (ee != 0) = true := bne_iff_ne.2 he
          go_wp2_with (first | (go_at_call 30; clear k1; refine (HH.out.len rfl).mono ?_; rintro e w1 ⟨rfl, hS, _⟩; clear HH; have HH := Aside0.mk hS; clear hS; obtain ⟨y0, y1, y2, y3, y4, y5, y6, y7⟩ := HX.out _ HH.out.bel) | (go_at_call 30; clear k2; refine ((HH.out.quiet (below_alloc (Below.refl _ _) _)).len rfl).mono ?_; rintro e w2 ⟨rfl, hS, hB⟩; have HBX := Aside0.mk ((hB.block w1.heap.size (by simp)).trans (blk_new w1 _)); clear HH; have HH := Aside0.mk hS; clear hS hB y0 y1 y2 y3 y4 y5 y6 y7) | (go_at_call 11; clear k3; refine (rows_LInv HH.out (HG.out.fit (by omega)) _ HRR.out).mono ?_; rintro e w3 ⟨A1, c1, rfl, hL, hB⟩; have bx := (hB.block w1.heap.size (blk_lt HBX.out)).trans HBX.out; have q0 := (blk_cell bx 0).trans rfl; have q1 := (blk_cell bx 1).trans rfl; have q2 := (blk_cell bx 2).trans rfl; have q3 := (blk_cell bx 3).trans rfl; have q4 := (blk_cell bx 4).trans rfl; have q5 := (blk_cell bx 5).trans rfl; have q6 := (blk_cell bx 6).trans rfl; have q7 := (blk_cell bx 7).trans rfl; clear HH HBX bx hB; have HL := Aside0.mk hL; clear hL) | (go_at_call 21; clear k4; refine (HO.out _ _ _ HL.out).mono ?_; rintro e w4 ⟨a4, rfl, hL⟩; clear HL; have HL := Aside0.mk hL; clear q0 q1 q2 q3 q4 q5 q6 q7; clear hL) | (go_at_call 30; clear k5; refine (HL.out.len rfl).mono ?_; rintro e w4 ⟨rfl, hL⟩; clear HL; have HL := Aside0.mk hL; clear hL) | (go_at_call 11; clear k6; refine (HL.out.rows2 (HG.out.fit (by omega)) _ HRR.out).mono ?_; rintro e w4 ⟨A2, c2, rfl, hC2, hL⟩; clear HL; have HL := Aside0.mk hL; have HC2 := Aside0.mk hC2; clear hL hC2) | (go_at_call 16; clear k7; refine (HL.out.same HC2.out).mono ?_; rintro e w4 ⟨rfl, hL⟩; clear HL HC2; have HL := Aside0.mk hL; clear hL) | (go_at_call 30; clear k8; refine (HL.out.len rfl).mono ?_; rintro e w4 ⟨rfl, hL⟩; clear HL; have HL := Aside0.mk hL; clear hL))
          go_roundg (l0.length - (kk + 1))
          case measure => omega
          case rel => exact ⟨kk + 1, ys, by omega, by omega, by omega, by go_num, ⟨⟨HL.out.has, by have h_ := HK.out.2.2; rwa [show kk + 4 + 1 = kk + 1 + 4 by omega] at h_⟩⟩⟩
      · obtain ⟨ee, ys, hK, hO⟩ := op_load w g HG.out (by omega) (by omega) f7
        have HO := Aside0.mk hO
        have HK := Aside0.mk hK
        clear hO hK
        by_cases he : ee = 0
        · subst he
          have hle := HK.out.2.1
          have hlf : decide ((ys.length : Int) < (xs.length : Int)) = false := decide_eq_false (by omega)
          go_wp2_with (first | (go_at_call 30; clear k1; refine (HH.out.len rfl).mono ?_; rintro e w1 ⟨rfl, hS, _⟩; clear HH; have HH := Aside0.mk hS; clear hS; obtain ⟨y0, y1, y2, y3, y4, y5, y6, y7⟩ := HX.out _ HH.out.bel) | (go_at_call 30; clear k2; refine ((HH.out.quiet (below_alloc (Below.refl _ _) _)).len rfl).mono ?_; rintro e w2 ⟨rfl, hS, hB⟩; have HBX := Aside0.mk ((hB.block w1.heap.size (by simp)).trans (blk_new w1 _)); clear HH; have HH := Aside0.mk hS; clear hS hB y0 y1 y2 y3 y4 y5 y6 y7) | (go_at_call 11; clear k3; refine (rows_LInv HH.out (HG.out.fit (by omega)) _ HRR.out).mono ?_; rintro e w3 ⟨A1, c1, rfl, hL, hB⟩; have bx := (hB.block w1.heap.size (blk_lt HBX.out)).trans HBX.out; have q0 := (blk_cell bx 0).trans rfl; have q1 := (blk_cell bx 1).trans rfl; have q2 := (blk_cell bx 2).trans rfl; have q3 := (blk_cell bx 3).trans rfl; have q4 := (blk_cell bx 4).trans rfl; have q5 := (blk_cell bx 5).trans rfl; have q6 := (blk_cell bx 6).trans rfl; have q7 := (blk_cell bx 7).trans rfl; clear HH HBX bx hB; have HL := Aside0.mk hL; clear hL) | (go_at_call 34; refine (trees_calls w _ HL.out.has.bel A7 c7 f7 HL7.out.2 HL7.out.1).mono ?_; rintro e w5 ⟨At, ct, rfl, h1, hF, hB⟩; have HT := Aside0.mk (HO.out _ _ _ _ At ct (HL.out.quiet hB) h1 hB HL.out hF); clear q0 q1 q2 q3 q4 q5 q6 q7; clear h1 hF hB) | (go_at_call 33; clear k4; refine HT.out.mono ?_; rintro e w4 ⟨a4, rfl, hL⟩; clear HL HT; have HL := Aside0.mk hL; clear hL) | (go_at_call 30; clear k5; refine (HL.out.len rfl).mono ?_; rintro e w4 ⟨rfl, hL⟩; clear HL; have HL := Aside0.mk hL; clear hL))
          go_roundg (l0.length - (kk + 1))
          case measure => omega
          case rel => exact ⟨kk + 1, ys, by omega, by omega, by omega, by go_num, ⟨⟨HL.out.has, by have h_ := HK.out.2.2; rwa [show kk + 4 + 1 = kk + 1 + 4 by omega] at h_⟩⟩⟩
        · have hys := HK.out.1 he
          subst hys
          have he0 : (ee != 0) = true := bne_iff_ne.2 he
          go_wp2_with (first | (go_at_call 30; clear k1; refine (HH.out.len rfl).mono ?_; rintro e w1 ⟨rfl, hS, _⟩; clear HH; have HH := Aside0.mk hS; clear hS; obtain ⟨y0, y1, y2, y3, y4, y5, y6, y7⟩ := HX.out _ HH.out.bel) | (go_at_call 30; clear k2; refine ((HH.out.quiet (below_alloc (Below.refl _ _) _)).len rfl).mono ?_; rintro e w2 ⟨rfl, hS, hB⟩; have HBX := Aside0.mk ((hB.block w1.heap.size (by simp)).trans (blk_new w1 _)); clear HH; have HH := Aside0.mk hS; clear hS hB y0 y1 y2 y3 y4 y5 y6 y7) | (go_at_call 11; clear k3; refine (rows_LInv HH.out (HG.out.fit (by omega)) _ HRR.out).mono ?_; rintro e w3 ⟨A1, c1, rfl, hL, hB⟩; have bx := (hB.block w1.heap.size (blk_lt HBX.out)).trans HBX.out; have q0 := (blk_cell bx 0).trans rfl; have q1 := (blk_cell bx 1).trans rfl; have q2 := (blk_cell bx 2).trans rfl; have q3 := (blk_cell bx 3).trans rfl; have q4 := (blk_cell bx 4).trans rfl; have q5 := (blk_cell bx 5).trans rfl; have q6 := (blk_cell bx 6).trans rfl; have q7 := (blk_cell bx 7).trans rfl; clear HH HBX bx hB; have HL := Aside0.mk hL; clear hL) | (go_at_call 34; refine (trees_calls w _ HL.out.has.bel A7 c7 f7 HL7.out.2 HL7.out.1).mono ?_; rintro e w5 ⟨At, ct, rfl, h1, hF, hB⟩; have HT := Aside0.mk (HO.out _ _ _ _ At ct (HL.out.quiet hB) h1 hB HL.out hF); clear q0 q1 q2 q3 q4 q5 q6 q7; clear h1 hF hB) | (go_at_call 33; clear k4; refine HT.out.mono ?_; rintro e w4 ⟨a4, rfl, hL⟩; clear HL HT; have HL := Aside0.mk hL; clear hL) | (go_at_call 30; clear k5; refine (HL.out.len rfl).mono ?_; rintro e w4 ⟨rfl, hL⟩; clear HL; have HL := Aside0.mk hL; clear hL) | (go_at_call 11; clear k6; refine (HL.out.rows2 (HG.out.fit (by omega)) _ HRR.out).mono ?_; rintro e w4 ⟨A2, c2, rfl, hC2, hL⟩; clear HL; have HL := Aside0.mk hL; have HC2 := Aside0.mk hC2; clear hL hC2) | (go_at_call 16; clear k7; refine (HL.out.same HC2.out).mono ?_; rintro e w4 ⟨rfl, hL⟩; clear HL HC2; have HL := Aside0.mk hL; clear hL) | (go_at_call 30; clear k8; refine (HL.out.len rfl).mono ?_; rintro e w4 ⟨rfl, hL⟩; clear HL; have HL := Aside0.mk hL; clear hL))
          go_roundg (l0.length - (kk + 1))
          case measure => omega
          case rel => exact ⟨kk + 1, ys, by omega, by omega, by omega, by go_num, ⟨⟨HL.out.has, by have h_ := HK.out.2.2; rwa [show kk + 4 + 1 = kk + 1 + 4 by omega] at h_⟩⟩⟩
      · obtain ⟨ee, ys, hK, hO⟩ := op_insert w g HG.out (by omega) f1 f3 f2
        have HO := Aside0.mk hO
        have HK := Aside0.mk hK
        clear hO hK
        by_cases he : ee = 0
        · subst he
          have hle := HK.out.2.1
          have hlf : decide ((ys.length : Int) < (xs.length : Int)) = false := decide_eq_false (by omega)
          go_wp2_with (first | (go_at_call 30; clear k1; refine (HH.out.len rfl).mono ?_; rintro e w1 ⟨rfl, hS, _⟩; clear HH; have HH := Aside0.mk hS; clear hS; obtain ⟨y0, y1, y2, y3, y4, y5, y6, y7⟩ := HX.out _ HH.out.bel) | (go_at_call 30; clear k2; refine ((HH.out.quiet (below_alloc (Below.refl _ _) _)).len rfl).mono ?_; rintro e w2 ⟨rfl, hS, hB⟩; have HBX := Aside0.mk ((hB.block w1.heap.size (by simp)).trans (blk_new w1 _)); clear HH; have HH := Aside0.mk hS; clear hS hB y0 y1 y2 y3 y4 y5 y6 y7) | (go_at_call 11; clear k3; refine (rows_LInv HH.out (HG.out.fit (by omega)) _ HRR.out).mono ?_; rintro e w3 ⟨A1, c1, rfl, hL, hB⟩; have bx := (hB.block w1.heap.size (blk_lt HBX.out)).trans HBX.out; have q0 := (blk_cell bx 0).trans rfl; have q1 := (blk_cell bx 1).trans rfl; have q2 := (blk_cell bx 2).trans rfl; have q3 := (blk_cell bx 3).trans rfl; have q4 := (blk_cell bx 4).trans rfl; have q5 := (blk_cell bx 5).trans rfl; have q6 := (blk_cell bx 6).trans rfl; have q7 := (blk_cell bx 7).trans rfl; clear HH HBX bx hB; have HL := Aside0.mk hL; clear hL) | (go_at_call 12; clear k4; refine (HO.out _ _ _ HL.out).mono ?_; rintro e w4 ⟨rfl, hL⟩; clear HL; have HL := Aside0.mk hL; clear q0 q1 q2 q3 q4 q5 q6 q7; clear hL) | (go_at_call 30; clear k5; refine (HL.out.len rfl).mono ?_; rintro e w4 ⟨rfl, hL⟩; clear HL; have HL := Aside0.mk hL; clear hL))
          go_roundg (l0.length - (kk + 1))
          case measure => omega
          case rel => exact ⟨kk + 1, ys, by omega, by omega, by omega, by go_num, ⟨⟨HL.out.has, by have h_ := HK.out.2.2; rwa [show kk + 4 + 1 = kk + 1 + 4 by omega] at h_⟩⟩⟩
        · have hys := HK.out.1 he
          subst hys
          have he0 : (ee != 0) = true := bne_iff_ne.2 he
          go_wp2_with (first | (go_at_call 30; clear k1; refine (HH.out.len rfl).mono ?_; rintro e w1 ⟨rfl, hS, _⟩; clear HH; have HH := Aside0.mk hS; clear hS; obtain ⟨y0, y1, y2, y3, y4, y5, y6, y7⟩ := HX.out _ HH.out.bel) | (go_at_call 30; clear k2; refine ((HH.out.quiet (below_alloc (Below.refl _ _) _)).len rfl).mono ?_; rintro e w2 ⟨rfl, hS, hB⟩; have HBX := Aside0.mk ((hB.block w1.heap.size (by simp)).trans (blk_new w1 _)); clear HH; have HH := Aside0.mk hS; clear hS hB y0 y1 y2 y3 y4 y5 y6 y7) | (go_at_call 11; clear k3; refine (rows_LInv HH.out (HG.out.fit (by omega)) _ HRR.out).mono ?_; rintro e w3 ⟨A1, c1, rfl, hL, hB⟩; have bx := (hB.block w1.heap.size (blk_lt HBX.out)).trans HBX.out; have q0 := (blk_cell bx 0).trans rfl; have q1 := (blk_cell bx 1).trans rfl; have q2 := (blk_cell bx 2).trans rfl; have q3 := (blk_cell bx 3).trans rfl; have q4 := (blk_cell bx 4).trans rfl; have q5 := (blk_cell bx 5).trans rfl; have q6 := (blk_cell bx 6).trans rfl; have q7 := (blk_cell bx 7).trans rfl; clear HH HBX bx hB; have HL := Aside0.mk hL; clear hL) | (go_at_call 12; clear k4; refine (HO.out _ _ _ HL.out).mono ?_; rintro e w4 ⟨rfl, hL⟩; clear HL; have HL := Aside0.mk hL; clear q0 q1 q2 q3 q4 q5 q6 q7; clear hL) | (go_at_call 30; clear k5; refine (HL.out.len rfl).mono ?_; rintro e w4 ⟨rfl, hL⟩; clear HL; have HL := Aside0.mk hL; clear hL) | (go_at_call 11; clear k6; refine (HL.out.rows2 (HG.out.fit (by omega)) _ HRR.out).mono ?_; rintro e w4 ⟨A2, c2, rfl, hC2, hL⟩; clear HL; have HL := Aside0.mk hL; have HC2 := Aside0.mk hC2; clear hL hC2) | (go_at_call 16; clear k7; refine (HL.out.same HC2.out).mono ?_; rintro e w4 ⟨rfl, hL⟩; clear HL HC2; have HL := Aside0.mk hL; clear hL) | (go_at_call 30; clear k8; refine (HL.out.len rfl).mono ?_; rintro e w4 ⟨rfl, hL⟩; clear HL; have HL := Aside0.mk hL; clear hL))
          go_roundg (l0.length - (kk + 1))
          case measure => omega
          case rel => exact ⟨kk + 1, ys, by omega, by omega, by omega, by go_num, ⟨⟨HL.out.has, by have h_ := HK.out.2.2; rwa [show kk + 4 + 1 = kk + 1 + 4 by omega] at h_⟩⟩⟩
      · obtain ⟨ee, ys, hK, hO⟩ := op_remove w g HG.out (by omega) f1
        have HO := Aside0.mk hO
        have HK := Aside0.mk hK
        clear hO hK
        by_cases he : ee = 0
        · subst he
          have hle := HK.out.2.1
          have hlf : decide ((ys.length : Int) < (xs.length : Int)) = false := decide_eq_false (by omega)
          go_wp2_with (first | (go_at_call 30; clear k1; refine (HH.out.len rfl).mono ?_; rintro e w1 ⟨rfl, hS, _⟩; clear HH; have HH := Aside0.mk hS; clear hS; obtain ⟨y0, y1, y2, y3, y4, y5, y6, y7⟩ := HX.out _ HH.out.bel) | (go_at_call 30; clear k2; refine ((HH.out.quiet (below_alloc (Below.refl _ _) _)).len rfl).mono ?_; rintro e w2 ⟨rfl, hS, hB⟩; have HBX := Aside0.mk ((hB.block w1.heap.size (by simp)).trans (blk_new w1 _)); clear HH; have HH := Aside0.mk hS; clear hS hB y0 y1 y2 y3 y4 y5 y6 y7) | (go_at_call 11; clear k3; refine (rows_LInv HH.out (HG.out.fit (by omega)) _ HRR.out).mono ?_; rintro e w3 ⟨A1, c1, rfl, hL, hB⟩; have bx := (hB.block w1.heap.size (blk_lt HBX.out)).trans HBX.out; have q0 := (blk_cell bx 0).trans rfl; have q1 := (blk_cell bx 1).trans rfl; have q2 := (blk_cell bx 2).trans rfl; have q3 := (blk_cell bx 3).trans rfl; have q4 := (blk_cell bx 4).trans rfl; have q5 := (blk_cell bx 5).trans rfl; have q6 := (blk_cell bx 6).trans rfl; have q7 := (blk_cell bx 7).trans rfl; clear HH HBX bx hB; have HL := Aside0.mk hL; clear hL) | (go_at_call 17; clear k4; refine (HO.out _ _ _ HL.out).mono ?_; rintro e w4 ⟨rfl, hL⟩; clear HL; have HL := Aside0.mk hL; clear q0 q1 q2 q3 q4 q5 q6 q7; clear hL) | (go_at_call 30; clear k5; refine (HL.out.len rfl).mono ?_; rintro e w4 ⟨rfl, hL⟩; clear HL; have HL := Aside0.mk hL; clear hL))
          go_roundg (l0.length - (kk + 1))
          case measure => omega
          case rel => exact ⟨kk + 1, ys, by omega, by omega, by omega, by go_num, ⟨⟨HL.out.has, by have h_ := HK.out.2.2; rwa [show kk + 4 + 1 = kk + 1 + 4 by omega] at h_⟩⟩⟩
        · have hys := HK.out.1 he
          subst hys
          have he0 : (ee != 0) = true := bne_iff_ne.2 he
          go_wp2_with (first | (go_at_call 30; clear k1; refine (HH.out.len rfl).mono ?_; rintro e w1 ⟨rfl, hS, _⟩; clear HH; have HH := Aside0.mk hS; clear hS; obtain ⟨y0, y1, y2, y3, y4, y5, y6, y7⟩ := HX.out _ HH.out.bel) | (go_at_call 30; clear k2; refine ((HH.out.quiet (below_alloc (Below.refl _ _) _)).len rfl).mono ?_; rintro e w2 ⟨rfl, hS, hB⟩; have HBX := Aside0.mk ((hB.block w1.heap.size (by simp)).trans (blk_new w1 _)); clear HH; have HH := Aside0.mk hS; clear hS hB y0 y1 y2 y3 y4 y5 y6 y7) | (go_at_call 11; clear k3; refine (rows_LInv HH.out (HG.out.fit (by omega)) _ HRR.out).mono ?_; rintro e w3 ⟨A1, c1, rfl, hL, hB⟩; have bx := (hB.block w1.heap.size (blk_lt HBX.out)).trans HBX.out; have q0 := (blk_cell bx 0).trans rfl; have q1 := (blk_cell bx 1).trans rfl; have q2 := (blk_cell bx 2).trans rfl; have q3 := (blk_cell bx 3).trans rfl; have q4 := (blk_cell bx 4).trans rfl; have q5 := (blk_cell bx 5).trans rfl; have q6 := (blk_cell bx 6).trans rfl; have q7 := (blk_cell bx 7).trans rfl; clear HH HBX bx hB; have HL := Aside0.mk hL; clear hL) | (go_at_call 17; clear k4; refine (HO.out _ _ _ HL.out).mono ?_; rintro e w4 ⟨rfl, hL⟩; clear HL; have HL := Aside0.mk hL; clear q0 q1 q2 q3 q4 q5 q6 q7; clear hL) | (go_at_call 30; clear k5; refine (HL.out.len rfl).mono ?_; rintro e w4 ⟨rfl, hL⟩; clear HL; have HL := Aside0.mk hL; clear hL) | (go_at_call 11; clear k6; refine (HL.out.rows2 (HG.out.fit (by omega)) _ HRR.out).mono ?_; rintro e w4 ⟨A2, c2, rfl, hC2, hL⟩; clear HL; have HL := Aside0.mk hL; have HC2 := Aside0.mk hC2; clear hL hC2) | (go_at_call 16; clear k7; refine (HL.out.same HC2.out).mono ?_; rintro e w4 ⟨rfl, hL⟩; clear HL HC2; have HL := Aside0.mk hL; clear hL) | (go_at_call 30; clear k8; refine (HL.out.len rfl).mono ?_; rintro e w4 ⟨rfl, hL⟩; clear HL; have HL := Aside0.mk hL; clear hL))
          go_roundg (l0.length - (kk + 1))
          case measure => omega
          case rel => exact ⟨kk + 1, ys, by omega, by omega, by omega, by go_num, ⟨⟨HL.out.has, by have h_ := HK.out.2.2; rwa [show kk + 4 + 1 = kk + 1 + 4 by omega] at h_⟩⟩⟩
      · obtain ⟨ee, ys, hK, hO⟩ := op_clone w g HG.out (by omega) f1
        have HO := Aside0.mk hO
        have HK := Aside0.mk hK
        clear hO hK
        by_cases he : ee = 0
        · subst he
          have hle := HK.out.2.1
          have hlf : decide ((ys.length : Int) < (xs.length : Int)) = false := decide_eq_false (by omega)
          go_wp2_with (first | (go_at_call 30; clear k1; refine (HH.out.len rfl).mono ?_; rintro e w1 ⟨rfl, hS, _⟩; clear HH; have HH := Aside0.mk hS; clear hS; obtain ⟨y0, y1, y2, y3, y4, y5, y6, y7⟩ := HX.out _ HH.out.bel) | (go_at_call 30; clear k2; refine ((HH.out.quiet (below_alloc (Below.refl _ _) _)).len rfl).mono ?_; rintro e w2 ⟨rfl, hS, hB⟩; have HBX := Aside0.mk ((hB.block w1.heap.size (by simp)).trans (blk_new w1 _)); clear HH; have HH := Aside0.mk hS; clear hS hB y0 y1 y2 y3 y4 y5 y6 y7) | (go_at_call 11; clear k3; refine (rows_LInv HH.out (HG.out.fit (by omega)) _ HRR.out).mono ?_; rintro e w3 ⟨A1, c1, rfl, hL, hB⟩; have bx := (hB.block w1.heap.size (blk_lt HBX.out)).trans HBX.out; have q0 := (blk_cell bx 0).trans rfl; have q1 := (blk_cell bx 1).trans rfl; have q2 := (blk_cell bx 2).trans rfl; have q3 := (blk_cell bx 3).trans rfl; have q4 := (blk_cell bx 4).trans rfl; have q5 := (blk_cell bx 5).trans rfl; have q6 := (blk_cell bx 6).trans rfl; have q7 := (blk_cell bx 7).trans rfl; clear HH HBX bx hB; have HL := Aside0.mk hL; clear hL) | (go_at_call 31; clear k4; refine (HO.out _ _ _ HL.out).mono ?_; rintro e w4 ⟨a4, rfl, hL⟩; clear HL; have HL := Aside0.mk hL; clear q0 q1 q2 q3 q4 q5 q6 q7; clear hL) | (go_at_call 30; clear k5; refine (HL.out.len rfl).mono ?_; rintro e w4 ⟨rfl, hL⟩; clear HL; have HL := Aside0.mk hL; clear hL))
          go_roundg (l0.length - (kk + 1))
          case measure => omega
          case rel => exact ⟨kk + 1, ys, by omega, by omega, by omega, by go_num, ⟨⟨HL.out.has, by have h_ := HK.out.2.2; rwa [show kk + 4 + 1 = kk + 1 + 4 by omega] at h_⟩⟩⟩
        · have hys := HK.out.1 he
          subst hys
          have he0 : (ee != 0) = true := bne_iff_ne.2 he
          go_wp2_with (first | (go_at_call 30; clear k1; refine (HH.out.len rfl).mono ?_; rintro e w1 ⟨rfl, hS, _⟩; clear HH; have HH := Aside0.mk hS; clear hS; obtain ⟨y0, y1, y2, y3, y4, y5, y6, y7⟩ := HX.out _ HH.out.bel) | (go_at_call 30; clear k2; refine ((HH.out.quiet (below_alloc (Below.refl _ _) _)).len rfl).mono ?_; rintro e w2 ⟨rfl, hS, hB⟩; have HBX := Aside0.mk ((hB.block w1.heap.size (by simp)).trans (blk_new w1 _)); clear HH; have HH := Aside0.mk hS; clear hS hB y0 y1 y2 y3 y4 y5 y6 y7) | (go_at_call 11; clear k3; refine (rows_LInv HH.out (HG.out.fit (by omega)) _ HRR.out).mono ?_; rintro e w3 ⟨A1, c1, rfl, hL, hB⟩; have bx := (hB.block w1.heap.size (blk_lt HBX.out)).trans HBX.out; have q0 := (blk_cell bx 0).trans rfl; have q1 := (blk_cell bx 1).trans rfl; have q2 := (blk_cell bx 2).trans rfl; have q3 := (blk_cell bx 3).trans rfl; have q4 := (blk_cell bx 4).trans rfl; have q5 := (blk_cell bx 5).trans rfl; have q6 := (blk_cell bx 6).trans rfl; have q7 := (blk_cell bx 7).trans rfl; clear HH HBX bx hB; have HL := Aside0.mk hL; clear hL) | (go_at_call 31; clear k4; refine (HO.out _ _ _ HL.out).mono ?_; rintro e w4 ⟨a4, rfl, hL⟩; clear HL; have HL := Aside0.mk hL; clear q0 q1 q2 q3 q4 q5 q6 q7; clear hL) | (go_at_call 30; clear k5; refine (HL.out.len rfl).mono ?_; rintro e w4 ⟨rfl, hL⟩; clear HL; have HL := Aside0.mk hL; clear hL) | (go_at_call 11; clear k6; refine (HL.out.rows2 (HG.out.fit (by omega)) _ HRR.out).mono ?_; rintro e w4 ⟨A2, c2, rfl, hC2, hL⟩; clear HL; have HL := Aside0.mk hL; have HC2 := Aside0.mk hC2; clear hL hC2) | (go_at_call 16; clear k7; refine (HL.out.same HC2.out).mono ?_; rintro e w4 ⟨rfl, hL⟩; clear HL HC2; have HL := Aside0.mk hL; clear hL) | (go_at_call 30; clear k8; refine (HL.out.len rfl).mono ?_; rintro e w4 ⟨rfl, hL⟩; clear HL; have HL := Aside0.mk hL; clear hL))
          go_roundg (l0.length - (kk + 1))
          case measure => omega
          case rel => exact ⟨kk + 1, ys, by omega, by omega, by omega, by go_num, ⟨⟨HL.out.has, by have h_ := HK.out.2.2; rwa [show kk + 4 + 1 = kk + 1 + 4 by omega] at h_⟩⟩⟩
      · obtain ⟨ee, ys, hK, hO⟩ := op_attr w g HG.out (by omega) f1 f5 f6 HN5.out
        have HO := Aside0.mk hO
        have HK := Aside0.mk hK
        clear hO hK
        by_cases he : ee = 0
        · subst he
          have hle := HK.out.2.1
          have hlf : decide ((ys.length : Int) < (xs.length : Int)) = false := decide_eq_false (by omega)
          go_wp2_with (first | (go_at_call 30; clear k1; refine (HH.out.len rfl).mono ?_; rintro e w1 ⟨rfl, hS, _⟩; clear HH; have HH := Aside0.mk hS; clear hS; obtain ⟨y0, y1, y2, y3, y4, y5, y6, y7⟩ := HX.out _ HH.out.bel) | (go_at_call 30; clear k2; refine ((HH.out.quiet (below_alloc (Below.refl _ _) _)).len rfl).mono ?_; rintro e w2 ⟨rfl, hS, hB⟩; have HBX := Aside0.mk ((hB.block w1.heap.size (by simp)).trans (blk_new w1 _)); clear HH; have HH := Aside0.mk hS; clear hS hB y0 y1 y2 y3 y4 y5 y6 y7) | (go_at_call 11; clear k3; refine (rows_LInv HH.out (HG.out.fit (by omega)) _ HRR.out).mono ?_; rintro e w3 ⟨A1, c1, rfl, hL, hB⟩; have bx := (hB.block w1.heap.size (blk_lt HBX.out)).trans HBX.out; have q0 := (blk_cell bx 0).trans rfl; have q1 := (blk_cell bx 1).trans rfl; have q2 := (blk_cell bx 2).trans rfl; have q3 := (blk_cell bx 3).trans rfl; have q4 := (blk_cell bx 4).trans rfl; have q5 := (blk_cell bx 5).trans rfl; have q6 := (blk_cell bx 6).trans rfl; have q7 := (blk_cell bx 7).trans rfl; clear HH HBX bx hB; have HL := Aside0.mk hL; clear hL) | (go_at_call 22; clear k4; refine (HO.out _ _ _ HL.out).mono ?_; rintro e w4 ⟨rfl, hL⟩; clear HL; have HL := Aside0.mk hL; clear q0 q1 q2 q3 q4 q5 q6 q7; clear hL) | (go_at_call 30; clear k5; refine (HL.out.len rfl).mono ?_; rintro e w4 ⟨rfl, hL⟩; clear HL; have HL := Aside0.mk hL; clear hL))
          go_roundg (l0.length - (kk + 1))
          case measure => omega
          case rel => exact ⟨kk + 1, ys, by omega, by omega, by omega, by go_num, ⟨⟨HL.out.has, by have h_ := HK.out.2.2; rwa [show kk + 4 + 1 = kk + 1 + 4 by omega] at h_⟩⟩⟩
        · have hys := HK.out.1 he
          subst hys
          have he0 : (ee != 0) = true := bne_iff_ne.2 he
          go_wp2_with (first | (go_at_call 30; clear k1; refine (HH.out.len rfl).mono ?_; rintro e w1 ⟨rfl, hS, _⟩; clear HH; have HH := Aside0.mk hS; clear hS; obtain ⟨y0, y1, y2, y3, y4, y5, y6, y7⟩ := HX.out _ HH.out.bel) | (go_at_call 30; clear k2; refine ((HH.out.quiet (below_alloc (Below.refl _ _) _)).len rfl).mono ?_; rintro e w2 ⟨rfl, hS, hB⟩; have HBX := Aside0.mk ((hB.block w1.heap.size (by simp)).trans (blk_new w1 _)); clear HH; have HH := Aside0.mk hS; clear hS hB y0 y1 y2 y3 y4 y5 y6 y7) | (go_at_call 11; clear k3; refine (rows_LInv HH.out (HG.out.fit (by omega)) _ HRR.out).mono ?_; rintro e w3 ⟨A1, c1, rfl, hL, hB⟩; have bx := (hB.block w1.heap.size (blk_lt HBX.out)).trans HBX.out; have q0 := (blk_cell bx 0).trans rfl; have q1 := (blk_cell bx 1).trans rfl; have q2 := (blk_cell bx 2).trans rfl; have q3 := (blk_cell bx 3).trans rfl; have q4 := (blk_cell bx 4).trans rfl; have q5 := (blk_cell bx 5).trans rfl; have q6 := (blk_cell bx 6).trans rfl; have q7 := (blk_cell bx 7).trans rfl; clear HH HBX bx hB; have HL := Aside0.mk hL; clear hL) | (go_at_call 22; clear k4; refine (HO.out _ _ _ HL.out).mono ?_; rintro e w4 ⟨rfl, hL⟩; clear HL; have HL := Aside0.mk hL; clear q0 q1 q2 q3 q4 q5 q6 q7; clear hL) | (go_at_call 30; clear k5; refine (HL.out.len rfl).mono ?_; rintro e w4 ⟨rfl, hL⟩; clear HL; have HL := Aside0.mk hL; clear hL) | (go_at_call 11; clear k6; refine (HL.out.rows2 (HG.out.fit (by omega)) _ HRR.out).mono ?_; rintro e w4 ⟨A2, c2, rfl, hC2, hL⟩; clear HL; have HL := Aside0.mk hL; have HC2 := Aside0.mk hC2; clear hL hC2) | (go_at_call 16; clear k7; refine (HL.out.same HC2.out).mono ?_; rintro e w4 ⟨rfl, hL⟩; clear HL HC2; have HL := Aside0.mk hL; clear hL) | (go_at_call 30; clear k8; refine (HL.out.len rfl).mono ?_; rintro e w4 ⟨rfl, hL⟩; clear HL; have HL := Aside0.mk hL; clear hL))
          go_roundg (l0.length - (kk + 1))
          case measure => omega
          case rel => exact ⟨kk + 1, ys, by omega, by omega, by omega, by go_num, ⟨⟨HL.out.has, by have h_ := HK.out.2.2; rwa [show kk + 4 + 1 = kk + 1 + 4 by omega] at h_⟩⟩⟩
      · obtain ⟨ee, ys, hK, hO⟩ := op_drop w g HG.out (by omega) f1 f5
        have HO := Aside0.mk hO
        have HK := Aside0.mk hK
        clear hO hK
        by_cases he : ee = 0
        · subst he
          have hle := HK.out.2.1
          have hlf : decide ((ys.length : Int) < (xs.length : Int)) = false := decide_eq_false (by omega)
          go_wp2_with (first | (go_at_call 30; clear k1; refine (HH.out.len rfl).mono ?_; rintro e w1 ⟨rfl, hS, _⟩; clear HH; have HH := Aside0.mk hS; clear hS; obtain ⟨y0, y1, y2, y3, y4, y5, y6, y7⟩ := HX.out _ HH.out.bel) | (go_at_call 30; clear k2; refine ((HH.out.quiet (below_alloc (Below.refl _ _) _)).len rfl).mono ?_; rintro e w2 ⟨rfl, hS, hB⟩; have HBX := Aside0.mk ((hB.block w1.heap.size (by simp)).trans (blk_new w1 _)); clear HH; have HH := Aside0.mk hS; clear hS hB y0 y1 y2 y3 y4 y5 y6 y7) | (go_at_call 11; clear k3; refine (rows_LInv HH.out (HG.out.fit (by omega)) _ HRR.out).mono ?_; rintro e w3 ⟨A1, c1, rfl, hL, hB⟩; have bx := (hB.block w1.heap.size (blk_lt HBX.out)).trans HBX.out; have q0 := (blk_cell bx 0).trans rfl; have q1 := (blk_cell bx 1).trans rfl; have q2 := (blk_cell bx 2).trans rfl; have q3 := (blk_cell bx 3).trans rfl; have q4 := (blk_cell bx 4).trans rfl; have q5 := (blk_cell bx 5).trans rfl; have q6 := (blk_cell bx 6).trans rfl; have q7 := (blk_cell bx 7).trans rfl; clear HH HBX bx hB; have HL := Aside0.mk hL; clear hL) | (go_at_call 27; clear k4; refine (HO.out _ _ _ HL.out).mono ?_; rintro e w4 ⟨rfl, hL⟩; clear HL; have HL := Aside0.mk hL; clear q0 q1 q2 q3 q4 q5 q6 q7; clear hL) | (go_at_call 30; clear k5; refine (HL.out.len rfl).mono ?_; rintro e w4 ⟨rfl, hL⟩; clear HL; have HL := Aside0.mk hL; clear hL))
          go_roundg (l0.length - (kk + 1))
          case measure => omega
          case rel => exact ⟨kk + 1, ys, by omega, by omega, by omega, by go_num, ⟨⟨HL.out.has, by have h_ := HK.out.2.2; rwa [show kk + 4 + 1 = kk + 1 + 4 by omega] at h_⟩⟩⟩
        · have hys := HK.out.1 he
          subst hys
          have he0 : (ee != 0) = true := bne_iff_ne.2 he
          go_wp2_with (first | (go_at_call 30; clear k1; refine (HH.out.len rfl).mono ?_; rintro e w1 ⟨rfl, hS, _⟩; clear HH; have HH := Aside0.mk hS; clear hS; obtain ⟨y0, y1, y2, y3, y4, y5, y6, y7⟩ := HX.out _ HH.out.bel) | (go_at_call 30; clear k2; refine ((HH.out.quiet (below_alloc (Below.refl _ _) _)).len rfl).mono ?_; rintro e w2 ⟨rfl, hS, hB⟩; have HBX := Aside0.mk ((hB.block w1.heap.size (by simp)).trans (blk_new w1 _)); clear HH; have HH := Aside0.mk hS; clear hS hB y0 y1 y2 y3 y4 y5 y6 y7) | (go_at_call 11; clear k3; refine (rows_LInv HH.out (HG.out.fit (by omega)) _ HRR.out).mono ?_; rintro e w3 ⟨A1, c1, rfl, hL, hB⟩; have bx := (hB.block w1.heap.size (blk_lt HBX.out)).trans HBX.out; have q0 := (blk_cell bx 0).trans rfl; have q1 := (blk_cell bx 1).trans rfl; have q2 := (blk_cell bx 2).trans rfl; have q3 := (blk_cell bx 3).trans rfl; have q4 := (blk_cell bx 4).trans rfl; have q5 := (blk_cell bx 5).trans rfl; have q6 := (blk_cell bx 6).trans rfl; have q7 := (blk_cell bx 7).trans rfl; clear HH HBX bx hB; have HL := Aside0.mk hL; clear hL) | (go_at_call 27; clear k4; refine (HO.out _ _ _ HL.out).mono ?_; rintro e w4 ⟨rfl, hL⟩; clear HL; have HL := Aside0.mk hL; clear q0 q1 q2 q3 q4 q5 q6 q7; clear hL) | (go_at_call 30; clear k5; refine (HL.out.len rfl).mono ?_; rintro e w4 ⟨rfl, hL⟩; clear HL; have HL := Aside0.mk hL; clear hL) | (go_at_call 11; clear k6; refine (HL.out.rows2 (HG.out.fit (by omega)) _ HRR.out).mono ?_; rintro e w4 ⟨A2, c2, rfl, hC2, hL⟩; clear HL; have HL := Aside0.mk hL; have HC2 := Aside0.mk hC2; clear hL hC2) | (go_at_call 16; clear k7; refine (HL.out.same HC2.out).mono ?_; rintro e w4 ⟨rfl, hL⟩; clear HL HC2; have HL := Aside0.mk hL; clear hL) | (go_at_call 30; clear k8; refine (HL.out.len rfl).mono ?_; rintro e w4 ⟨rfl, hL⟩; clear HL; have HL := Aside0.mk hL; clear hL))
          go_roundg (l0.length - (kk + 1))
          case measure => omega
          case rel => exact ⟨kk + 1, ys, by omega, by omega, by omega, by go_num, ⟨⟨HL.out.has, by have h_ := HK.out.2.2; rwa [show kk + 4 + 1 = kk + 1 + 4 by omega] at h_⟩⟩⟩
      · obtain ⟨ee, ys, hK, hO⟩ := op_data w g HG.out f1 f6
        have HO := Aside0.mk hO
        have HK := Aside0.mk hK
        clear hO hK
        by_cases he : ee = 0
        · subst he
          have hle := HK.out.2.1
          have hlf : decide ((ys.length : Int) < (xs.length : Int)) = false := decide_eq_false (by omega)
          go_wp2_with (first | (go_at_call 30; clear k1; refine (HH.out.len rfl).mono ?_; rintro e w1 ⟨rfl, hS, _⟩; clear HH; have HH := Aside0.mk hS; clear hS; obtain ⟨y0, y1, y2, y3, y4, y5, y6, y7⟩ := HX.out _ HH.out.bel) | (go_at_call 30; clear k2; refine ((HH.out.quiet (below_alloc (Below.refl _ _) _)).len rfl).mono ?_; rintro e w2 ⟨rfl, hS, hB⟩; have HBX := Aside0.mk ((hB.block w1.heap.size (by simp)).trans (blk_new w1 _)); clear HH; have HH := Aside0.mk hS; clear hS hB y0 y1 y2 y3 y4 y5 y6 y7) | (go_at_call 11; clear k3; refine (rows_LInv HH.out (HG.out.fit (by omega)) _ HRR.out).mono ?_; rintro e w3 ⟨A1, c1, rfl, hL, hB⟩; have bx := (hB.block w1.heap.size (blk_lt HBX.out)).trans HBX.out; have q0 := (blk_cell bx 0).trans rfl; have q1 := (blk_cell bx 1).trans rfl; have q2 := (blk_cell bx 2).trans rfl; have q3 := (blk_cell bx 3).trans rfl; have q4 := (blk_cell bx 4).trans rfl; have q5 := (blk_cell bx 5).trans rfl; have q6 := (blk_cell bx 6).trans rfl; have q7 := (blk_cell bx 7).trans rfl; clear HH HBX bx hB; have HL := Aside0.mk hL; clear hL) | (go_at_call 32; clear k4; refine (HO.out _ _ _ HL.out).mono ?_; rintro e w4 ⟨rfl, hL⟩; clear HL; have HL := Aside0.mk hL; clear q0 q1 q2 q3 q4 q5 q6 q7; clear hL) | (go_at_call 30; clear k5; refine (HL.out.len rfl).mono ?_; rintro e w4 ⟨rfl, hL⟩; clear HL; have HL := Aside0.mk hL; clear hL))
          go_roundg (l0.length - (kk + 1))
          case measure => omega
          case rel => exact ⟨kk + 1, ys, by omega, by omega, by omega, by go_num, ⟨⟨HL.out.has, by have h_ := HK.out.2.2; rwa [show kk + 4 + 1 = kk + 1 + 4 by omega] at h_⟩⟩⟩
        · have hys := HK.out.1 he
          subst hys
          have he0 : (ee != 0) = true := bne_iff_ne.2 he
          go_wp2_with (first | (go_at_call 30; clear k1; refine (HH.out.len rfl).mono ?_; rintro e w1 ⟨rfl, hS, _⟩; clear HH; have HH := Aside0.mk hS; clear hS; obtain ⟨y0, y1, y2, y3, y4, y5, y6, y7⟩ := HX.out _ HH.out.bel) | (go_at_call 30; clear k2; refine ((HH.out.quiet (below_alloc (Below.refl _ _) _)).len rfl).mono ?_; rintro e w2 ⟨rfl, hS, hB⟩; have HBX := Aside0.mk ((hB.block w1.heap.size (by simp)).trans (blk_new w1 _)); clear HH; have HH := Aside0.mk hS; clear hS hB y0 y1 y2 y3 y4 y5 y6 y7) | (go_at_call 11; clear k3; refine (rows_LInv HH.out (HG.out.fit (by omega)) _ HRR.out).mono ?_; rintro e w3 ⟨A1, c1, rfl, hL, hB⟩; have bx := (hB.block w1.heap.size (blk_lt HBX.out)).trans HBX.out; have q0 := (blk_cell bx 0).trans rfl; have q1 := (blk_cell bx 1).trans rfl; have q2 := (blk_cell bx 2).trans rfl; have q3 := (blk_cell bx 3).trans rfl; have q4 := (blk_cell bx 4).trans rfl; have q5 := (blk_cell bx 5).trans rfl; have q6 := (blk_cell bx 6).trans rfl; have q7 := (blk_cell bx 7).trans rfl; clear HH HBX bx hB; have HL := Aside0.mk hL; clear hL) | (go_at_call 32; clear k4; refine (HO.out _ _ _ HL.out).mono ?_; rintro e w4 ⟨rfl, hL⟩; clear HL; have HL := Aside0.mk hL; clear q0 q1 q2 q3 q4 q5 q6 q7; clear hL) | (go_at_call 30; clear k5; refine (HL.out.len rfl).mono ?_; rintro e w4 ⟨rfl, hL⟩; clear HL; have HL := Aside0.mk hL; clear hL) | (go_at_call 11; clear k6; refine (HL.out.rows2 (HG.out.fit (by omega)) _ HRR.out).mono ?_; rintro e w4 ⟨A2, c2, rfl, hC2, hL⟩; clear HL; have HL := Aside0.mk hL; have HC2 := Aside0.mk hC2; clear hL hC2) | (go_at_call 16; clear k7; refine (HL.out.same HC2.out).mono ?_; rintro e w4 ⟨rfl, hL⟩; clear HL HC2; have HL := Aside0.mk hL; clear hL) | (go_at_call 30; clear k8; refine (HL.out.len rfl).mono ?_; rintro e w4 ⟨rfl, hL⟩; clear HL; have HL := Aside0.mk hL; clear hL))
          go_roundg (l0.length - (kk + 1))
          case measure => omega
          case rel => exact ⟨kk + 1, ys, by omega, by omega, by omega, by go_num, ⟨⟨HL.out.has, by have h_ := HK.out.2.2; rwa [show kk + 4 + 1 = kk + 1 + 4 by omega] at h_⟩⟩⟩
      · have hG5 : Good (kk + 4 + 1) xs := HG.out.weak (Nat.le_succ (kk + 4))
        have HG5 := Aside0.mk hG5
        clear hG5
        focus
          go_wp2_with (first | (go_at_call 30; clear k1; refine (HH.out.len rfl).mono ?_; rintro e w1 ⟨rfl, hS, _⟩; clear HH; have HH := Aside0.mk hS; clear hS; obtain ⟨y0, y1, y2, y3, y4, y5, y6, y7⟩ := HX.out _ HH.out.bel) | (go_at_call 30; clear k2; refine ((HH.out.quiet (below_alloc (Below.refl _ _) _)).len rfl).mono ?_; rintro e w2 ⟨rfl, hS, hB⟩; have HBX := Aside0.mk ((hB.block w1.heap.size (by simp)).trans (blk_new w1 _)); clear HH; have HH := Aside0.mk hS; clear hS hB y0 y1 y2 y3 y4 y5 y6 y7) | (go_at_call 11; clear k3; refine (rows_LInv HH.out (HG.out.fit (by omega)) _ HRR.out).mono ?_; rintro e w3 ⟨A1, c1, rfl, hL, hB⟩; have bx := (hB.block w1.heap.size (blk_lt HBX.out)).trans HBX.out; have q0 := (blk_cell bx 0).trans rfl; have q1 := (blk_cell bx 1).trans rfl; have q2 := (blk_cell bx 2).trans rfl; have q3 := (blk_cell bx 3).trans rfl; have q4 := (blk_cell bx 4).trans rfl; have q5 := (blk_cell bx 5).trans rfl; have q6 := (blk_cell bx 6).trans rfl; have q7 := (blk_cell bx 7).trans rfl; clear HH HBX bx hB; have HL := Aside0.mk hL; clear hL) | (go_at_call 30; clear k5; refine (HL.out.len rfl).mono ?_; rintro e w4 ⟨rfl, hL⟩; clear HL; have HL := Aside0.mk hL; clear hL))
          go_roundg (l0.length - (kk + 1))
          case measure => omega
          case rel => exact ⟨kk + 1, xs, by omega, by omega, by omega, by go_num, ⟨⟨HL.out.has, by have h_ := HG5.out; rwa [show kk + 4 + 1 = kk + 1 + 4 by omega] at h_⟩⟩⟩
end Go.Proofs.Ytpkaliaaffgbdaa.QA
