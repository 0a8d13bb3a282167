/- The law ArenaDoes. -/
import Derived.Test.YtpkaliaaffgbdaaM15
namespace Go.Proofs.Ytpkaliaaffgbdaa.QA
open Go.RowKit Go.Proofs.YtpkaliaaffgbdaaW.PrintWords Go.Proofs.YtpkaliaaffgbdaaW.PrintLast Go.Proofs.YtpkaliaaffgbdaaW.PrintMore
attribute [local go_sem] max2_int min2_int max_two min_two max_three min_three max_four min_four   -- for this text's walks alone
set_option linter.unusedVariables false
set_option linter.unusedSimpArgs false

open Go
section
variable {w W : World} {F : Nat → Prop} {g g2 gR : Nat} {xs xr ys : List S79}
/-- A copy: both documents stay as they are; the copy's blocks are new. -/
theorem Both.copy (h : Both w W (fun _ => False) g gR xs xr) (hf : Fit xs) (hp : 0 < xs.length) : Calls Try.prog 20 #[.pointer (some ⟨g, 0, none⟩)] W fun e w' => ∃ g2, e = .returned (.pointer (some ⟨g2, 0, none⟩)) ∧ Both w w' (fun k => W.heap.size ≤ k ∧ k < w'.heap.size) g gR xs xr ∧ IsDoc w' (fun k => W.heap.size ≤ k ∧ k < w'.heap.size) g2 xs := by
  obtain ⟨ok, okr, h2, hF⟩ := h
  refine (Doc_Copy h2.a hf hp).mono ?_
  rintro e w' ⟨g2, rfl, hD, hB⟩
  exact ⟨g2, rfl, ⟨ok, okr, h2.quiet hB, fun k hk => ⟨hk.2, fun h3 => by have := (h2.oa k h3).2; omega, fun h3 => by have := (h2.or k h3).2; omega⟩⟩, hD.bound⟩
/-- What a call does to the one does nothing to its copy. -/
theorem Both.aside {f : Nat} {args : Array Value} {P : Ending → Prop} (h : Both w W F g gR xs xr) (hd : IsDoc W F g2 ys) {zs : List S79} (hc : ∀ ok, IsDoc W ok g xs → Calls Try.prog f args W fun e w' => P e ∧ To W w' ok g zs) : Calls Try.prog f args W fun e w' => P e ∧ Both w w' F g gR zs xr ∧ IsDoc w' F g2 ys := by
  refine (h.viaA hc).mono ?_
  rintro e w' ⟨h1, h2, h3⟩
  exact ⟨h1, h2, hd.move fun k hk _ => h3 k hk⟩
/-- The copy in the place of the one. -/
theorem Both.swap (h : Both w W F g gR ys xr) (hd : IsDoc W F g2 xs) (hF : ∀ k, F k → w.heap.size ≤ k) : Both w W (fun _ => False) g2 gR xs xr := by
  obtain ⟨ok, okr, h2, h3⟩ := h
  exact ⟨F, okr, ⟨hd, h2.r, fun k hk => ⟨hF k hk, (h3 k hk).1⟩, h2.or, fun k hk => (h3 k hk).2.2, h2.bel⟩, fun _ h => h.elim⟩
theorem Both.cell0 (h : Both w W F g gR xs xr) : ∃ A c, W.cell? ⟨gR, 0, none⟩ = some (.slice A xr.length c) := by
  obtain ⟨ok, okr, h2, hF⟩ := h
  exact h2.r.cellX
end
def leftS : ByteArray := ⟨#[108, 101, 102, 116]⟩
set_option maxHeartbeats 16000000 in
set_option maxRecDepth 100000 in
theorem ArenaDoes_calls (w : World) (A0 : Option Addr) (c0 : Nat) (l0 : List SOp) (hC : Kd.C kOp w A0 l0.length l0) (hc0 : l0.length ≤ c0) (hs : ∀ a ∈ l0, a.f5.size ≤ 140737488351232) :
    Calls Try.prog 4 #[.slice A0 l0.length c0] w fun e w' => e = .returned (.bool true) ∧ Below w.heap.size w w' := by
  have HC := Aside0.mk hC
  have HS0 := Aside0.mk hs
  clear hC hs
  go_enter Try.func4, Try.ntmps4
  go_wp2_with (first | (go_at_call 18; refine (Has.new w w (Below.refl _ _)).mono ?_; rintro e w1 ⟨g, rfl, hS⟩; have HS := Aside0.mk hS; clear hS) | (go_at_call 19; refine (RD_New w1).mono ?_; rintro e w2 ⟨gR, rfl, hD, hB⟩; have HB := Aside0.mk (Both.start HS.out hB hD); clear HS hD hB))
  go_loopg [3, 5] l0.length (fun gg v3 v5 W => ∃ (kk g : Nat) (xs : List S79), kk ≤ l0.length ∧ kk ≤ 40 ∧ l0.length - kk ≤ gg ∧ v3 = .pointer (some ⟨g, 0, none⟩) ∧ v5 = .int .i64 (kk : Int) ∧ Aside0 (Both w W (fun _ => False) g gR xs xs ∧ Good (kk + 4) xs ∧ Neat xs))
  case atStart => exact ⟨0, g, newDoc, Nat.zero_le _, Nat.zero_le _, by omega, rfl, rfl, ⟨⟨HB.out, good_new.weak (Nat.zero_le _), neat_new⟩⟩⟩
  case round =>
    clear HB
    obtain ⟨kk, g1, xs, hkk, hk40, hgg, rfl, rfl, HR⟩ := hrel
    have HB := Aside0.mk HR.out.1
    have HG := Aside0.mk (And.intro HR.out.2.1 (HR.out.2.1.fit (by omega)))
    have HN := Aside0.mk HR.out.2.2
    clear HR
    by_cases hlt : kk < l0.length ∧ kk < 40
    rotate_left
    · have hx : (¬ kk < l0.length) ∨ (kk < l0.length ∧ ¬ kk < 40) := by omega
      clear hlt HN HG
      rcases hx with hx | ⟨hx, hy⟩
      all_goals
        go_wp2_with (first | (go_at_call 13; refine (fixed_calls _).mono ?_; rintro e w5 ⟨rfl, hB⟩; have HE := Aside0.mk (HB.out.quiet hB).bel; clear hB))
        go_ret
        exact ⟨rfl, HE.out⟩
    · obtain ⟨hlt1, hlt2⟩ := hlt
      have d1 : decide ((kk : Int) < (l0.length : Int)) = true := decide_eq_true (by omega)
      have d2 : decide ((kk : Int) < 40) = true := decide_eq_true (by omega)
      have z1 : (kk : Int) < (l0.length : Int) := by omega
      obtain ⟨AX, cX, hcx⟩ := HB.out.cell0
      by_cases hbig : 300 < xs.length
      · have d3 : decide ((300 : Int) < (xs.length : Int)) = true := decide_eq_true (by omega)
        clear HN HG hbig
        go_wp2_with (first | (go_at_call 13; refine (fixed_calls _).mono ?_; rintro e w5 ⟨rfl, hB⟩; have HE := Aside0.mk (HB.out.quiet hB).bel; clear hB))
        go_ret
        exact ⟨rfl, HE.out⟩
      · have d3 : decide ((300 : Int) < (xs.length : Int)) = false := decide_eq_false (by omega)
        obtain ⟨ad, A7, c7, e4, ⟨hx0, hx1, hx2, hx3, hx4, hx5, hx6, hx7⟩, hl7, hi7⟩ := at_Op HC.out kk hlt1
        subst e4
        have hn5 := HS0.out l0[kk] (List.getElem_mem hlt1)
        have hB := HB.out.bel
        replace hx0 := (hB.cell (block_lt_of_cell hx0)).trans hx0
        replace hx1 := (hB.cell (block_lt_of_cell hx1)).trans hx1
        replace hx2 := (hB.cell (block_lt_of_cell hx2)).trans hx2
        replace hx3 := (hB.cell (block_lt_of_cell hx3)).trans hx3
        replace hx4 := (hB.cell (block_lt_of_cell hx4)).trans hx4
        replace hx5 := (hB.cell (block_lt_of_cell hx5)).trans hx5
        replace hx6 := (hB.cell (block_lt_of_cell hx6)).trans hx6
        replace hx7 := (hB.cell (block_lt_of_cell hx7)).trans hx7
        have HL7 := Aside0.mk (And.intro hl7 hi7)
        clear hl7 hi7 hB hbig
        generalize l0[kk] = o at hn5 HL7 hx0 hx1 hx2 hx3 hx4 hx5 hx6 hx7
        have HN5 := Aside0.mk hn5
        clear hn5
        go_upto_region 8 with (fail)
        have HB1 := Aside0.mk (HB.out.quiet (below_alloc (Below.refl _ _) (.cells #[.int .i64 o.f0, .int .i64 o.f1, .int .i64 o.f2, .int .i64 o.f3, .int .i64 o.f4, .string o.f5, .string o.f6, .slice A7 o.f7.length c7] 25)))
        obtain ⟨q0, q1, q2, q3, q4, q5, q6, q7⟩ := cells8 (blk_new wr (.cells #[.int .i64 o.f0, .int .i64 o.f1, .int .i64 o.f2, .int .i64 o.f3, .int .i64 o.f4, .string o.f5, .string o.f6, .slice A7 o.f7.length c7] 25))
        generalize wr.alloc (.cells #[.int .i64 o.f0, .int .i64 o.f1, .int .i64 o.f2, .int .i64 o.f3, .int .i64 o.f4, .string o.f5, .string o.f6, .slice A7 o.f7.length c7] 25) = w1 at HB1 q0 q1 q2 q3 q4 q5 q6 q7 ⊢
        generalize wr.heap.size = bo at q0 q1 q2 q3 q4 q5 q6 q7 ⊢
        clear HB hx0 hx1 hx2 hx3 hx4 hx5 hx6 hx7 hcx
        by_cases h8 : o.f0 = 8
        · rw [h8] at q0
          have hpos := HG.out.1.tree.pos
          have hmk := may_val 0 leftS ⟨#[]⟩ (by decide)
          obtain ⟨m, hm⟩ : ∃ m, mayV 0 leftS ⟨#[]⟩ = m := ⟨_, rfl⟩
          rw [hm] at hmk
          have hk1 := keeps_make HG.out.1 m 0 leftS ⟨#[]⟩
          obtain ⟨n1, e1, ys, hys⟩ : ∃ n e ys, makeR xs m 0 leftS ⟨#[]⟩ = (n, e, ys) := ⟨_, _, _, rfl⟩
          rw [hys] at hk1
          dsimp only at hk1
          have hk2 := keeps_remove hk1.2.2 1
          obtain ⟨e2, zs, hzs⟩ : ∃ e zs, removeR ys 1 = (e, zs) := ⟨_, _, rfl⟩
          rw [hzs] at hk2
          dsimp only at hk2
          obtain ⟨⟨e3, us⟩, hus, hk3⟩ := keeps_attr hk2.2.2 (leftS.size * 9 + 1) 1 leftS ⟨#[]⟩ _ (attr_is leftS (by decide) _ (by omega))
          have HF1 := Aside0.mk (hk1.2.2.fit (by omega))
          have HF2 := Aside0.mk (hk2.2.2.fit (by omega))
          have HO1 := Aside0.mk (fun (W : World) (ok : Nat → Prop) (hI : IsDoc W ok g1 xs) => by have := Doc_Make hI 0 leftS ⟨#[]⟩ _ m hmk; rw [hys] at this; exact this)
          have HO2 := Aside0.mk (fun (W : World) (ok : Nat → Prop) (hI : IsDoc W ok g1 ys) => by have := Doc_Remove hI HF1.out 1; rw [hzs] at this; exact this)
          have HO3 := Aside0.mk (fun (W : World) (ok : Nat → Prop) (hI : IsDoc W ok g1 zs) => Doc_Attr hI HF2.out _ 1 leftS ⟨#[]⟩ (e3, us) hus)
          have HW := Aside0.mk (show w.heap.size ≤ w1.heap.size from HB1.out.bel.size)
          clear hk1 hk2 hk3 hys hzs hus hmk hm HL7 HN5 h8 q1 q2 q3 q4 q5 q6 q7
          unfold leftS at HO1 HO2 HO3
          dsimp only at HO1 HO2 HO3
          go_wp2_with (first | (go_at_call 20; refine (HB1.out.copy HG.out.2 hpos).mono ?_; rintro e w2 ⟨g2, rfl, hS, hD⟩; clear q0; have HB2 := Aside0.mk (And.intro hS hD); clear hS hD) | (go_at_call 21; refine (HB2.out.1.aside HB2.out.2 (HO1.out _)).mono ?_; rintro q w3 ⟨rfl, hS, hD⟩; clear HB2; have HB2 := Aside0.mk (And.intro hS hD); clear hS hD) | (go_at_call 17; refine (HB2.out.1.aside HB2.out.2 (HO2.out _)).mono ?_; rintro q w4 ⟨rfl, hS, hD⟩; clear HB2; have HB2 := Aside0.mk (And.intro hS hD); clear hS hD) | (go_at_call 22; refine (HB2.out.1.aside HB2.out.2 (HO3.out _)).mono ?_; rintro q w5 ⟨rfl, hS, hD⟩; clear HB2; have HB2 := Aside0.mk (And.intro hS hD); clear hS hD))
          have HE := Aside0.mk (HB2.out.1.swap HB2.out.2 fun k hk => Nat.le_trans HW.out hk.1)
          go_roundg (l0.length - (kk + 1))
          case measure => omega
          case rel => exact ⟨kk + 1, g2, xs, by omega, by omega, by omega, rfl, by go_num, ⟨⟨HE.out, HG.out.1.weak (by omega), HN.out⟩⟩⟩
        · have h8b : (o.f0 == 8) = false := beq_eq_false_iff_ne.2 h8
          obtain ⟨an, e, ys, hA, hR, hG2, hN2, ha⟩ := ans_some HG.out.1 (by omega) (by omega) HN.out o HN5.out
          have HA := Aside0.mk (And.intro hA (And.intro hR ha))
          have HG2 := Aside0.mk (And.intro hG2 hN2)
          clear hA hR hG2 hN2 ha h8
          go_wp2_with (first | (go_at_call 23; refine (tells_calls w _ g1 gR (kk + 4) xs xs ys ys HB1.out HG.out.1 (by omega) o A7 c7 HL7.out.1 HL7.out.2 HN5.out an an e e HA.out.1 HA.out.2.1 HA.out.2.2).mono ?_; rintro q W4 ⟨bb, rfl, hbb, hB2⟩; obtain rfl := hbb rfl rfl; have HE := Aside0.mk hB2; clear hB2 hbb q0 q1 q2 q3 q4 q5 q6 q7) | (go_at_call 24; refine (same_calls w _ (fun _ => False) g1 gR (kk + 4 + 1) ys HE.out HG2.out.1 (by omega) HG2.out.2).mono ?_; rintro q W5 ⟨rfl, hB2⟩; clear HE; have HE := Aside0.mk hB2; clear hB2))
          go_roundg (l0.length - (kk + 1))
          case measure => omega
          case rel => exact ⟨kk + 1, g1, ys, by omega, by omega, by omega, rfl, by go_num, ⟨⟨HE.out, by have h_ := HG2.out.1; rwa [show kk + 4 + 1 = kk + 1 + 4 by omega] at h_, HG2.out.2⟩⟩⟩
end Go.Proofs.Ytpkaliaaffgbdaa.QA
