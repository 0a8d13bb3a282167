/- The law ArenaClones. -/
import Derived.Test.YtpkaliaaffgbdaaM11
namespace Go.Proofs.Ytpkaliaaffgbdaa.QA
open Go.RowKit Go.Proofs.YtpkaliaaffgbdaaW.PrintWords Go.Proofs.YtpkaliaaffgbdaaW.PrintLast Go.Proofs.YtpkaliaaffgbdaaW.PrintMore
attribute [local go_sem] max2_int min2_int max_two min_two max_three min_three max_four min_four   -- for this text's walks alone
set_option linter.unusedVariables false
set_option linter.unusedSimpArgs false

open Go
theorem old_refl (n : Nat) (xs : List S79) : Old n xs xs := fun _ _ => ⟨rfl, rfl⟩
theorem old_attr {ys zs : List S79} {k n0 : Nat} {c e : Int} {n v : ByteArray} (h : attrR ys k c n v = some (e, zs)) (hc : (n0 : Int) ≤ c) : Old n0 ys zs := by
  unfold attrR at h
  split at h
  · injection h with h
    injection h with _ h
    rw [← h]
    exact old_refl _ _
  · split at h
    · cases h
    · injection h with h
      injection h with _ h
      rw [← h]
      exact old_refl _ _
    · injection h with h
      injection h with _ h
      rw [← h]
      exact old_set (by omega) _
theorem old_data {ys zs : List S79} {n0 : Nat} {c e : Int} {v : ByteArray} (h : dataR ys c v = (e, zs)) (hc : (n0 : Int) ≤ c) : Old n0 ys zs := by
  unfold dataR at h
  split at h
  · injection h with _ h
    rw [← h]
    exact old_set (by omega) _
  · injection h with _ h
    rw [← h]
    exact old_refl _ _
set_option maxHeartbeats 16000000 in
set_option maxRecDepth 100000 in
theorem ArenaClones_calls (w : World) (A0 : Option Addr) (c0 : Nat) (l0 : List SOp) (hC : Kd.C kOp w A0 l0.length l0) (hc0 : l0.length ≤ c0) (hs : ∀ a ∈ l0, a.f5.size ≤ 140737488351232) (n : Int) :
    Calls Try.prog 7 #[.slice A0 l0.length c0, .int .i64 n] w fun e w' => e = .returned (.bool true) ∧ Below w.heap.size w w' := by
  have HP := Aside0.mk (played_calls w A0 c0 l0 hC hc0 hs)
  clear hC hs
  go_enter Try.func7, Try.ntmps7
  go_upto_region 4 with (first | (go_at_call 10; refine HP.out.mono ?_; rintro e w2 ⟨g, rfl, xs, hH, hG⟩))
  have HH := Aside0.mk hH.held
  have HG := Aside0.mk hG
  have hpos := hG.tree.pos
  have hlen := hG.len
  have hmx : max (1 : Int) (xs.length : Int) = (xs.length : Int) := by omega
  have hnz : (xs.length : Int) ≠ 0 := by omega
  clear hH hG HP
  have k1 := Aside0.mk trivial
  go_upto_region 5 with (first | (go_at_call 30; clear k1; refine (HH.out.len rfl).mono ?_; rintro e w3 ⟨rfl, hH, _⟩; clear HH; have HH := Aside0.mk hH; clear hH))
  generalize (if 1 < (xs.length : Int) then (xs.length : Int) else 1) = MX
  generalize wrap64 (1 + (bits BinOp.and IntKind.i64 n 65535).tmod MX) = K
  clear hmx hnz
  obtain ⟨r, hr, _⟩ := rowsR_some HG.out K
  obtain ⟨r0, hr0, _⟩ := rowsR_some HG.out 0
  obtain ⟨kf, q, hq, hkp⟩ := keeps_clone HG.out (by omega) K
  obtain ⟨ys, c, e⟩ := q
  have HR := Aside0.mk hr
  have HR0 := Aside0.mk hr0
  have HQ := Aside0.mk hq
  clear hr hr0 hq
  have k1 := Aside0.mk trivial
  have k2 := Aside0.mk trivial
  by_cases he : e = 0
  rotate_left
  · have hys := hkp.1 he
    dsimp only at hys
    subst hys
    have he0 : (e != 0) = true := bne_iff_ne.2 he
    have k3 := Aside0.mk trivial
    clear he hkp
    go_wp2_with (first | (go_at_call 11; clear k1; refine (HH.out.rows (HG.out.fit (by omega)) _ K HR.out).mono ?_; rintro q w4 ⟨A1, c1, rfl, _, hH, _⟩; clear HH; have HH := Aside0.mk hH; clear hH) | (go_at_call 11; clear k2; refine (HH.out.rows (HG.out.fit (by omega)) _ 0 HR0.out).mono ?_; rintro q w5 ⟨A2, c2, rfl, _, hH, _⟩; clear HH; have HH := Aside0.mk hH; clear hH) | (go_at_call 30; refine (HH.out.len rfl).mono ?_; rintro q w6 ⟨rfl, hH, _⟩; clear HH; have HH := Aside0.mk hH; clear hH) | (go_at_call 31; refine (HH.out.via (P := fun q => q = .returned (.tuple #[.int .i64 c, .int .i64 e])) fun ok hI => Doc_Clone hI (HG.out.fit (by omega)) kf K (ys, c, e) HQ.out).mono ?_; rintro q w7 ⟨rfl, hH, _⟩; clear HH; have HH := Aside0.mk hH; clear hH) | (go_at_call 13; refine (fixed_calls _).mono ?_; rintro q w8 ⟨rfl, hB⟩; have HE := Aside0.mk (below_step HH.out.bel hB); clear hB))
    go_ret
    exact ⟨rfl, HE.out⟩
  · subst he
    have hsm : someB xs K = true := by
      cases hs : someB xs K with
      | true => rfl
      | false =>
        have h1 := HQ.out
        unfold cloneR at h1
        rw [if_pos hs] at h1
        injection h1 with h1
        injection h1 with _ h1
        injection h1 with _ h1
        cases h1
    obtain ⟨l, hl, hC⟩ := cloned_of HG.out (by omega) kf K c hsm HQ.out
    obtain rfl : l = r := Option.some.inj (hl.symm.trans HR.out)
    obtain ⟨q2, hq2, hk2⟩ := keeps_attr hC.good _ c ⟨#[120]⟩ ⟨#[121]⟩ _ (attr_is ⟨#[120]⟩ (by decide) 99 (by decide))
    obtain ⟨e2, zs⟩ := q2
    obtain ⟨q3, hq3⟩ : ∃ q3, dataR zs c ⟨#[122]⟩ = q3 := ⟨_, rfl⟩
    have hk3 := keeps_data hk2.2.2 c ⟨#[122]⟩
    rw [hq3] at hk3
    obtain ⟨e3, us⟩ := q3
    have hcn : (xs.length : Int) ≤ c := by rw [hC.num]; exact Int.le_refl _
    have ho1 := old_attr hq2 hcn
    have ho2 := old_data hq3 hcn
    have ho := (hC.old.trans ho1).trans ho2
    have hp0 : inB xs ((0 : Nat) : Int) = true := inB_nat.2 hpos
    have hy0 := rows_old HG.out hC.good hC.old (by rw [hC.len]; omega) hp0 HR0.out
    have hul : xs.length ≤ us.length := by
      have h1 := hk2.2.1
      have h2 := hk3.2.1
      have h3 := hC.len
      dsimp only at h1 h2
      omega
    have hu0 := rows_old HG.out hk3.2.2 ho hul hp0 HR0.out
    have huk := rows_old HG.out hk3.2.2 ho hul (someB_inB hsm) HR.out
    have hyl : (ys.length : Int) = (xs.length : Int) + (l.length : Int) := by rw [hC.len]; omega
    have hcc := hC.num
    subst hcc
    have HC := Aside0.mk hC
    have HQ2 := Aside0.mk hq2
    have HQ3 := Aside0.mk hq3
    have HG2 := Aside0.mk hk2.2.2
    have HG3 := Aside0.mk hk3.2.2
    have HY0 := Aside0.mk hy0
    have HU0 := Aside0.mk hu0
    have HUK := Aside0.mk huk
    have HYL := Aside0.mk hyl
    have hll : l.length ≤ 4096 := by have := hC.good.len; have := hC.len; omega
    clear hC hq2 hq3 hk2 hk3 ho1 ho2 ho hp0 hy0 hul hu0 huk hyl hl hsm hkp hcn
    have k3 := Aside0.mk trivial
    have k4 := Aside0.mk trivial
    have k5 := Aside0.mk trivial
    have k6 := Aside0.mk trivial
    have k7 := Aside0.mk trivial
    have k8 := Aside0.mk trivial
    have k9 := Aside0.mk trivial
    have hwl : wrap64 ((xs.length : Int) + (l.length : Int)) = (xs.length : Int) + (l.length : Int) := by unfold wrap64; omega
    have k10 := Aside0.mk trivial
    have k11 := Aside0.mk trivial
    have k12 := Aside0.mk trivial
    have k13 := Aside0.mk trivial
    go_wp2_with (first | (go_at_call 11; clear k1; refine (HH.out.rows (HG.out.fit (by omega)) _ K HR.out).mono ?_; rintro q w4 ⟨A1, c1, rfl, hL, hH, _⟩; clear HH; have HL := Aside0.mk hL; have HH := Aside0.mk hH; clear hH hL) | (go_at_call 11; clear k2; refine (HH.out.rows (HG.out.fit (by omega)) _ 0 HR0.out).mono ?_; rintro q w5 ⟨A2, c2, rfl, hN, hH, hB⟩; have hL := (HL.out.below hB).mono (F' := Or2 _ w4 w5) (fun k hk => .inl hk); clear HH HL; have HL := Aside0.mk hL; have HN := Aside0.mk hN; have HH := Aside0.mk hH; clear hH hL hN hB) | (go_at_call 30; clear k3; refine (HH.out.len rfl).mono ?_; rintro q w6 ⟨rfl, hH, hB⟩; have hL := HL.out.below hB; have hN := HN.out.below hB; clear HH HL HN; have HL := Aside0.mk hL; have HN := Aside0.mk hN; have HH := Aside0.mk hH; clear hH hL hN hB) | (go_at_call 31; refine (HH.out.via (P := fun q => q = .returned (.tuple #[.int .i64 (xs.length : Int), .int .i64 0])) fun ok hI => Doc_Clone hI (HG.out.fit (by omega)) kf K (ys, (xs.length : Int), 0) HQ.out).mono ?_; rintro q w7 ⟨rfl, hH, hs7, hf7⟩; have hL := HL.out.move hs7 (fun k hk _ => hf7 k hk); have hN := HN.out.move hs7 (fun k hk _ => hf7 k hk); clear HH HL HN; have HL := Aside0.mk hL; have HN := Aside0.mk hN; have HH := Aside0.mk hH; clear hH hL hN hs7 hf7) | (go_at_call 30; clear k4; refine (HH.out.len HYL.out).mono ?_; rintro q w8 ⟨rfl, hH, hB⟩; have hL := HL.out.below hB; have hN := HN.out.below hB; clear HH HL HN; have HL := Aside0.mk hL; have HN := Aside0.mk hN; have HH := Aside0.mk hH; clear hH hL hN hB) | (go_at_call 11; clear k5; refine (HH.out.rows (HC.out.good.fit (by omega)) _ (xs.length : Int) HC.out.rows).mono ?_; rintro q w9 ⟨A3, c3, rfl, hM, hH, hB⟩; have hL := HL.out.below hB; have hN := HN.out.below hB; clear HL HN HH; have HL := Aside0.mk hL; have HN := Aside0.mk hN; have HH := Aside0.mk (hH.less fun _ h => .inl h); have HM := Aside0.mk hM; clear hH hL hN hB hM) | (go_at_call 16; clear k6; refine (rows_same HM.out HL.out).mono ?_; rintro q w10 ⟨rfl, hB⟩; have hL := HL.out.below hB; have hN := HN.out.below hB; have hH := HH.out.quiet0 hB; clear HL HN HH HM; have HL := Aside0.mk hL; have HN := Aside0.mk hN; have HH := Aside0.mk hH; clear hH hL hN hB) | (go_at_call 11; clear k7; refine (HH.out.rows (HC.out.good.fit (by omega)) _ 0 HY0.out).mono ?_; rintro q w11 ⟨A4, c4, rfl, hM, hH, hB⟩; have hL := HL.out.below hB; have hN := HN.out.below hB; clear HL HN HH; have HL := Aside0.mk hL; have HN := Aside0.mk hN; have HH := Aside0.mk (hH.less fun _ h => .inl h); have HM := Aside0.mk hM; clear hH hL hN hB hM) | (go_at_call 16; clear k8; refine (rows_same HM.out HN.out).mono ?_; rintro q w12 ⟨rfl, hB⟩; have hL := HL.out.below hB; have hN := HN.out.below hB; have hH := HH.out.quiet0 hB; clear HL HN HH HM; have HL := Aside0.mk hL; have HN := Aside0.mk hN; have HH := Aside0.mk hH; clear hH hL hN hB) | (go_at_call 15; clear k9; refine (HH.out.parent (xs.length : Int) (someB_inB HC.out.has) HC.out.par).mono ?_; rintro q w13 ⟨rfl, hH, hB⟩; have hL := HL.out.below hB; have hN := HN.out.below hB; clear HL HN HH; have HL := Aside0.mk hL; have HN := Aside0.mk hN; have HH := Aside0.mk hH; clear hH hL hN hB) | (go_at_call 22; refine (HH.out.via (P := fun q => q = .returned (.int .i64 e2)) fun ok hI => Doc_Attr hI (HC.out.good.fit (by omega)) 99 (xs.length : Int) ⟨#[120]⟩ ⟨#[121]⟩ (e2, zs) HQ2.out).mono ?_; rintro q w14 ⟨rfl, hH, hs7, hf7⟩; have hL := HL.out.move hs7 (fun k hk _ => hf7 k hk); have hN := HN.out.move hs7 (fun k hk _ => hf7 k hk); clear HH HL HN; have HL := Aside0.mk hL; have HN := Aside0.mk hN; have HH := Aside0.mk hH; clear hH hL hN hs7 hf7) | (go_at_call 32; refine (HH.out.via (P := fun q => q = .returned (.int .i64 e3)) fun ok hI => by have := Doc_Data hI (xs.length : Int) ⟨#[122]⟩; rw [HQ3.out] at this; exact this).mono ?_; rintro q w15 ⟨rfl, hH, hs7, hf7⟩; have hL := HL.out.move hs7 (fun k hk _ => hf7 k hk); have hN := HN.out.move hs7 (fun k hk _ => hf7 k hk); clear HH HL HN; have HL := Aside0.mk hL; have HN := Aside0.mk hN; have HH := Aside0.mk hH; clear hH hL hN hs7 hf7) | (go_at_call 11; clear k10; refine (HH.out.rows (HG3.out.fit (by omega)) _ K HUK.out).mono ?_; rintro q w16 ⟨A5, c5, rfl, hM, hH, hB⟩; have hL := HL.out.below hB; have hN := HN.out.below hB; clear HL HN HH; have HL := Aside0.mk hL; have HN := Aside0.mk hN; have HH := Aside0.mk (hH.less fun _ h => .inl h); have HM := Aside0.mk hM; clear hH hL hN hB hM) | (go_at_call 16; clear k11; refine (rows_same HM.out HL.out).mono ?_; rintro q w17 ⟨rfl, hB⟩; have hL := HL.out.below hB; have hN := HN.out.below hB; have hH := HH.out.quiet0 hB; clear HL HN HH HM; have HL := Aside0.mk hL; have HN := Aside0.mk hN; have HH := Aside0.mk hH; clear hH hL hN hB) | (go_at_call 11; clear k12; refine (HH.out.rows (HG3.out.fit (by omega)) _ 0 HU0.out).mono ?_; rintro q w18 ⟨A6, c6, rfl, hM, hH, hB⟩; have hL := HL.out.below hB; have hN := HN.out.below hB; clear HL HN HH; have HL := Aside0.mk hL; have HN := Aside0.mk hN; have HH := Aside0.mk (hH.less fun _ h => .inl h); have HM := Aside0.mk hM; clear hH hL hN hB hM) | (go_at_call 16; clear k13; refine (rows_same HM.out HN.out).mono ?_; rintro q w19 ⟨rfl, hB⟩; have hH := HH.out.quiet0 hB; clear HL HN HH HM; have HH := Aside0.mk hH; clear hH hB) | (go_at_call 13; refine (fixed_calls _).mono ?_; rintro q w20 ⟨rfl, hB⟩; have HE := Aside0.mk (below_step HH.out.bel hB); clear hB))
    go_ret
    exact ⟨rfl, HE.out⟩
end Go.Proofs.Ytpkaliaaffgbdaa.QA
