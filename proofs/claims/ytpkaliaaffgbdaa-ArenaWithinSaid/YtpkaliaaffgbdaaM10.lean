/- The document's own answer (boltingref11): Load. Whether a text may be a name: the document's own answer. The document's own answer (boltingref11): Make; calls at nodes that are none. A document of the arena's beside one of the answer's; what a call of a script answers on either. -/
import Derived.Test.YtpkaliaaffgbdaaM9
import Derived.Test.YtpkaliaaffgbdaaQAx7
namespace Go.Proofs.Ytpkaliaaffgbdaa.QA
open Go.RowKit Go.Proofs.YtpkaliaaffgbdaaW.PrintWords Go.Proofs.YtpkaliaaffgbdaaW.PrintLast Go.Proofs.YtpkaliaaffgbdaaW.PrintMore
attribute [local go_sem] max2_int min2_int max_two min_two max_three min_three max_four min_four   -- for this text's walks alone
set_option linter.unusedVariables false
set_option linter.unusedSimpArgs false

open Go
/-- Between two rounds of Load. -/
structure RLoad (w W : World) (ok ok1 : Nat → Prop) (g : Nat) (ys : List S79) (v : Value) (roots : List Int) : Prop where
 st : RD w W ok ok1 g ys
 rts : Kd.R kI 3 W w.heap.size (fun k => ¬ ok1 k) v roots
/-- What a round of Load knows of its numbers. -/
structure LoadN (M : Nat) (l : List S54) (xs : List S79) (r : List S79 × List Int) (kk : Nat) (ys : List S79) (roots ar : List Int) : Prop where
 good : Good M ys
 len : ys.length = xs.length + kk
 is : loadL (l.drop kk) ys roots ar = some r
 path : Path l xs.length kk ar
 lt : ∀ v ∈ ar, 0 ≤ v ∧ v < (ys.length : Int)
 rl : roots.length ≤ kk
section
variable {w W W0 W1 : World} {ok ok1 : Nat → Prop} {g M : Nat} {xs ys zs : List S79} {v : Value} {roots ar : List Int} {l : List S54} {r : List S79 × List Int} {kk : Nat}
theorem RDoc.cellX (h : RDoc W ok g xs) : ∃ A c, W.cell? ⟨g, 0, none⟩ = some (.slice A xs.length c) := by
 obtain ⟨R, vX, vU, vR, h, hR⟩ := h
 obtain ⟨A, c, rfl⟩ := Kd.R_slice h.rX
 exact ⟨A, c, by rw [← f0s_length]; exact (ref_cells h.blk).1⟩
theorem RLoad.step (h : RLoad w W ok ok1 g ys v roots) (hb : Below W.heap.size W W0) (ht : ToRD W0 W1 ok1 g zs) : ∃ ok2, RLoad w W1 ok ok2 g zs v roots ∧ ∀ k, k < W0.heap.size → ¬ ok1 k → W1.heap[k]? = W0.heap[k]? := by
 obtain ⟨ok2, h2, h3⟩ := h.st.then_ hb ht
 have hs := hb.size
 refine ⟨ok2, ⟨h2, ?_⟩, fun k hk hn => (h3 k hk hn).1⟩
 exact R1_same h.rts (fun k hk hl => (h3 k (by omega) (h.rts.1 k hk)).1.trans (hb.block k hl)) fun k _ hl hn => (h3 k (by omega) hn).2
theorem RLoad.quiet (h : RLoad w W ok ok1 g ys v roots) (hb : Below W.heap.size W W0) : RLoad w W0 ok ok1 g ys v roots := ⟨h.st.quiet hb, Kd.R_below h.rts hb⟩
theorem RLoad.rooted {W5 : World} {v5 : Value} {roots' : List Int} (h : RLoad w W ok ok1 g ys v roots) (hg : W.grownBy W5 v.ownBlock) (hR : Kd.R kI 3 W5 w.heap.size (fun k => ¬ ok1 k) v5 roots') : RLoad w W5 ok ok1 g ys v5 roots' := by
 refine ⟨.mk (h.st.doc.move fun k hk hl => hg.block k hl fun e => h.rts.1 k e.symm hk) h.st.new (fun k hk => Nat.lt_of_lt_of_le (h.st.lt k hk) hg.size) ?_, hR⟩
 have hm := h.st.mod
 refine ⟨hg.os.trans hm.os, hg.tape.trans hm.tape, hg.output.trans hm.output, Nat.le_trans hm.size hg.size, fun k hk hn => (hg.block k (Nat.lt_of_lt_of_le hk hm.size) fun e => ?_).trans (hm.block k hk hn)⟩
 have := Kd.R_base h.rts k e.symm
 omega
theorem LoadN.start (h : Good M xs) (hr : loadL l xs [] [] = some r) : LoadN M l xs r 0 xs [] [] := ⟨h, rfl, hr, path_start l _, by simp, Nat.zero_le _⟩
/-- A round: the row's depth is one of those that are open; the node's place. -/
theorem LoadN.round (h : LoadN M l xs r kk ys roots ar) (hl : kk < l.length) (hM : M < 900000) (hx : ∀ x ∈ l, x.f4.length ≤ M) (hcap : xs.length + l.length ≤ 4096) :
  Good M (addN ys (rd_T54 l (kk : Int))) ∧ (((rd_T54 l (kk : Int)).f0 = 0 ∧ lastAt l (wrap64 ((rd_T54 l (kk : Int)).f0 - 1)) kk = -1 ∧ LoadN M l xs r (kk + 1) (addN ys (rd_T54 l (kk : Int))) (roots ++ [(ys.length : Int)]) [(ys.length : Int)]) ∨
   ∃ p pk : Nat, lastAt l (wrap64 ((rd_T54 l (kk : Int)).f0 - 1)) kk = (pk : Int) ∧ p = xs.length + pk ∧ p < ys.length ∧ ∃ ar', LoadN M l xs r (kk + 1) (putN (takeN (addN ys (rd_T54 l (kk : Int))) ys.length) p (ks9 (addN ys (rd_T54 l (kk : Int))) p).length ys.length) roots ar' ∧ (ks9 (addN ys (rd_T54 l (kk : Int))) p).length ≤ (ks9 (takeN (addN ys (rd_T54 l (kk : Int))) ys.length) p).length) := by
 have hd : l.drop kk = rd_T54 l kk :: l.drop (kk + 1) := by rw [List.drop_eq_getElem_cons hl, rd_T54_at l kk hl]
 have hi := h.is
 have hx0 : (rd_T54 l (kk : Int)).f4.length ≤ M := hx _ (by rw [rd_T54_at l kk hl]; exact List.getElem_mem hl)
 have hyl := h.len
 have hg := h.good.add (rd_T54 l (kk : Int)) hx0 (by omega)
 refine ⟨hg, ?_⟩
 obtain ⟨a1, a2, _, _⟩ := add_facts ys (rd_T54 l (kk : Int))
 rw [hd] at hi
 simp only [loadL] at hi
 split at hi
 rotate_left
 ·cases hi
 rename_i hc
 obtain ⟨n0, n1, _⟩ := hc
 have hq : ((xs.length + kk : Nat) : Int) = (ys.length : Int) := by omega
 split at hi
 ·rename_i c
  left
  refine ⟨c, by rw [c, show wrap64 (0 - 1) = -1 from by unfold wrap64; omega]; exact h.path.none, hg, by rw [a1]; omega, hi, ?_, fun v hv => by rw [List.mem_singleton.1 hv, a1]; omega, by have := h.rl; simp; omega⟩
  have := path_root h.path c
  rwa [hq] at this
 ·rename_i c
  split at hi
  rotate_left
  ·cases hi
  rename_i hc2
  right
  obtain ⟨E, hE⟩ : ∃ E, (rd_T54 l (kk : Int)).f0.toNat = E + 1 := ⟨(rd_T54 l (kk : Int)).f0.toNat - 1, by omega⟩
  rw [hE, show E + 1 - 1 = E by omega] at hi hc2
  have hEl : E < ar.length := by omega
  obtain ⟨pa, pb⟩ := h.path.at_ E hEl
  obtain ⟨pk, hpk⟩ := Int.eq_ofNat_of_zero_le pb
  rw [hpk] at pa
  have hpe : ar.getD E 0 = ((xs.length + pk : Nat) : Int) := by rw [pa]; omega
  rw [hpe] at hi hc2
  rw [Int.toNat_natCast] at hi
  have hw : wrap64 ((rd_T54 l (kk : Int)).f0 - 1) = (E : Int) := by
   have h1 : (rd_T54 l (kk : Int)).f0 = ((E + 1 : Nat) : Int) := by omega
   have h2 : ar.length < 900000 := by rename_i h3; omega
   rw [h1]
   unfold wrap64
   omega
  refine ⟨xs.length + pk, pk, by rw [hw]; exact hpk, rfl, by omega, ar.take (E + 1) ++ [(ys.length : Int)], ?_, ?_⟩
  rotate_left
  ·have hu : (rd_T79 (addN ys (rd_T54 l (kk : Int))) (ys.length : Int)).f1 = -1 := by unfold addN; rw [rd_add, if_pos rfl]
   rw [takeN_none ys.length (by omega) hu]
   exact Nat.le_refl _
  ·have hu : (rd_T79 (addN ys (rd_T54 l (kk : Int))) (ys.length : Int)).f1 = -1 := by unfold addN; rw [rd_add, if_pos rfl]
   rw [takeN_none ys.length (by omega) hu]
   have hleaf : ks9 (addN ys (rd_T54 l (kk : Int))) ys.length = [] := by unfold ks9 addN; rw [rd_add, if_pos rfl]
   have hpos := h.good.tree.pos
   have hp := hg.put (xs.length + pk) (ks9 (addN ys (rd_T54 l (kk : Int))) (xs.length + pk)).length ys.length (by omega) (by omega) (by omega) (by unfold up9 addN; rw [rd_add, if_pos rfl]; split <;> rfl) (fun hu => by have := under_leaf hg.tree hleaf hu; omega)
   refine ⟨hp, by rw [putN_length, a1]; omega, hi, ?_, fun v hv => ?_, Nat.le_succ_of_le h.rl⟩
   ·have := path_step h.path n0 n1
    rwa [hE, hq] at this
   ·rw [putN_length, a1]
    rcases List.mem_append.1 hv with h5 | h5
    ·have := h.lt v (List.mem_of_mem_take h5); omega
    ·rw [List.mem_singleton.1 h5]; omega
end
section
variable {w : World} {ok okl : Nat → Prop} {g M : Nat} {xs : List S79} {l : List S54}
set_option maxHeartbeats 8000000 in
set_option maxRecDepth 100000 in
theorem Ref_Load (h : RDoc w ok g xs) (hG : Good M xs) (hM : M < 900000) (A : Option Addr) (c : Nat) (hF : Kd.F k54 w okl A l.length l) (hok : ∀ k, okl k → ¬ ok k) (hlc : l.length ≤ c) (hx : ∀ x ∈ l, x.f4.length ≤ M) (hll : l.length < 100000) (k k2 : Nat) (e : Int) (h1 : rows_Check.f k l = some e) (h2 : boltingref04_Check.f k2 l = some e) (r : List S79 × List Int × Int) (hr : loadR xs k l = some r) :
  Calls Try.prog 50 #[.pointer (some ⟨g, 0, none⟩), .slice A l.length c] w fun o w' => ∃ v, o = .returned (.tuple #[v, .int .i64 r.2.2]) ∧ ∃ ok1, RLoad w w' ok ok1 g r.1 v r.2.1 := by
 have HF := Aside0.mk hF
 have HO := Aside0.mk hok
 have HLC := Aside0.mk hlc
 have HD := Aside0.mk h
 have HCK := Aside0.mk h2
 have HCX := Aside0.mk h.cellX
 have hgl := h.lt
 have HXN := Aside0.mk (And.intro hx (And.intro hll hM))
 have HR := Aside0.mk hr
 have HG := Aside0.mk hG
 have HH := Aside0.mk h1
 clear hF hok hlc h h1 h2 hx hll hM hr hG
 go_enter Try.func50, Try.ntmps50
 go_upto_region 3 with (first | (go_at_call 74; refine (boltingref04_Check.calls k2 A c l e _ (Kd.C_below (Kd.F_now HF.out) (below_alloc (Below.refl _ _) _)) HLC.out HCK.out).mono ?_; rintro o w1 ⟨rfl, hB⟩))
 have hB0 : Below w.heap.size w w1 := (below_alloc (Below.refl w.heap.size w) _).trans (hB.mono (by rw [World.size_alloc]; omega))
 have hE : Kd.R kI 3 w1 w.heap.size (fun k => ¬ (ok k ∧ k < w.heap.size)) (.slice (some ⟨w.heap.size, 0, none⟩) 0 0) [] :=
  R_put_own (Kd.R_below (R_int_block (xs := []) (cap := 0) (Nat.le_refl _) (blk_new w _) (Nat.le_refl _) (by decide) rfl rfl) hB) fun k hk h => by
   have hk : w.heap.size = k := Option.some.inj hk
   have := h.2
   omega
 have HI := Aside0.mk (show RLoad w w1 ok (fun k => ok k ∧ k < w.heap.size) g xs (.slice (some ⟨w.heap.size, 0, none⟩) 0 0) [] from ⟨HD.out.start.quiet hB0, hE⟩)
 obtain ⟨AX, cX, hcx⟩ := HCX.out
 have hcx1 := (hB0.cell (p := ⟨g, 0, none⟩) hgl).trans hcx
 clear hB hE hB0 hcx
 have hr := HR.out
 unfold loadR at hr
 rw [HH.out] at hr
 dsimp only at hr
 have hlz := HXN.out.2.1
 have hxz := HG.out.len
 have hw : wrap64 ((xs.length : Int) + (l.length : Int)) = (xs.length : Int) + (l.length : Int) := by unfold wrap64; omega
 by_cases ce : e = 0
 rotate_left
 ·rw [if_pos ce] at hr
  obtain rfl := Option.some.inj hr
  have ceb : (e != 0) = true := bne_iff_ne.2 ce
  clear hr HR ce
  go_wp2
  go_ret2
  exact ⟨_, rfl, _, HI.out⟩
 rw [if_neg (by simpa using ce)] at hr
 subst ce
 split at hr
 ·rename_i hbig
  obtain rfl := Option.some.inj hr
  have hbb : decide ((4096 : Int) < (xs.length : Int) + (l.length : Int)) = true := decide_eq_true (by omega)
  clear hr HR
  go_wp2
  go_ret2
  exact ⟨_, rfl, _, HI.out⟩
 rename_i hbig
 obtain ⟨r0, hr0, rfl⟩ := Option.map_eq_some_iff.1 hr
 have hbb : decide ((4096 : Int) < (xs.length : Int) + (l.length : Int)) = false := decide_eq_false (by omega)
 have HN := Aside0.mk (LoadN.start HG.out hr0)
 have HBIG := Aside0.mk (show xs.length + l.length ≤ 4096 by omega)
 clear hr HR hr0 hbig
 go_wp2
 clear hcx1 hw hbb
 go_loopg [6, 9] l.length (fun gg v6 v9 W => ∃ (kk : Nat) (ys : List S79) (roots ar : List Int) (ok1 : Nat → Prop), kk ≤ l.length ∧ l.length - kk ≤ gg ∧ v9 = .int .i64 (kk : Int) ∧ Aside0 (RLoad w W ok ok1 g ys v6 roots) ∧ Aside0 (LoadN M l xs r0 kk ys roots ar))
 case atStart => exact ⟨0, xs, [], [], _, Nat.zero_le _, by omega, rfl, HI, HN⟩
 case round =>
  clear HI HN
  obtain ⟨kk, ys, roots, ar, ok1, hkk, hgg, rfl, HI, HN⟩ := hrel
  obtain ⟨Ar, cr, rfl⟩ := Kd.R_slice HI.out.rts
  by_cases hlt : kk < l.length
  ·have hltz : (kk : Int) < (l.length : Int) := by omega
   obtain ⟨ad, A4, c4, e4, hx0, hx1, hx2, hx3, hx4, hl4, hi4⟩ := at_T54 (HF.out wr fun k hk hlt => HI.out.st.mod.block k hlt (HO.out k hk)) (kk : Int) (by omega) hltz
   subst e4
   have hxM : (rd_T54 l (kk : Int)).f4.length ≤ M := HXN.out.1 _ (by rw [rd_T54_at l kk hlt]; exact List.getElem_mem hlt)
   have hrd := HN.out.round hlt HXN.out.2.2 HXN.out.1 HBIG.out
   have hpar := parent_is l kk hlt (by omega)
   have HLK := Aside0.mk (fun (W : World) (hm : Mod w W ok) => HF.out W fun k hk hlt => hm.block k hlt (HO.out k hk))
   generalize rd_T54 l (kk : Int) = x at hrd hpar hx0 hx1 hx2 hx3 hx4 hl4 hi4 hxM
   obtain ⟨hG2, hrd⟩ := hrd
   have HG2 := Aside0.mk hG2
   have HPAR := Aside0.mk hpar
   have hMM := HXN.out.2.2
   obtain ⟨f0, f1, f2, f3, f4⟩ := x
   dsimp only at hx0 hx1 hx2 hx3 hx4 hl4 hi4 hxM
   have hadd := RD_add HI.out.st.doc HN.out.good ⟨f0, f1, f2, f3, f4⟩ A4 c4 hi4 hl4 (show f4.length < 1000000 by omega)
   have HADD := Aside0.mk hadd
   have HYL := Aside0.mk HN.out.len
   have HRL := Aside0.mk HN.out.rl
   rw [Int.toNat_natCast] at hx0 hx1 hx2 hx3 hx4
   clear hadd hpar hG2 hi4
   rcases hrd with ⟨hD, hpl, hN2⟩ | ⟨p, pk, hpl, hp, hpy, ar', hN2, hle⟩
   ·dsimp only at hD
    subst hD
    rw [hpl] at HPAR
    have HN2 := Aside0.mk hN2
    clear hpl hN2 HN
    go_wp2_with (first | (go_at_call 73; refine HADD.out.mono ?_; rintro o W1 ⟨rfl, hT⟩; obtain ⟨ok2, hI2, _⟩ := HI.out.step (Below.refl _ _) hT; have HI2 := Aside0.mk hI2; clear hI2 hT hx0 hx1 hx2 hx3 hx4) | (go_at_call 75; refine (boltingref04_Parent.calls _ _ c l (kk : Int) (-1) W1 (HLK.out W1 HI2.out.st.mod) HLC.out HPAR.out).mono ?_; rintro o W2 ⟨rfl, ⟨m, rfl⟩⟩; have HI3 := Aside0.mk (HI2.out.quiet (pw_below_drewN (Below.refl _ _) m)); clear HI2) | ((with_reducible refine gate_builtin (b := .append) (xs := #[.tmp 51, .tmp 53]) rfl ?_); at_builtin; refine Kd.R_append kI (w0 := W1.drewN m) w.heap.size rfl (.tmp 51) (.tmp 53) 32 3 (.int .i64 0) 8 rfl Try.underlying32 info3 rfl (by decide) (by decide) (.slice Ar roots.length cr) roots (ys.length : Int) [.int .i64 (ys.length : Int)] (fun k => ¬ ok2 k) (fun _ => False) rfl rfl ?aP (fun _ h => h.elim) ?aF HI3.out.rts (Below.refl _ _) HI3.out.st.mod.size ?aL ?_; (case aP => exact rfl); (case aF => exact fun k hk h => by have h1 := HI3.out.st.lt k h; omega); (case aL => have := HRL.out; have := HBIG.out; omega); intro v5 W5 hR5 _ hg5 _; have HI4 := Aside0.mk (HI3.out.rooted hg5 hR5); clear hR5 hg5))
    go_roundg (l.length - (kk + 1))
    case measure => omega
    case rel => exact ⟨kk + 1, _, _, _, ok2, by omega, by omega, by first | (rw [wrap1 (by omega)]; done) | go_num, HI4, HN2⟩
   ·have hkl := kidsN_nat (xs := addN ys ⟨f0, f1, f2, f3, f4⟩) p
    have HKL := Aside0.mk hkl
    have HPP := Aside0.mk (And.intro hpy hle)
    have HN2 := Aside0.mk hN2
    have hw1 : wrap64 ((xs.length : Int) + (pk : Int)) = (p : Int) := by unfold wrap64; have := HYL.out; have := HBIG.out; omega
    rw [hpl] at HPAR
    clear hpl hN2 hkl hle HN hpy hp
    go_wp2_with (first | (go_at_call 73; refine HADD.out.mono ?_; rintro o W1 ⟨rfl, hT⟩; obtain ⟨ok2, hI2, _⟩ := HI.out.step (Below.refl _ _) hT; have HI2 := Aside0.mk hI2; clear hI2 hT hx0 hx1 hx2 hx3 hx4) | (go_at_call 75; refine (boltingref04_Parent.calls _ _ c l (kk : Int) (pk : Int) W1 (HLK.out W1 HI2.out.st.mod) HLC.out HPAR.out).mono ?_; rintro o W2 ⟨rfl, ⟨m, rfl⟩⟩; have HI3 := Aside0.mk (HI2.out.quiet (pw_below_drewN (Below.refl _ _) m)); clear HI2) | (go_at_call 59; refine (RD_Kids HI3.out.st.doc HG2.out (p : Int)).mono ?_; rintro o W3 ⟨v, rfl, hR, hB⟩; obtain ⟨Ak, ck, rfl⟩ := Kd.R_slice hR; have HI4 := Aside0.mk (HI3.out.quiet hB); clear hR hB HI3) | (go_at_call 76; rw [HKL.out]; refine (RD_set HI4.out.st.doc HG2.out p (ks9 (addN ys ⟨f0, f1, f2, f3, f4⟩) p).length ys.length (by have := HPP.out.1; simp [addN]; omega) (by simp [addN]) (by have := HPP.out.1; omega) HPP.out.2).mono ?_; rintro o W4 ⟨rfl, hT⟩; obtain ⟨ok4, hI5, _⟩ := HI4.out.step (Below.refl _ _) hT; have HI5 := Aside0.mk hI5; clear hI5 hT))
    go_roundg (l.length - (kk + 1))
    case measure => omega
    case rel => exact ⟨kk + 1, _, _, _, ok4, by omega, by omega, by first | (rw [wrap1 (by omega)]; done) | go_num, HI5, HN2⟩
  ·obtain rfl : kk = l.length := by omega
   have hltz : ¬ (l.length : Int) < (l.length : Int) := by omega
   have his := HN.out.is
   rw [List.drop_length] at his
   obtain rfl := Option.some.inj his
   clear his
   go_wp2
   go_ret2
   exact ⟨_, rfl, _, HI.out⟩
end
end Go.Proofs.Ytpkaliaaffgbdaa.QA
namespace Go.Proofs.Ytpkaliaaffgbdaa.QA
open Go.RowKit Go.Proofs.YtpkaliaaffgbdaaW.PrintWords Go.Proofs.YtpkaliaaffgbdaaW.PrintLast Go.Proofs.YtpkaliaaffgbdaaW.PrintMore
attribute [local go_sem] max2_int min2_int max_two min_two max_three min_three max_four min_four   -- for this text's walks alone
set_option linter.unusedVariables false
set_option linter.unusedSimpArgs false

open Go
theorem bad_all_f : ∀ n : Nat, n < 256 → boltingref05_bad.f (n : Int) false = some (!okB [47, 62] (UInt8.ofNat n)) := by decide +kernel
theorem bad_all_t : ∀ n : Nat, n < 256 → boltingref05_bad.f (n : Int) true = some (!okB [47, 62, 34, 39, 60, 61] (UInt8.ofNat n)) := by decide +kernel
def butOf (attr : Bool) : List UInt8 := if attr then [47, 62, 34, 39, 60, 61] else [47, 62]
theorem bad_is (c : UInt8) (attr : Bool) : boltingref05_bad.f (c.toNat : Int) attr = some (!okB (butOf attr) c) := by
 cases attr with
 | false => have h := bad_all_f c.toNat c.toNat_lt; rw [UInt8.ofNat_toNat] at h; exact h
 | true => have h := bad_all_t c.toNat c.toNat_lt; rw [UInt8.ofNat_toNat] at h; exact h
def mayB (attr : Bool) (l : List UInt8) : Bool := decide (0 < l.length) && (attr || (decide (97 ≤ (l.headD 0).toNat) && decide ((l.headD 0).toNat ≤ 122)))
theorem may_l0 (s : ByteArray) (attr : Bool) (hn : s.size ≤ 140737488351232) (d : Nat) : ∀ (k i : Nat), i + d = s.data.toList.length → d < k →
  boltingref05_May.l0 k s attr (i : Int) = some ((s.data.toList.drop i).all (okB (butOf attr)) && mayB attr s.data.toList) := by
 have hs := size_len s
 induction d with
 | zero =>
  intro k i hi hk
  obtain ⟨k, rfl⟩ : ∃ m, k = m + 1 := ⟨k - 1, by omega⟩
  simp only [boltingref05_May.l0]
  rw [if_neg (by omega), List.drop_of_length_le (by omega)]
  cases hl : s.data.toList with
  | nil =>
   have hs0 : s.size = 0 := by rw [hs, hl]; rfl
   rw [if_neg (by omega)]
   rfl
  | cons c l =>
   have hlen : 0 < s.data.toList.length := by rw [hl]; simp
   have hc : s.data.toList[0] = c := by simp [hl]
   rw [if_pos (by omega)]
   cases attr with
   | true => rfl
   | false =>
    rw [if_neg (by decide), if_pos (by omega), show ((0 : Int)) = ((0 : Nat) : Int) from rfl, bt_get s 0 hlen, hc]
    show _ = some (true && (decide (0 < (c :: l).length) && (false || (decide (97 ≤ c.toNat) && decide (c.toNat ≤ 122)))))
    rw [decide_eq_true (show 0 < (c :: l).length by simp), Bool.true_and, Bool.true_and, Bool.false_or]
    by_cases h : (c.toNat : Int) ≥ 97
    ·rw [if_pos h, decide_eq_true (show 97 ≤ c.toNat by omega), Bool.true_and]
     congr 1
     rw [Bool.eq_iff_iff, decide_eq_true_iff, decide_eq_true_iff]
     omega
    ·rw [if_neg h, decide_eq_false (show ¬ 97 ≤ c.toNat by omega), Bool.false_and]
 | succ d ih =>
  intro k i hi hk
  obtain ⟨k, rfl⟩ : ∃ m, k = m + 1 := ⟨k - 1, by omega⟩
  simp only [boltingref05_May.l0]
  rw [if_pos (by omega), if_pos (by omega), bt_get s i (by omega), bad_is, wrap1 (by omega), ih k (i + 1) (by omega) (by omega), List.drop_eq_getElem_cons (show i < s.data.toList.length by omega), List.all_cons]
  cases h : okB (butOf attr) (s.data.toList[i]'(by omega)) <;> simp
theorem may_is (s : ByteArray) (attr : Bool) (hn : s.size ≤ 140737488351232) (k : Nat) (hk : s.size < k) :
  boltingref05_May.f k s attr = some (if attr then okAttr s.data.toList else okRight s.data.toList) := by
 unfold boltingref05_May.f
 rw [show ((0 : Int)) = ((0 : Nat) : Int) from rfl, may_l0 s attr hn s.data.toList.length k 0 (by omega) (by have := size_len s; omega), List.drop_zero]
 have hne : ∀ (c : UInt8) (l : List UInt8), ((c :: l : List UInt8) != []) = true := fun _ _ => rfl
 cases attr <;> simp only [okAttr, okRight, okS, mayB, butOf] <;> cases s.data.toList <;> simp [hne]
end Go.Proofs.Ytpkaliaaffgbdaa.QA
namespace Go.Proofs.Ytpkaliaaffgbdaa.QA
open Go.RowKit Go.Proofs.YtpkaliaaffgbdaaW.PrintWords Go.Proofs.YtpkaliaaffgbdaaW.PrintLast Go.Proofs.YtpkaliaaffgbdaaW.PrintMore
attribute [local go_sem] max2_int min2_int max_two min_two max_three min_three max_four min_four   -- for this text's walks alone
set_option linter.unusedVariables false
set_option linter.unusedSimpArgs false

open Go
/-- May a node be made? -/
def mayV (kind : Int) (name data : ByteArray) : Bool :=
 if kind = 0 then okRight name.data.toList && (data.toList == ([] : List UInt8)) else if kind = 1 then name.toList == ([] : List UInt8) else if kind = 2 then name.toList == ([] : List UInt8) else false
theorem may_val (kind : Int) (name data : ByteArray) (hn : name.size ≤ 140737488351232) : arena_may.f (name.size * 9 + 1) kind name data = some (mayV kind name data) := by
 unfold arena_may.f mayV
 rw [right_is name hn _ (by omega)]
 simp only [Option.bind_some]
 split
 ·cases okRight name.data.toList <;> rfl
 ·split
  ·rfl
  ·split <;> rfl
section
variable {W w : World} {ok : Nat → Prop} {g M : Nat} {xs : List S79}
set_option maxHeartbeats 4000000 in
set_option maxRecDepth 100000 in
theorem RD_Make (h : RDoc w ok g xs) (hG : Good M xs) (kind : Int) (name data : ByteArray) (hn : name.size ≤ 140737488351232) :
  Calls Try.prog 49 #[.pointer (some ⟨g, 0, none⟩), .int .i64 kind, .string name, .string data] w fun e w' => e = .returned (.tuple #[.int .i64 (makeR xs (mayV kind name data) kind name data).1, .int .i64 (makeR xs (mayV kind name data) kind name data).2.1]) ∧ ToRD w w' ok g (makeR xs (mayV kind name data) kind name data).2.2 := by
 have HM := Aside0.mk (fun W => boltingref05_May.calls (name.size + 1) name false (okRight name.data.toList) W (may_is name false hn _ (by omega)))
 have HD := Aside0.mk h
 have HGO := Aside0.mk hG
 obtain ⟨AX, cX, hcx⟩ := h.cellX
 have hlen := hG.len
 have hgl := h.lt
 clear h hn hG
 have key : ∀ b : Bool, mayV kind name data = b → ((kind = 0 ∧ (okRight name.data.toList = false ∨ (okRight name.data.toList = true ∧ (data.toList == ([] : List UInt8)) = b)) ∧ (okRight name.data.toList = false → b = false)) ∨ (kind = 1 ∧ (name.toList == ([] : List UInt8)) = b) ∨ (kind = 2 ∧ (name.toList == ([] : List UInt8)) = b) ∨ (kind ≠ 0 ∧ kind ≠ 1 ∧ kind ≠ 2 ∧ b = false)) := by
  intro b hb
  unfold mayV at hb
  split at hb
  ·rename_i c
   left
   refine ⟨c, ?_, ?_⟩
   ·cases ho : okRight name.data.toList with
    | false => exact .inl rfl
    | true => rw [ho, Bool.true_and] at hb; exact .inr ⟨rfl, hb⟩
   ·intro ho; rw [ho, Bool.false_and] at hb; exact hb.symm
  ·split at hb
   ·exact .inr (.inl ⟨‹_›, hb⟩)
   ·split at hb
    ·exact .inr (.inr (.inl ⟨‹_›, hb⟩))
    ·exact .inr (.inr (.inr ⟨‹_›, ‹_›, ‹_›, hb.symm⟩))
 cases hb : mayV kind name data with
 | false =>
  have hk := key false hb
  unfold makeR
  rw [if_pos rfl]
  clear key hb
  rcases hk with ⟨rfl, hk | ⟨hk, hd⟩, _⟩ | ⟨rfl, hk⟩ | ⟨rfl, hk⟩ | ⟨k0, k1, k2, _⟩
  ·rw [hk] at HM
   clear hk
   go_enter Try.func49, Try.ntmps49
   go_wp2_with (first | (go_at_call 72; refine (HM.out _).mono ?_; rintro e w' ⟨rfl, ⟨m, rfl⟩⟩))
   go_ret2
   exact ⟨rfl, .quiet HD.out (by repeat (first | exact Below.refl _ _ | apply pw_below_drewN))⟩
  ·rw [hk] at HM
   clear hk
   go_enter Try.func49, Try.ntmps49
   go_wp2_with (first | (go_at_call 72; refine (HM.out _).mono ?_; rintro e w' ⟨rfl, ⟨m, rfl⟩⟩))
   go_ret2
   exact ⟨rfl, .quiet HD.out (by repeat (first | exact Below.refl _ _ | apply pw_below_drewN))⟩
  ·go_enter Try.func49, Try.ntmps49
   go_wp2
   go_ret2
   exact ⟨rfl, .quiet HD.out (by repeat (first | exact Below.refl _ _ | apply pw_below_drewN))⟩
  ·go_enter Try.func49, Try.ntmps49
   go_wp2
   go_ret2
   exact ⟨rfl, .quiet HD.out (by repeat (first | exact Below.refl _ _ | apply pw_below_drewN))⟩
  ·have k0b : (kind == 0) = false := beq_eq_false_iff_ne.2 k0
   have k1b : (kind == 1) = false := beq_eq_false_iff_ne.2 k1
   have k2b : (kind == 2) = false := beq_eq_false_iff_ne.2 k2
   clear k0 k1 k2
   go_enter Try.func49, Try.ntmps49
   go_wp2
   go_ret2
   exact ⟨rfl, .quiet HD.out (by repeat (first | exact Below.refl _ _ | apply pw_below_drewN))⟩
 | true =>
  have hk := key true hb
  unfold makeR
  rw [if_neg (by decide)]
  clear key hb
  have hk2 : ((kind == 0) = true ∧ okRight name.data.toList = true ∧ (data.toList == ([] : List UInt8)) = true) ∨ ((kind == 0) = false ∧ (kind == 1) = true ∧ (name.toList == ([] : List UInt8)) = true) ∨ ((kind == 0) = false ∧ (kind == 1) = false ∧ (kind == 2) = true ∧ (name.toList == ([] : List UInt8)) = true) := by
   rcases hk with ⟨rfl, hk | ⟨hk, hd⟩, h3⟩ | ⟨rfl, hk⟩ | ⟨rfl, hk⟩ | ⟨_, _, _, h⟩
   ·cases h3 hk
   ·exact .inl ⟨rfl, hk, hd⟩
   ·exact .inr (.inl ⟨rfl, rfl, hk⟩)
   ·exact .inr (.inr ⟨rfl, rfl, rfl, hk⟩)
   ·cases h
  clear hk
  have HCX := Aside0.mk (fun m => show (w.drewN m).cell? ⟨g, 0, none⟩ = some (.slice AX xs.length cX) from hcx)
  have HADD := Aside0.mk (fun m => RD_add (HD.out.below (pw_below_drewN (Below.refl w.heap.size w) m)) HGO.out ⟨0, kind, name, data, []⟩ none 0 (Kd.C_nil _ _) (Nat.le_refl _) (show (0 : Nat) < 1000000 by decide))
  by_cases c0 : 4096 ≤ xs.length
  ·rw [if_pos c0]
   have hz2 : decide ((4096 : Int) ≤ (xs.length : Int)) = true := decide_eq_true (by omega)
   clear HADD
   rcases hk2 with ⟨b0, hr, b1⟩ | ⟨b0, b1, b2⟩ | ⟨b0, b1, b2, b3⟩
   ·rw [hr] at HM
    clear hr
    go_enter Try.func49, Try.ntmps49
    go_wp2_with (first | (go_at_call 72; refine (HM.out _).mono ?_; rintro e w' ⟨rfl, ⟨m, rfl⟩⟩))
    go_ret2
    exact ⟨rfl, .quiet HD.out (by repeat (first | exact Below.refl _ _ | apply pw_below_drewN))⟩
   ·go_enter Try.func49, Try.ntmps49
    go_wp2
    go_ret2
    exact ⟨rfl, .quiet HD.out (by repeat (first | exact Below.refl _ _ | apply pw_below_drewN))⟩
   ·go_enter Try.func49, Try.ntmps49
    go_wp2
    go_ret2
    exact ⟨rfl, .quiet HD.out (by repeat (first | exact Below.refl _ _ | apply pw_below_drewN))⟩
  ·rw [if_neg c0]
   have hz2 : decide ((4096 : Int) ≤ (xs.length : Int)) = false := decide_eq_false (by omega)
   clear c0
   rcases hk2 with ⟨b0, hr, b1⟩ | ⟨b0, b1, b2⟩ | ⟨b0, b1, b2, b3⟩
   ·rw [hr] at HM
    clear hr
    go_enter Try.func49, Try.ntmps49
    go_wp2_with (first | (go_at_call 72; refine (HM.out _).mono ?_; rintro e w' ⟨rfl, ⟨m, rfl⟩⟩) | (go_at_call 73; refine (HADD.out m).mono ?_; rintro e w' ⟨rfl, hT⟩; have HT := Aside0.mk (ToRD.after (pw_below_drewN (Below.refl _ _) m) hT); clear hT))
    go_ret2
    exact ⟨rfl, HT.out⟩
   ·have HADD0 := Aside0.mk (RD_add HD.out HGO.out ⟨0, kind, name, data, []⟩ none 0 (Kd.C_nil _ _) (Nat.le_refl _) (show (0 : Nat) < 1000000 by decide))
    go_enter Try.func49, Try.ntmps49
    go_wp2_with (first | (go_at_call 73; refine HADD0.out.mono ?_; rintro e w' ⟨rfl, hT⟩; have HT := Aside0.mk hT; clear hT))
    go_ret2
    exact ⟨rfl, HT.out⟩
   ·have HADD0 := Aside0.mk (RD_add HD.out HGO.out ⟨0, kind, name, data, []⟩ none 0 (Kd.C_nil _ _) (Nat.le_refl _) (show (0 : Nat) < 1000000 by decide))
    go_enter Try.func49, Try.ntmps49
    go_wp2_with (first | (go_at_call 73; refine HADD0.out.mono ?_; rintro e w' ⟨rfl, hT⟩; have HT := Aside0.mk hT; clear hT))
    go_ret2
    exact ⟨rfl, HT.out⟩
/-! #### nodes that are none -/
theorem noNode {n : Int} (h : someB xs n = false) : n < 1 ∨ (¬ n < 1 ∧ (xs.length : Int) ≤ n) := by
 have := of_decide_eq_false h
 omega
set_option maxHeartbeats 4000000 in
set_option maxRecDepth 100000 in
theorem RD_Remove_no (h : RDoc w ok g xs) (n : Int) (hn : someB xs n = false) : Calls Try.prog 53 #[.pointer (some ⟨g, 0, none⟩), .int .i64 n] w fun e w' => e = .returned (.int .i64 110) ∧ ToRD w w' ok g xs := by
 obtain ⟨AX, cX, hcx⟩ := h.cellX
 have HD := Aside0.mk h
 clear h
 rcases noNode hn with h1 | ⟨h1, h2⟩
 all_goals
  clear hn
  go_enter Try.func53, Try.ntmps53
  go_wp2
  go_ret
  exact ⟨rfl, .quiet HD.out (by repeat (first | exact Below.refl _ _ | apply pw_below_drewN))⟩
set_option maxHeartbeats 4000000 in
set_option maxRecDepth 100000 in
theorem RD_Clone_no (h : RDoc w ok g xs) (n : Int) (hn : someB xs n = false) : Calls Try.prog 54 #[.pointer (some ⟨g, 0, none⟩), .int .i64 n] w fun e w' => e = .returned (.tuple #[.int .i64 0, .int .i64 110]) ∧ ToRD w w' ok g xs := by
 obtain ⟨AX, cX, hcx⟩ := h.cellX
 have HD := Aside0.mk h
 clear h
 rcases noNode hn with h1 | ⟨h1, h2⟩
 all_goals
  clear hn
  go_enter Try.func54, Try.ntmps54
  go_wp2
  go_ret2
  exact ⟨rfl, .quiet HD.out (by repeat (first | exact Below.refl _ _ | apply pw_below_drewN))⟩
set_option maxHeartbeats 4000000 in
set_option maxRecDepth 100000 in
theorem RD_Data_no (h : RDoc w ok g xs) (n : Int) (s : ByteArray) (hn : someB xs n = false) : Calls Try.prog 57 #[.pointer (some ⟨g, 0, none⟩), .int .i64 n, .string s] w fun e w' => e = .returned (.int .i64 110) ∧ ToRD w w' ok g xs := by
 obtain ⟨AX, cX, hcx⟩ := h.cellX
 have HD := Aside0.mk h
 clear h
 rcases noNode hn with h1 | ⟨h1, h2⟩
 all_goals
  clear hn
  go_enter Try.func57, Try.ntmps57
  go_wp2
  go_ret
  exact ⟨rfl, .quiet HD.out (by repeat (first | exact Below.refl _ _ | apply pw_below_drewN))⟩
set_option maxHeartbeats 4000000 in
set_option maxRecDepth 100000 in
theorem RD_Insert_no (h : RDoc w ok g xs) (p a n : Int) (hn : inB xs p = false ∨ someB xs n = false) : Calls Try.prog 52 #[.pointer (some ⟨g, 0, none⟩), .int .i64 p, .int .i64 a, .int .i64 n] w fun e w' => e = .returned (.int .i64 110) ∧ ToRD w w' ok g xs := by
 obtain ⟨AX, cX, hcx⟩ := h.cellX
 have HD := Aside0.mk h
 have hc : p < 0 ∨ (¬ p < 0 ∧ (xs.length : Int) ≤ p) ∨ (¬ p < 0 ∧ ¬ (xs.length : Int) ≤ p ∧ n < 1) ∨ (¬ p < 0 ∧ ¬ (xs.length : Int) ≤ p ∧ ¬ n < 1 ∧ (xs.length : Int) ≤ n) := by
  rcases hn with hn | hn
  ·have := of_decide_eq_false hn
   omega
  ·have := noNode hn
   omega
 clear h hn
 rcases hc with h1 | ⟨h1, h2⟩ | ⟨h1, h2, h3⟩ | ⟨h1, h2, h3, h4⟩
 all_goals
  go_enter Try.func52, Try.ntmps52
  go_wp2
  go_ret
  exact ⟨rfl, .quiet HD.out (by repeat (first | exact Below.refl _ _ | apply pw_below_drewN))⟩
set_option maxHeartbeats 4000000 in
set_option maxRecDepth 100000 in
theorem RD_element (h : RDoc w ok g xs) (n : Int) : Calls Try.prog 77 #[.pointer (some ⟨g, 0, none⟩), .int .i64 n] w fun e w' => e = .returned (.bool (elemB xs n)) ∧ Drawn0 w w' := by
 obtain ⟨AX, cX, hcx⟩ := h.cellX
 unfold elemB
 by_cases c0 : 0 < n ∧ n < (xs.length : Int)
 rotate_left
 ·have e : decide (0 < n ∧ n < (xs.length : Int) ∧ (rd_T79 xs n).f0.f1 = 0) = false := decide_eq_false fun h => c0 ⟨h.1, h.2.1⟩
  rw [e]
  have hc : (¬ 0 < n) ∨ (0 < n ∧ ¬ n < (xs.length : Int)) := by omega
  clear h c0 e
  rcases hc with h1 | ⟨h1, h2⟩
  all_goals
   go_enter Try.func77, Try.ntmps77
   go_wp2
   go_ret
   exact ⟨rfl, ⟨0, rfl⟩⟩
 ·obtain ⟨i, rfl⟩ := Int.eq_ofNat_of_zero_le (show 0 ≤ n by omega)
  have hi : i < xs.length := by omega
  obtain ⟨R, vX, vU, vR, h, hR⟩ := h
  obtain ⟨A', c', rfl, hl', hC⟩ := Kd.R_reads h.rX
  have hq := (ref_cells h.blk).1
  rw [f0s_length] at hq hl' hC
  obtain ⟨rfl⟩ : Value.slice A' xs.length c' = Value.slice AX xs.length cX := Option.some.inj (hq.symm.trans hcx)
  obtain ⟨ad, A4, c4, e4, x0, x1, x2, x3, x4, _, _⟩ := at_T54 hC (i : Int) (by omega) (by omega)
  subst e4
  have ex : rd_T54 (f0s xs) (i : Int) = (rd_T79 xs (i : Int)).f0 := by
   rw [rd_T54_at (f0s xs) i (by rw [f0s_length]; exact hi), nd_at i hi]
   simp [f0s]
  rw [ex, Int.toNat_natCast] at x1
  have e : decide (0 < (i : Int) ∧ (i : Int) < (xs.length : Int) ∧ (rd_T79 xs (i : Int)).f0.f1 = 0) = ((rd_T79 xs (i : Int)).f0.f1 == 0) := by
   by_cases c : (rd_T79 xs (i : Int)).f0.f1 = 0
   ·rw [decide_eq_true ⟨c0.1, c0.2, c⟩, beq_iff_eq.2 c]
   ·rw [decide_eq_false (fun h => c h.2.2), beq_eq_false_iff_ne.2 c]
  rw [e]
  have h1 : (0 : Int) < (i : Int) := c0.1
  have h2 : (i : Int) < (xs.length : Int) := c0.2
  clear h hq hC c0 x0 x2 x3 x4 e ex
  go_enter Try.func77, Try.ntmps77
  go_wp2
  go_ret
  exact ⟨rfl, ⟨0, rfl⟩⟩
set_option maxHeartbeats 4000000 in
set_option maxRecDepth 100000 in
theorem RD_Attr_no (h : RDoc w ok g xs) (n : Int) (s v : ByteArray) (hn : elemB xs n = false) : Calls Try.prog 55 #[.pointer (some ⟨g, 0, none⟩), .int .i64 n, .string s, .string v] w fun e w' => e = .returned (.int .i64 110) ∧ ToRD w w' ok g xs := by
 have HE := Aside0.mk (RD_element h n)
 have HD := Aside0.mk h
 rw [hn] at HE
 clear h hn
 go_enter Try.func55, Try.ntmps55
 go_wp2_with (first | (go_at_call 77; refine HE.out.mono ?_; rintro e w' ⟨rfl, ⟨m, rfl⟩⟩))
 go_ret
 exact ⟨rfl, .quiet HD.out (by repeat (first | exact Below.refl _ _ | apply pw_below_drewN))⟩
set_option maxHeartbeats 4000000 in
set_option maxRecDepth 100000 in
theorem RD_Drop_no (h : RDoc w ok g xs) (n : Int) (s : ByteArray) (hn : elemB xs n = false) : Calls Try.prog 56 #[.pointer (some ⟨g, 0, none⟩), .int .i64 n, .string s] w fun e w' => e = .returned (.int .i64 110) ∧ ToRD w w' ok g xs := by
 have HE := Aside0.mk (RD_element h n)
 have HD := Aside0.mk h
 rw [hn] at HE
 clear h hn
 go_enter Try.func56, Try.ntmps56
 go_wp2_with (first | (go_at_call 77; refine HE.out.mono ?_; rintro e w' ⟨rfl, ⟨m, rfl⟩⟩))
 go_ret
 exact ⟨rfl, .quiet HD.out (by repeat (first | exact Below.refl _ _ | apply pw_below_drewN))⟩
end
end Go.Proofs.Ytpkaliaaffgbdaa.QA
namespace Go.Proofs.Ytpkaliaaffgbdaa.QA
open Go.RowKit Go.Proofs.YtpkaliaaffgbdaaW.PrintWords Go.Proofs.YtpkaliaaffgbdaaW.PrintLast Go.Proofs.YtpkaliaaffgbdaaW.PrintMore
attribute [local go_sem] max2_int min2_int max_two min_two max_three min_three max_four min_four   -- for this text's walks alone
set_option linter.unusedVariables false
set_option linter.unusedSimpArgs false

open Go
/-- Two documents of the law's own, apart. -/
structure B2 (w W : World) (ok okr : Nat → Prop) (g gk : Nat) (xs xr : List S79) : Prop where
 a : IsDoc W ok g xs
 r : RDoc W okr gk xr
 oa : ∀ k, ok k → w.heap.size ≤ k ∧ k < W.heap.size
 or : ∀ k, okr k → w.heap.size ≤ k ∧ k < W.heap.size
 ap : ∀ k, ok k → ¬ okr k
 bel : Below w.heap.size w W
/-- .. and blocks F that are neither's. -/
def Both (w W : World) (F : Nat → Prop) (g gk : Nat) (xs xr : List S79) : Prop := ∃ ok okr, B2 w W ok okr g gk xs xr ∧ ∀ k, F k → k < W.heap.size ∧ ¬ ok k ∧ ¬ okr k
section
variable {w W W' : World} {ok okr F F' : Nat → Prop} {g gk : Nat} {xs xr ys yr : List S79}
theorem B2.opA (h : B2 w W ok okr g gk xs xr) (ht : To W W' ok g ys) : ∃ ok', B2 w W' ok' okr g gk ys xr ∧ ∀ k, k < W.heap.size → ¬ ok k → W'.heap[k]? = W.heap[k]? ∧ ¬ ok' k := by
 obtain ⟨ok', hI, hg, hl, hm⟩ := ht
 have hb := h.bel.size
 refine ⟨ok', ⟨hI, h.r.move fun k hk hl => hm.block k hl fun h2 => h.ap k h2 hk, fun k hk => ⟨(hg k hk).elim (fun h2 => (h.oa k h2).1) fun h2 => by omega, hl k hk⟩, fun k hk => ⟨(h.or k hk).1, Nat.lt_of_lt_of_le (h.or k hk).2 hm.size⟩, fun k hk h2 => (hg k hk).elim (fun h3 => h.ap k h3 h2) fun h3 => by have := (h.or k h2).2; omega, hm.below h.bel h.bel.size fun k hk => (h.oa k hk).1⟩, fun k hk hn => ⟨hm.block k hk hn, fun h2 => (hg k h2).elim hn fun h3 => by omega⟩⟩
theorem B2.opR (h : B2 w W ok okr g gk xs xr) (ht : ToRD W W' okr gk yr) : ∃ okr', B2 w W' ok okr' g gk xs yr ∧ ∀ k, k < W.heap.size → ¬ okr k → W'.heap[k]? = W.heap[k]? ∧ ¬ okr' k := by
 obtain ⟨okr', h2⟩ := ht
 have hb := h.bel.size
 have hm := h2.mod
 refine ⟨okr', ⟨h.a.move fun k hk hl => hm.block k hl fun h3 => h.ap k hk h3, h2.doc, fun k hk => ⟨(h.oa k hk).1, Nat.lt_of_lt_of_le (h.oa k hk).2 hm.size⟩, fun k hk => ⟨(h2.new k hk).elim (fun h3 => (h.or k h3).1) fun h3 => by omega, h2.lt k hk⟩, fun k hk h4 => (h2.new k h4).elim (fun h3 => h.ap k hk h3) fun h3 => by have := (h.oa k hk).2; omega, hm.below h.bel h.bel.size fun k hk => (h.or k hk).1⟩, fun k hk hn => ⟨hm.block k hk hn, fun h3 => (h2.new k h3).elim hn fun h4 => by omega⟩⟩
theorem B2.quiet (h : B2 w W ok okr g gk xs xr) (hb : Below W.heap.size W W') : B2 w W' ok okr g gk xs xr :=
 ⟨h.a.below hb, h.r.below hb, fun k hk => ⟨(h.oa k hk).1, Nat.lt_of_lt_of_le (h.oa k hk).2 hb.size⟩, fun k hk => ⟨(h.or k hk).1, Nat.lt_of_lt_of_le (h.or k hk).2 hb.size⟩, h.ap, below_step h.bel hb⟩
theorem Both.quiet (h : Both w W F g gk xs xr) (hb : Below W.heap.size W W') : Both w W' F g gk xs xr := by
 obtain ⟨ok, okr, h, hF⟩ := h
 exact ⟨ok, okr, h.quiet hb, fun k hk => ⟨Nat.lt_of_lt_of_le (hF k hk).1 hb.size, (hF k hk).2⟩⟩
theorem Both.bel (h : Both w W F g gk xs xr) : Below w.heap.size w W := by
 obtain ⟨ok, okr, h, hF⟩ := h
 exact h.bel
theorem Both.less (h : Both w W F g gk xs xr) (hf : ∀ k, F' k → F k) : Both w W F' g gk xs xr := by
 obtain ⟨ok, okr, h, hF⟩ := h
 exact ⟨ok, okr, h, fun k hk => hF k (hf k hk)⟩
theorem Both.box (h : Both w W F g gk xs xr) (o : Obj) : Both w (W.alloc o) (fun k => k = W.heap.size) g gk xs xr := by
 obtain ⟨ok, okr, h, hF⟩ := h
 exact ⟨ok, okr, h.quiet (below_alloc (Below.refl _ _) _), fun k hk => by
  subst hk
  exact ⟨by rw [World.size_alloc]; omega, fun h2 => by have := (h.oa _ h2).2; omega, fun h2 => by have := (h.or _ h2).2; omega⟩⟩
theorem Both.hasA (h : Both w W F g gk xs xr) : Has w W g xs := by
 obtain ⟨ok, okr, h, hF⟩ := h
 exact ⟨ok, h.a, fun k hk => (h.oa k hk).1, fun k hk => (h.oa k hk).2, h.bel⟩
theorem Both.viaA {f : Nat} {args : Array Value} {P : Ending → Prop} (h : Both w W F g gk xs xr) (hc : ∀ ok, IsDoc W ok g xs → Calls Try.prog f args W fun e w' => P e ∧ To W w' ok g ys) : Calls Try.prog f args W fun e w' => P e ∧ Both w w' F g gk ys xr ∧ ∀ k, F k → w'.heap[k]? = W.heap[k]? := by
 obtain ⟨ok, okr, h, hF⟩ := h
 refine (hc ok h.a).mono fun e w' ⟨h1, h2⟩ => ⟨h1, ?_⟩
 obtain ⟨ok', h3, h4⟩ := h.opA h2
 exact ⟨⟨ok', okr, h3, fun k hk => ⟨Nat.lt_of_lt_of_le (hF k hk).1 (by obtain ⟨_, _, _, _, hm⟩ := h2; exact hm.size), (h4 k (hF k hk).1 (hF k hk).2.1).2, (hF k hk).2.2⟩⟩, fun k hk => (h4 k (hF k hk).1 (hF k hk).2.1).1⟩
theorem Both.viaR {f : Nat} {args : Array Value} {P : Ending → Prop} (h : Both w W F g gk xs xr) (hc : ∀ ok, RDoc W ok gk xr → Calls Try.prog f args W fun e w' => P e ∧ ToRD W w' ok gk yr) : Calls Try.prog f args W fun e w' => P e ∧ Both w w' F g gk xs yr ∧ ∀ k, F k → w'.heap[k]? = W.heap[k]? := by
 obtain ⟨ok, okr, h, hF⟩ := h
 refine (hc okr h.r).mono fun e w' ⟨h1, h2⟩ => ⟨h1, ?_⟩
 obtain ⟨okr', h3, h4⟩ := h.opR h2
 obtain ⟨_, h5⟩ := h2
 exact ⟨⟨ok, okr', h3, fun k hk => ⟨Nat.lt_of_lt_of_le (hF k hk).1 h5.mod.size, (hF k hk).2.1, (h4 k (hF k hk).1 (hF k hk).2.2).2⟩⟩, fun k hk => (h4 k (hF k hk).1 (hF k hk).2.2).1⟩
/-- Load of the arena's: the roots are one block more that is neither's. -/
theorem Both.loadA {A : Option Addr} {c : Nat} {okl : Nat → Prop} {l : List S54} {k : Nat} {r : List S79 × List Int × Int} (h : Both w W F g gk xs xr) (hF2 : Kd.F k54 W okl A l.length l) (hok : ∀ k, okl k → k < w.heap.size ∨ W'.heap.size ≤ k) (h0 : Both w W' F g gk xs xr) (hW : Below W'.heap.size W' W) (hlc : l.length ≤ c) (hx : xs.length < 100000) (hll : l.length < 100000) (hr : loadR xs k l = some r) :
  Calls Try.prog 33 #[.pointer (some ⟨g, 0, none⟩), .slice A l.length c] W fun e w' => ∃ v, e = .returned (.tuple #[v, .int .i64 r.2.2]) ∧ Kd.R kI 3 w' W.heap.size (fun _ => True) v r.2.1 ∧ Both w w' (fun k => F k ∨ some k = v.ownBlock) g gk r.1 xr ∧ ∀ k, F k → w'.heap[k]? = W.heap[k]? := by
 obtain ⟨ok, okr, h1, hF1⟩ := h0
 have h2 := h1.quiet hW
 refine (Doc_Load h2.a l A c hF2 (fun k hk ho => ?_) hlc hx hll k r hr).mono ?_
 ·have h3 := h1.oa k ho
  rcases hok k hk with h4 | h4 <;> omega
 rintro e w' ⟨v, va, ar, ok1, rfl, hI⟩
 obtain ⟨ok', h3, h4⟩ := h2.opA hI.to
 have hs := hW.size
 have hb := fun k (hk : some k = v.ownBlock) => Kd.R_base hI.rts k hk.symm
 have hl := fun k (hk : some k = v.ownBlock) => Kd.R_lt hI.rts k hk.symm
 refine ⟨v, rfl, Kd.R_mono hI.rts fun _ _ => trivial, ⟨ok1, okr, ⟨hI.doc, h3.r, fun k hk => ⟨(hI.new k hk).elim (fun h5 => (h1.oa k h5).1) fun h5 => by have := h1.bel.size; omega, hI.lt k hk⟩, h3.or, fun k hk h5 => (hI.new k hk).elim (fun h6 => h1.ap k h6 h5) fun h6 => by have := (h1.or k h5).2; omega, h3.bel⟩, fun k hk => ?_⟩, fun k hk => (h4 k (by have := (hF1 k hk).1; omega) (hF1 k hk).2.1).1⟩
 rcases hk with hk | hk
 ·have h5 := hF1 k hk
  exact ⟨Nat.lt_of_lt_of_le h5.1 (Nat.le_trans hs hI.mod.size), fun h6 => (hI.new k h6).elim h5.2.1 fun h7 => by omega, h5.2.2⟩
 ·exact ⟨hl k hk, fun h6 => hI.rts.1 k hk.symm h6, fun h6 => by have := (h1.or k h6).2; have := hb k hk; omega⟩
/-- Load of the answer's, likewise. -/
theorem Both.loadR {A : Option Addr} {c : Nat} {okl : Nat → Prop} {l : List S54} {a : List Int} {e : Int} (h : Both w W F g gk xs xr) (hF2 : Kd.F k54 W okl A l.length l) (hok : ∀ k, okl k → k < w.heap.size ∨ W'.heap.size ≤ k) (h0 : Both w W' F g gk xs xr) (hW : Below W'.heap.size W' W) (hlc : l.length ≤ c)
  (hr : ∀ W ok okl g A c, RDoc W ok g xr → Kd.F k54 W okl A l.length l → (∀ k, okl k → ¬ ok k) → l.length ≤ c → Calls Try.prog 50 #[.pointer (some ⟨g, 0, none⟩), .slice A l.length c] W fun q w' => ∃ v, q = .returned (.tuple #[v, .int .i64 e]) ∧ ∃ ok1, RLoad W w' ok ok1 g yr v a) :
  Calls Try.prog 50 #[.pointer (some ⟨gk, 0, none⟩), .slice A l.length c] W fun q w' => ∃ v, q = .returned (.tuple #[v, .int .i64 e]) ∧ Kd.R kI 3 w' W.heap.size (fun _ => True) v a ∧ Both w w' (fun k => F k ∨ some k = v.ownBlock) g gk xs yr ∧ ∀ k, F k → w'.heap[k]? = W.heap[k]? := by
 obtain ⟨ok, okr, h1, hF1⟩ := h0
 have h2 := h1.quiet hW
 refine (hr W okr okl gk A c h2.r hF2 (fun k hk ho => ?_) hlc).mono ?_
 ·have h3 := h1.or k ho
  rcases hok k hk with h4 | h4 <;> omega
 rintro q w' ⟨v, rfl, ok1, hI⟩
 obtain ⟨ok', h3, h4⟩ := h2.opR hI.st.to
 have hs := hW.size
 have hb := fun k (hk : some k = v.ownBlock) => Kd.R_base hI.rts k hk.symm
 have hl := fun k (hk : some k = v.ownBlock) => Kd.R_lt hI.rts k hk.symm
 refine ⟨v, rfl, Kd.R_mono hI.rts fun _ _ => trivial, ⟨ok, ok1, ⟨h3.a, hI.st.doc, h3.oa, fun k hk => ⟨(hI.st.new k hk).elim (fun h5 => (h1.or k h5).1) fun h5 => by have := h1.bel.size; omega, hI.st.lt k hk⟩, fun k hk h5 => (hI.st.new k h5).elim (fun h6 => h1.ap k hk h6) fun h6 => by have := (h1.oa k hk).2; omega, h3.bel⟩, fun k hk => ?_⟩, fun k hk => (h4 k (by have := (hF1 k hk).1; omega) (hF1 k hk).2.2).1⟩
 rcases hk with hk | hk
 ·have h5 := hF1 k hk
  exact ⟨Nat.lt_of_lt_of_le h5.1 (Nat.le_trans hs hI.st.mod.size), h5.2.1, fun h6 => (hI.st.new k h6).elim h5.2.2 fun h7 => by omega⟩
 ·exact ⟨hl k hk, fun h6 => by have := (h1.oa k h6).2; have := hb k hk; omega, fun h6 => hI.rts.1 k hk.symm h6⟩
end
/-! #### numbers that are the same -/
theorem nums_l0 (l : List Int) : ∀ (m : List Int), l.length = m.length → l.length < 1000000 → ∀ (e i k : Nat), i + e = l.length → e < k → boltinglaw11_nums.l0 k l m (i : Int) = some (decide (l.drop i = m.drop i))
 | m, hm, hl, 0, i, k + 1, h, _ => by
  simp only [boltinglaw11_nums.l0]
  rw [if_neg (by omega), List.drop_of_length_le (by omega), List.drop_of_length_le (by omega)]
  rfl
 | m, hm, hl, e + 1, i, k + 1, h, hk => by
  have hi : i < l.length := by omega
  have ih := nums_l0 l m hm hl e (i + 1) k (by omega) (by omega)
  simp only [boltinglaw11_nums.l0]
  rw [if_pos (by omega), if_pos (by omega), if_pos (by omega), wrap1 (by omega), ih, rd_at hi, rd_at (show i < m.length by omega), List.drop_eq_getElem_cons hi, List.drop_eq_getElem_cons (show i < m.length by omega)]
  by_cases c : l[i] = m[i]
  ·rw [if_pos c]
   congr 1
   exact decide_eq_decide.2 ⟨fun h => by rw [c, h], fun h => by injection h⟩
  ·rw [if_neg c, decide_eq_false (fun h => by injection h with h _; exact c h)]
theorem nums_is (l m : List Int) (hl : l.length < 1000000) : boltinglaw11_nums.f (l.length + 1) l m = some (decide (l = m)) := by
 unfold boltinglaw11_nums.f
 by_cases c : l.length = m.length
 ·rw [if_pos (by omega)]
  have := nums_l0 l m c hl l.length 0 (l.length + 1) (by omega) (by omega)
  exact this
 ·rw [if_neg (by omega), decide_eq_false (fun h => c (by rw [h]))]
/-! #### what a call answers -/
/-- On the arena's document: numbers, an error, the nodes behind it. -/
def AnsA (xs : List S79) (o : SOp) (a : List Int) (e : Int) (ys : List S79) : Prop :=
 (o.f0 = 0 → ∃ n, a = [n] ∧ makeR xs (mayV o.f4 o.f5 o.f6) o.f4 o.f5 o.f6 = (n, e, ys)) ∧
 (o.f0 = 1 → ∃ k, loadR xs k (treesL o.f7) = some (ys, a, e)) ∧
 (o.f0 = 2 → a = [] ∧ ∃ k, insertR xs k o.f1 o.f3 o.f2 = some (e, ys)) ∧
 (o.f0 = 3 → a = [] ∧ removeR xs o.f1 = (e, ys)) ∧
 (o.f0 = 4 → ∃ n k, a = [n] ∧ cloneR xs k o.f1 = some (ys, n, e)) ∧
 (o.f0 = 5 → a = [] ∧ attrR xs (o.f5.size * 9 + 1) o.f1 o.f5 o.f6 = some (e, ys)) ∧
 (o.f0 = 6 → a = [] ∧ dropR xs o.f1 o.f5 = (e, ys)) ∧
 (o.f0 = 7 → a = [] ∧ dataR xs o.f1 o.f6 = (e, ys)) ∧
 (o.f0 ≠ 0 → o.f0 ≠ 1 → o.f0 ≠ 2 → o.f0 ≠ 3 → o.f0 ≠ 4 → o.f0 ≠ 5 → o.f0 ≠ 6 → o.f0 ≠ 7 → a = [] ∧ e = 0 ∧ ys = xs)
/-- On the answer's: what its functions do. -/
structure AnsR (xr : List S79) (o : SOp) (a : List Int) (e : Int) (yr : List S79) : Prop where
 make : o.f0 = 0 → ∃ n, a = [n] ∧ ∀ W ok g, RDoc W ok g xr → Calls Try.prog 49 #[.pointer (some ⟨g, 0, none⟩), .int .i64 o.f4, .string o.f5, .string o.f6] W fun q w' => q = .returned (.tuple #[.int .i64 n, .int .i64 e]) ∧ ToRD W w' ok g yr
 load : o.f0 = 1 → ∀ W ok okl g A c, RDoc W ok g xr → Kd.F k54 W okl A (treesL o.f7).length (treesL o.f7) → (∀ k, okl k → ¬ ok k) → (treesL o.f7).length ≤ c → Calls Try.prog 50 #[.pointer (some ⟨g, 0, none⟩), .slice A (treesL o.f7).length c] W fun q w' => ∃ v, q = .returned (.tuple #[v, .int .i64 e]) ∧ ∃ ok1, RLoad W w' ok ok1 g yr v a
 insert : o.f0 = 2 → a = [] ∧ ∀ W ok g, RDoc W ok g xr → Calls Try.prog 52 #[.pointer (some ⟨g, 0, none⟩), .int .i64 o.f1, .int .i64 o.f3, .int .i64 o.f2] W fun q w' => q = .returned (.int .i64 e) ∧ ToRD W w' ok g yr
 remove : o.f0 = 3 → a = [] ∧ ∀ W ok g, RDoc W ok g xr → Calls Try.prog 53 #[.pointer (some ⟨g, 0, none⟩), .int .i64 o.f1] W fun q w' => q = .returned (.int .i64 e) ∧ ToRD W w' ok g yr
 clone : o.f0 = 4 → ∃ n, a = [n] ∧ ∀ W ok g, RDoc W ok g xr → Calls Try.prog 54 #[.pointer (some ⟨g, 0, none⟩), .int .i64 o.f1] W fun q w' => q = .returned (.tuple #[.int .i64 n, .int .i64 e]) ∧ ToRD W w' ok g yr
 attr : o.f0 = 5 → a = [] ∧ ∀ W ok g, RDoc W ok g xr → Calls Try.prog 55 #[.pointer (some ⟨g, 0, none⟩), .int .i64 o.f1, .string o.f5, .string o.f6] W fun q w' => q = .returned (.int .i64 e) ∧ ToRD W w' ok g yr
 drop : o.f0 = 6 → a = [] ∧ ∀ W ok g, RDoc W ok g xr → Calls Try.prog 56 #[.pointer (some ⟨g, 0, none⟩), .int .i64 o.f1, .string o.f5] W fun q w' => q = .returned (.int .i64 e) ∧ ToRD W w' ok g yr
 data : o.f0 = 7 → a = [] ∧ ∀ W ok g, RDoc W ok g xr → Calls Try.prog 57 #[.pointer (some ⟨g, 0, none⟩), .int .i64 o.f1, .string o.f6] W fun q w' => q = .returned (.int .i64 e) ∧ ToRD W w' ok g yr
 none : o.f0 ≠ 0 → o.f0 ≠ 1 → o.f0 ≠ 2 → o.f0 ≠ 3 → o.f0 ≠ 4 → o.f0 ≠ 5 → o.f0 ≠ 6 → o.f0 ≠ 7 → a = [] ∧ e = 0 ∧ yr = xr
/-- The law's op, as an argument. -/
def vop (o : SOp) (A : Option Addr) (c : Nat) : Value := .agg #[.int .i64 o.f0, .int .i64 o.f1, .int .i64 o.f2, .int .i64 o.f3, .int .i64 o.f4, .string o.f5, .string o.f6, .slice A o.f7.length c]
theorem cells8 {W : World} {b : Nat} {t : TypeId} {x0 x1 x2 x3 x4 x5 x6 x7 : Value} (h : W.heap[b]? = some (.cells #[x0, x1, x2, x3, x4, x5, x6, x7] t (0, 0))) :
  W.cell? ⟨b, 0, none⟩ = some x0 ∧ W.cell? ⟨b, 1, none⟩ = some x1 ∧ W.cell? ⟨b, 2, none⟩ = some x2 ∧ W.cell? ⟨b, 3, none⟩ = some x3 ∧ W.cell? ⟨b, 4, none⟩ = some x4 ∧ W.cell? ⟨b, 5, none⟩ = some x5 ∧ W.cell? ⟨b, 6, none⟩ = some x6 ∧ W.cell? ⟨b, 7, none⟩ = some x7 :=
 ⟨(blk_cell h 0).trans rfl, (blk_cell h 1).trans rfl, (blk_cell h 2).trans rfl, (blk_cell h 3).trans rfl, (blk_cell h 4).trans rfl, (blk_cell h 5).trans rfl, (blk_cell h 6).trans rfl, (blk_cell h 7).trans rfl⟩
end Go.Proofs.Ytpkaliaaffgbdaa.QA
