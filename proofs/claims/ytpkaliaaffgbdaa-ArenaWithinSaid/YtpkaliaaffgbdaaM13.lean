/- The document's own answer (boltingref11): Rows. The document's own answer (boltingref11): Clone. The answer's document, kept in step with the arena's: what a call answers on either; nodes stay neat. Copy: nodes whose attributes and kids lie anywhere; slices.Clone at nodes. -/
import Derived.Test.YtpkaliaaffgbdaaM12
namespace Go.Proofs.Ytpkaliaaffgbdaa.QA
open Go.RowKit Go.Proofs.YtpkaliaaffgbdaaW.PrintWords Go.Proofs.YtpkaliaaffgbdaaW.PrintLast Go.Proofs.YtpkaliaaffgbdaaW.PrintMore
attribute [local go_sem] max2_int min2_int max_two min_two max_three min_three max_four min_four   -- for this text's walks alone
set_option linter.unusedVariables false
set_option linter.unusedSimpArgs false

open Go
section
variable {W W2 w w1 w2 : World} {ok ok1 : Nat → Prop} {g M : Nat} {xs ys : List S79} {v : Value} {r : List S54}
theorem C54_tail {G n : Nat} {x : S54} (h : Kd.C k54 W (some ⟨G, 0, none⟩) (n + 1) (x :: r)) : Kd.C k54 W (some ⟨G, 5, none⟩) n r := by
 have hl : r.length = n := by have := h.1; simp at this; omega
 refine ⟨hl, by have := h.2.1; omega, fun _ => ⟨_, rfl, fun j p hj => ?_⟩⟩
 obtain ⟨hjl, hjp⟩ := List.getElem?_eq_some_iff.1 hj
 obtain ⟨ad, cs, e, hcl, hK, hc⟩ := Kd.C_get h z54 ((j + 1 : Nat) : Int) (by omega) (by omega)
 injection e with e
 subst e
 rw [Int.toNat_natCast, List.getD_eq_getElem?_getD, List.getElem?_cons_succ, hj, Option.getD_some] at hK
 refine ⟨cs, hcl, hK, fun q u hu => ?_⟩
 have := hc q u hu
 rw [Int.toNat_natCast, add_plain] at this
 have e2 : (⟨G, 5, none⟩ : Addr).add (j * k54.sz + q) = ⟨G, 5 + (j * k54.sz + q), none⟩ := by simp [Addr.add]
 rw [e2, show 5 + (j * k54.sz + q) = (j + 1) * k54.sz + q by rw [show k54.sz = 5 from rfl]; omega]
 exact this
theorem rows_root (h : Reads xs [((0 : Int), (-1 : Int))] r) : Reads xs (kidsAt xs (((0 : Nat) : Int), (-1 : Int))) r := by
 cases h with
 | cons h =>
  rw [List.append_nil] at h
  rw [if_pos rfl, List.nil_append]
  exact h
/-- Rows that nothing but what is new holds. -/
def NewRows (W w' : World) (A : Option Addr) (c : Nat) (r : List S54) : Prop := r.length ≤ c ∧ Kd.F k54 w' (fun k => W.heap.size ≤ k ∧ k < w'.heap.size) A r.length r
theorem NewRows.of {A c : Nat} {x : S54} (h : Kd.R k54 54 w1 w.heap.size (fun _ => True) (.slice (some ⟨A, 0, none⟩) (r.length + 1) c) (x :: r)) : r.length + 1 ≤ c ∧ NewRows w w1 (some ⟨A, 5, none⟩) (c - 1) r ∧ NewRows w w1 (some ⟨A, 0, none⟩) c (x :: r) := by
 have key : Kd.F k54 w1 (fun k => w.heap.size ≤ k ∧ k < w1.heap.size) (some ⟨A, 0, none⟩) (r.length + 1) (x :: r) := fun W hW => (Kd.R_reads' (Kd.R_step (Kd.R_bound h) fun k hk hl => hW k ⟨hk.2.1, hk.2.2.1⟩ hl)).2.2
 have hc := (Kd.R_reads' h).2.1
 exact ⟨hc, ⟨by omega, fun W hW => C54_tail (key W hW)⟩, ⟨hc, key⟩⟩
set_option maxHeartbeats 8000000 in
set_option maxRecDepth 100000 in
theorem RD_Rows (h : RDoc w ok g xs) (hG : Good M xs) (hM : M < 100000) (hN : Neat xs) (k : Nat) (n : Int) (hr : rowsR xs k n = some r) (hl : r.length < 800000) : Calls Try.prog 58 #[.pointer (some ⟨g, 0, none⟩), .int .i64 n] w fun e w' => ∃ A c, e = .returned (.slice A r.length c) ∧ NewRows w w' A c r ∧ Below w.heap.size w w' := by
 obtain ⟨GX, cX, GU, cU, GR, cR, ⟨q0, q1, q2⟩, ⟨l0, l1, l2⟩, _, _, _⟩ := h.reads hG.tree.pos
 cases hb : inB xs n with
 | false =>
  unfold rowsR at hr
  rw [if_pos hb] at hr
  obtain rfl := Option.some.inj hr
  have hc : n < 0 ∨ (¬ n < 0 ∧ (xs.length : Int) ≤ n) := by have := of_decide_eq_false hb; omega
  clear hr hb h
  rcases hc with h1 | ⟨h1, h2⟩
  all_goals
   go_enter Try.func58, Try.ntmps58
   go_wp2
   go_ret
   exact ⟨_, 0, rfl, ⟨Nat.zero_le _, fun W _ => ⟨rfl, by decide, fun h => absurd h (Nat.lt_irrefl 0)⟩⟩, below_alloc (Below.refl _ _) _⟩
 | true =>
  have hrd := rowsR_reads hr hb
  have hb := of_decide_eq_true hb
  obtain ⟨i, rfl⟩ := Int.eq_ofNat_of_zero_le hb.1
  have hi : i < xs.length := by omega
  have c1 : ¬ (i : Int) < 0 := by omega
  have c2 : ¬ (xs.length : Int) ≤ (i : Int) := by omega
  have HD := Aside0.mk h
  by_cases c0 : i = 0
  ·subst c0
   have HR := Aside0.mk (RD_tree hG hM hN (r.length + 1) r (by omega) 0 (-1) hi (rows_root hrd) (by omega) (by omega) w ok g h)
   rw [show (((0 : Nat) : Int)) = 0 from rfl] at HR ⊢
   have c1 : ¬ (0 : Int) < 0 := by omega
   have c2 : ¬ (xs.length : Int) ≤ 0 := by omega
   have c4 : ¬ xs = [] := by rintro rfl; simp at hi
   clear hr hrd hb h
   go_enter Try.func58, Try.ntmps58
   go_wp2_with (first | (go_at_call 78; refine HR.out.mono ?_; rintro e w1 ⟨A, c, rfl, hR, hB⟩; have HB := Aside0.mk (And.intro hR hB); clear hR hB))
   ·rename_i hc1
    go_ret
    have h2 := NewRows.of HB.out.1
    have hr0 : r = [] := List.eq_nil_of_length_eq_zero (by omega)
    subst hr0
    exact ⟨_, 0, rfl, ⟨Nat.zero_le _, fun W _ => ⟨rfl, by decide, fun h => absurd h (Nat.lt_irrefl 0)⟩⟩, HB.out.2⟩
   ·go_ret
    exact ⟨_, _, rfl, (NewRows.of HB.out.1).2.1, HB.out.2⟩
  ·have ht : topD (i : Int) = 0 := by unfold topD; rw [if_neg (by omega)]
   rw [ht] at hrd
   obtain ⟨ra, rb, he, ha, hb2⟩ := reads_first c0 hrd
   have hrb : rb = [] := hb2.det .nil
   subst hrb
   rw [List.append_nil] at he
   subst he
   have HR := Aside0.mk (RD_tree hG hM hN (ra.length + 1) ra (by omega) i 0 hi ha (by omega) (by simp at hl; omega) w ok g h)
   have c3 : (0 : Int) < (i : Int) := by omega
   have c4 : (i : Int) < (xs.length : Int) := by omega
   have HI := Aside0.mk hi
   clear hr hrd hb h ha hb2 hi hl ht
   go_enter Try.func58, Try.ntmps58
   go_wp2_with (first | (go_at_call 78; refine HR.out.mono ?_; rintro e w1 ⟨A, c, rfl, hR, hB⟩; have HB := Aside0.mk (And.intro hR hB); clear hR hB))
   go_ret
   exact ⟨_, _, rfl, (NewRows.of HB.out.1).2.2, HB.out.2⟩
end
end Go.Proofs.Ytpkaliaaffgbdaa.QA
namespace Go.Proofs.Ytpkaliaaffgbdaa.QA
open Go.RowKit Go.Proofs.YtpkaliaaffgbdaaW.PrintWords Go.Proofs.YtpkaliaaffgbdaaW.PrintLast Go.Proofs.YtpkaliaaffgbdaaW.PrintMore
attribute [local go_sem] max2_int min2_int max_two min_two max_three min_three max_four min_four   -- for this text's walks alone
set_option linter.unusedVariables false
set_option linter.unusedSimpArgs false

open Go
theorem loadL_roots : ∀ (l : List S54) (xs ys : List S79) (roots ar rs : List Int), loadL l xs roots ar = some (ys, rs) → ∃ t, rs = roots ++ t
 | [], xs, ys, roots, ar, rs, h => by
  simp only [loadL] at h
  injection h with h
  injection h with _ h
  exact ⟨[], by rw [h, List.append_nil]⟩
 | x :: l, xs, ys, roots, ar, rs, h => by
  simp only [loadL] at h
  split at h
  rotate_left
  ·cases h
  split at h
  ·obtain ⟨t, rfl⟩ := loadL_roots l _ ys _ _ rs h
   exact ⟨_, List.append_assoc _ _ _⟩
  ·split at h
   ·exact loadL_roots l _ ys _ _ rs h
   ·cases h
theorem loadL_first {l : List S54} {xs ys : List S79} {q : Int} {t : List Int} (h : loadL l xs [] [] = some (ys, q :: t)) : q = (xs.length : Int) := by
 cases l with
 | nil => simp [loadL] at h
 | cons x l =>
  simp only [loadL] at h
  split at h
  rotate_left
  ·cases h
  rename_i hc
  split at h
  ·obtain ⟨t2, h2⟩ := loadL_roots l _ ys _ _ _ h
   simp at h2
   exact h2.1
  ·exfalso
   simp at hc
   omega
section
variable {w W W0 W1 : World} {ok ok1 : Nat → Prop} {g M : Nat} {xs ys zs : List S79}
theorem ToRD.from_ (hb : Below w.heap.size w W) (h : ToRD W W1 (fun k => ok k ∧ k < w.heap.size) g ys) : ToRD w W1 ok g ys := by
 obtain ⟨ok2, h2⟩ := h
 exact ⟨ok2, .mk h2.doc (fun k hk => (h2.new k hk).imp (fun h => h.1) fun h3 => Nat.le_trans hb.size h3) h2.lt ((Mod.of_below hb).trans h2.mod fun k hk => .inl hk.1)⟩
set_option maxHeartbeats 8000000 in
set_option maxRecDepth 100000 in
theorem RD_Clone (h : RDoc w ok g xs) (hG : Good M xs) (hM : M < 100000) (hN : Neat xs) (k : Nat) (n : Int) (r : List S79 × Int × Int) (hr : cloneR xs k n = some r) :
  Calls Try.prog 54 #[.pointer (some ⟨g, 0, none⟩), .int .i64 n] w fun e w' => e = .returned (.tuple #[.int .i64 r.2.1, .int .i64 r.2.2]) ∧ ToRD w w' ok g r.1 := by
 unfold cloneR at hr
 cases hn : someB xs n with
 | false =>
  rw [if_pos hn] at hr
  obtain rfl := Option.some.inj hr
  exact RD_Clone_no h n hn
 | true =>
  rw [if_neg (by rw [hn]; decide)] at hr
  obtain ⟨l1, hl1, hdo, hll, hxl, _⟩ := rowsR_some hG n
  cases hl : rowsR xs k n with
  | none => rw [hl] at hr; cases hr
  | some l =>
   rw [hl] at hr
   dsimp only at hr
   have hinb := someB_inB hn
   obtain rfl : l1 = l := (rowsR_reads hl1 hinb).det (rowsR_reads hl hinb)
   obtain ⟨i, rfl, hi0, hi⟩ := someB_iff.1 hn
   have hxz := hG.len
   have HRW := Aside0.mk (RD_Rows h hG hM hN k (i : Int) hl (by omega))
   obtain ⟨AX, cX, hcx⟩ := h.cellX
   have HCX := Aside0.mk hcx
   have HD := Aside0.mk h
   have HXN := Aside0.mk (And.intro hxl (And.intro hll hxz))
   have a1 : ¬ (i : Int) < 1 := by omega
   have a2 : ¬ (xs.length : Int) ≤ (i : Int) := by omega
   have hgl := h.lt
   have hw : wrap64 ((xs.length : Int) + (l1.length : Int)) = (xs.length : Int) + (l1.length : Int) := by unfold wrap64; omega
   by_cases hbig : 4096 < xs.length + l1.length
   ·rw [if_pos hbig] at hr
    obtain rfl := Option.some.inj hr
    have hbb : decide ((4096 : Int) < (xs.length : Int) + (l1.length : Int)) = true := decide_eq_true (by omega)
    clear hr h hl hl1 hdo hll hxl hn hinb hi0 hi hxz
    go_enter Try.func54, Try.ntmps54
    go_wp2_with (first | (go_at_call 58; refine HRW.out.mono ?_; rintro e w1 ⟨A, c, rfl, hR, hB⟩; have hc1 := (hB.cell (p := ⟨g, 0, none⟩) hgl).trans HCX.out; have HB := Aside0.mk hB; clear hR hB))
    go_ret2
    exact ⟨rfl, .quiet HD.out HB.out⟩
   ·rw [if_neg hbig] at hr
    split at hr
    rotate_left
    ·cases hr
    rename_i ys q rest hload0
    obtain rfl := Option.some.inj hr
    obtain rfl := loadL_first hload0
    have hbb : decide ((4096 : Int) < (xs.length : Int) + (l1.length : Int)) = false := decide_eq_false (by omega)
    have HN0 := Aside0.mk (LoadN.start hG hload0)
    have HBIG := Aside0.mk (show xs.length + l1.length ≤ 4096 by omega)
    have HMM := Aside0.mk (show M < 900000 by omega)
    clear hr h hl hl1 hdo hll hxl hn hinb hi0 hi hxz hload0 hbig
    go_enter Try.func54, Try.ntmps54
    go_wp2_with (first | (go_at_call 58; refine HRW.out.mono ?_; rintro e w1 ⟨A, c, rfl, hR, hB⟩; have hc1 := (hB.cell (p := ⟨g, 0, none⟩) hgl).trans HCX.out; have HB := Aside0.mk (And.intro hR hB); clear hR hB))
    have HF := Aside0.mk (fun (W : World) (hm : Mod w1 W (fun k => ok k ∧ k < w.heap.size)) => HB.out.1.2 W fun k hk hlt => hm.block k hlt fun h => Nat.not_lt_of_le hk.1 h.2)
    have HLC := Aside0.mk HB.out.1.1
    have HI := Aside0.mk (show RD w1 w1 (fun k => ok k ∧ k < w.heap.size) (fun k => (ok k ∧ k < w.heap.size) ∧ k < w1.heap.size) g xs from (HD.out.bound.below HB.out.2).start)
    clear hc1 hw hbb hgl a1 a2
    go_loopg [8] l1.length (fun gg v8 W => ∃ (kk : Nat) (zs : List S79) (roots ar : List Int) (ok1 : Nat → Prop), kk ≤ l1.length ∧ l1.length - kk ≤ gg ∧ v8 = .int .i64 (kk : Int) ∧ Aside0 (RD w1 W (fun k => ok k ∧ k < w.heap.size) ok1 g zs) ∧ Aside0 (LoadN M l1 xs (ys, (xs.length : Int) :: rest) kk zs roots ar))
    case atStart => exact ⟨0, xs, [], [], _, Nat.zero_le _, Nat.le_refl _, rfl, HI, HN0⟩
    case round =>
     clear HI HN0
     obtain ⟨kk, zs, roots, ar, ok1, hkk, hgg, rfl, HI, HN⟩ := hrel
     by_cases hlt : kk < l1.length
     ·have hltz : (kk : Int) < (l1.length : Int) := by omega
      have HMS := Aside0.mk (round_on hlt hgg)
      obtain ⟨ad, A4, c4, e4, hx0, hx1, hx2, hx3, hx4, hl4, hi4⟩ := at_T54 (HF.out wr HI.out.mod) (kk : Int) (by omega) hltz
      subst e4
      have hxM : (rd_T54 l1 (kk : Int)).f4.length ≤ M := HXN.out.1 _ (by rw [rd_T54_at l1 kk hlt]; exact List.getElem_mem hlt)
      have hrd := HN.out.round hlt HMM.out HXN.out.1 HBIG.out
      have hpar := parent_is l1 kk hlt (by have := HBIG.out; omega)
      generalize rd_T54 l1 (kk : Int) = x at hrd hpar hx0 hx1 hx2 hx3 hx4 hl4 hi4 hxM
      obtain ⟨hG2, hrd⟩ := hrd
      have HG2 := Aside0.mk hG2
      have HPAR := Aside0.mk hpar
      have hMM := HMM.out
      obtain ⟨f0, f1, f2, f3, f4⟩ := x
      dsimp only at hx0 hx1 hx2 hx3 hx4 hl4 hi4 hxM
      have hadd := RD_add HI.out.doc HN.out.good ⟨f0, f1, f2, f3, f4⟩ A4 c4 hi4 hl4 (show f4.length < 1000000 by omega)
      have HADD := Aside0.mk hadd
      have HYL := Aside0.mk HN.out.len
      have hup := up1 (i := kk) (by have := HBIG.out; omega)
      rw [Int.toNat_natCast] at hx0 hx1 hx2 hx3 hx4
      clear hadd hpar hG2 hi4 hgg
      rcases hrd with ⟨hD, hpl, hN2⟩ | ⟨p, pk, hpl, hp, hpy, ar', hN2, hle⟩
      ·dsimp only at hD
       subst hD
       rw [hpl] at HPAR
       have HN2 := Aside0.mk hN2
       clear hpl hN2 HN
       go_wp2_with (first | (go_at_call 73; refine HADD.out.mono ?_; rintro o W1 ⟨rfl, hT⟩; obtain ⟨ok2, hI2, _⟩ := HI.out.then_ (Below.refl _ _) hT; have HI2 := Aside0.mk hI2; clear hI2 hT hx0 hx1 hx2 hx3 hx4) | (go_at_call 75; refine (boltingref04_Parent.calls _ _ c l1 (kk : Int) (-1) W1 (HF.out W1 HI2.out.mod) HLC.out HPAR.out).mono ?_; rintro o W2 ⟨rfl, ⟨m, rfl⟩⟩; have HI3 := Aside0.mk (HI2.out.quiet (pw_below_drewN (Below.refl _ _) m)); clear HI2))
       go_roundg (l1.length - (kk + 1))
       case measure => exact HMS.out.1
       case rel => exact ⟨kk + 1, _, _, _, ok2, HMS.out.2, Nat.le_refl _, by first | rfl | go_num, HI3, HN2⟩
      ·have HKL := Aside0.mk (kidsN_nat (xs := addN zs ⟨f0, f1, f2, f3, f4⟩) p)
       have HPP := Aside0.mk (And.intro hpy hle)
       have HN2 := Aside0.mk hN2
       have hw1 : wrap64 ((xs.length : Int) + (pk : Int)) = (p : Int) := by unfold wrap64; have := HYL.out; have := HBIG.out; omega
       rw [hpl] at HPAR
       clear hpl hN2 hle HN hpy hp
       go_wp2_with (first | (go_at_call 73; refine HADD.out.mono ?_; rintro o W1 ⟨rfl, hT⟩; obtain ⟨ok2, hI2, _⟩ := HI.out.then_ (Below.refl _ _) hT; have HI2 := Aside0.mk hI2; clear hI2 hT hx0 hx1 hx2 hx3 hx4) | (go_at_call 75; refine (boltingref04_Parent.calls _ _ c l1 (kk : Int) (pk : Int) W1 (HF.out W1 HI2.out.mod) HLC.out HPAR.out).mono ?_; rintro o W2 ⟨rfl, ⟨m, rfl⟩⟩; have HI3 := Aside0.mk (HI2.out.quiet (pw_below_drewN (Below.refl _ _) m)); clear HI2) | (go_at_call 59; refine (RD_Kids HI3.out.doc HG2.out (p : Int)).mono ?_; rintro o W3 ⟨v, rfl, hR, hB⟩; obtain ⟨Ak, ck, rfl⟩ := Kd.R_slice hR; have HI4 := Aside0.mk (HI3.out.quiet hB); clear hR hB HI3) | (go_at_call 76; rw [HKL.out]; refine (RD_set HI4.out.doc HG2.out p (ks9 (addN zs ⟨f0, f1, f2, f3, f4⟩) p).length zs.length (by have := HPP.out.1; simp [addN]; omega) (by simp [addN]) (by have := HPP.out.1; omega) HPP.out.2).mono ?_; rintro o W4 ⟨rfl, hT⟩; obtain ⟨ok4, hI5, _⟩ := HI4.out.then_ (Below.refl _ _) hT; have HI5 := Aside0.mk hI5; clear hI5 hT))
       go_roundg (l1.length - (kk + 1))
       case measure => exact HMS.out.1
       case rel => exact ⟨kk + 1, _, _, _, ok4, HMS.out.2, Nat.le_refl _, by first | rfl | go_num, HI5, HN2⟩
     ·obtain rfl : kk = l1.length := by omega
      have hltz : ¬ (l1.length : Int) < (l1.length : Int) := by omega
      have his := HN.out.is
      rw [List.drop_length] at his
      have hzs : zs = ys := by simp only [loadL] at his; injection his with his; injection his
      subst hzs
      clear his hgg hlt
      go_wp2
      go_ret2
      exact ⟨rfl, .from_ HB.out.2 HI.out.to⟩
end
end Go.Proofs.Ytpkaliaaffgbdaa.QA
namespace Go.Proofs.Ytpkaliaaffgbdaa.QA
open Go.RowKit Go.Proofs.YtpkaliaaffgbdaaW.PrintWords Go.Proofs.YtpkaliaaffgbdaaW.PrintLast Go.Proofs.YtpkaliaaffgbdaaW.PrintMore
attribute [local go_sem] max2_int min2_int max_two min_two max_three min_three max_four min_four   -- for this text's walks alone
set_option linter.unusedVariables false
set_option linter.unusedSimpArgs false

open Go
section
variable {M : Nat} {xs ys : List S79}
theorem ansR_of (h : Good M xs) (hM : M < 100000) (hM4 : 4 ≤ M) (hN : Neat xs) (o : SOp) (hn : o.f5.size ≤ 140737488351232) {a : List Int} {e : Int} (hA : AnsA xs o a e ys) (hL : o.f0 = 1 → loadR xs (3 * (treesL o.f7).length + 201) (treesL o.f7) = some (ys, a, e)) : AnsR xs o a e ys := by
 obtain ⟨A_make, A_load, A_insert, A_remove, A_clone, A_attr, A_drop, A_data, A_none⟩ := hA
 refine ⟨fun c => ?_, fun c => ?_, fun c => ?_, fun c => ?_, fun c => ?_, fun c => ?_, fun c => ?_, fun c => ?_, A_none⟩
 ·obtain ⟨n, rfl, h1⟩ := A_make c
  refine ⟨n, rfl, fun W ok g hd => ?_⟩
  have := RD_Make hd h o.f4 o.f5 o.f6 hn
  rw [h1] at this
  exact this
 ·have hT := treesL_few o.f7
  intro W ok okl g A cc hd hF hok hc
  exact Ref_Load hd h (by omega) A cc hF hok hc (fun x hx => Nat.le_trans (hT.2 x hx) hM4) (by omega) _ (3 * (treesL o.f7).length + 201) _ (check_is _ (few_of hT) _ (by omega)) (refcheck_is _ (few_of hT) _ (by omega)) (ys, a, e) (hL c)
 ·obtain ⟨rfl, k, h1⟩ := A_insert c
  exact ⟨rfl, fun W ok g hd => RD_Insert hd h k o.f1 o.f3 o.f2 (e, ys) h1⟩
 ·obtain ⟨rfl, h1⟩ := A_remove c
  refine ⟨rfl, fun W ok g hd => ?_⟩
  have := RD_Remove hd h o.f1
  rw [h1] at this
  exact this
 ·obtain ⟨n, k, rfl, h1⟩ := A_clone c
  exact ⟨n, rfl, fun W ok g hd => RD_Clone hd h hM hN k o.f1 (ys, n, e) h1⟩
 ·obtain ⟨rfl, h1⟩ := A_attr c
  exact ⟨rfl, fun W ok g hd => RD_Attr hd h hM hN o.f1 o.f5 o.f6 hn (e, ys) h1⟩
 ·obtain ⟨rfl, h1⟩ := A_drop c
  refine ⟨rfl, fun W ok g hd => ?_⟩
  have := RD_Drop hd h hM hN o.f1 o.f5
  rw [h1] at this
  exact this
 ·obtain ⟨rfl, h1⟩ := A_data c
  refine ⟨rfl, fun W ok g hd => ?_⟩
  have := RD_Data hd h hM hN o.f1 o.f6
  rw [h1] at this
  exact this
/-! #### what is neat stays neat -/
theorem neat_attrs (hN : Neat xs) (i : Nat) (x : S79) (h0 : x.f0.f0 = 0) (h4 : Apart1 x.f0.f4) : Neat (xs.set i x) := fun j => by
 rw [rd_set]
 split
 ·exact ⟨h0, h4⟩
 ·exact hN j
theorem rightL_of_chk {l : List S54} (h : chkV l = 0) : RightL 0 l := by
 unfold chkV at h
 split at h
 ·omega
 ·split at h
  ·assumption
  ·omega
theorem neat_ans (h : Good M xs) (hN : Neat xs) (o : SOp) {a : List Int} {e : Int} (hA : AnsA xs o a e ys) (hL : o.f0 = 1 → loadR xs (3 * (treesL o.f7).length + 201) (treesL o.f7) = some (ys, a, e)) : Neat ys := by
 obtain ⟨A_make, A_load, A_insert, A_remove, A_clone, A_attr, A_drop, A_data, A_none⟩ := hA
 have hk : o.f0 = 0 ∨ o.f0 = 1 ∨ o.f0 = 2 ∨ o.f0 = 3 ∨ o.f0 = 4 ∨ o.f0 = 5 ∨ o.f0 = 6 ∨ o.f0 = 7 ∨ (o.f0 ≠ 0 ∧ o.f0 ≠ 1 ∧ o.f0 ≠ 2 ∧ o.f0 ≠ 3 ∧ o.f0 ≠ 4 ∧ o.f0 ≠ 5 ∧ o.f0 ≠ 6 ∧ o.f0 ≠ 7) := by omega
 rcases hk with c | c | c | c | c | c | c | c | ⟨m0, m1, m2, m3, m4, m5, m6, m7⟩
 ·obtain ⟨n, rfl, h1⟩ := A_make c
  unfold makeR at h1
  split at h1
  ·simp only [Prod.mk.injEq] at h1
   rw [← h1.2.2]; exact hN
  ·split at h1
   ·simp only [Prod.mk.injEq] at h1
    rw [← h1.2.2]; exact hN
   ·simp only [Prod.mk.injEq] at h1
    rw [← h1.2.2]; exact hN.add _ List.nodup_nil
 ·have h1 := hL c
  unfold loadR at h1
  rw [check_is _ (few_of (treesL_few o.f7)) _ (by omega)] at h1
  dsimp only at h1
  split at h1
  ·injection h1 with h1
   injection h1 with h1
   rw [← h1]; exact hN
  ·rename_i hc
   split at h1
   ·injection h1 with h1
    injection h1 with h1
    rw [← h1]; exact hN
   ·obtain ⟨⟨ys', roots'⟩, hload, e2⟩ := Option.map_eq_some_iff.1 h1
    injection e2 with e2
    dsimp only at e2
    subst e2
    exact Neat.load _ xs _ [] [] _ hload hN (right_apart _ 0 (rightL_of_chk (Classical.not_not.1 hc)))
 ·obtain ⟨rfl, k, h1⟩ := A_insert c
  unfold insertR at h1
  split at h1
  ·injection h1 with h1; injection h1 with _ h1; rw [← h1]; exact hN
  ·split at h1
   ·injection h1 with h1; injection h1 with _ h1; rw [← h1]; exact hN
   ·split at h1
    ·injection h1 with h1; injection h1 with _ h1; rw [← h1]; exact hN
    ·split at h1
     ·cases h1
     ·injection h1 with h1; injection h1 with _ h1; rw [← h1]; exact hN
     ·split at h1
      ·injection h1 with h1; injection h1 with _ h1; rw [← h1]; exact hN
      ·injection h1 with h1; injection h1 with _ h1; rw [← h1]
       exact hN.same fun i => (putN_f0 _ _ _ i).trans (takeN_f0 _ i)
 ·obtain ⟨rfl, h1⟩ := A_remove c
  unfold removeR at h1
  split at h1
  ·injection h1 with _ h1; rw [← h1]; exact hN.same fun i => takeN_f0 _ i
  ·injection h1 with _ h1; rw [← h1]; exact hN
 ·obtain ⟨n, k, rfl, h1⟩ := A_clone c
  unfold cloneR at h1
  split at h1
  ·injection h1 with h1; injection h1 with h1; rw [← h1]; exact hN
  ·rename_i hs
   have hs2 : someB xs o.f1 = true := by simpa using hs
   split at h1
   ·cases h1
   ·rename_i l hr
    split at h1
    ·injection h1 with h1; injection h1 with h1; rw [← h1]; exact hN
    ·split at h1
     ·rename_i ys' q t hload
      injection h1 with h1; injection h1 with h1; rw [← h1]
      refine Neat.load _ xs _ [] [] _ hload hN (reads_apart (rowsR_reads hr (someB_inB hs2)) hN (fun p hp => ?_) h)
      rw [List.mem_singleton.1 hp]
      have := of_decide_eq_true hs2
      dsimp only; omega
     ·cases h1
 ·obtain ⟨rfl, h1⟩ := A_attr c
  unfold attrR at h1
  split at h1
  ·injection h1 with h1; injection h1 with _ h1; rw [← h1]; exact hN
  ·rename_i hs
   have hs2 : elemB xs o.f1 = true := by simpa using hs
   have hs3 := of_decide_eq_true hs2
   obtain ⟨i, hi⟩ := Int.eq_ofNat_of_zero_le (show 0 ≤ o.f1 by omega)
   split at h1
   ·cases h1
   ·injection h1 with h1; injection h1 with _ h1; rw [← h1]; exact hN
   ·injection h1 with h1; injection h1 with _ h1; rw [← h1, hi]
    exact neat_attrs hN _ _ (hN i).1 (setAttr_apart _ (hN i).2)
 ·obtain ⟨rfl, h1⟩ := A_drop c
  unfold dropR at h1
  split at h1
  ·injection h1 with _ h1; rw [← h1]; exact hN
  ·rename_i hs
   have hs2 : elemB xs o.f1 = true := by simpa using hs
   have hs3 := of_decide_eq_true hs2
   obtain ⟨i, hi⟩ := Int.eq_ofNat_of_zero_le (show 0 ≤ o.f1 by omega)
   split at h1
   ·injection h1 with _ h1; rw [← h1]; exact hN
   ·injection h1 with _ h1; rw [← h1, hi]
    exact neat_attrs hN _ _ (hN i).1 (erase_apart (hN i).2 _)
 ·obtain ⟨rfl, h1⟩ := A_data c
  unfold dataR at h1
  split at h1
  ·rename_i hs
   simp only [Bool.and_eq_true] at hs
   have hs3 := of_decide_eq_true hs.1
   obtain ⟨i, hi⟩ := Int.eq_ofNat_of_zero_le (show 0 ≤ o.f1 by omega)
   injection h1 with _ h1; rw [← h1, hi]
   exact neat_attrs hN _ _ (hN i).1 (hN i).2
  ·injection h1 with _ h1; rw [← h1]; exact hN
 ·obtain ⟨_, _, rfl⟩ := A_none m0 m1 m2 m3 m4 m5 m6 m7
  exact hN
open Classical in
/-- There is an answer, the same on both documents; nodes stay neat. -/
theorem ans_some (h : Good M xs) (hM : M < 99999) (hM4 : 4 ≤ M) (hN : Neat xs) (o : SOp) (hn : o.f5.size ≤ 140737488351232) : ∃ a e ys, AnsA xs o a e ys ∧ AnsR xs o a e ys ∧ Good (M + 1) ys ∧ Neat ys ∧ a.length < 1000000 := by
 have key : ∃ a e ys, AnsA xs o a e ys ∧ Keeps (M + 1) xs e ys ∧ a.length < 1000000 ∧ (o.f0 = 1 → loadR xs (3 * (treesL o.f7).length + 201) (treesL o.f7) = some (ys, a, e)) := by
  by_cases c : o.f0 = 1
  ·have hT := treesL_few o.f7
   obtain ⟨r, hr, hkp⟩ := keeps_load h (by omega) (treesL o.f7) (3 * (treesL o.f7).length + 201) (chkV (treesL o.f7)) (check_is _ (few_of hT) _ (by omega)) (fun he => depth_right _ 0 (rightL_of_chk he)) (fun x hx => Nat.le_trans (hT.2 x hx) hM4)
   refine ⟨r.2.1, r.2.2, r.1, ⟨?_, fun _ => ⟨_, hr⟩, ?_⟩, hkp.weak, ?_, fun _ => hr⟩
   ·intro h1; omega
   ·refine ⟨?_, ?_, ?_, ?_, ?_, ?_, ?_⟩ <;> intro h1 <;> omega
   ·exact Nat.lt_of_le_of_lt (loadR_roots (ys := r.1) (roots := r.2.1) (e := r.2.2) hr h.tree.pos) (by omega)
  ·obtain ⟨a, e, ys, hA, hK, ha⟩ := ansA_some h (by omega) hM4 o hn
   exact ⟨a, e, ys, hA, hK, ha, fun h => absurd h c⟩
 obtain ⟨a, e, ys, hA, hK, ha, hL⟩ := key
 exact ⟨a, e, ys, hA, ansR_of h (by omega) hM4 hN o hn hA hL, hK.2.2, neat_ans h hN o hA hL, ha⟩
end
end Go.Proofs.Ytpkaliaaffgbdaa.QA
namespace Go.Proofs.Ytpkaliaaffgbdaa.QA
open Go.RowKit Go.Proofs.YtpkaliaaffgbdaaW.PrintWords Go.Proofs.YtpkaliaaffgbdaaW.PrintLast Go.Proofs.YtpkaliaaffgbdaaW.PrintMore
attribute [local go_sem] max2_int min2_int max_two min_two max_three min_three max_four min_four   -- for this text's walks alone
set_option linter.unusedVariables false
set_option linter.unusedSimpArgs false

open Go
/-- A node, and where its attributes and its kids lie. -/
abbrev PN := S79 × (Option Addr × Nat) × (Option Addr × Nat)
def pnCells (p : PN) : List Value := [.int .i64 p.1.f0.f0, .int .i64 p.1.f0.f1, .string p.1.f0.f2, .string p.1.f0.f3, .slice p.2.1.1 p.1.f0.f4.length p.2.1.2, .int .i64 p.1.f1, .slice p.2.2.1 p.1.f2.length p.2.2.2]
theorem pn_one {p : PN} {cs : List Value} (h : cs = pnCells p) : ∀ u ∈ cs, u.oneCell' = true := fun u hu => by
 rw [h] at hu
 simp only [pnCells, List.mem_cons, List.not_mem_nil, or_false] at hu
 rcases hu with rfl | rfl | rfl | rfl | rfl | rfl | rfl <;> rfl
/-- A node's cells, what it leads to anywhere. -/
def kR : Kd PN where
 sz := 7
 E := []
 K := fun _ p cs => cs = pnCells p
 M := fun _ _ _ p cs => cs = pnCells p
 K_len := fun h => by rw [h]; rfl
 K_one := fun h u hu => pn_one h u hu
 K_below := fun _ h => h
 K_of_M := fun h => h
 M_mono := fun _ h => h
 M_bound := fun h => h
 M_move := fun _ h => h
 M_lower := fun _ h => h
/-- A node of one's own, or such a one. -/
def kQ : Kd (S79 ⊕ PN) where
 sz := 7
 E := k79.E
 K := fun w q cs => match q with
  | .inl x => k79.K w x cs
  | .inr p => cs = pnCells p
 M := fun w base ok q cs => match q with
  | .inl x => k79.M w base ok x cs
  | .inr p => cs = pnCells p
 K_len := @fun w q cs h => match q, h with
  | .inl _, h => k79.K_len h
  | .inr _, h => by have h : cs = _ := h; rw [h]; rfl
 K_one := @fun w q cs h => match q, h with
  | .inl _, h => k79.K_one h
  | .inr _, h => pn_one h
 K_below := @fun w w1 q cs hb h => match q, h with
  | .inl _, h => k79.K_below hb h
  | .inr _, h => h
 K_of_M := @fun w base ok q cs h => match q, h with
  | .inl _, h => k79.K_of_M h
  | .inr _, h => h
 M_mono := @fun w base ok ok' q cs hk h => match q, h with
  | .inl _, h => k79.M_mono hk h
  | .inr _, h => h
 M_bound := @fun w base ok q cs h => match q, h with
  | .inl _, h => k79.M_bound h
  | .inr _, h => h
 M_move := @fun w w1 base ok q cs hm h => match q, h with
  | .inl _, h => k79.M_move hm h
  | .inr _, h => h
 M_lower := @fun w base base' ok q cs hb h => match q, h with
  | .inl _, h => k79.M_lower hb h
  | .inr _, h => h
theorem pick {α β : Type} : ∀ (l : List α) (P : Nat → α → β → Prop), (∀ j x, l[j]? = some x → ∃ q, P j x q) → ∃ ps : List (α × β), ps.map (·.1) = l ∧ ∀ (j : Nat) (p : α × β), ps[j]? = some p → P j p.1 p.2
 | [], _, _ => ⟨[], rfl, fun j p h => by simp at h⟩
 | x :: l, P, h => by
  obtain ⟨q, hq⟩ := h 0 x rfl
  obtain ⟨ps, h1, h2⟩ := pick l (fun j => P (j + 1)) fun j y hy => h (j + 1) y hy
  refine ⟨(x, q) :: ps, by rw [List.map_cons, h1], fun j p hp => ?_⟩
  match j, hp with
  | 0, hp =>
   obtain rfl := Option.some.inj hp
   exact hq
  | j + 1, hp => exact h2 j p hp
/-- What a node leads to. -/
def Leads (W : World) (p : PN) : Prop := (p.1.f0.f4.length ≤ p.2.1.2 ∧ Kd.C k52 W p.2.1.1 p.1.f0.f4.length p.1.f0.f4) ∧ p.1.f2.length ≤ p.2.2.2 ∧ Kd.C (Kd.int .i64) W p.2.2.1 p.1.f2.length p.1.f2
theorem C79_pick {W : World} {A : Option Addr} {n : Nat} {xs : List S79} (h : Kd.C k79 W A n xs) : ∃ ps : List PN, ps.map (·.1) = xs ∧ Kd.C kR W A n ps ∧ ∀ p ∈ ps, Leads W p := by
 obtain ⟨hl, hm, hc⟩ := h
 obtain ⟨ps, h1, h2⟩ := pick (β := (Option Addr × Nat) × (Option Addr × Nat)) xs (fun j x q => Leads W (x, q) ∧ ∃ ad, A = some ad ∧ ∀ i u, (pnCells (x, q))[i]? = some u → W.cell? (ad.add (j * 7 + i)) = some u) fun j x hj => by
  have hjl := (List.getElem?_eq_some_iff.1 hj).1
  obtain ⟨ad, e, hcc⟩ := hc (by omega)
  obtain ⟨cs, _, hK, h3⟩ := hcc j x hj
  obtain ⟨A4, c4, A6, c6, rfl, l4, g4, l6, g6⟩ := k79_open hK
  exact ⟨((A4, c4), (A6, c6)), ⟨⟨l4, g4⟩, l6, g6⟩, ad, e, h3⟩
 have hlen : ps.length = xs.length := by rw [← h1, List.length_map]
 refine ⟨ps, h1, ⟨by omega, hm, fun hp => ?_⟩, fun p hp => ?_⟩
 ·obtain ⟨ad, e, _⟩ := hc hp
  refine ⟨ad, e, fun j p hj => ⟨pnCells p, rfl, rfl, fun i u hu => ?_⟩⟩
  obtain ⟨_, ad2, e2, h4⟩ := h2 j p hj
  obtain rfl := Option.some.inj (e.symm.trans e2)
  exact h4 i u hu
 ·obtain ⟨j, hj, hp⟩ := List.mem_iff_getElem.1 hp
  exact (h2 j p (by rw [List.getElem?_eq_getElem hj, hp])).1
set_option maxHeartbeats 2000000 in
set_option maxRecDepth 100000 in
theorem node_clone (ad : Addr) (c0 : Nat) (l0 : List PN) (w : World) (hr0 : Kd.C kR w (some ad) l0.length l0) (hc0 : l0.length ≤ c0) (h : l0.length < 1000000) :
  Calls Try.prog 43 #[.slice (some ad) l0.length c0] w fun e w' => ∃ v0_ : Value, e = .returned (v0_) ∧ Kd.R kR 79 w' w.heap.size (fun _ => True) v0_ l0 ∧ Below w.heap.size w w' := by
 have HB := Aside0.mk (Below.refl w.heap.size w)
 have LM := Aside0.mk h
 have HR0 := Aside0.mk hr0
 have HC0 := Aside0.mk hc0
 clear hr0 hc0 h
 have hnil := fun w : World => Lib.run_eql_slice_nil (P := Try.prog) w 80 79 (some ad) l0.length c0 0 0 Try.underlying80
 go_enter Try.func43, Try.ntmps43
 go_wp2_with (first | ((with_reducible refine gate_dst (N := 5) rfl ?_); refine Kd.R_lit kR _ 79 ?hg (N := 5) ?hd (xs := ([] : List PN)) (inner := []) (ok := fun _ => True) (okp := fun _ => True) ?hr ?hp (fun _ hk => hk) trivial (Below.refl _ _) (Nat.le_refl _) (by simp) ?_; (case hd => rfl); (case hg => rfl); (case hr => first | (go_simp; done) | (go_simp; rfl)); (case hp => exact (Reps.none _ _)); intro v5 w5 ho hb hg_ hnew_; clear hg_ hnew_; have n0_ := Aside0.mk (Kd.R_lower ho (below_size HB.out)); have n1_ := Aside0.mk (below_step HB.out hb); clear HB; have HO := n0_; have HB := n1_; clear n0_ n1_ hb ho) | ((with_reducible refine gate_builtin (b := .append) (xs := #[.tmp 5, .tmp 6]) rfl ?_); at_builtin; refine Kd.R_append_rows kR (w0 := w) w.heap.size rfl (.tmp 5) (.tmp 6) 80 79 _ 104 rfl Try.underlying80 info79 rfl (by decide) (by omega) v5 ([] : List PN) l0 _ _ _ (fun _ => True) (fun _ => False) rfl rfl ?aO ?aR (fun _ _ h => h) (fun _ h => h.elim) ?aF ?aB ?aS ?aL ?_; (case aR => exact Kd.C_below HR0.out HB.out); (case aB => exact HB.out); (case aF => exact (fun _ _ => trivial)); (case aO => exact HO.out); (case aS => exact below_size HB.out); (case aL => have := LM.out; simp; omega); intro v7 w7 ho hb hg hat; have HO2 := Aside0.mk ho; have HB2 := Aside0.mk hb; clear ho hb hg hat))
 go_ret
 exact ⟨_, rfl, HO2.out, HB2.out⟩
/-! #### a row of nodes of which some are one's own -/
section
variable {W W' : World} {base : Nat} {ok : Nat → Prop} {v : Value} {ps : List PN} {xs : List S79}
theorem Q_start (h : Kd.R kR 79 W base ok v ps) : Kd.S kQ 79 W base ok v (ps.map .inr) := by
 obtain ⟨h0, inner, ho, hr⟩ := h
 refine ⟨fun _ => 0, h0, inner, by rw [List.length_zipIdx, List.length_map]; exact ho, by rw [List.length_zipIdx, List.length_map]; exact hr.1, fun j p hj => ?_⟩
 rw [List.getElem?_zipIdx, Nat.zero_add, List.getElem?_map, Option.map_map] at hj
 obtain ⟨q, hq, rfl⟩ := Option.map_eq_some_iff.1 hj
 exact hr.2 j q hq
theorem Q_end (h : Kd.S kQ 79 W base ok v (xs.map .inl)) : Kd.S k79 79 W base ok v xs := by
 obtain ⟨f, h0, inner, ho, hr⟩ := h
 rw [List.length_zipIdx, List.length_map] at ho
 have h1 := hr.1
 rw [List.length_zipIdx, List.length_map] at h1
 refine ⟨f, h0, inner, by rw [List.length_zipIdx]; exact ho, by rw [List.length_zipIdx]; exact h1, fun j p hj => ?_⟩
 rw [List.getElem?_zipIdx, Nat.zero_add] at hj
 obtain ⟨q, hq, rfl⟩ := Option.map_eq_some_iff.1 hj
 have h2 := hr.2 j (.inl q, j) (by rw [List.getElem?_zipIdx, Nat.zero_add, List.getElem?_map, hq]; rfl)
 exact h2
/-- One cell of element i is written; nothing is led to by the element, then or now. -/
theorem Q_cell {G n c : Nat} {zs : List (S79 ⊕ PN)} (h : Kd.S kQ 79 W base ok (.slice (some ⟨G, 0, none⟩) n c) zs) (i : Nat) (hi : i < zs.length) (p p' : PN) (hp : zs[i]? = some (.inr p)) (j : Nat) (hj : j < 7) (u : Value) (hu : pnCells p' = (pnCells p).take j ++ [u] ++ (pnCells p).drop (j + 1)) :
  Kd.S kQ 79 (W.setCell ⟨G, i * 7 + j, none⟩ u) base ok (.slice (some ⟨G, 0, none⟩) n c) (zs.set i (.inr p')) ∧ W.grownBy (W.setCell ⟨G, i * 7 + j, none⟩ u) (some G) := by
 have hln := (Kd.S_reads' h).1
 obtain ⟨oki, cs, hcl, hM, _, _, _, hH⟩ := Kd.S_elem h (.inr p) (i : Int) (by omega) (by omega)
 rw [Int.toNat_natCast, List.getD_eq_getElem?_getD, hp, Option.getD_some] at hM
 have hM : cs = pnCells p := hM
 subst hM
 have h3 := Kd.S_seg0 hH (by omega) (by omega) (seg := [u]) (j := j) (x' := .inr p') (okp := fun _ => False) hj (show _ = _ from hu.symm) fun k hk => hk.elim
 rw [Int.toNat_natCast] at h3
 exact h3
/-- One cell of element i is written; the element is one's own then. -/
theorem Q_own {okn : Nat → Prop} {G n c : Nat} {zs : List (S79 ⊕ PN)} (h : Kd.S kQ 79 W base ok (.slice (some ⟨G, 0, none⟩) n c) zs) (hn : ∀ k, okn k → ¬ ok k) (i : Nat) (hi : i < zs.length) (p : PN) (hp : zs[i]? = some (.inr p)) (j : Nat) (hj : j < 7) (u : Value) (hu : k79.M W base okn p.1 ((pnCells p).take j ++ [u] ++ (pnCells p).drop (j + 1))) :
  Kd.S kQ 79 (W.setCell ⟨G, i * 7 + j, none⟩ u) base (fun k => ok k ∨ okn k) (.slice (some ⟨G, 0, none⟩) n c) (zs.set i (.inl p.1)) ∧ W.grownBy (W.setCell ⟨G, i * 7 + j, none⟩ u) (some G) := by
 have hln := (Kd.S_reads' h).1
 have hG := (Kd.S_R h).1 G rfl
 have h2 : Kd.S kQ 79 W base (fun k => (ok k ∨ okn k) ∧ ¬ okn k) (.slice (some ⟨G, 0, none⟩) n c) zs := Kd.S_mono h fun k hk => ⟨.inl hk, fun h2 => hn k h2 hk⟩
 obtain ⟨oki, cs, hcl, hM, _, _, _, hH⟩ := Kd.S_elem h2 (.inr p) (i : Int) (by omega) (by omega)
 rw [Int.toNat_natCast, List.getD_eq_getElem?_getD, hp, Option.getD_some] at hM
 have hM : cs = pnCells p := hM
 subst hM
 have h3 := Kd.S_seg (okg := okn) hH (by omega) (by omega) (seg := [u]) (j := j) (x' := .inl p.1) (okp := okn) hj (show k79.M W base okn p.1 _ from hu) (fun k hk => .inr hk) fun k hk => ⟨.inr hk, fun e => hn k hk (e ▸ hG)⟩
 rw [Int.toNat_natCast] at h3
 exact h3
/-- Element i's cells. -/
theorem Q_at {G n c : Nat} {zs : List (S79 ⊕ PN)} (h : Kd.S kQ 79 W base ok (.slice (some ⟨G, 0, none⟩) n c) zs) (i : Nat) (hi : i < zs.length) (p : PN) (hp : zs[i]? = some (.inr p)) : (∀ j u, (pnCells p)[j]? = some u → W.cell? ⟨G, i * 7 + j, none⟩ = some u) ∧ ∀ j, W.frozen? ⟨G, i * 7 + j, none⟩ = false := by
 have hln := (Kd.S_reads' h).1
 obtain ⟨oki, cs, hcl, hM, hcc, hfr, _, hH⟩ := Kd.S_elem h (.inr p) (i : Int) (by omega) (by omega)
 rw [Int.toNat_natCast, List.getD_eq_getElem?_getD, hp, Option.getD_some] at hM
 have hM : cs = pnCells p := hM
 subst hM
 rw [Int.toNat_natCast] at hcc hfr
 exact ⟨hcc, hfr⟩
end
end Go.Proofs.Ytpkaliaaffgbdaa.QA
