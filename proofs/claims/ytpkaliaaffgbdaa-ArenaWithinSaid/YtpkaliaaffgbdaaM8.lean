/- The document's own answer (boltingref11): set. The rows of a stack of nodes, in plain Lean; what a call leaves of them. Loaded trees, read again, in plain Lean. -/
import Derived.Test.YtpkaliaaffgbdaaM7
namespace Go.Proofs.Ytpkaliaaffgbdaa.QA
open Go.RowKit Go.Proofs.YtpkaliaaffgbdaaW.PrintWords Go.Proofs.YtpkaliaaffgbdaaW.PrintLast Go.Proofs.YtpkaliaaffgbdaaW.PrintMore
attribute [local go_sem] max2_int min2_int max_two min_two max_three min_three max_four min_four   -- for this text's walks alone
set_option linter.unusedVariables false
set_option linter.unusedSimpArgs false
def reg76_0.T : Bool × List (List Nat × List Nat) := (true, [([], []), ([], []), ([1], [1]), ([2], [2]), ([3], [3]), ([0, 4], [0, 4]), ([], []), ([], []), ([7], [7]), ([8], [8]), ([9], [9]), ([6, 10, 5], [6, 10]), ([5, 11, 0, 1, 2, 3, 4, 5], [5]), ([11, 12, 0, 1, 2, 3, 4, 5, 6, 7, 8, 9, 10, 11, 12], [11])])
def reg76_0.B : List Nat := [0, 0, 2, 6, 14, 31, 0, 0, 128, 384, 896, 2047, 4095, 8191]
theorem reg76_0.tab : rtab .any (opsOf Try.f76 0) = reg76_0.T := by kernel_rfl
theorem reg76_0.bits : waitsOk reg76_0.T.2 reg76_0.B = true := by kernel_rfl

open Go
/-- Two rows of numbers of one's own, that are made one beside the other. -/
structure Two (w W : World) (vA vB : Value) (lA lB : List Int) : Prop where
 bel : Below w.heap.size w W
 a : Kd.R kI 3 W w.heap.size (fun _ => True) vA lA
 b : Kd.R kI 3 W w.heap.size (fun _ => True) vB lB
 ne : ∀ k, vA.ownBlock = some k → vB.ownBlock ≠ some k
section
variable {w W W1 : World} {vA vB v1 : Value} {lA lB l1 : List Int}
theorem Two.start (hB : Below w.heap.size w W) : Two w W (.slice none 0 0) (.slice none 0 0) [] [] := ⟨hB, Kd.R_nil _ _ _ _ _, Kd.R_nil _ _ _ _ _, fun k hk => by cases hk⟩
theorem Two.swap (h : Two w W vA vB lA lB) : Two w W vB vA lB lA := ⟨h.bel, h.b, h.a, fun k hk e => h.ne k e hk⟩
theorem Two.allocA {lA : List Int} (h : Two w W vA vB lA lB) : Two w (W.alloc (.cells #[] 3)) (.slice (some ⟨W.heap.size, 0, none⟩) 0 0) vB [] lB :=
 ⟨below_alloc h.bel _, R_int_block (xs := []) (cap := 0) (below_size h.bel) (blk_new _ _) (Nat.le_refl _) (by decide) rfl rfl, Kd.R_alloc h.b _, fun k hk e => by
  have hk : W.heap.size = k := Option.some.inj hk
  have := Kd.R_lt h.b k e
  omega⟩
theorem Two.growA (h : Two w W vA vB lA lB) (hB : Below w.heap.size w W1) (hg : W.grownBy W1 vA.ownBlock) (hR : Kd.R kI 3 W1 w.heap.size (fun _ => True) v1 l1) (hat : v1.ownBlock = vA.ownBlock ∨ ∃ b, v1.ownBlock = some b ∧ W.heap.size ≤ b) : Two w W1 v1 vB l1 lB := by
 refine ⟨hB, hR, Kd.R_mono (Kd.R_grown (Kd.R_tight rfl h.b) hg fun k hk e => h.ne k e.symm hk.symm) fun _ _ => trivial, fun k hk e => ?_⟩
 rcases hat with h1 | ⟨b, h1, hb⟩
 ·exact h.ne k (h1 ▸ hk) e
 ·have := Kd.R_lt h.b k e
  rw [hk] at h1
  injection h1 with h1
  omega
end
theorem K_M (W : World) (base : Nat) (ok : Nat → Prop) (x : Int) (cs : List Value) (h : kI.K W x cs) : kI.M W base ok x cs := h
section
variable {W w : World} {ok ok1 : Nat → Prop} {g : Nat} {vX vU vR : Value} {X : List S54} {U R : List Int}
theorem RSt.other {W1 : World} {B : Nat} (h : RSt w W ok ok1 g vX vU vR X U R) (hg : W.grownBy W1 (some B)) (hB : w.heap.size ≤ B) (hn : ¬ ok1 B) : RSt w W1 ok ok1 g vX vU vR X U R :=
 ⟨h.at_.move fun k hk hl => hg.block k hl fun e => hn (by injection e with e; exact e ▸ hk), h.new, fun k hk => Nat.lt_of_lt_of_le (h.lt k hk) hg.size,
  ⟨hg.os.trans h.mod.os, hg.tape.trans h.mod.tape, hg.output.trans h.mod.output, Nat.le_trans h.mod.size hg.size, fun k hk hn2 => (hg.block k (Nat.lt_of_lt_of_le hk h.mod.size) fun e => by injection e with e; omega).trans (h.mod.block k hk hn2)⟩⟩
theorem set_grown (W : World) (B j : Nat) (u : Value) : W.grownBy (W.setCell ⟨B, j, none⟩ u) (some B) :=
 ⟨rfl, rfl, rfl, by simp [World.setCell], fun k _ hk => Below.heap_setCell W ⟨B, j, none⟩ u k fun e => hk (by rw [e])⟩
/-- up[n] = p, behind d.Up = up. -/
theorem RSt.cellU {GU c : Nat} (h : RSt w W ok ok1 g vX (.slice (some ⟨GU, 0, none⟩) U.length c) vR X U R) (n : Nat) (p : Int) : RSt w (W.setCell ⟨GU, n, none⟩ (.int .i64 p)) ok ok1 g vX (.slice (some ⟨GU, 0, none⟩) U.length c) vR X (U.set n p) R := by
 have hg := set_grown W GU n (.int .i64 p)
 have hGU := h.at_.rU.1 GU rfl
 have hp : Kd.R kI 3 (W.setCell ⟨GU, n, none⟩ (.int .i64 p)) 0 (fun k => ok1 k ∧ k ≠ g) (.slice (some ⟨GU, 0, none⟩) U.length c) (U.set n p) := by
  have h_ := (Kd.R_put h.at_.rU (n : Int) p).1
  rwa [Int.toNat_natCast] at h_
 refine ⟨⟨(hg.block g h.at_.lt fun e => hGU.2 (by injection e with e; exact e.symm)).trans h.at_.blk, h.at_.own, Kd.R_over h.at_.rX h.at_.rU types54 hg, hp, Kd.R_mono (Kd.R_grown (Kd.R_tight2 rfl h.at_.rR) hg fun k hk e => h.at_.ne k e.symm hk.1.symm) fun k hk => hk.2, h.at_.ne⟩, h.new, fun k hk => Nat.lt_of_lt_of_le (h.lt k hk) hg.size, h.mod.set _ _ (h.new GU hGU.1)⟩
/-- rank[ks[i]] = 2 i + 1, for the first m. -/
def numU (ks R : List Int) : Nat → List Int
 | 0 => R
 | m + 1 => (numU ks R m).set (rd ks (m : Int)).toNat (2 * (m : Int) + 1)
theorem numU_length (ks R : List Int) : ∀ m, (numU ks R m).length = R.length
 | 0 => rfl
 | m + 1 => by rw [numU, List.length_set, numU_length ks R m]
end
section
variable {w : World} {ok : Nat → Prop} {g : Nat} {vX vU vR : Value} {X : List S54} {U R : List Int}
set_option maxHeartbeats 4000000 in
set_option maxRecDepth 100000 in
theorem Ref_set (h : RefAt w ok g vX vU vR X U R) (hx : 0 < X.length) (hu : U.length = X.length) (hr : R.length = X.length) (hl : X.length < 100000) (p n a : Nat) (hp : p < X.length) (hn : n < X.length) (ha : a < 1000000) (ks : List Int) (hk : KidsOf (U.set n (-1)) R (p : Int) ks) (hkl : ks.length < 1000000) :
  Calls Try.prog 76 #[.pointer (some ⟨g, 0, none⟩), .int .i64 (p : Int), .int .i64 (a : Int), .int .i64 (n : Int)] w fun e w' => e = .returned (.tuple #[]) ∧ ToRef w w' ok g X (U.set n (p : Int)) ((numU ks R ks.length).set n (2 * (a : Int))) := by
 obtain ⟨GX, cX, GU, cU, GR, cR, rfl, rfl, rfl, ⟨l0, l1, l2⟩, _, _⟩ := h.reads hx hu hr
 obtain ⟨q0, q1, q2, _⟩ := ref_cells h.blk
 have hlt := h.lt
 have HC := Aside0.mk (fun W (hb : Below w.heap.size w W) => (show W.cell? ⟨g, 1, none⟩ = some (.slice (some ⟨GU, 0, none⟩) X.length cU) ∧ W.cell? ⟨g, 2, none⟩ = some (.slice (some ⟨GR, 0, none⟩) X.length cR) from ⟨(hb.cell (p := ⟨g, 1, none⟩) hlt).trans q1, (hb.cell (p := ⟨g, 2, none⟩) hlt).trans q2⟩))
 have HCU := Aside0.mk (fun W (hb : Below w.heap.size w W) => Kd.C_below (Kd.R_reads' h.rU).2.2 hb)
 have HCR := Aside0.mk (fun W (hb : Below w.heap.size w W) => Kd.C_below (Kd.R_reads' h.rR).2.2 hb)
 rw [hu] at HCU
 rw [hr] at HCR
 have HS := Aside0.mk (RSt.start h)
 have HL := Aside0.mk (And.intro l0 (And.intro l1 l2))
 have HK := Aside0.mk (And.intro hk hkl)
 have HUL := Aside0.mk (And.intro hu hr)
 have HX := Aside0.mk (And.intro hx hl)
 have HN := Aside0.mk (And.intro hp (And.intro hn ha))
 have H0 := Aside0.mk (below_drew1 (Below.refl w.heap.size w))
 clear h l0 l1 l2 q0 q1 q2 hlt hk hkl hu hr hx hl hp hn ha
 go_enter Try.func76, Try.ntmps76
 go_upto_region 0 with (fail)
 go_cut [8, 9] (fun v8 v9 wc => Aside0 (Two w wc v8 v9 U R))
 case first =>
  have hc := HC.out _ H0.out
  have HT := Aside0.mk (Two.start H0.out)
  refine start_ (n := 14) (S := (fun w' => w'.cell? ⟨g, 1, none⟩ = some (.slice (some ⟨GU, 0, none⟩) X.length cU) ∧ w'.cell? ⟨g, 2, none⟩ = some (.slice (some ⟨GR, 0, none⟩) X.length cR))) (ds := []) #[Z, Z, Z, Z, Z, Z, Z, Z, Z, Z, Z, Z, Z, Z] (by kernel_rfl) rfl rfl hc (fun hHeld => ?_); refine with_tabW reg76_0.tab reg76_0.bits (fun HT_ HW_ => ?_)
  clear hc; generalize w.drew = Wc at HT hHeld ⊢
  refine pA 1 13 #[Z, Y, Z, Z, Z, Z, Z, Z, Z, Z, Z, Z, Z, Z] HT_ ?_
  refine pA 2 14 #[Z, Y, Y, Z, Z, Z, Z, Z, Z, Z, Z, Z, Z, Z] HT_ ?_
  refine pA 3 15 #[Z, Y, Y, Y, Z, Z, Z, Z, Z, Z, Z, Z, Z, Z] HT_ ?_
  refine take_ (i := 4) (N := some 16) (v := ?_) (a' := ?_) #[Z, Y, Y, Y, Y, Z, Z, Z, Z, Z, Z, Z, Z, Z] rfl rfl (take_ofW HT_.out HW_.out (by kernel_rfl)) (fun _ _ _ h => h) (Or.inl ⟨by rfl, ?_⟩) hHeld ?_ ?_
  rotate_left
  ·rintro w' hs
   (try obtain ⟨s0, s1⟩ := hs)
   (try obtain ⟨s1, s2⟩ := s1)
   (try obtain ⟨s2, s3⟩ := s2)
   (try obtain ⟨s3, s4⟩ := s3)
   (try obtain ⟨s4, s5⟩ := s4)
   (try obtain ⟨s5, s6⟩ := s5)
   go_simp
   with_reducible rfl
  rotate_left
  ·simp only [Act.put, List.setIfInBounds_toArray, List.set_cons_zero, List.set_cons_succ, i64_w, i32_w]
   rfl
  refine pA 7 19 #[Z, Y, Y, Y, Y, Z, Z, Y, Z, Z, Z, Z, Z, Z] HT_ ?_
  refine pA 8 20 #[Z, Y, Y, Y, Y, Z, Z, Y, Y, Z, Z, Z, Z, Z] HT_ ?_
  refine pA 9 21 #[Z, Y, Y, Y, Y, Z, Z, Y, Y, Y, Z, Z, Z, Z] HT_ ?_
  refine take_ (i := 10) (N := some 22) (v := ?_) (a' := ?_) #[Z, Y, Y, Y, Y, Z, Z, Y, Y, Y, Y, Z, Z, Z] rfl rfl (take_ofW HT_.out HW_.out (by kernel_rfl)) (fun _ _ _ h => h) (Or.inl ⟨by rfl, ?_⟩) hHeld ?_ ?_
  rotate_left
  ·rintro w' hs
   (try obtain ⟨s0, s1⟩ := hs)
   (try obtain ⟨s1, s2⟩ := s1)
   (try obtain ⟨s2, s3⟩ := s2)
   (try obtain ⟨s3, s4⟩ := s3)
   (try obtain ⟨s4, s5⟩ := s4)
   (try obtain ⟨s5, s6⟩ := s5)
   go_simp
   with_reducible rfl
  rotate_left
  ·simp only [Act.put, List.setIfInBounds_toArray, List.set_cons_zero, List.set_cons_succ, i64_w, i32_w]
   rfl
  refine two_ (i := 0) (j := 6) (Ni := some 12) (Nj := some 18) #[Y, Y, Y, Y, Y, Z, Z, Y, Y, Y, Y, Z, Z, Z] #[Z, Y, Y, Y, Y, Z, Y, Y, Y, Y, Y, Z, Z, Z] rfl rfl rfl rfl (two_of HT_.out (by kernel_rfl)) (by decide) (by decide) (fun K hK => ?_) (fun K hK => ?_)
  ·refine value_ (v := .slice (some ⟨Wc.heap.size, 0, none⟩) 0 0) (w1 := Wc.alloc (.cells #[] 3)) (by rfl) rfl (by first | (go_simp; done) | (go_simp; rfl)) ?_
   refine hK.out _ _ ⟨Lib.cell?_alloc_some _ hHeld.1, Lib.cell?_alloc_some _ hHeld.2⟩ (fun hHeld => ?_)
   have HT2 := Aside0.mk HT.out.allocA
   clear HT hK K
   generalize Wc.heap.size = ba at HT2 ⊢
   generalize Wc.alloc (.cells #[] 3) = Wd at HT2 hHeld ⊢
   revert HT2 hHeld
   revert Wd
   intro Wc HT hHeld
   refine two_ (i := 5) (j := 6) (Ni := some 17) (Nj := some 18) #[Y, Y, Y, Y, Y, Y, Z, Y, Y, Y, Y, Z, Z, Z] #[Y, Y, Y, Y, Y, Z, Y, Y, Y, Y, Y, Z, Z, Z] rfl rfl rfl rfl (two_of HT_.out (by kernel_rfl)) (by decide) (by decide) (fun K hK => ?_) (fun K hK => ?_)
   ·refine Kd.R_append_rows_step kI (Rr := kI.K Wc) (w0 := w) w.heap.size (by rfl) (.tmp 12) (.tmp 16) 32 3 (.int .i64 0) 8 rfl Try.underlying32 info3 rfl (by decide) (by decide) (.slice (some ⟨ba, 0, none⟩) 0 0) [] U (some ⟨GU, 0, none⟩) X.length cU (fun _ => True) (fun _ => False) rfl rfl HT.out.a (HCU.out Wc HT.out.bel) (K_M Wc w.heap.size _) (fun _ h => h.elim) (fun _ _ => trivial) HT.out.bel (below_size HT.out.bel) (by have := HX.out.2; simp only [List.length_nil]; omega) ?_
    intro vA Wd hR hB hg hat
    have HT2 := Aside0.mk (HT.out.growA hB hg hR hat)
    refine hK.out (Act.put _ (some 17) vA) Wd (HC.out Wd hB) (fun hHeld => ?_)
    clear HT hK K hR hB hg hat
    revert HT2 hHeld
    revert Wd
    intro Wc HT hHeld
    refine one_ (i := 6) (N := some 18) #[Y, Y, Y, Y, Y, Y, Y, Y, Y, Y, Y, Z, Z, Z] rfl rfl (one_of HT_.out (by kernel_rfl)) (by decide) (fun K hK => ?_)
    refine value_ (v := .slice (some ⟨Wc.heap.size, 0, none⟩) 0 0) (w1 := Wc.alloc (.cells #[] 3)) (by rfl) rfl (by first | (go_simp; done) | (go_simp; rfl)) ?_
    refine hK.out _ _ ⟨Lib.cell?_alloc_some _ hHeld.1, Lib.cell?_alloc_some _ hHeld.2⟩ (fun hHeld => ?_)
    have HT2 := Aside0.mk HT.out.swap.allocA.swap
    clear HT hK K
    generalize Wc.heap.size = bb at HT2 ⊢
    generalize Wc.alloc (.cells #[] 3) = Wd at HT2 hHeld ⊢
    revert HT2 hHeld
    revert Wd
    intro Wc HT hHeld
    refine one_ (i := 11) (N := some 23) #[Y, Y, Y, Y, Y, Y, Y, Y, Y, Y, Y, Y, Z, Z] rfl rfl (one_of HT_.out (by kernel_rfl)) (by decide) (fun K hK => ?_)
    refine Kd.R_append_rows_step kI (Rr := kI.K Wc) (w0 := w) w.heap.size (by rfl) (.tmp 18) (.tmp 22) 32 3 (.int .i64 0) 8 rfl Try.underlying32 info3 rfl (by decide) (by decide) (.slice (some ⟨bb, 0, none⟩) 0 0) [] R (some ⟨GR, 0, none⟩) X.length cR (fun _ => True) (fun _ => False) rfl rfl HT.out.b (HCR.out Wc HT.out.bel) (K_M Wc w.heap.size _) (fun _ h => h.elim) (fun _ _ => trivial) HT.out.bel (below_size HT.out.bel) (by have := HX.out.2; simp only [List.length_nil]; omega) ?_
    intro vB Wd hR hB hg hat
    have HT2 := Aside0.mk (HT.out.swap.growA hB hg hR hat).swap
    refine hK.out (Act.put _ (some 23) vB) Wd (HC.out Wd hB) (fun hHeld => ?_)
    clear HT hK K hR hB hg hat
    revert HT2 hHeld
    revert Wd
    intro Wc HT hHeld
    refine pA 12 8 #[Y, Y, Y, Y, Y, Y, Y, Y, Y, Y, Y, Y, Y, Z] HT_ ?_
    refine pA 13 9 #[Y, Y, Y, Y, Y, Y, Y, Y, Y, Y, Y, Y, Y, Y] HT_ ?_
    refine done_ (done_of HT_.out (by kernel_rfl)) ?_
    go_wp2
    go_meet
    case rel => exact HT
   ·refine value_ (v := .slice (some ⟨Wc.heap.size, 0, none⟩) 0 0) (w1 := Wc.alloc (.cells #[] 3)) (by rfl) rfl (by first | (go_simp; done) | (go_simp; rfl)) ?_
    refine hK.out _ _ ⟨Lib.cell?_alloc_some _ hHeld.1, Lib.cell?_alloc_some _ hHeld.2⟩ (fun hHeld => ?_)
    have HT2 := Aside0.mk HT.out.swap.allocA.swap
    clear HT hK K
    generalize Wc.heap.size = bb at HT2 ⊢
    generalize Wc.alloc (.cells #[] 3) = Wd at HT2 hHeld ⊢
    revert HT2 hHeld
    revert Wd
    intro Wc HT hHeld
    refine one_ (i := 5) (N := some 17) #[Y, Y, Y, Y, Y, Y, Y, Y, Y, Y, Y, Z, Z, Z] rfl rfl (one_of HT_.out (by kernel_rfl)) (by decide) (fun K hK => ?_)
    refine Kd.R_append_rows_step kI (Rr := kI.K Wc) (w0 := w) w.heap.size (by rfl) (.tmp 12) (.tmp 16) 32 3 (.int .i64 0) 8 rfl Try.underlying32 info3 rfl (by decide) (by decide) (.slice (some ⟨ba, 0, none⟩) 0 0) [] U (some ⟨GU, 0, none⟩) X.length cU (fun _ => True) (fun _ => False) rfl rfl HT.out.a (HCU.out Wc HT.out.bel) (K_M Wc w.heap.size _) (fun _ h => h.elim) (fun _ _ => trivial) HT.out.bel (below_size HT.out.bel) (by have := HX.out.2; simp only [List.length_nil]; omega) ?_
    intro vA Wd hR hB hg hat
    have HT2 := Aside0.mk (HT.out.growA hB hg hR hat)
    refine hK.out (Act.put _ (some 17) vA) Wd (HC.out Wd hB) (fun hHeld => ?_)
    clear HT hK K hR hB hg hat
    revert HT2 hHeld
    revert Wd
    intro Wc HT hHeld
    refine one_ (i := 11) (N := some 23) #[Y, Y, Y, Y, Y, Y, Y, Y, Y, Y, Y, Y, Z, Z] rfl rfl (one_of HT_.out (by kernel_rfl)) (by decide) (fun K hK => ?_)
    refine Kd.R_append_rows_step kI (Rr := kI.K Wc) (w0 := w) w.heap.size (by rfl) (.tmp 18) (.tmp 22) 32 3 (.int .i64 0) 8 rfl Try.underlying32 info3 rfl (by decide) (by decide) (.slice (some ⟨bb, 0, none⟩) 0 0) [] R (some ⟨GR, 0, none⟩) X.length cR (fun _ => True) (fun _ => False) rfl rfl HT.out.b (HCR.out Wc HT.out.bel) (K_M Wc w.heap.size _) (fun _ h => h.elim) (fun _ _ => trivial) HT.out.bel (below_size HT.out.bel) (by have := HX.out.2; simp only [List.length_nil]; omega) ?_
    intro vB Wd hR hB hg hat
    have HT2 := Aside0.mk (HT.out.swap.growA hB hg hR hat).swap
    refine hK.out (Act.put _ (some 23) vB) Wd (HC.out Wd hB) (fun hHeld => ?_)
    clear HT hK K hR hB hg hat
    revert HT2 hHeld
    revert Wd
    intro Wc HT hHeld
    refine pA 12 8 #[Y, Y, Y, Y, Y, Y, Y, Y, Y, Y, Y, Y, Y, Z] HT_ ?_
    refine pA 13 9 #[Y, Y, Y, Y, Y, Y, Y, Y, Y, Y, Y, Y, Y, Y] HT_ ?_
    refine done_ (done_of HT_.out (by kernel_rfl)) ?_
    go_wp2
    go_meet
    case rel => exact HT
  ·refine value_ (v := .slice (some ⟨Wc.heap.size, 0, none⟩) 0 0) (w1 := Wc.alloc (.cells #[] 3)) (by rfl) rfl (by first | (go_simp; done) | (go_simp; rfl)) ?_
   refine hK.out _ _ ⟨Lib.cell?_alloc_some _ hHeld.1, Lib.cell?_alloc_some _ hHeld.2⟩ (fun hHeld => ?_)
   have HT2 := Aside0.mk HT.out.swap.allocA.swap
   clear HT hK K
   generalize Wc.heap.size = bb at HT2 ⊢
   generalize Wc.alloc (.cells #[] 3) = Wd at HT2 hHeld ⊢
   revert HT2 hHeld
   revert Wd
   intro Wc HT hHeld
   refine one_ (i := 0) (N := some 12) #[Y, Y, Y, Y, Y, Z, Y, Y, Y, Y, Y, Z, Z, Z] rfl rfl (one_of HT_.out (by kernel_rfl)) (by decide) (fun K hK => ?_)
   refine value_ (v := .slice (some ⟨Wc.heap.size, 0, none⟩) 0 0) (w1 := Wc.alloc (.cells #[] 3)) (by rfl) rfl (by first | (go_simp; done) | (go_simp; rfl)) ?_
   refine hK.out _ _ ⟨Lib.cell?_alloc_some _ hHeld.1, Lib.cell?_alloc_some _ hHeld.2⟩ (fun hHeld => ?_)
   have HT2 := Aside0.mk HT.out.allocA
   clear HT hK K
   generalize Wc.heap.size = ba at HT2 ⊢
   generalize Wc.alloc (.cells #[] 3) = Wd at HT2 hHeld ⊢
   revert HT2 hHeld
   revert Wd
   intro Wc HT hHeld
   refine one_ (i := 5) (N := some 17) #[Y, Y, Y, Y, Y, Y, Y, Y, Y, Y, Y, Z, Z, Z] rfl rfl (one_of HT_.out (by kernel_rfl)) (by decide) (fun K hK => ?_)
   refine Kd.R_append_rows_step kI (Rr := kI.K Wc) (w0 := w) w.heap.size (by rfl) (.tmp 12) (.tmp 16) 32 3 (.int .i64 0) 8 rfl Try.underlying32 info3 rfl (by decide) (by decide) (.slice (some ⟨ba, 0, none⟩) 0 0) [] U (some ⟨GU, 0, none⟩) X.length cU (fun _ => True) (fun _ => False) rfl rfl HT.out.a (HCU.out Wc HT.out.bel) (K_M Wc w.heap.size _) (fun _ h => h.elim) (fun _ _ => trivial) HT.out.bel (below_size HT.out.bel) (by have := HX.out.2; simp only [List.length_nil]; omega) ?_
   intro vA Wd hR hB hg hat
   have HT2 := Aside0.mk (HT.out.growA hB hg hR hat)
   refine hK.out (Act.put _ (some 17) vA) Wd (HC.out Wd hB) (fun hHeld => ?_)
   clear HT hK K hR hB hg hat
   revert HT2 hHeld
   revert Wd
   intro Wc HT hHeld
   refine one_ (i := 11) (N := some 23) #[Y, Y, Y, Y, Y, Y, Y, Y, Y, Y, Y, Y, Z, Z] rfl rfl (one_of HT_.out (by kernel_rfl)) (by decide) (fun K hK => ?_)
   refine Kd.R_append_rows_step kI (Rr := kI.K Wc) (w0 := w) w.heap.size (by rfl) (.tmp 18) (.tmp 22) 32 3 (.int .i64 0) 8 rfl Try.underlying32 info3 rfl (by decide) (by decide) (.slice (some ⟨bb, 0, none⟩) 0 0) [] R (some ⟨GR, 0, none⟩) X.length cR (fun _ => True) (fun _ => False) rfl rfl HT.out.b (HCR.out Wc HT.out.bel) (K_M Wc w.heap.size _) (fun _ h => h.elim) (fun _ _ => trivial) HT.out.bel (below_size HT.out.bel) (by have := HX.out.2; simp only [List.length_nil]; omega) ?_
   intro vB Wd hR hB hg hat
   have HT2 := Aside0.mk (HT.out.swap.growA hB hg hR hat).swap
   refine hK.out (Act.put _ (some 23) vB) Wd (HC.out Wd hB) (fun hHeld => ?_)
   clear HT hK K hR hB hg hat
   revert HT2 hHeld
   revert Wd
   intro Wc HT hHeld
   refine pA 12 8 #[Y, Y, Y, Y, Y, Y, Y, Y, Y, Y, Y, Y, Y, Z] HT_ ?_
   refine pA 13 9 #[Y, Y, Y, Y, Y, Y, Y, Y, Y, Y, Y, Y, Y, Y] HT_ ?_
   refine done_ (done_of HT_.out (by kernel_rfl)) ?_
   go_wp2
   go_meet
   case rel => exact HT
 case rest =>
  clear H0
  have HT := hcut
  clear hcut
  obtain ⟨GA, cA, rfl, hA0, hAl, _, _⟩ := Kd.R_form HT.out.a (by have := HX.out.1; rw [HUL.out.1]; exact this)
  obtain ⟨GB, cB, rfl, hB0, hBl, _, _⟩ := Kd.R_form HT.out.b (by have := HX.out.1; rw [HUL.out.2]; exact this)
  rw [HUL.out.1, HUL.out.2] at HT ⊢
  have hAB : GA ≠ GB := fun e => HT.out.ne GA rfl (by rw [e]; rfl)
  have hgl := HS.out.at_.lt
  have hcA : wc.cell? ⟨GA, n, none⟩ = some (.int .i64 (rd U (n : Int))) := by
   obtain ⟨ad, e, hc⟩ := Kd.at_int (Kd.R_reads' HT.out.a).2.2 (n : Int) (by omega) (by have := HN.out.2.1; have := HUL.out.1; omega)
   injection e with e
   subst e
   rwa [add_plain, Int.toNat_natCast] at hc
  obtain ⟨cellsA, hbA⟩ := Kd.R_typed HT.out.a GA rfl
  have hfA := blk_frozen hbA n
  obtain ⟨c1, c2⟩ := HC.out wc HT.out.bel
  have hfg : ∀ j, wc.frozen? ⟨g, j, none⟩ = false := fun j => blk_frozen ((HT.out.bel.block g hgl).trans HS.out.at_.blk) j
  have hnz : (n : Int) < (X.length : Int) := by have := HN.out.2.1; omega
  have hgA : g ≠ GA := by omega
  have hS1 := (HS.out.quiet HT.out.bel).other (set_grown wc GA n (.int .i64 (-1))) hA0 (fun h => by have := h.2; omega)
  have hRA := (Kd.R_put (xs := U) (cap := cA) (by rw [HUL.out.1]; exact HT.out.a) (n : Int) (-1)).1
  rw [Int.toNat_natCast] at hRA
  have hS2 := hS1.setU (v := .slice (some ⟨GA, 0, none⟩) U.length cA) (World.grownBy.refl _ _) (Kd.R_lower hRA (Nat.zero_le _)) (fun k hk => .inr (by
   have hk : GA = k := Option.some.inj hk
   have := Kd.R_lt HS.out.at_.rR
   exact ⟨by omega, by omega, fun e => by have := this k e; omega⟩))
  have hRB : Kd.R kI 3 ((wc.setCell ⟨GA, n, none⟩ (.int .i64 (-1))).setCell ⟨g, 1, none⟩ (.slice (some ⟨GA, 0, none⟩) U.length cA)) w.heap.size (fun k => some k = (Value.slice (some ⟨GB, 0, none⟩) X.length cB).ownBlock) (.slice (some ⟨GB, 0, none⟩) X.length cB) R :=
   Kd.R_far (Kd.R_far (Kd.R_tight rfl HT.out.b) (p := ⟨GA, n, none⟩) (fun k hk e => hAB (by have hk : k = GB := Option.some.inj hk; rw [← hk, e])) _) (p := ⟨g, 1, none⟩) (fun k hk e => by have hk : k = GB := Option.some.inj hk; have e : k = g := e; omega) _
  have hNB : ¬ okUp (fun k => ok k ∧ k < w.heap.size) (fun k => some k = (Value.slice (some ⟨GA, 0, none⟩) U.length cA).ownBlock ∧ w.heap.size ≤ k) (wc.setCell ⟨GA, n, none⟩ (.int .i64 (-1))) GB := fun h => h.1.elim (fun h => by have := h.2; omega) fun h => hAB (by have h : GB = GA := Option.some.inj h.1; exact h.symm)
  have hsz : GB < ((wc.setCell ⟨GA, n, none⟩ (.int .i64 (-1))).setCell ⟨g, 1, none⟩ (.slice (some ⟨GA, 0, none⟩) U.length cA)).heap.size := by simpa [World.setCell] using hBl
  obtain ⟨ok2, HNB, HS2⟩ : ∃ ok2, Aside0 (¬ ok2 GB) ∧ Aside0 (RSt w _ ok ok2 g _ _ _ X (U.set n (-1)) R) := ⟨_, ⟨hNB⟩, ⟨hS2⟩⟩
  have HRB := Aside0.mk hRB
  have HSZ := Aside0.mk hsz
  have HAB := Aside0.mk hAB
  have HBF := Aside0.mk (And.intro hA0 (And.intro hB0 hgA))
  clear hS1 hS2 hRB hRA hNB hsz hbA
  rw [HUL.out.1] at HS2 HRB HSZ
  go_upto_region 3 with (fail)
  generalize (wc.setCell ⟨GA, n, none⟩ (.int .i64 (-1))).setCell ⟨g, 1, none⟩ (.slice (some ⟨GA, 0, none⟩) X.length cA) = W2 at HS2 HRB HSZ ⊢
  clear hcA hfA c1 c2 hfg HT hAl hBl HS HC HCU HCR
  have hul : (U.set n (-1)).length = X.length := by rw [List.length_set]; exact HUL.out.1
  have hkids := Ref_Kids HS2.out.at_ HX.out.1 hul HUL.out.2 HX.out.2 (p : Int) ks (fun _ => HK.out.1) (fun h => by omega) HK.out.2
  have HKC := Aside0.mk hkids
  have HUL2 := Aside0.mk hul
  clear hul hkids
  go_wp2_with (first | (go_at_call 59; refine HKC.out.mono ?_; rintro e w3 ⟨v, rfl, hR, hB⟩))
  obtain ⟨Ak, ck, rfl⟩ := Kd.R_slice hR
  have HI : Aside0 (RSt w w3 ok ok2 g (.slice (some ⟨GX, 0, none⟩) X.length cX) (.slice (some ⟨GA, 0, none⟩) X.length cA) (.slice (some ⟨GR, 0, none⟩) X.length cR) X (U.set n (-1)) R ∧ Kd.R kI 3 w3 0 (fun k => k ≠ GB) (.slice Ak ks.length ck) ks ∧ Kd.R kI 3 w3 w.heap.size (fun k => some k = (Value.slice (some ⟨GB, 0, none⟩) X.length cB).ownBlock) (.slice (some ⟨GB, 0, none⟩) X.length cB) (numU ks R 0)) :=
   ⟨⟨HS2.out.quiet hB, Kd.R_lower (R_put_own hR fun k hk => by have := Kd.R_base hR k hk; have := HSZ.out; omega) (Nat.zero_le _), Kd.R_below HRB.out hB⟩⟩
  clear hR hB HKC HS2 HRB HSZ
  go_loopg [11] ks.length (fun gg v11 W => ∃ i : Nat, i ≤ ks.length ∧ ks.length - i ≤ gg ∧ v11 = .int .i64 (i : Int) ∧ Aside0 (RSt w W ok ok2 g (.slice (some ⟨GX, 0, none⟩) X.length cX) (.slice (some ⟨GA, 0, none⟩) X.length cA) (.slice (some ⟨GR, 0, none⟩) X.length cR) X (U.set n (-1)) R ∧ Kd.R kI 3 W 0 (fun k => k ≠ GB) (.slice Ak ks.length ck) ks ∧ Kd.R kI 3 W w.heap.size (fun k => some k = (Value.slice (some ⟨GB, 0, none⟩) X.length cB).ownBlock) (.slice (some ⟨GB, 0, none⟩) X.length cB) (numU ks R i)))
  case atStart => exact ⟨0, Nat.zero_le _, by omega, rfl, HI⟩
  case round =>
   clear HI
   obtain ⟨i, hi, hgg, rfl, HI⟩ := hrel
   have hnl : (numU ks R i).length = X.length := by rw [numU_length]; exact HUL.out.2
   obtain ⟨cellsB, hbB⟩ := Kd.R_typed HI.out.2.2 GB rfl
   have hfB := fun j => blk_frozen hbB j
   have HNL := Aside0.mk hnl
   have HBB := Aside0.mk hbB
   clear hnl hbB
   by_cases hlt : i < ks.length
   ·have z1 : (i : Int) < (ks.length : Int) := by omega
    obtain ⟨ad, e, hck⟩ := Kd.at_int (Kd.R_reads' HI.out.2.1).2.2 (i : Int) (by omega) z1
    subst e
    have hmem : rd ks (i : Int) ∈ ks := by rw [rd_at hlt]; exact List.getElem_mem hlt
    obtain ⟨q, hq, hql⟩ := HK.out.1.nat _ hmem
    rw [HUL2.out] at hql
    rw [hq, Int.toNat_natCast] at hck
    have HQ := Aside0.mk hq
    clear hq hmem
    have hqB : wr.cell? ⟨GB, q, none⟩ = some (.int .i64 (rd (numU ks R i) (q : Int))) := by
     obtain ⟨ad2, e, hc⟩ := Kd.at_int (Kd.R_reads' HI.out.2.2).2.2 (q : Int) (by omega) (by have := HNL.out; omega)
     injection e with e
     subst e
     rwa [add_plain, Int.toNat_natCast] at hc
    have hqz : (q : Int) < (X.length : Int) := by omega
    have hw1 : wrap64 (2 * (i : Int)) = 2 * (i : Int) := by unfold wrap64; have := HK.out.2; omega
    have hw2 : wrap64 (2 * (i : Int) + 1) = 2 * (i : Int) + 1 := by unfold wrap64; have := HK.out.2; omega
    have HW := Aside0.mk (And.intro hw1 hw2)
    go_wp2
    have hnew : Kd.R kI 3 (wr.setCell ⟨GB, q, none⟩ (.int .i64 (2 * (i : Int) + 1))) w.heap.size (fun k => some k = (Value.slice (some ⟨GB, 0, none⟩) X.length cB).ownBlock) (.slice (some ⟨GB, 0, none⟩) X.length cB) (numU ks R (i + 1)) := by
     have h1 := HI.out.2.2
     rw [← HNL.out] at h1
     have h2 := (Kd.R_put h1 (q : Int) (2 * (i : Int) + 1)).1
     rw [Int.toNat_natCast] at h2
     rw [numU, HQ.out, Int.toNat_natCast, ← HNL.out]
     exact h2
    have HE : Aside0 (RSt w (wr.setCell ⟨GB, q, none⟩ (.int .i64 (2 * (i : Int) + 1))) ok ok2 g (.slice (some ⟨GX, 0, none⟩) X.length cX) (.slice (some ⟨GA, 0, none⟩) X.length cA) (.slice (some ⟨GR, 0, none⟩) X.length cR) X (U.set n (-1)) R ∧ Kd.R kI 3 (wr.setCell ⟨GB, q, none⟩ (.int .i64 (2 * (i : Int) + 1))) 0 (fun k => k ≠ GB) (.slice (some ad) ks.length ck) ks ∧ Kd.R kI 3 (wr.setCell ⟨GB, q, none⟩ (.int .i64 (2 * (i : Int) + 1))) w.heap.size (fun k => some k = (Value.slice (some ⟨GB, 0, none⟩) X.length cB).ownBlock) (.slice (some ⟨GB, 0, none⟩) X.length cB) (numU ks R (i + 1))) :=
     ⟨⟨HI.out.1.other (set_grown wr GB q _) HBF.out.2.1 HNB.out, Kd.R_far HI.out.2.1 (p := ⟨GB, q, none⟩) (fun k hk => hk) _, hnew⟩⟩
    clear hnew
    have hkl9 := HK.out.2
    go_roundg (ks.length - (i + 1))
    case measure => omega
    case rel => exact ⟨i + 1, by omega, by omega, by rw [wrap1 (by omega)], HE⟩
   ·obtain rfl : i = ks.length := by omega
    have z1 : ¬ (ks.length : Int) < (ks.length : Int) := by omega
    have hcB : wr.cell? ⟨GB, n, none⟩ = some (.int .i64 (rd (numU ks R ks.length) (n : Int))) := by
     obtain ⟨ad2, e, hc⟩ := Kd.at_int (Kd.R_reads' HI.out.2.2).2.2 (n : Int) (by omega) (by have := HNL.out; omega)
     injection e with e
     subst e
     rwa [add_plain, Int.toNat_natCast] at hc
    have hcA : wr.cell? ⟨GA, n, none⟩ = some (.int .i64 (rd (U.set n (-1)) (n : Int))) := by
     obtain ⟨ad2, e, hc⟩ := Kd.at_int (Kd.R_reads' HI.out.1.at_.rU).2.2 (n : Int) (by omega) (by have := HUL2.out; omega)
     injection e with e
     subst e
     rwa [add_plain, Int.toNat_natCast] at hc
    obtain ⟨cellsA2, hbA2⟩ := Kd.R_typed HI.out.1.at_.rU GA rfl
    have hfA := fun j => blk_frozen hbA2 j
    obtain ⟨q0, q1, q2, qf⟩ := ref_cells HI.out.1.at_.blk
    have hw1 : wrap64 (2 * (a : Int)) = 2 * (a : Int) := by unfold wrap64; have := HN.out.2.2; omega
    have hgB : g ≠ GB := fun e => HNB.out (e ▸ HI.out.1.at_.own)
    have HGB := Aside0.mk hgB
    clear hbA2
    go_wp2
    go_end0
    refine ⟨rfl, ?_⟩
    have h1 := HI.out.1.other (set_grown wr GB n (.int .i64 (2 * (a : Int)))) HBF.out.2.1 HNB.out
    have hlen := HUL2.out
    rw [← hlen] at h1
    have h2 := h1.cellU n (p : Int)
    rw [hlen] at h2
    have h3 : Kd.R kI 3 ((wr.setCell ⟨GB, n, none⟩ (.int .i64 (2 * (a : Int)))).setCell ⟨GA, n, none⟩ (.int .i64 (p : Int))) w.heap.size (fun k => some k = (Value.slice (some ⟨GB, 0, none⟩) X.length cB).ownBlock) (.slice (some ⟨GB, 0, none⟩) X.length cB) ((numU ks R ks.length).set n (2 * (a : Int))) := by
     have h4 := HI.out.2.2
     rw [← HNL.out] at h4
     have h5 := (Kd.R_put h4 (n : Int) (2 * (a : Int))).1
     rw [Int.toNat_natCast] at h5
     rw [← HNL.out]
     exact Kd.R_far h5 (p := ⟨GA, n, none⟩) (fun k hk e => HAB.out (by have hk : k = GB := Option.some.inj hk; have e : k = GA := e; omega)) _
    have h4 := h2.setR (World.grownBy.refl _ _) (Kd.R_lower h3 (Nat.zero_le _)) (fun k hk => .inr (by
     have hk : GB = k := Option.some.inj hk
     have := HBF.out.2.1
     exact ⟨by omega, fun e => hgB (by omega), fun e => HAB.out (by have e : GA = k := Option.some.inj e; omega)⟩))
    rw [List.set_set] at h4
    exact h4.to
end
end Go.Proofs.Ytpkaliaaffgbdaa.QA
namespace Go.Proofs.Ytpkaliaaffgbdaa.QA
open Go.RowKit Go.Proofs.YtpkaliaaffgbdaaW.PrintWords Go.Proofs.YtpkaliaaffgbdaaW.PrintLast Go.Proofs.YtpkaliaaffgbdaaW.PrintMore
attribute [local go_sem] max2_int min2_int max_two min_two max_three min_three max_four min_four   -- for this text's walks alone
set_option linter.unusedVariables false
set_option linter.unusedSimpArgs false

open Go
def kidsAt (xs : List S79) (p : Int × Int) : List (Int × Int) := (rd_T79 xs p.1).f2.map fun q => (q, p.2 + 1)
/-- The rows of a stack of nodes, each so deep. -/
inductive Reads (xs : List S79) : List (Int × Int) → List S54 → Prop
 | nil : Reads xs [] []
 | cons {p : Int × Int} {rest : List (Int × Int)} {r : List S54} : Reads xs (kidsAt xs p ++ rest) r → Reads xs (p :: rest) ((if p.1 = 0 then [] else [rowAt xs p]) ++ r)
section
variable {M : Nat} {xs ys : List S79} {s s1 s2 : List (Int × Int)} {r r1 r2 : List S54}
theorem Reads.det (h : Reads xs s r1) : ∀ {r2}, Reads xs s r2 → r1 = r2 := by
 induction h with
 | nil => intro r2 h; cases h; rfl
 | cons _ ih => intro r2 h; cases h with | cons h2 => rw [ih h2]
theorem rowsL_reads : ∀ (k : Nat) (stk : List (Int × Int)) (out r : List S54), rowsL xs k stk out = some r → ∃ new, r = out ++ new ∧ Reads xs stk new
 | 0, _, _, _, h => by simp [rowsL] at h
 | _ + 1, [], out, r, h => by
  simp only [rowsL] at h
  obtain rfl := Option.some.inj h
  exact ⟨[], by simp, .nil⟩
 | k + 1, p :: rest, out, r, h => by
  simp only [rowsL] at h
  split at h
  ·obtain ⟨new, h1, h2⟩ := rowsL_reads k _ _ r h
   refine ⟨_, ?_, .cons h2⟩
   rw [h1]
   split <;> simp
  ·cases h
theorem Reads.append (h1 : Reads xs s1 r1) (h2 : Reads xs s2 r2) : Reads xs (s1 ++ s2) (r1 ++ r2) := by
 induction h1 with
 | nil => exact h2
 | cons _ ih =>
  rw [List.append_assoc, List.cons_append]
  refine .cons ?_
  rw [← List.append_assoc]
  exact ih
theorem Reads.split (h : Reads xs s r) : ∀ s1 s2, s = s1 ++ s2 → ∃ r1 r2, r = r1 ++ r2 ∧ Reads xs s1 r1 ∧ Reads xs s2 r2 := by
 induction h with
 | nil =>
  intro s1 s2 e
  obtain ⟨rfl, rfl⟩ := List.append_eq_nil_iff.1 e.symm
  exact ⟨[], [], rfl, .nil, .nil⟩
 | @cons p rest r h ih =>
  intro s1 s2 e
  cases s1 with
  | nil =>
   subst e
   exact ⟨[], _, rfl, .nil, .cons h⟩
  | cons q s1 =>
   injection e with e1 e2
   subst e1
   subst e2
   obtain ⟨r1, r2, rfl, h1, h2⟩ := ih (kidsAt xs p ++ s1) s2 (List.append_assoc _ _ _).symm
   exact ⟨_, r2, (List.append_assoc _ _ _).symm, .cons h1, h2⟩
theorem rowAt_f0 (p : Int × Int) (h : (rd_T79 ys p.1).f0 = (rd_T79 xs p.1).f0) : rowAt ys p = rowAt xs p := by
 unfold rowAt
 rw [h]
/-- Two documents that are alike at the nodes that are reached. -/
theorem Reads.congr (S : Int → Prop) (hS : ∀ v, S v → (rd_T79 ys v).f0 = (rd_T79 xs v).f0 ∧ (rd_T79 ys v).f2 = (rd_T79 xs v).f2 ∧ ∀ q ∈ (rd_T79 xs v).f2, S q) (h : Reads xs s r) : (∀ p ∈ s, S p.1) → Reads ys s r := by
 induction h with
 | nil => intro _; exact .nil
 | @cons p rest r h ih =>
  intro hp
  obtain ⟨e0, e2, e3⟩ := hS p.1 (hp p List.mem_cons_self)
  have e4 : kidsAt ys p = kidsAt xs p := by unfold kidsAt; rw [e2]
  rw [← rowAt_f0 p e0]
  refine .cons ?_
  rw [e4]
  refine ih fun q hq => ?_
  rcases List.mem_append.1 hq with hq | hq
  ·obtain ⟨k, hk, rfl⟩ := List.mem_map.1 hq
   exact e3 k hk
  ·exact hp q (List.mem_cons_of_mem _ hq)
def topD (n : Int) : Int := if n = 0 then -1 else 0
theorem rowsR_reads {k : Nat} {n : Int} (h : rowsR xs k n = some r) (hn : inB xs n = true) : Reads xs [(n, topD n)] r := by
 unfold rowsR at h
 rw [if_neg (by rw [hn]; decide)] at h
 obtain ⟨new, rfl, h2⟩ := rowsL_reads k _ _ r h
 exact h2
theorem rowsR_of (h : Good M xs) {n : Int} (hn : inB xs n = true) (hr : Reads xs [(n, topD n)] r) : rowsR xs (xs.length + 1) n = some r := by
 obtain ⟨new, h1, _⟩ := rowsR_some h n
 rw [h1, (rowsR_reads h1 hn).det hr]
theorem inB_nat {i : Nat} : inB xs (i : Int) = true ↔ i < xs.length := by
 unfold inB
 rw [decide_eq_true_iff]
 omega
theorem someB_iff {n : Int} : someB xs n = true ↔ ∃ i : Nat, n = (i : Int) ∧ 0 < i ∧ i < xs.length := by
 unfold someB
 rw [decide_eq_true_iff]
 constructor
 ·intro h
  obtain ⟨i, rfl⟩ := Int.eq_ofNat_of_zero_le (show 0 ≤ n by omega)
  exact ⟨i, rfl, by omega, by omega⟩
 ·rintro ⟨i, rfl, h1, h2⟩
  omega
/-! #### a node's own tree, while it is moved -/
theorem under_rank {up : Nat → Int} {r : Nat → Nat} (hr : ∀ i p : Nat, up i = (p : Int) → r p < r i) {i j : Nat} (h : Under up i j) : r i ≤ r j := by
 induction h with
 | self => exact Nat.le_refl _
 | step h1 _ ih => have := hr _ _ h1; omega
theorem under_ks (h : Good M xs) {n j : Nat} (hu : Under (up9 xs) n j) : ∀ q ∈ (rd_T79 xs (j : Int)).f2, ∃ i : Nat, q = (i : Int) ∧ Under (up9 xs) n i := fun q hq => by
 obtain ⟨i, rfl, _, h1⟩ := h.tree.kid j q hq
 exact ⟨i, rfl, .step h1 hu⟩
theorem reads_take (h : Good M xs) (i : Nat) (hi : i < xs.length) {d : Int} (hr : Reads xs [((i : Int), d)] r) : Reads (takeN xs i) [((i : Int), d)] r := by
 obtain ⟨_, e2, e3⟩ := takeN_up h i hi
 obtain ⟨rk, hrk⟩ := h.tree.rank
 refine hr.congr (fun v => ∃ j : Nat, v = (j : Int) ∧ Under (up9 xs) i j) ?_ fun p hp => by rw [List.mem_singleton.1 hp]; exact ⟨i, rfl, .self⟩
 rintro v ⟨j, rfl, hj⟩
 refine ⟨e3 j, ?_, under_ks h hj⟩
 have e4 := congrFun e2 j
 have e5 : ¬ up9 xs i = (j : Int) := fun e => by have := hrk i j e; have := under_rank hrk hj; omega
 rw [if_neg e5] at e4
 exact e4
theorem reads_put (h : Good M xs) (p a i : Nat) (hp : p < xs.length) (hi : i < xs.length) (hne : p ≠ i) (hw : ¬ Under (up9 xs) i p) {d : Int} (hr : Reads xs [((i : Int), d)] r) : Reads (putN xs p a i) [((i : Int), d)] r := by
 obtain ⟨_, e2, e3⟩ := putN_up (xs := xs) p a i hp hi hne
 refine hr.congr (fun v => ∃ j : Nat, v = (j : Int) ∧ Under (up9 xs) i j) ?_ fun p hp => by rw [List.mem_singleton.1 hp]; exact ⟨i, rfl, .self⟩
 rintro v ⟨j, rfl, hj⟩
 refine ⟨e3 j, ?_, under_ks h hj⟩
 have e4 := congrFun e2 j
 have e5 : ¬ j = p := fun e => hw (e ▸ hj)
 rw [if_neg e5] at e4
 exact e4
theorem reads_out {n : Int} (h : inB xs n = false) : rowsR xs (xs.length + 1) n = some [] := by
 unfold rowsR
 rw [if_pos h]
theorem mostN_take (h : Good M xs) (i p : Nat) (hi : i < xs.length) (hp : p < xs.length) : ((ks9 (takeN xs i) p).length : Int) = mostN xs p i := by
 unfold mostN
 have hu : up9 xs i = (rd_T79 xs (i : Int)).f1 := by unfold up9; rw [if_pos hi]
 rw [← hu, (takeN_up h i hi).2.1]
 dsimp only
 by_cases c : up9 xs i = (p : Int)
 ·rw [if_pos c, if_pos c]
  have := filter_one (h.tree.nodup p) (h.tree.lt c).2.2
  unfold ks9 at this ⊢
  omega
 ·rw [if_neg c, if_neg c]
  rfl
theorem withinL_det : ∀ (k k' : Nat) (n o : Int) (b b' : Bool), withinL xs k n o = some b → withinL xs k' n o = some b' → b = b'
 | 0, _, _, _, _, _, h, _ => by simp [withinL] at h
 | _ + 1, 0, _, _, _, _, _, h => by simp [withinL] at h
 | k + 1, k' + 1, n, o, b, b', h, h' => by
  simp only [withinL] at h h'
  split at h
  ·rename_i c
   rw [if_pos c] at h'
   exact Option.some.inj (h.symm.trans h')
  ·rename_i c
   rw [if_neg c] at h'
   split at h
   ·rename_i c2
    rw [if_pos c2] at h'
    exact Option.some.inj (h.symm.trans h')
   ·rename_i c2
    rw [if_neg c2] at h'
    split at h
    ·rename_i c3
     rw [if_pos c3] at h'
     exact withinL_det k k' _ _ _ _ h h'
    ·cases h
theorem within_det {k k' : Nat} {n o : Int} {b b' : Bool} (h : withinF xs k n o = some b) (h' : withinF xs k' n o = some b') : b = b' := by
 unfold withinF at h h'
 split at h
 ·rename_i c
  rw [if_pos c] at h'
  exact withinL_det _ _ _ _ _ _ h h'
 ·rename_i c
  rw [if_neg c] at h'
  exact Option.some.inj (h.symm.trans h')
/-- What Insert does when it answers no error. -/
theorem insert_ok (h : Good M xs) (k : Nat) (p a n : Int) (ys : List S79) (hr : insertR xs k p a n = some (0, ys)) : ∃ j i b : Nat, p = (j : Int) ∧ n = (i : Int) ∧ a = (b : Int) ∧ j < xs.length ∧ 0 < i ∧ i < xs.length ∧ b ≤ (ks9 (takeN xs i) j).length ∧ ¬ Under (up9 xs) i j ∧ j ≠ i ∧ ys = putN (takeN xs i) j b i := by
 unfold insertR at hr
 split at hr
 ·injection hr with hr; injection hr with hr; cases hr
 rename_i c1
 split at hr
 ·injection hr with hr; injection hr with hr; cases hr
 rename_i c2
 split at hr
 ·injection hr with hr; injection hr with hr; cases hr
 rename_i c3
 obtain ⟨i, rfl, hi0, hi⟩ := someB_iff.1 (by simpa using c2)
 have c1 : inB xs p = true := by simpa using c1
 have c1' := of_decide_eq_true c1
 obtain ⟨j, rfl⟩ := Int.eq_ofNat_of_zero_le c1'.1
 obtain ⟨k2, b2, hk2, hb2⟩ := withinF_some h (j : Int) (i : Int)
 have hU := hb2 i j rfl rfl (by omega) hi
 split at hr
 ·cases hr
 ·injection hr with hr; injection hr with hr; cases hr
 rename_i hw
 split at hr
 ·injection hr with hr; injection hr with hr; cases hr
 rename_i c4
 injection hr with hr
 injection hr with _ hr
 obtain ⟨b, rfl⟩ := Int.eq_ofNat_of_zero_le (show 0 ≤ a by omega)
 have hm := mostN_take h i j hi (by omega)
 have hnu : ¬ Under (up9 xs) i j := fun hu => by
  have := hU.2 hu
  subst this
  have := within_det hw hk2
  cases this
 exact ⟨j, i, b, rfl, rfl, rfl, by omega, hi0, hi, by omega, hnu, fun e => hnu (e ▸ .self), by simpa using hr.symm⟩
/-- A node that was put. -/
structure Moved (M : Nat) (xs ys : List S79) (p a n : Int) : Prop where
 good : Good M ys
 par : (rd_T79 ys n).f1 = p
 inP : inB ys p = true
 inN : someB ys n = true
 lo : 0 ≤ a
 at_ : a < ((kidsN ys p).length : Int)
 is : (kidsN ys p)[a.toNat]? = some n
 rows : ∀ k r, rowsR xs k n = some r → rowsR ys (ys.length + 1) n = some r
theorem someB_inB {n : Int} (h : someB xs n = true) : inB xs n = true := by
 obtain ⟨i, rfl, _, hi⟩ := someB_iff.1 h
 exact inB_nat.2 hi
theorem moved_of (h : Good M xs) (k : Nat) (p a n : Int) (hr : insertR xs k p a n = some (0, ys)) : Moved M xs ys p a n := by
 obtain ⟨j, i, b, rfl, rfl, rfl, hj, hi0, hi, hb, hnu, hne, rfl⟩ := insert_ok h k p a n ys hr
 have hT := h.take i hi
 have hlT : (takeN xs i).length = xs.length := takeN_length xs i
 obtain ⟨t1, _, _⟩ := takeN_up h i hi
 have hnu2 : ¬ Under (up9 (takeN xs i)) i j := fun hu => hnu (under_less (by rw [t1] at hu; exact hu))
 have hu : up9 (takeN xs i) i = -1 := by rw [t1]; exact if_pos rfl
 have hG := hT.put j b i (by omega) (by omega) (by omega) hu hnu2
 obtain ⟨e1, e2, e3⟩ := putN_up (xs := takeN xs i) j b i (by omega) (by omega) hne
 have hl : (putN (takeN xs i) j b i).length = xs.length := by rw [putN_length, hlT]
 have hk : kidsN (putN (takeN xs i) j b i) (j : Int) = insAt (ks9 (takeN xs i) j) b (i : Int) := by
  unfold kidsN
  rw [if_pos (inB_nat.2 (by omega))]
  have := congrFun e2 j
  rw [if_pos rfl] at this
  exact this
 have hlen : ((ks9 (takeN xs i) j).take b).length = b := by rw [List.length_take]; omega
 have hIn : inB xs (i : Int) = true := inB_nat.2 hi
 have hIn2 : inB (putN (takeN xs i) j b i) (i : Int) = true := inB_nat.2 (by omega)
 refine ⟨hG, ?_, inB_nat.2 (by omega), someB_iff.2 ⟨i, rfl, hi0, by omega⟩, by omega, ?_, ?_, fun k r h5 => rowsR_of hG hIn2 ?_⟩
 ·have := congrFun e1 i
  rw [if_pos rfl] at this
  unfold up9 at this
  rwa [if_pos (by omega)] at this
 ·rw [hk]
  unfold insAt
  simp only [List.length_append, List.length_cons]
  omega
 ·rw [hk, Int.toNat_natCast]
  unfold insAt
  rw [List.getElem?_append_right (by omega), hlen, Nat.sub_self]
  rfl
 ·exact reads_put hT j b i (by omega) (by omega) hne hnu2 (reads_take h i hi (rowsR_reads h5 hIn))
/-- A node that was taken. -/
theorem taken_of (h : Good M xs) {p n : Int} (hn : someB xs n = true) (hp : inB xs p = true) (hu : (rd_T79 xs n).f1 = p) : ∃ ys, removeR xs n = (0, ys) ∧ Good M ys ∧ inB ys n = true ∧ inB ys p = true ∧ (rd_T79 ys n).f1 = -1 ∧ (∀ k r, rowsR xs k n = some r → rowsR ys (ys.length + 1) n = some r) ∧ (kidsN ys p).length + 1 = (kidsN xs p).length := by
 obtain ⟨i, rfl, hi0, hi⟩ := someB_iff.1 hn
 have hp' := of_decide_eq_true hp
 obtain ⟨j, rfl⟩ := Int.eq_ofNat_of_zero_le hp'.1
 obtain ⟨e1, e2, e3⟩ := takeN_up h i hi
 have hl : (takeN xs i).length = xs.length := takeN_length xs i
 have hIn2 : inB (takeN xs i) (i : Int) = true := inB_nat.2 (by omega)
 refine ⟨takeN xs i, ?_, h.take i hi, hIn2, inB_nat.2 (by omega), ?_, fun k r h5 => rowsR_of (h.take i hi) hIn2 (reads_take h i hi (rowsR_reads h5 (inB_nat.2 hi))), ?_⟩
 ·unfold removeR
  rw [if_pos hn, Int.toNat_natCast]
 ·have := congrFun e1 i
  rw [if_pos rfl] at this
  unfold up9 at this
  rwa [if_pos (by omega)] at this
 ·have hu9 : up9 xs i = (j : Int) := by unfold up9; rw [if_pos hi]; exact hu
  have := congrFun e2 j
  rw [if_pos hu9] at this
  unfold kidsN
  rw [if_pos hp, if_pos (inB_nat.2 (by omega))]
  have h3 := filter_one (h.tree.nodup j) (h.tree.lt hu9).2.2
  unfold ks9 at this h3
  rw [this]
  exact h3
end
end Go.Proofs.Ytpkaliaaffgbdaa.QA
namespace Go.Proofs.Ytpkaliaaffgbdaa.QA
open Go.RowKit Go.Proofs.YtpkaliaaffgbdaaW.PrintWords Go.Proofs.YtpkaliaaffgbdaaW.PrintLast Go.Proofs.YtpkaliaaffgbdaaW.PrintMore
attribute [local go_sem] max2_int min2_int max_two min_two max_three min_three max_four min_four   -- for this text's walks alone
set_option linter.unusedVariables false
set_option linter.unusedSimpArgs false

open Go
/-- The stack of the nodes that came: the deepest first. -/
def stackN : List (List Int) → Int → List (Int × Int)
 | [], _ => []
 | nk :: rest, d => stackN rest (d + 1) ++ nk.map fun q => (q, d)
theorem stackN_append : ∀ (a b : List (List Int)) (d : Int), stackN (a ++ b) d = stackN b (d + (a.length : Int)) ++ stackN a d
 | [], b, d => by simp [stackN]
 | x :: a, b, d => by
  simp only [List.cons_append, stackN]
  rw [stackN_append a b (d + 1), List.append_assoc, show d + 1 + (a.length : Int) = d + (((x :: a).length : Nat) : Int) by rw [List.length_cons]; omega]
theorem stackN_nils : ∀ (k : Nat) (d : Int), stackN (List.replicate k []) d = []
 | 0, _ => rfl
 | k + 1, d => by
  simp only [List.replicate_succ, stackN, stackN_nils k]
  rfl
/-- What a load did: nodes behind, kids behind those of the open nodes, roots. -/
structure Loaded (xs ys : List S79) (ar rs : List Int) (nks : List (List Int)) (l : List S54) : Prop where
 nlen : nks.length = ar.length
 len : ys.length = xs.length + l.length
 kids : ∀ (j : Nat) (v : Int) (nk : List Int), ar[j]? = some v → nks[j]? = some nk → (rd_T79 ys v).f2 = (rd_T79 xs v).f2 ++ nk
 other : ∀ v : Nat, v < xs.length → (v : Int) ∉ ar → (rd_T79 ys (v : Int)).f2 = (rd_T79 xs (v : Int)).f2
 f0 : ∀ v : Nat, v < xs.length → (rd_T79 ys (v : Int)).f0 = (rd_T79 xs (v : Int)).f0
 f1 : ∀ v : Nat, v < xs.length → (rd_T79 ys (v : Int)).f1 = (rd_T79 xs (v : Int)).f1
 roots : ∀ q ∈ rs, (xs.length : Int) ≤ q ∧ q < (ys.length : Int) ∧ (rd_T79 ys q).f1 = -1
 rise : rs.Pairwise (· < ·)
 count : rs.length = l.countP fun x => x.f0 == 0
 reads : Reads ys (stackN (rs :: nks) 0) l
theorem rise_lt {ar : List Int} (h : ar.Pairwise (· < ·)) {i j : Nat} {u v : Int} (hi : ar[i]? = some u) (hj : ar[j]? = some v) (hij : i < j) : u < v := by
 obtain ⟨h1, rfl⟩ := List.getElem?_eq_some_iff.1 hi
 obtain ⟨h2, rfl⟩ := List.getElem?_eq_some_iff.1 hj
 exact List.pairwise_iff_getElem.1 h i j h1 h2 hij
theorem two_last {α : Type} : ∀ (l : List α) (n : Nat), l.length = n + 2 → ∃ A a b, l = A ++ [a, b] ∧ A.length = n
 | [], _, h => by simp at h
 | [_], _, h => by simp at h
 | [a, b], 0, _ => ⟨[], a, b, rfl, rfl⟩
 | _ :: _ :: _ :: _, 0, h => by simp at h
 | x :: l, n + 1, h => by
  obtain ⟨A, a, b, rfl, hA⟩ := two_last l n (by simpa using h)
  exact ⟨x :: A, a, b, rfl, by simp [hA]⟩
theorem load_reads : ∀ (l : List S54) (xs : List S79) (roots ar : List Int) (ys : List S79) (roots' : List Int), loadL l xs roots ar = some (ys, roots') → 0 < xs.length → ar.Pairwise (· < ·) → (∀ v ∈ ar, 0 ≤ v ∧ v < (xs.length : Int)) → ∃ rs nks, roots' = roots ++ rs ∧ Loaded xs ys ar rs nks l
 | [], xs, roots, ar, ys, roots', h, _, _, _ => by
  simp only [loadL] at h
  injection h with h
  injection h with h1 h2
  subst h1
  subst h2
  refine ⟨[], List.replicate ar.length [], by simp, by simp, rfl, fun j v nk _ hn => ?_, fun _ _ _ => rfl, fun _ _ => rfl, fun _ _ => rfl, by simp, .nil, rfl, ?_⟩
  ·have := List.eq_of_mem_replicate (List.mem_of_getElem? hn)
   subst this
   simp
  ·simp only [stackN, stackN_nils]
   exact .nil
 | x :: l, xs, roots, ar, ys, roots', h, h0, hp, hv => by
  simp only [loadL] at h
  split at h
  rotate_left
  ·cases h
  rename_i hc
  obtain ⟨n0, n1, _⟩ := hc
  have hal : (addN xs x).length = xs.length + 1 := by simp [addN]
  have hq : rd_T79 (addN xs x) (xs.length : Int) = ⟨⟨0, x.f1, x.f2, x.f3, x.f4⟩, -1, []⟩ := by unfold addN; rw [rd_add, if_pos rfl]
  have ho : ∀ v : Nat, v < xs.length → rd_T79 (addN xs x) (v : Int) = rd_T79 xs (v : Int) := fun v hv => by unfold addN; rw [rd_add, if_neg (by omega)]
  split at h
  ·rename_i c
   obtain ⟨rs, nks, rfl, hL⟩ := load_reads l (addN xs x) (roots ++ [(xs.length : Int)]) [(xs.length : Int)] ys roots' h (by omega) (by simp) (fun v hv => by rw [List.mem_singleton.1 hv, hal]; omega)
   have hn := hL.nlen
   match nks, hn with
   | [b], _ =>
    have hn1 : ∀ v : Nat, v < xs.length → (v : Int) ∉ [(xs.length : Int)] := fun v hv h => by have := List.mem_singleton.1 h; omega
    have hold : ∀ v : Nat, v < xs.length → (rd_T79 ys (v : Int)).f2 = (rd_T79 xs (v : Int)).f2 := fun v hv => by rw [hL.other v (by omega) (hn1 v hv), ho v hv]
    refine ⟨(xs.length : Int) :: rs, List.replicate ar.length [], by simp, by simp, by rw [hL.len, hal, List.length_cons]; omega, fun j v nk hj hn => ?_, fun v hv _ => hold v hv, fun v hv => by rw [hL.f0 v (by omega), ho v hv], fun v hv => by rw [hL.f1 v (by omega), ho v hv], fun q hq2 => ?_, ?_, ?_, ?_⟩
    ·have := List.eq_of_mem_replicate (List.mem_of_getElem? hn)
     subst this
     have h1 := hv v (List.mem_of_getElem? hj)
     obtain ⟨i, rfl⟩ := Int.eq_ofNat_of_zero_le h1.1
     rw [hold i (by omega), List.append_nil]
    ·rcases List.mem_cons.1 hq2 with rfl | hq2
     ·refine ⟨Int.le_refl _, by rw [hL.len, hal]; omega, ?_⟩
      rw [hL.f1 xs.length (by omega), hq]
     ·have := hL.roots q hq2
      exact ⟨by omega, this.2⟩
    ·refine List.pairwise_cons.2 ⟨fun q hq2 => ?_, hL.rise⟩
     have := (hL.roots q hq2).1
     omega
    ·rw [List.length_cons, hL.count, List.countP_cons, if_pos (by simp [c])]
    ·have hr := hL.reads
     have hk := hL.kids 0 (xs.length : Int) b rfl rfl
     rw [hq, List.nil_append] at hk
     have hf := hL.f0 xs.length (by omega)
     rw [hq] at hf
     have e1 : x = rowAt ys ((xs.length : Int), 0) := by
      unfold rowAt
      rw [hf]
      dsimp only
      rw [← c]
     have e2 : x :: l = (if ((xs.length : Int), (0 : Int)).1 = 0 then [] else [rowAt ys ((xs.length : Int), 0)]) ++ l := by
      rw [if_neg (by dsimp only; omega), ← e1]
      rfl
     rw [e2]
     simp only [stackN, stackN_nils, List.nil_append, List.map_cons] at hr ⊢
     refine .cons ?_
     unfold kidsAt
     rw [hk]
     exact hr
  ·rename_i c
   split at h
   rotate_left
   ·cases h
   rename_i hc2
   obtain ⟨E, hE⟩ : ∃ E, x.f0.toNat = E + 1 := ⟨x.f0.toNat - 1, by omega⟩
   rw [hE, show E + 1 - 1 = E by omega] at h hc2
   obtain ⟨p, hpv⟩ := Int.eq_ofNat_of_zero_le hc2.1
   rw [hpv] at h hc2
   rw [Int.toNat_natCast] at h
   have hpl : p < xs.length := by omega
   have hEl : E < ar.length := by omega
   have hpE : ar[E]? = some (p : Int) := by
    rw [List.getElem?_eq_getElem hEl]
    rw [List.getD_eq_getElem?_getD, List.getElem?_eq_getElem hEl] at hpv
    simpa using hpv
   have hne : p ≠ xs.length := by omega
   obtain ⟨e1, e2, e3⟩ := putN_up (xs := addN xs x) p (rd_T79 (addN xs x) (p : Int)).f2.length xs.length (by omega) (by omega) hne
   have hpl2 := putN_length (addN xs x) p (rd_T79 (addN xs x) (p : Int)).f2.length xs.length
   generalize hzs : putN (addN xs x) p (rd_T79 (addN xs x) (p : Int)).f2.length xs.length = zs at h e1 e2 e3 hpl2
   have htl : (ar.take (E + 1)).length = E + 1 := by rw [List.length_take]; omega
   obtain ⟨rs, nks, rfl, hL⟩ := load_reads l zs roots (ar.take (E + 1) ++ [(xs.length : Int)]) ys roots' h (by omega) (List.pairwise_append.2 ⟨hp.sublist (List.take_sublist _ _), by simp, fun a ha b hb => by rw [List.mem_singleton.1 hb]; have := hv a (List.mem_of_mem_take ha); omega⟩) (fun v hv2 => by
    rw [hpl2, hal]
    rcases List.mem_append.1 hv2 with h5 | h5
    ·have := hv v (List.mem_of_mem_take h5); omega
    ·rw [List.mem_singleton.1 h5]; omega)
   have zk : ∀ v : Nat, v < xs.length → v ≠ p → (rd_T79 zs (v : Int)).f2 = (rd_T79 xs (v : Int)).f2 := fun v hv hvp => by
    have := congrFun e2 v
    rw [if_neg hvp] at this
    exact this.trans (by unfold ks9; rw [ho v hv])
   have zp : (rd_T79 zs (p : Int)).f2 = (rd_T79 xs (p : Int)).f2 ++ [(xs.length : Int)] := by
    have := congrFun e2 p
    rw [if_pos rfl] at this
    refine this.trans ?_
    unfold ks9 insAt
    rw [ho p hpl, List.take_length, List.drop_length]
   have z1 : ∀ v : Nat, v < xs.length → (rd_T79 zs (v : Int)).f1 = (rd_T79 xs (v : Int)).f1 := fun v hv => by
    have := congrFun e1 v
    rw [if_neg (by omega)] at this
    unfold up9 at this
    rw [if_pos (by omega), if_pos (by omega), ho v hv] at this
    exact this
   have zq : (rd_T79 zs (xs.length : Int)).f2 = [] := by
    have := congrFun e2 xs.length
    rw [if_neg (fun h => hne h.symm)] at this
    refine this.trans ?_
    unfold ks9
    rw [hq]
   obtain ⟨A0, a, b, rfl, hA0⟩ := two_last nks E (by rw [hL.nlen, List.length_append, htl]; rfl)
   have hlen2 : ys.length = xs.length + (l.length + 1) := by rw [hL.len, hpl2, hal]; omega
   have hnot : ∀ v : Nat, v < xs.length → (∀ j, j ≤ E → ar[j]? ≠ some (v : Int)) → (v : Int) ∉ ar.take (E + 1) ++ [(xs.length : Int)] := fun v hv h3 h4 => by
    rcases List.mem_append.1 h4 with h5 | h5
    ·obtain ⟨j, hj⟩ := List.getElem?_of_mem h5
     rw [List.getElem?_take] at hj
     split at hj
     ·exact h3 j (by omega) hj
     ·cases hj
    ·have := List.mem_singleton.1 h5
     omega
   refine ⟨rs, A0 ++ ((xs.length : Int) :: a) :: List.replicate (ar.length - (E + 1)) [], rfl, ?_, ?_, fun j v nk hj hn => ?_, fun v hv2 hva => ?_, fun v hv2 => ?_, fun v hv2 => ?_, fun q hq2 => ?_, hL.rise, ?_, ?_⟩
   ·simp only [List.length_append, List.length_cons, List.length_replicate]
    omega
   ·rw [hlen2, List.length_cons]
   ·have h1 := hv v (List.mem_of_getElem? hj)
    obtain ⟨i, rfl⟩ := Int.eq_ofNat_of_zero_le h1.1
    have hi : i < xs.length := by omega
    rcases Nat.lt_trichotomy j E with hlt | rfl | hgt
    ·have hip : i ≠ p := fun e => by subst e; have := rise_lt hp hj hpE hlt; omega
     have hjt : (ar.take (E + 1) ++ [(xs.length : Int)])[j]? = some (i : Int) := by
      rw [List.getElem?_append_left (by omega), List.getElem?_take, if_pos (by omega)]
      exact hj
     have hnt : (A0 ++ [a, b])[j]? = some nk := by
      rw [List.getElem?_append_left (by omega)] at hn ⊢
      exact hn
     rw [hL.kids j _ nk hjt hnt, zk i hi hip]
    ·have e := Option.some.inj (hj.symm.trans hpE)
     rw [e]
     have hjt : (ar.take (j + 1) ++ [(xs.length : Int)])[j]? = some (p : Int) := by
      rw [List.getElem?_append_left (by omega), List.getElem?_take, if_pos (by omega)]
      exact hpE
     have hnt : (A0 ++ [a, b])[j]? = some a := by
      rw [List.getElem?_append_right (by omega), hA0, Nat.sub_self]
      rfl
     rw [List.getElem?_append_right (by omega), hA0, Nat.sub_self] at hn
     have hn2 : some ((xs.length : Int) :: a) = some nk := hn
     rw [← Option.some.inj hn2, hL.kids j _ a hjt hnt, zp, List.append_assoc]
     rfl
    ·have hip : i ≠ p := fun e => by subst e; have := rise_lt hp hpE hj hgt; omega
     have hnn : nk = [] := by
      rw [List.getElem?_append_right (by omega), hA0, show j - E = (j - E - 1) + 1 by omega, List.getElem?_cons_succ] at hn
      exact List.eq_of_mem_replicate (List.mem_of_getElem? hn)
     rw [hnn, List.append_nil, hL.other i (by omega) (hnot i hi fun j' hj' h7 => by have := rise_lt hp h7 hj (by omega); omega), zk i hi hip]
   ·rw [hL.other v (by omega) (hnot v hv2 fun j _ h7 => hva (List.mem_of_getElem? h7)), zk v hv2 fun e => hva (e ▸ List.mem_of_getElem? hpE)]
   ·rw [hL.f0 v (by omega), e3 v, ho v hv2]
   ·rw [hL.f1 v (by omega), z1 v hv2]
   ·have := hL.roots q hq2
    exact ⟨by omega, this.2⟩
   ·rw [hL.count, List.countP_cons, if_neg (by simp [c])]
    rfl
   ·have hr := hL.reads
    have hqt : (ar.take (E + 1) ++ [(xs.length : Int)])[E + 1]? = some (xs.length : Int) := by
     rw [List.getElem?_append_right (by omega), htl, Nat.sub_self]
     rfl
    have hnt : (A0 ++ [a, b])[E + 1]? = some b := by
     rw [List.getElem?_append_right (by omega), hA0, show E + 1 - E = 1 by omega]
     rfl
    have hk := hL.kids (E + 1) _ b hqt hnt
    rw [zq, List.nil_append] at hk
    have hf := hL.f0 xs.length (by omega)
    rw [e3, hq] at hf
    have hD : x.f0 = ((E + 1 : Nat) : Int) := by omega
    have e1 : x = rowAt ys ((xs.length : Int), ((E + 1 : Nat) : Int)) := by
     unfold rowAt
     rw [hf]
     dsimp only
     rw [← hD]
    have e2 : x :: l = (if ((xs.length : Int), ((E + 1 : Nat) : Int)).1 = 0 then [] else [rowAt ys ((xs.length : Int), ((E + 1 : Nat) : Int))]) ++ l := by
     rw [if_neg (by dsimp only; omega), ← e1]
     rfl
    have hs : (0 : Int) + ((rs :: A0).length : Int) = ((E + 1 : Nat) : Int) := by rw [List.length_cons, hA0]; omega
    rw [e2, show rs :: (A0 ++ ((xs.length : Int) :: a) :: List.replicate (ar.length - (E + 1)) []) = (rs :: A0) ++ (((xs.length : Int) :: a) :: List.replicate (ar.length - (E + 1)) []) from rfl, stackN_append, hs]
    rw [show rs :: (A0 ++ [a, b]) = (rs :: A0) ++ [a, b] from rfl, stackN_append, hs] at hr
    generalize stackN (rs :: A0) 0 = sA at hr ⊢
    simp only [stackN, stackN_nils, List.nil_append, List.map_cons, List.cons_append, List.append_assoc] at hr ⊢
    refine .cons ?_
    unfold kidsAt
    rw [hk]
    exact hr
end Go.Proofs.Ytpkaliaaffgbdaa.QA
