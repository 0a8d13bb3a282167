-- Written by a program of this claim's own (wip/gen/gen.py), out of the translation; an ordinary proof text.
import Derived.Test.YtpkaliaaffgbdaaQAx0
import Derived.Test.YtpkaliaaffgbdaaQAx2
namespace Go.Proofs.Ytpkaliaaffgbdaa.QA
open Go.RowKit Go.Proofs.YtpkaliaaffgbdaaW.PrintWords Go.Proofs.YtpkaliaaffgbdaaW.PrintLast Go.Proofs.YtpkaliaaffgbdaaW.PrintMore
attribute [local go_sem] max2_int min2_int max_two min_two max_three min_three max_four min_four   -- for this text's walks alone
set_option linter.unusedVariables false
set_option linter.unusedSimpArgs false

/-! ### boltingref04_Same: function 16 -/
theorem boltingref04_Attrs.is_l (l0 l1 : List S52) (hm : l0.length ≤ 9223372036854775807) (he : l0.length = l1.length) (d : Nat) : ∀ (k i : Nat), i + d = l0.length → d < k → l0.take i = l1.take i →
  boltingref04_Attrs.l0 k l0 l1 (i : Int) = some (decide (l0 = l1)) := by
 induction d with
 | zero =>
  intro k i hi hk ht
  obtain ⟨k, rfl⟩ : ∃ m, k = m + 1 := ⟨k - 1, by omega⟩
  simp only [boltingref04_Attrs.l0]
  rw [if_neg (by omega)]
  rw [List.take_of_length_le (by omega), List.take_of_length_le (by omega)] at ht
  rw [decide_eq_true ht]
 | succ d ih =>
  intro k i hi hk ht
  obtain ⟨k, rfl⟩ : ∃ m, k = m + 1 := ⟨k - 1, by omega⟩
  simp only [boltingref04_Attrs.l0]
  rw [if_pos (by omega), if_pos (by omega), if_pos (by omega), attr_eq, rd_T52_at l0 i (by omega), rd_T52_at l1 i (by omega), up1 (by omega)]
  by_cases h : l0[i]'(by omega) = l1[i]'(by omega)
  ·rw [decide_eq_true h, if_neg (by decide), ih k (i + 1) (by omega) (by omega) ((take_succ_eq (by omega) (by omega)).2 ⟨ht, h⟩)]
  ·rw [decide_eq_false h, if_pos (by decide)]
   congr 1
   exact (decide_eq_false (fun e => h (by simp [e]))).symm
theorem boltingref04_Attrs.is (l0 l1 : List S52) (hm : l0.length ≤ 9223372036854775807) : boltingref04_Attrs.f (l0.length + 1) l0 l1 = some (decide (l0 = l1)) := by
 unfold boltingref04_Attrs.f
 by_cases h : (l0.length : Int) = (l1.length : Int)
 ·rw [if_pos h]
  exact boltingref04_Attrs.is_l l0 l1 hm (by omega) l0.length _ 0 (by omega) (by omega) rfl
 ·rw [if_neg h, decide_eq_false (fun e => h (by rw [e]))]
theorem boltingref04_Attrs.eq_calls (l0 l1 : List S52) (A0 : Option Addr) (c0 : Nat) (A1 : Option Addr) (c1 : Nat) (w : World) (hr0 : Kd.C k52 w A0 l0.length l0) (hc0 : l0.length ≤ c0) (hr1 : Kd.C k52 w A1 l1.length l1) (hc1 : l1.length ≤ c1) :
  Calls Try.prog 26 #[.slice A0 l0.length c0, .slice A1 l1.length c1] w fun e w' => e = .returned (.bool (decide (l0 = l1))) ∧ Below w.heap.size w w' :=
 (boltingref04_Attrs.calls (l0.length + 1) A0 c0 l0 A1 c1 l1 (decide (l0 = l1)) w hr0 hc0 hr1 hc1 (boltingref04_Attrs.is l0 l1 (Kd.C_max hr0))).mono fun _ _ ⟨he, hd⟩ => ⟨he, hd.below⟩
def boltingref04_Same.T6 : Bool × List (List Nat × List Nat) := (true, [([], []), ([], []), ([0, 1], [0, 1]), ([2], [2]), ([], []), ([], []), ([4, 5], [4, 5]), ([6], [6]), ([], []), ([], []), ([8, 3, 0, 1, 2, 3, 8, 9], [3, 8]), ([9, 7, 10, 0, 1, 2, 3, 4, 5, 6, 7, 8, 9, 10], [7, 9])])
def boltingref04_Same.B6 : List Nat := [0, 0, 3, 7, 0, 0, 48, 112, 0, 0, 783, 2047]
theorem boltingref04_Same.tab6 : rtab .any (opsOf Try.f16 6) = boltingref04_Same.T6 := by kernel_rfl
theorem boltingref04_Same.bits6 : waitsOk boltingref04_Same.T6.2 boltingref04_Same.B6 = true := by kernel_rfl
def boltingref04_Same.f (l0 : List (S54)) (l1 : List (S54)) : Option (Bool) := some (decide (l0 = l1))
set_option maxHeartbeats 800000 in
set_option maxRecDepth 100000 in
theorem boltingref04_Same.calls (A0 : Option Addr) (c0 : Nat) (l0 : List (S54)) (A1 : Option Addr) (c1 : Nat) (l1 : List (S54)) (r : Bool) (w : World) (hr0 : Kd.C k54 w A0 l0.length l0) (hc0 : l0.length ≤ c0) (hr1 : Kd.C k54 w A1 l1.length l1) (hc1 : l1.length ≤ c1) (h : boltingref04_Same.f l0 l1 = some r) :
  Calls Try.prog 16 #[.slice A0 l0.length c0, .slice A1 l1.length c1] w fun e w' => e = .returned (.bool r) ∧ Below w.heap.size w w' := by
 obtain rfl := Option.some.inj h
 clear h
 have hm := Kd.C_max hr0
 have hu43 := Try.underlying54
 have HR0 := Aside0.mk hr0
 have HC0 := Aside0.mk hc0
 have HR1 := Aside0.mk hr1
 have HC1 := Aside0.mk hc1
 clear hr0 hc0 hr1 hc1
 by_cases hl : l0.length = l1.length
 rotate_left
 ·have hr : Aside0 (decide (l0 = l1) = false) := ⟨decide_eq_false (fun e => hl (by rw [e]))⟩
  have b0 : (l0.length == l1.length) = false := beq_eq_false_iff_ne.2 hl
  have b1 : (l0.length != l1.length) = true := bne_iff_ne.2 hl
  have b2 : ((l0.length : Int) == (l1.length : Int)) = false := beq_eq_false_iff_ne.2 (by omega)
  have b3 : ((l0.length : Int) != (l1.length : Int)) = true := bne_iff_ne.2 (by omega)
  rw [hr.out]
  clear hl hr
  go_enter Try.func16, Try.ntmps16
  go_wp2
  go_ret
  exact ⟨rfl, by repeat (first | exact Below.refl _ _ | apply below_alloc | apply pw_below_drewN | apply below_drew1)⟩
 have b0 : (l0.length == l1.length) = true := beq_iff_eq.2 hl
 have b1 : (l0.length != l1.length) = false := bne_eq_false_iff_eq.2 hl
 have b2 : ((l0.length : Int) == (l1.length : Int)) = true := beq_iff_eq.2 (by omega)
 have b3 : ((l0.length : Int) != (l1.length : Int)) = false := bne_eq_false_iff_eq.2 (by omega)
 have HL := Aside0.mk hl
 clear hl
 have HB := Aside0.mk (Below.refl w.heap.size w)
 go_enter Try.func16, Try.ntmps16
 go_wp2
 clear b0 b1 b2 b3
 go_loopg [5] l0.length (fun gg v5 w' => ∃ kk : Nat, kk ≤ l0.length ∧ l0.length - kk ≤ gg ∧ v5 = .int .i64 kk ∧ Aside0 (l0.take kk = l1.take kk) ∧ Aside0 (Below w.heap.size w w'))
 case atStart => exact ⟨0, Nat.zero_le _, by omega, rfl, ⟨rfl⟩, HB⟩
 case round =>
  clear HB
  obtain ⟨kk, hkk, hg, rfl, HA, HB⟩ := hrel
  by_cases hlt : kk < l0.length
  ·have hltz : (kk : Int) < (l0.length : Int) := by omega
   have hltz1 : (kk : Int) < (l1.length : Int) := by have := HL.out; omega
   have hlt1 : kk < l1.length := by omega
   obtain ⟨ad, A4, c4, e4, hx0, hx1, hx2, hx3, hx4, hl4, hi4⟩ := at_T54 HR0.out (kk : Int) (by omega) hltz
   cases e4
   obtain ⟨bd, B4, d4, f4, hy0, hy1, hy2, hy3, hy4, hm4, hj4⟩ := at_T54 HR1.out (kk : Int) (by omega) hltz1
   cases f4
   have HL4 := Aside0.mk hl4
   have HI4 := Aside0.mk hi4
   have HM4 := Aside0.mk hm4
   have HJ4 := Aside0.mk hj4
   clear hl4 hi4 hm4 hj4
   simp only [Int.toNat_natCast] at hx0 hx1 hx2 hx3 hx4 hy0 hy1 hy2 hy3 hy4
   have X0 := Aside0.mk hx0
   have X1 := Aside0.mk hx1
   have X2 := Aside0.mk hx2
   have X3 := Aside0.mk hx3
   have X4 := Aside0.mk hx4
   have Y0 := Aside0.mk hy0
   have Y1 := Aside0.mk hy1
   have Y2 := Aside0.mk hy2
   have Y3 := Aside0.mk hy3
   have Y4 := Aside0.mk hy4
   clear hx0 hx1 hx2 hx3 hx4 hy0 hy1 hy2 hy3 hy4
   obtain ⟨x, hx⟩ : ∃ x, rd_T54 l0 (kk : Int) = x := ⟨_, rfl⟩
   obtain ⟨y, hy⟩ : ∃ y, rd_T54 l1 (kk : Int) = y := ⟨_, rfl⟩
   have HX := Aside0.mk hx
   have HY := Aside0.mk hy
   rw [hx] at HL4 HI4 X0 X1 X2 X3 X4
   rw [hy] at HM4 HJ4 Y0 Y1 Y2 Y3 Y4
   clear hx hy
   go_upto_region 7 with (fail)
   go_cut [6, 7] (fun v6 v7 wc => ∃ g6 g7 : Nat, v6 = .pointer (some ⟨g6, 0, none⟩) ∧ v7 = .pointer (some ⟨g7, 0, none⟩) ∧ Aside0 (wc.heap[g6]? = some (.cells #[.int .i64 x.f0, .int .i64 x.f1, .string x.f2, .string x.f3, .slice A4 x.f4.length c4] 54 (0, 0))) ∧ Aside0 (wc.heap[g7]? = some (.cells #[.int .i64 y.f0, .int .i64 y.f1, .string y.f2, .string y.f3, .slice B4 y.f4.length d4] 54 (0, 0))) ∧ Aside0 (Below w.heap.size w wc))
   case first =>
    have p0 : (0 ≤ (kk : Int)) = True := eq_true (by omega)
    have q0 := eq_true hltz
    have q1 := eq_true hltz1
    try go_wp2
    have n0_ := Aside0.mk (below_drew1 HB.out)
    clear HB
    have HB := n0_
    clear n0_
    refine start_ (n := 12) (S := fun w' => Below w.heap.size w w') (ds := []) #[Z, Z, Z, Z, Z, Z, Z, Z, Z, Z, Z, Z] (by kernel_rfl) rfl rfl HB.out (fun hHeld => ?_); refine with_tabW boltingref04_Same.tab6 boltingref04_Same.bits6 (fun HT_ HW_ => ?_)
    generalize wr.drew = w13 at HB hHeld ⊢
    refine pA 0 19 #[Y, Z, Z, Z, Z, Z, Z, Z, Z, Z, Z, Z] HT_ ?_
    refine pA 1 20 #[Y, Y, Z, Z, Z, Z, Z, Z, Z, Z, Z, Z] HT_ ?_
    refine pA 2 21 #[Y, Y, Y, Z, Z, Z, Z, Z, Z, Z, Z, Z] HT_ ?_
    refine pA 4 23 #[Y, Y, Y, Z, Y, Z, Z, Z, Z, Z, Z, Z] HT_ ?_
    refine pA 5 24 #[Y, Y, Y, Z, Y, Y, Z, Z, Z, Z, Z, Z] HT_ ?_
    refine pA 6 25 #[Y, Y, Y, Z, Y, Y, Y, Z, Z, Z, Z, Z] HT_ ?_
    refine take_ (i := 3) (N := some 22) (v := ?_) (a' := ?_) #[Y, Y, Y, Y, Y, Y, Y, Z, Z, Z, Z, Z] rfl rfl (take_ofW HT_.out HW_.out (by kernel_rfl)) (fun _ _ _ h => h) (Or.inl ⟨by rfl, ?_⟩) hHeld ?_ ?_
    rotate_left
    ·intro w' hS
     have s0 := (hS.cell (World.block_lt_of_cell? w _ X0.out)).trans X0.out
     have s1 := (hS.cell (World.block_lt_of_cell? w _ X1.out)).trans X1.out
     have s2 := (hS.cell (World.block_lt_of_cell? w _ X2.out)).trans X2.out
     have s3 := (hS.cell (World.block_lt_of_cell? w _ X3.out)).trans X3.out
     have s4 := (hS.cell (World.block_lt_of_cell? w _ X4.out)).trans X4.out
     clear hS
     go_simp
     with_reducible rfl
    rotate_left
    ·simp only [Act.put, List.setIfInBounds_toArray, List.set_cons_zero, List.set_cons_succ, i64_w, i32_w]
     rfl
    refine take_ (i := 7) (N := some 26) (v := ?_) (a' := ?_) #[Y, Y, Y, Y, Y, Y, Y, Y, Z, Z, Z, Z] rfl rfl (take_ofW HT_.out HW_.out (by kernel_rfl)) (fun _ _ _ h => h) (Or.inl ⟨by rfl, ?_⟩) hHeld ?_ ?_
    rotate_left
    ·intro w' hS
     have s0 := (hS.cell (World.block_lt_of_cell? w _ Y0.out)).trans Y0.out
     have s1 := (hS.cell (World.block_lt_of_cell? w _ Y1.out)).trans Y1.out
     have s2 := (hS.cell (World.block_lt_of_cell? w _ Y2.out)).trans Y2.out
     have s3 := (hS.cell (World.block_lt_of_cell? w _ Y3.out)).trans Y3.out
     have s4 := (hS.cell (World.block_lt_of_cell? w _ Y4.out)).trans Y4.out
     clear hS
     go_simp
     with_reducible rfl
    rotate_left
    ·simp only [Act.put, List.setIfInBounds_toArray, List.set_cons_zero, List.set_cons_succ, i64_w, i32_w]
     rfl
    refine join_ (σ := Nat × Nat) 2 #[Y, Y, Y, Y, Y, Y, Y, Y, Y, Y, Z, Z] (fun s_ => [(6, .pointer (some ⟨s_.1, 0, none⟩)), (7, .pointer (some ⟨s_.2, 0, none⟩))]) (fun s_ w' => (Below w.heap.size w w') ∧ (w'.heap[s_.1]? = some (.cells #[.int .i64 0, .int .i64 0, .string (⟨#[]⟩ : ByteArray), .string (⟨#[]⟩ : ByteArray), .slice none 0 0] 54 (0, 0))) ∧ (w'.heap[s_.2]? = some (.cells #[.int .i64 0, .int .i64 0, .string (⟨#[]⟩ : ByteArray), .string (⟨#[]⟩ : ByteArray), .slice none 0 0] 54 (0, 0))) ∧ (w.heap.size ≤ s_.1) ∧ (s_.2 ≠ s_.1) ∧ (w.heap.size ≤ s_.2)) ?_ ?_
    rotate_left
    ·intro hCont
     refine two_ (i := 8) (j := 9) (Ni := some 6) (Nj := some 7) #[Y, Y, Y, Y, Y, Y, Y, Y, Y, Z, Z, Z] #[Y, Y, Y, Y, Y, Y, Y, Y, Z, Y, Z, Z] rfl rfl rfl rfl (two_of HT_.out (by kernel_rfl)) (by decide) (by decide) (fun K hK => ?_) (fun K hK => ?_)
     ·refine box_step ?hg (N := 6) ?hd (cs := #[.int .i64 0, .int .i64 0, .string (⟨#[]⟩ : ByteArray), .string (⟨#[]⟩ : ByteArray), .slice none 0 0]) (t := 54) ?hr ?_; (case hd => rfl); (case hg => rfl); (case hr => first | (go_simp; done) | (go_simp; rfl))
      intro ga hga w14 hbox hb
      have GA : w.heap.size ≤ ga := by rw [hga]; exact below_size HB.out
      have HB' := below_step HB.out hb
      refine hK.out _ _ HB' (fun hHeld => ?_)
      clear hK K
      refine norm_ (a' := ?_) ?_ ?_
      rotate_left
      ·show Act.put _ (some 6) _ = _
       simp only [Act.put, List.setIfInBounds_toArray, List.set_cons_zero, List.set_cons_succ, i64_w, i32_w]
       rfl
      refine one_ (i := 9) (N := some 7) #[Y, Y, Y, Y, Y, Y, Y, Y, Y, Y, Z, Z] rfl rfl (one_of HT_.out (by kernel_rfl)) (by decide) (fun K hK => ?_)
      refine box_step ?hg (N := 7) ?hd (cs := #[.int .i64 0, .int .i64 0, .string (⟨#[]⟩ : ByteArray), .string (⟨#[]⟩ : ByteArray), .slice none 0 0]) (t := 54) ?hr ?_; (case hd => rfl); (case hg => rfl); (case hr => first | (go_simp; done) | (go_simp; rfl))
      intro gb hgb w15 hbox2 hb2
      have GB : w.heap.size ≤ gb := by rw [hgb]; exact below_size HB'
      have hne : gb ≠ ga := by rw [hgb]; exact Nat.ne_of_gt (blk_lt hbox)
      have HB2 := below_step HB' hb2
      refine hK.out _ _ HB2 (fun hHeld => ?_)
      clear hK K
      refine norm_ (a' := ?_) ?_ ?_
      rotate_left
      ·show Act.put _ (some 7) _ = _
       simp only [Act.put, List.setIfInBounds_toArray, List.set_cons_zero, List.set_cons_succ, i64_w, i32_w]
       rfl
      exact norm_ (by simp only [putAll, Act.put, List.setIfInBounds_toArray, List.set_cons_zero, List.set_cons_succ]) (hCont (ga, gb) _ ⟨HB2, blk_below hbox hb2, hbox2, GA, hne, GB⟩)
     ·refine box_step ?hg (N := 7) ?hd (cs := #[.int .i64 0, .int .i64 0, .string (⟨#[]⟩ : ByteArray), .string (⟨#[]⟩ : ByteArray), .slice none 0 0]) (t := 54) ?hr ?_; (case hd => rfl); (case hg => rfl); (case hr => first | (go_simp; done) | (go_simp; rfl))
      intro ga hga w14 hbox hb
      have GA : w.heap.size ≤ ga := by rw [hga]; exact below_size HB.out
      have HB' := below_step HB.out hb
      refine hK.out _ _ HB' (fun hHeld => ?_)
      clear hK K
      refine norm_ (a' := ?_) ?_ ?_
      rotate_left
      ·show Act.put _ (some 7) _ = _
       simp only [Act.put, List.setIfInBounds_toArray, List.set_cons_zero, List.set_cons_succ, i64_w, i32_w]
       rfl
      refine one_ (i := 8) (N := some 6) #[Y, Y, Y, Y, Y, Y, Y, Y, Y, Y, Z, Z] rfl rfl (one_of HT_.out (by kernel_rfl)) (by decide) (fun K hK => ?_)
      refine box_step ?hg (N := 6) ?hd (cs := #[.int .i64 0, .int .i64 0, .string (⟨#[]⟩ : ByteArray), .string (⟨#[]⟩ : ByteArray), .slice none 0 0]) (t := 54) ?hr ?_; (case hd => rfl); (case hg => rfl); (case hr => first | (go_simp; done) | (go_simp; rfl))
      intro gb hgb w15 hbox2 hb2
      have GB : w.heap.size ≤ gb := by rw [hgb]; exact below_size HB'
      have hne : ga ≠ gb := by rw [hgb]; exact Nat.ne_of_lt (blk_lt hbox)
      have HB2 := below_step HB' hb2
      refine hK.out _ _ HB2 (fun hHeld => ?_)
      clear hK K
      refine norm_ (a' := ?_) ?_ ?_
      rotate_left
      ·show Act.put _ (some 6) _ = _
       simp only [Act.put, List.setIfInBounds_toArray, List.set_cons_zero, List.set_cons_succ, i64_w, i32_w]
       rfl
      exact norm_ (by simp only [putAll, Act.put, List.setIfInBounds_toArray, List.set_cons_zero, List.set_cons_succ]) (hCont (gb, ga) _ ⟨HB2, hbox2, blk_below hbox hb2, GB, hne, GA⟩)
    clear HB hHeld
    rintro ⟨g6, g7⟩ w16 ⟨h0_, h1_, h2_, h3_, h4_, h5_⟩
    dsimp only at h1_ h2_ h3_ h4_ h5_
    have HB := Aside0.mk h0_
    have BK6 := Aside0.mk h1_
    have BK7 := Aside0.mk h2_
    have GE6 := Aside0.mk h3_
    have GE7 := Aside0.mk h5_
    have h4' : g6 ≠ g7 := fun e => h4_ e.symm
    clear h0_ h1_ h2_ h3_ h5_
    refine norm_ (a' := ?_) ?_ ?_
    rotate_left
    ·simp only [putAll, Act.put, List.setIfInBounds_toArray, List.set_cons_zero, List.set_cons_succ]
     rfl
    refine one_ (i := 10) (N := none) #[Y, Y, Y, Y, Y, Y, Y, Y, Y, Y, Y, Z] rfl rfl (one_of HT_.out (by kernel_rfl)) (by decide) (fun K hK => ?_)
    have hs0 : w16.cell? ⟨g6, 0, none⟩ = some (.int .i64 0) := (blk_cell BK6.out 0).trans rfl
    have hs1 : w16.cell? ⟨g6, 1, none⟩ = some (.int .i64 0) := (blk_cell BK6.out 1).trans rfl
    have hs2 : w16.cell? ⟨g6, 2, none⟩ = some (.string (⟨#[]⟩ : ByteArray)) := (blk_cell BK6.out 2).trans rfl
    have hs3 : w16.cell? ⟨g6, 3, none⟩ = some (.string (⟨#[]⟩ : ByteArray)) := (blk_cell BK6.out 3).trans rfl
    have hs4 : w16.cell? ⟨g6, 4, none⟩ = some (.slice none 0 0) := (blk_cell BK6.out 4).trans rfl
    have hf0 := blk_frozen BK6.out 0
    have hf1 := blk_frozen BK6.out 1
    have hf2 := blk_frozen BK6.out 2
    have hf3 := blk_frozen BK6.out 3
    have hf4 := blk_frozen BK6.out 4
    refine skip_ (w1 := ?_) (by rfl) rfl ?_ ?_
    rotate_left
    ·go_simp
     rfl
    refine hK.out _ _ (by repeat (first | (with_reducible exact HB.out) | refine below_set ?_ GE6.out)) (fun hHeld => ?_)
    clear hK K hs0 hs1 hs2 hs3 hs4 hf0 hf1 hf2 hf3 hf4
    refine one_ (i := 11) (N := none) #[Y, Y, Y, Y, Y, Y, Y, Y, Y, Y, Y, Y] rfl rfl (one_of HT_.out (by kernel_rfl)) (by decide) (fun K hK => ?_)
    have ht0 : w16.cell? ⟨g7, 0, none⟩ = some (.int .i64 0) := (blk_cell BK7.out 0).trans rfl
    have ht1 : w16.cell? ⟨g7, 1, none⟩ = some (.int .i64 0) := (blk_cell BK7.out 1).trans rfl
    have ht2 : w16.cell? ⟨g7, 2, none⟩ = some (.string (⟨#[]⟩ : ByteArray)) := (blk_cell BK7.out 2).trans rfl
    have ht3 : w16.cell? ⟨g7, 3, none⟩ = some (.string (⟨#[]⟩ : ByteArray)) := (blk_cell BK7.out 3).trans rfl
    have ht4 : w16.cell? ⟨g7, 4, none⟩ = some (.slice none 0 0) := (blk_cell BK7.out 4).trans rfl
    have he0 := blk_frozen BK7.out 0
    have he1 := blk_frozen BK7.out 1
    have he2 := blk_frozen BK7.out 2
    have he3 := blk_frozen BK7.out 3
    have he4 := blk_frozen BK7.out 4
    refine skip_ (w1 := ?_) (by rfl) rfl ?_ ?_
    rotate_left
    ·go_simp
     rfl
    refine hK.out _ _ (by repeat (first | (with_reducible exact HB.out) | refine below_set ?_ GE6.out | refine below_set ?_ GE7.out)) (fun hHeld => ?_)
    clear hK K ht0 ht1 ht2 ht3 ht4 he0 he1 he2 he3 he4
    refine done_ (done_of HT_.out (by kernel_rfl)) ?_
    go_wp2
    go_meet
    case rel => exact ⟨g6, g7, rfl, rfl, ⟨blk_far (blk_far (blk_far (blk_far (blk_far (blk_set (blk_set (blk_set (blk_set (blk_set BK6.out 0 _) 1 _) 2 _) 3 _) 4 _) h4' _) h4' _) h4' _) h4' _) h4' _⟩, ⟨blk_set (blk_set (blk_set (blk_set (blk_set (blk_far (blk_far (blk_far (blk_far (blk_far BK7.out h4_ _) h4_ _) h4_ _) h4_ _) h4_ _) 0 _) 1 _) 2 _) 3 _) 4 _⟩, ⟨by repeat (first | (with_reducible exact HB.out) | refine below_set ?_ GE6.out | refine below_set ?_ GE7.out)⟩⟩
   case rest =>
    clear HB
    obtain ⟨g6, g7, rfl, rfl, BK6, BK7, HB⟩ := hcut
    have hk0 : wc.cell? ⟨g6, 0, none⟩ = some (.int .i64 x.f0) := (blk_cell BK6.out 0).trans rfl
    have hk1 : wc.cell? ⟨g6, 1, none⟩ = some (.int .i64 x.f1) := (blk_cell BK6.out 1).trans rfl
    have hk2 : wc.cell? ⟨g6, 2, none⟩ = some (.string x.f2) := (blk_cell BK6.out 2).trans rfl
    have hk3 : wc.cell? ⟨g6, 3, none⟩ = some (.string x.f3) := (blk_cell BK6.out 3).trans rfl
    have hk4 : wc.cell? ⟨g6, 4, none⟩ = some (.slice A4 x.f4.length c4) := (blk_cell BK6.out 4).trans rfl
    have hm0 : wc.cell? ⟨g7, 0, none⟩ = some (.int .i64 y.f0) := (blk_cell BK7.out 0).trans rfl
    have hm1 : wc.cell? ⟨g7, 1, none⟩ = some (.int .i64 y.f1) := (blk_cell BK7.out 1).trans rfl
    have hm2 : wc.cell? ⟨g7, 2, none⟩ = some (.string y.f2) := (blk_cell BK7.out 2).trans rfl
    have hm3 : wc.cell? ⟨g7, 3, none⟩ = some (.string y.f3) := (blk_cell BK7.out 3).trans rfl
    have hm4 : wc.cell? ⟨g7, 4, none⟩ = some (.slice B4 y.f4.length d4) := (blk_cell BK7.out 4).trans rfl
    have HE : Aside0 (x ≠ y → decide (l0 = l1) = false) := ⟨fun hne => decide_eq_false (fun e => hne (by rw [← HX.out, ← HY.out, e]))⟩
    by_cases h0 : x.f0 = y.f0
    rotate_left
    ·have hr : Aside0 (decide (l0 = l1) = false) := ⟨HE.out (fun e => h0 (by rw [e]))⟩
     have b0 : (x.f0 == y.f0) = false := beq_eq_false_iff_ne.2 h0
     have b1 : (x.f0 != y.f0) = true := bne_iff_ne.2 h0
     clear h0 HE
     go_wp2
     go_ret
     exact ⟨by rw [hr.out]; rfl, by repeat (first | exact HB.out | apply below_alloc | apply pw_below_drewN | apply below_drew1)⟩
    have b0 : (x.f0 == y.f0) = true := beq_iff_eq.2 h0
    have b0' : (x.f0 != y.f0) = false := bne_eq_false_iff_eq.2 h0
    have H0 := Aside0.mk h0
    clear h0
    by_cases h1 : x.f1 = y.f1
    rotate_left
    ·have hr : Aside0 (decide (l0 = l1) = false) := ⟨HE.out (fun e => h1 (by rw [e]))⟩
     have b1 : (x.f1 == y.f1) = false := beq_eq_false_iff_ne.2 h1
     have b1' : (x.f1 != y.f1) = true := bne_iff_ne.2 h1
     clear h1 HE
     go_wp2
     go_ret
     exact ⟨by rw [hr.out]; rfl, by repeat (first | exact HB.out | apply below_alloc | apply pw_below_drewN | apply below_drew1)⟩
    have b1 : (x.f1 == y.f1) = true := beq_iff_eq.2 h1
    have b1' : (x.f1 != y.f1) = false := bne_eq_false_iff_eq.2 h1
    have H1 := Aside0.mk h1
    clear h1
    by_cases h2 : x.f2 = y.f2
    rotate_left
    ·have hr : Aside0 (decide (l0 = l1) = false) := ⟨HE.out (fun e => h2 (by rw [e]))⟩
     have b2 : (x.f2.toList == y.f2.toList) = false := by rw [bytes_beq]; exact decide_eq_false h2
     have b2' : (x.f2.toList != y.f2.toList) = true := bne_iff_ne.2 (fun e => h2 (bytes_ext.1 e))
     clear h2 HE
     go_wp2
     go_ret
     exact ⟨by rw [hr.out]; rfl, by repeat (first | exact HB.out | apply below_alloc | apply pw_below_drewN | apply below_drew1)⟩
    have b2 : (x.f2.toList == y.f2.toList) = true := by rw [bytes_beq]; exact decide_eq_true h2
    have b2' : (x.f2.toList != y.f2.toList) = false := bne_eq_false_iff_eq.2 (by rw [h2])
    have H2 := Aside0.mk h2
    clear h2
    by_cases h3 : x.f3 = y.f3
    rotate_left
    ·have hr : Aside0 (decide (l0 = l1) = false) := ⟨HE.out (fun e => h3 (by rw [e]))⟩
     have b3 : (x.f3.toList == y.f3.toList) = false := by rw [bytes_beq]; exact decide_eq_false h3
     have b3' : (x.f3.toList != y.f3.toList) = true := bne_iff_ne.2 (fun e => h3 (bytes_ext.1 e))
     clear h3 HE
     go_wp2
     go_ret
     exact ⟨by rw [hr.out]; rfl, by repeat (first | exact HB.out | apply below_alloc | apply pw_below_drewN | apply below_drew1)⟩
    have b3 : (x.f3.toList == y.f3.toList) = true := by rw [bytes_beq]; exact decide_eq_true h3
    have b3' : (x.f3.toList != y.f3.toList) = false := bne_eq_false_iff_eq.2 (by rw [h3])
    have H3 := Aside0.mk h3
    clear h3
    have hcall := boltingref04_Attrs.eq_calls x.f4 y.f4 A4 c4 B4 d4 wc (Kd.C_below HI4.out HB.out) HL4.out (Kd.C_below HJ4.out HB.out) HM4.out
    by_cases h4 : x.f4 = y.f4
    ·have HN : Aside0 (l0.take (kk + 1) = l1.take (kk + 1)) := ⟨(take_succ_eq hlt hlt1).2 ⟨HA.out, by
      rw [← rd_T54_at l0 kk hlt, ← rd_T54_at l1 kk hlt1, HX.out, HY.out]
      have a0 := H0.out; have a1 := H1.out; have a2 := H2.out; have a3 := H3.out
      cases x; cases y; simp_all⟩⟩
     rw [decide_eq_true h4] at hcall
     clear h4 HE HA H0 H1 H2 H3 HX HY
     go_wp2_with (go_at_call 26; refine hcall.mono ?_; rintro e w' ⟨rfl, hb'⟩)
     go_roundg (l0.length - (kk + 1))
     case measure => omega
     case rel => exact ⟨kk + 1, by omega, by omega, by go_num, HN, ⟨below_step HB.out hb'⟩⟩
    ·have hr : Aside0 (decide (l0 = l1) = false) := ⟨HE.out (fun e => h4 (by rw [e]))⟩
     rw [decide_eq_false h4] at hcall
     clear h4 HE HA H0 H1 H2 H3 HX HY
     go_wp2_with (go_at_call 26; refine hcall.mono ?_; rintro e w' ⟨rfl, hb'⟩)
     go_ret
     exact ⟨by rw [hr.out]; rfl, below_step HB.out hb'⟩
  ·have hltz : ¬ (kk : Int) < (l0.length : Int) := by omega
   obtain rfl : kk = l0.length := by omega
   have hr : Aside0 (decide (l0 = l1) = true) := ⟨decide_eq_true (by have h := HA.out; rw [List.take_length, HL.out, List.take_length] at h; exact h)⟩
   clear HA
   go_wp2
   go_ret
   exact ⟨by rw [hr.out]; rfl, HB.out⟩


-- NOT PRINTED: function 17 (arena_Doc_Remove)

-- NOT PRINTED: function 18 (arena_New)

/-! ### fold_Space: function 85 -/
def fold_Space.f (a0 : Int) : Option (Bool) := if a0 = 32 then (some true) else (if a0 = 9 then (some true) else (if a0 = 10 then (some true) else (if a0 = 12 then (some true) else (some (a0 == 13)))))
set_option maxHeartbeats 8000000 in
set_option maxRecDepth 100000 in
theorem fold_Space.calls (a0 : Int) (r : Bool) (w : World) (h : fold_Space.f a0 = some r) :
  Calls Try.prog 85 #[.int .u8 a0] w fun e w' => e = .returned (.bool r) ∧ Drawn0 w w' := by
 have H : (if a0 = 32 then (some true) else (if a0 = 9 then (some true) else (if a0 = 10 then (some true) else (if a0 = 12 then (some true) else (some (a0 == 13)))))) = some r := h
 clear h
 by_cases c2 : a0 = 32
 ·rw [if_pos c2] at H
  have c2b0 : (a0 == 32) = true := beq_iff_eq.mpr c2
  have c2b1 : (a0 != 32) = false := bne_eq_false_iff_eq.mpr c2
  clear c2
  obtain rfl := Option.some.inj H
  go_enter Try.func85, Try.ntmps85
  go_wp2
  go_ret
  exact ⟨by first | rfl | (simp; done) | (congr 1; first | (with_reducible assumption) | (symm; with_reducible assumption)) | (simp [*]; done) | (simp only [ne_nil_empty]; done) | (rw [ne_nil_empty]; rfl), by repeat (first | exact Drawn0.refl _ | apply Drawn0.step)⟩
 ·rw [if_neg c2] at H
  have c2b0 : (a0 == 32) = false := beq_eq_false_iff_ne.mpr c2
  have c2b1 : (a0 != 32) = true := bne_iff_ne.mpr c2
  by_cases c3 : a0 = 9
  ·rw [if_pos c3] at H
   have c3b0 : (a0 == 9) = true := beq_iff_eq.mpr c3
   have c3b1 : (a0 != 9) = false := bne_eq_false_iff_eq.mpr c3
   clear c3
   obtain rfl := Option.some.inj H
   go_enter Try.func85, Try.ntmps85
   go_wp2
   go_ret
   exact ⟨by first | rfl | (simp; done) | (congr 1; first | (with_reducible assumption) | (symm; with_reducible assumption)) | (simp [*]; done) | (simp only [ne_nil_empty]; done) | (rw [ne_nil_empty]; rfl), by repeat (first | exact Drawn0.refl _ | apply Drawn0.step)⟩
  ·rw [if_neg c3] at H
   have c3b0 : (a0 == 9) = false := beq_eq_false_iff_ne.mpr c3
   have c3b1 : (a0 != 9) = true := bne_iff_ne.mpr c3
   by_cases c4 : a0 = 10
   ·rw [if_pos c4] at H
    have c4b0 : (a0 == 10) = true := beq_iff_eq.mpr c4
    have c4b1 : (a0 != 10) = false := bne_eq_false_iff_eq.mpr c4
    clear c4
    obtain rfl := Option.some.inj H
    go_enter Try.func85, Try.ntmps85
    go_wp2
    go_ret
    exact ⟨by first | rfl | (simp; done) | (congr 1; first | (with_reducible assumption) | (symm; with_reducible assumption)) | (simp [*]; done) | (simp only [ne_nil_empty]; done) | (rw [ne_nil_empty]; rfl), by repeat (first | exact Drawn0.refl _ | apply Drawn0.step)⟩
   ·rw [if_neg c4] at H
    have c4b0 : (a0 == 10) = false := beq_eq_false_iff_ne.mpr c4
    have c4b1 : (a0 != 10) = true := bne_iff_ne.mpr c4
    by_cases c5 : a0 = 12
    ·rw [if_pos c5] at H
     have c5b0 : (a0 == 12) = true := beq_iff_eq.mpr c5
     have c5b1 : (a0 != 12) = false := bne_eq_false_iff_eq.mpr c5
     clear c5
     obtain rfl := Option.some.inj H
     go_enter Try.func85, Try.ntmps85
     go_wp2
     go_ret
     exact ⟨by first | rfl | (simp; done) | (congr 1; first | (with_reducible assumption) | (symm; with_reducible assumption)) | (simp [*]; done) | (simp only [ne_nil_empty]; done) | (rw [ne_nil_empty]; rfl), by repeat (first | exact Drawn0.refl _ | apply Drawn0.step)⟩
    ·rw [if_neg c5] at H
     have c5b0 : (a0 == 12) = false := beq_eq_false_iff_ne.mpr c5
     have c5b1 : (a0 != 12) = true := bne_iff_ne.mpr c5
     obtain rfl := Option.some.inj H
     go_enter Try.func85, Try.ntmps85
     go_wp2
     go_ret
     exact ⟨by first | rfl | (simp; done) | (congr 1; first | (with_reducible assumption) | (symm; with_reducible assumption)) | (simp [*]; done) | (simp only [ne_nil_empty]; done) | (rw [ne_nil_empty]; rfl), by repeat (first | exact Drawn0.refl _ | apply Drawn0.step)⟩

/-! ### names_plain: function 71 -/
mutual
def names_plain.l0 : Nat → ByteArray → ByteArray → Int → Int → Option (Bool)
 | 0, _, _, _, _ => none
 | k + 1, x0, x1, x8, x9 => if x9 < x8 then (if 0 ≤ x9 then (if x9 < (x0.size : Int) then ((fold_Space.f (bt x0 x9)).bind fun t142 => (if t142 = true then (names_plain.j1 k x0 x1 x9 x8 x9 true) else (if (bt x0 x9) ≥ 65 then (if (bt x0 x9) ≤ 90 then (names_plain.j1 k x0 x1 x9 x8 x9 true) else (names_plain.j1 k x0 x1 x9 x8 x9 ((bt x0 x9) == 0))) else (names_plain.j1 k x0 x1 x9 x8 x9 ((bt x0 x9) == 0))))) else (none)) else (none)) else (some (x0.toList != ([] : List UInt8)))
def names_plain.j1 : Nat → ByteArray → ByteArray → Int → Int → Int → Bool → Option (Bool)
 | 0, _, _, _, _, _, _ => none
 | k + 1, x0, x1, x5, x8, x9, x33 => if x33 = true then (some false) else (names_plain.l1 k x0 x1 x5 x8 x9 (x1.size : Int) 0)
def names_plain.l1 : Nat → ByteArray → ByteArray → Int → Int → Int → Int → Int → Option (Bool)
 | 0, _, _, _, _, _, _, _ => none
 | k + 1, x0, x1, x5, x8, x9, x35, x36 => if x36 < x35 then (if 0 ≤ x5 then (if x5 < (x0.size : Int) then (if 0 ≤ x36 then (if x36 < (x1.size : Int) then (if (bt x0 x5) = (bt x1 x36) then (some false) else (names_plain.l1 k x0 x1 x5 x8 x9 x35 (wrap64 (x36 + 1)))) else (none)) else (none)) else (none)) else (none)) else (names_plain.l0 k x0 x1 x8 (wrap64 (x9 + 1)))
end
def names_plain.f (k : Nat) (a0 : ByteArray) (a1 : ByteArray) : Option (Bool) := names_plain.l0 k a0 a1 (a0.size : Int) 0
theorem names_plain.mono_l : ∀ k, (∀ y0 y1 y2 y3, LeO (names_plain.l0 k y0 y1 y2 y3) (names_plain.l0 (k + 1) y0 y1 y2 y3)) ∧ (∀ y0 y1 y2 y3 y4 y5, LeO (names_plain.j1 k y0 y1 y2 y3 y4 y5) (names_plain.j1 (k + 1) y0 y1 y2 y3 y4 y5)) ∧ (∀ y0 y1 y2 y3 y4 y5 y6, LeO (names_plain.l1 k y0 y1 y2 y3 y4 y5 y6) (names_plain.l1 (k + 1) y0 y1 y2 y3 y4 y5 y6))
 | 0 => ⟨fun _ _ _ _ r h => by simp [names_plain.l0] at h, fun _ _ _ _ _ _ r h => by simp [names_plain.j1] at h, fun _ _ _ _ _ _ _ r h => by simp [names_plain.l1] at h⟩
 | k + 1 => by
  obtain ⟨ih0, ih1, ih2⟩ := names_plain.mono_l k
  refine ⟨?_, ?_, ?_⟩
  ·intro y0 y1 y2 y3
   unfold names_plain.l0
   repeat' first
   | (with_reducible exact ih0 _ _ _ _)
   | (with_reducible exact ih1 _ _ _ _ _ _)
   | (with_reducible exact ih2 _ _ _ _ _ _ _)
   | (with_reducible exact LeO.refl _)
   | (with_reducible exact LeO.none _)
   | (with_reducible refine LeO.ite ?_ ?_)
   | (with_reducible refine LeO.bind ?_ (fun _ => ?_))
   | exact ih0 _ _ _ _
   | exact ih1 _ _ _ _ _ _
   | exact ih2 _ _ _ _ _ _ _
   | exact LeO.none _
   | refine LeO.ite ?_ ?_
   | refine LeO.bind ?_ (fun _ => ?_)
  ·intro y0 y1 y2 y3 y4 y5
   unfold names_plain.j1
   repeat' first
   | (with_reducible exact ih0 _ _ _ _)
   | (with_reducible exact ih1 _ _ _ _ _ _)
   | (with_reducible exact ih2 _ _ _ _ _ _ _)
   | (with_reducible exact LeO.refl _)
   | (with_reducible exact LeO.none _)
   | (with_reducible refine LeO.ite ?_ ?_)
   | (with_reducible refine LeO.bind ?_ (fun _ => ?_))
   | exact ih0 _ _ _ _
   | exact ih1 _ _ _ _ _ _
   | exact ih2 _ _ _ _ _ _ _
   | exact LeO.none _
   | refine LeO.ite ?_ ?_
   | refine LeO.bind ?_ (fun _ => ?_)
  ·intro y0 y1 y2 y3 y4 y5 y6
   unfold names_plain.l1
   repeat' first
   | (with_reducible exact ih0 _ _ _ _)
   | (with_reducible exact ih1 _ _ _ _ _ _)
   | (with_reducible exact ih2 _ _ _ _ _ _ _)
   | (with_reducible exact LeO.refl _)
   | (with_reducible exact LeO.none _)
   | (with_reducible refine LeO.ite ?_ ?_)
   | (with_reducible refine LeO.bind ?_ (fun _ => ?_))
   | exact ih0 _ _ _ _
   | exact ih1 _ _ _ _ _ _
   | exact ih2 _ _ _ _ _ _ _
   | exact LeO.none _
   | refine LeO.ite ?_ ?_
   | refine LeO.bind ?_ (fun _ => ?_)
theorem names_plain.mono : ∀ a0 a1 k, LeO (names_plain.f k a0 a1) (names_plain.f (k + 1) a0 a1) := by
 intro a0 a1 k
 obtain ⟨ih0, ih1, ih2⟩ := names_plain.mono_l k
 unfold names_plain.f
 repeat' first
   | (with_reducible exact ih0 _ _ _ _)
   | (with_reducible exact ih1 _ _ _ _ _ _)
   | (with_reducible exact ih2 _ _ _ _ _ _ _)
   | (with_reducible exact LeO.refl _)
   | (with_reducible exact LeO.none _)
   | (with_reducible refine LeO.ite ?_ ?_)
   | (with_reducible refine LeO.bind ?_ (fun _ => ?_))
   | exact ih0 _ _ _ _
   | exact ih1 _ _ _ _ _ _
   | exact ih2 _ _ _ _ _ _ _
   | exact LeO.none _
   | refine LeO.ite ?_ ?_
   | refine LeO.bind ?_ (fun _ => ?_)
set_option maxHeartbeats 8000000 in
set_option maxRecDepth 100000 in
theorem names_plain.calls (k : Nat) (a0 : ByteArray) (a1 : ByteArray) (r : Bool) (w : World) (h : names_plain.f k a0 a1 = some r) :
  Calls Try.prog 71 #[.string a0, .string a1] w fun e w' => e = .returned (.bool r) ∧ Drawn0 w w' := by
 have H : (names_plain.l0 k a0 a1 (a0.size : Int) 0) = some r := h
 clear h
 have H' := Aside0.mk H
 clear H
 go_enter Try.func71, Try.ntmps71
 go_wp2
 repeat (go_quiet (fail); try go_wp2)
 go_loopg [9] k (fun kq v9 w' => ∃ (x9_1 : Int), v9 = .int .i64 x9_1 ∧ Aside0 (names_plain.l0 kq a0 a1 (a0.size : Int) x9_1 = some r) ∧ Aside0 (kq ≤ k) ∧ Drawn0 w w')
 case atStart => exact ⟨(0), aE, H', ⟨Nat.le_refl _⟩, by repeat (first | exact Drawn0.refl _ | apply Drawn0.step)⟩
 case round =>
  clear H'
  try clear p2
  obtain ⟨x9_1, rfl, HA, HK1, ⟨m1, rfl⟩⟩ := hrel
  cases gk with
  | zero => exact absurd HA.out (by simp [names_plain.l0])
  | succ k1 =>
   have H := HA.out
   clear HA
   simp only [names_plain.l0] at H
   by_cases c3 : x9_1 < (a0.size : Int)
   ·rw [if_pos c3] at H
    have c3b0 : decide (x9_1 < (a0.size : Int)) = true := decide_eq_true c3
    clear c3
    have HC4 := Aside0.mk H
    clear H
    go_upto_region 4 with (fail)
    repeat (go_quiet (fail); go_upto_region 4 with (fail))
    go_cut [33] (fun v33 wc => ∃ (kq : Nat) (x33_3 : Bool), v33 = .bool x33_3 ∧ Aside0 (names_plain.j1 kq a0 a1 x9_1 (a0.size : Int) x9_1 x33_3 = some r) ∧ Aside0 (kq ≤ k1) ∧ Drawn0 w wc)
    case first =>
     have H := HC4.out
     clear HC4
     by_cases c5 : 0 ≤ x9_1
     ·rw [if_pos c5] at H
      have c5b0 : decide (0 ≤ x9_1) = true := decide_eq_true c5
      clear c5
      (first | rw [c5b0] | (simp only [i64_w, i32_w]; rw [c5b0]) | skip)
      by_cases c6 : x9_1 < (a0.size : Int)
      ·rw [if_pos c6] at H
       have c6b0 : decide (x9_1 < (a0.size : Int)) = true := decide_eq_true c6
       clear c6
       replace H := Option.bind_eq_some_iff.mp H
       obtain ⟨t142, A80, H⟩ := H
       replace H : (if t142 = true then (names_plain.j1 k1 a0 a1 x9_1 (a0.size : Int) x9_1 true) else (if (bt a0 x9_1) ≥ 65 then (if (bt a0 x9_1) ≤ 90 then (names_plain.j1 k1 a0 a1 x9_1 (a0.size : Int) x9_1 true) else (names_plain.j1 k1 a0 a1 x9_1 (a0.size : Int) x9_1 ((bt a0 x9_1) == 0))) else (names_plain.j1 k1 a0 a1 x9_1 (a0.size : Int) x9_1 ((bt a0 x9_1) == 0)))) = some r := H
       have A8 := Aside0.mk A80
       clear A80
       by_cases c9 : t142 = true
       ·subst c9
        have H1 : (names_plain.j1 k1 a0 a1 x9_1 (a0.size : Int) x9_1 true) = some r := by rw [if_pos rfl] at H; exact H
        clear H
        have H := H1
        clear H1
        have H' := Aside0.mk H
        clear H
        have p7 : 0 ≤ (x9_1 : Int) := of_decide_eq_true aA
        have q7 : x9_1 < (a0.size : Int) := of_decide_eq_true aA
        have hx7 := bt_at a0 x9_1
        replace p7 := eq_true p7
        replace q7 := eq_true q7
        go_wp2_with (first | (go_at_call 85; (with_reducible refine (fold_Space.calls (bt a0 x9_1) true _ A8.out).mono ?_); rintro e w' ⟨rfl, ⟨nd, rfl⟩⟩; (try first | exact ⟨rfl, _, World.drewN_drewN _ _ _⟩ | exact ⟨rfl, _, Eq.trans (World.drewN_drewN _ _ _) (congrArg (World.drewN _) (Nat.add_assoc _ _ _))⟩)))
        repeat (go_quiet (first | (go_at_call 85; (with_reducible refine (fold_Space.calls (bt a0 x9_1) true _ A8.out).mono ?_); rintro e w' ⟨rfl, ⟨nd, rfl⟩⟩; (try first | exact ⟨rfl, _, World.drewN_drewN _ _ _⟩ | exact ⟨rfl, _, Eq.trans (World.drewN_drewN _ _ _) (congrArg (World.drewN _) (Nat.add_assoc _ _ _))⟩))); try go_wp2_with (first | (go_at_call 85; (with_reducible refine (fold_Space.calls (bt a0 x9_1) true _ A8.out).mono ?_); rintro e w' ⟨rfl, ⟨nd, rfl⟩⟩; (try first | exact ⟨rfl, _, World.drewN_drewN _ _ _⟩ | exact ⟨rfl, _, Eq.trans (World.drewN_drewN _ _ _) (congrArg (World.drewN _) (Nat.add_assoc _ _ _))⟩))))
        go_meet
        case rel => exact ⟨_, (true), aE, H', ⟨by have := HK1.out; first | omega | exact Nat.le_refl _⟩, by repeat (first | exact Drawn0.refl _ | apply Drawn0.step)⟩
       ·replace c9 := Bool.eq_false_iff.mpr c9
        subst c9
        have H1 : (if (bt a0 x9_1) ≥ 65 then (if (bt a0 x9_1) ≤ 90 then (names_plain.j1 k1 a0 a1 x9_1 (a0.size : Int) x9_1 true) else (names_plain.j1 k1 a0 a1 x9_1 (a0.size : Int) x9_1 ((bt a0 x9_1) == 0))) else (names_plain.j1 k1 a0 a1 x9_1 (a0.size : Int) x9_1 ((bt a0 x9_1) == 0))) = some r := by rw [if_neg (show ¬ (false = true) by decide)] at H; exact H
        clear H
        have H := H1
        clear H1
        by_cases c11 : (bt a0 x9_1) ≥ 65
        ·rw [if_pos c11] at H
         have c11b0 : decide (65 ≤ (bt a0 x9_1)) = true := decide_eq_true c11
         clear c11
         by_cases c13 : (bt a0 x9_1) ≤ 90
         ·rw [if_pos c13] at H
          have c13b0 : decide ((bt a0 x9_1) ≤ 90) = true := decide_eq_true c13
          clear c13
          have H' := Aside0.mk H
          clear H
          have p7 : 0 ≤ (x9_1 : Int) := of_decide_eq_true aA
          have q7 : x9_1 < (a0.size : Int) := of_decide_eq_true aA
          have hx7 := bt_at a0 x9_1
          replace p7 := eq_true p7
          replace q7 := eq_true q7
          go_wp2_with (first | (go_at_call 85; (with_reducible refine (fold_Space.calls (bt a0 x9_1) false _ A8.out).mono ?_); rintro e w' ⟨rfl, ⟨nd, rfl⟩⟩; (try first | exact ⟨rfl, _, World.drewN_drewN _ _ _⟩ | exact ⟨rfl, _, Eq.trans (World.drewN_drewN _ _ _) (congrArg (World.drewN _) (Nat.add_assoc _ _ _))⟩); have p10 : 0 ≤ (x9_1 : Int) := of_decide_eq_true aA; have q10 : x9_1 < (a0.size : Int) := of_decide_eq_true aA; have hx10 := bt_at a0 x9_1; replace p10 := eq_true p10; replace q10 := eq_true q10; have p12 : 0 ≤ (x9_1 : Int) := of_decide_eq_true aA; have q12 : x9_1 < (a0.size : Int) := of_decide_eq_true aA; have hx12 := bt_at a0 x9_1; replace p12 := eq_true p12; replace q12 := eq_true q12))
          repeat (go_quiet (first | (go_at_call 85; (with_reducible refine (fold_Space.calls (bt a0 x9_1) false _ A8.out).mono ?_); rintro e w' ⟨rfl, ⟨nd, rfl⟩⟩; (try first | exact ⟨rfl, _, World.drewN_drewN _ _ _⟩ | exact ⟨rfl, _, Eq.trans (World.drewN_drewN _ _ _) (congrArg (World.drewN _) (Nat.add_assoc _ _ _))⟩); have p10 : 0 ≤ (x9_1 : Int) := of_decide_eq_true aA; have q10 : x9_1 < (a0.size : Int) := of_decide_eq_true aA; have hx10 := bt_at a0 x9_1; replace p10 := eq_true p10; replace q10 := eq_true q10; have p12 : 0 ≤ (x9_1 : Int) := of_decide_eq_true aA; have q12 : x9_1 < (a0.size : Int) := of_decide_eq_true aA; have hx12 := bt_at a0 x9_1; replace p12 := eq_true p12; replace q12 := eq_true q12)); try go_wp2_with (first | (go_at_call 85; (with_reducible refine (fold_Space.calls (bt a0 x9_1) false _ A8.out).mono ?_); rintro e w' ⟨rfl, ⟨nd, rfl⟩⟩; (try first | exact ⟨rfl, _, World.drewN_drewN _ _ _⟩ | exact ⟨rfl, _, Eq.trans (World.drewN_drewN _ _ _) (congrArg (World.drewN _) (Nat.add_assoc _ _ _))⟩); have p10 : 0 ≤ (x9_1 : Int) := of_decide_eq_true aA; have q10 : x9_1 < (a0.size : Int) := of_decide_eq_true aA; have hx10 := bt_at a0 x9_1; replace p10 := eq_true p10; replace q10 := eq_true q10; have p12 : 0 ≤ (x9_1 : Int) := of_decide_eq_true aA; have q12 : x9_1 < (a0.size : Int) := of_decide_eq_true aA; have hx12 := bt_at a0 x9_1; replace p12 := eq_true p12; replace q12 := eq_true q12)))
          go_meet
          case rel => exact ⟨_, (true), aE, H', ⟨by have := HK1.out; first | omega | exact Nat.le_refl _⟩, by repeat (first | exact Drawn0.refl _ | apply Drawn0.step)⟩
         ·rw [if_neg c13] at H
          have c13b0 : decide ((bt a0 x9_1) ≤ 90) = false := decide_eq_false c13
          clear c13
          have H' := Aside0.mk H
          clear H
          have p7 : 0 ≤ (x9_1 : Int) := of_decide_eq_true aA
          have q7 : x9_1 < (a0.size : Int) := of_decide_eq_true aA
          have hx7 := bt_at a0 x9_1
          replace p7 := eq_true p7
          replace q7 := eq_true q7
          go_wp2_with (first | (go_at_call 85; (with_reducible refine (fold_Space.calls (bt a0 x9_1) false _ A8.out).mono ?_); rintro e w' ⟨rfl, ⟨nd, rfl⟩⟩; (try first | exact ⟨rfl, _, World.drewN_drewN _ _ _⟩ | exact ⟨rfl, _, Eq.trans (World.drewN_drewN _ _ _) (congrArg (World.drewN _) (Nat.add_assoc _ _ _))⟩); have p10 : 0 ≤ (x9_1 : Int) := of_decide_eq_true aA; have q10 : x9_1 < (a0.size : Int) := of_decide_eq_true aA; have hx10 := bt_at a0 x9_1; replace p10 := eq_true p10; replace q10 := eq_true q10; have p12 : 0 ≤ (x9_1 : Int) := of_decide_eq_true aA; have q12 : x9_1 < (a0.size : Int) := of_decide_eq_true aA; have hx12 := bt_at a0 x9_1; replace p12 := eq_true p12; replace q12 := eq_true q12; have p14 : 0 ≤ (x9_1 : Int) := of_decide_eq_true aA; have q14 : x9_1 < (a0.size : Int) := of_decide_eq_true aA; have hx14 := bt_at a0 x9_1; replace p14 := eq_true p14; replace q14 := eq_true q14))
          repeat (go_quiet (first | (go_at_call 85; (with_reducible refine (fold_Space.calls (bt a0 x9_1) false _ A8.out).mono ?_); rintro e w' ⟨rfl, ⟨nd, rfl⟩⟩; (try first | exact ⟨rfl, _, World.drewN_drewN _ _ _⟩ | exact ⟨rfl, _, Eq.trans (World.drewN_drewN _ _ _) (congrArg (World.drewN _) (Nat.add_assoc _ _ _))⟩); have p10 : 0 ≤ (x9_1 : Int) := of_decide_eq_true aA; have q10 : x9_1 < (a0.size : Int) := of_decide_eq_true aA; have hx10 := bt_at a0 x9_1; replace p10 := eq_true p10; replace q10 := eq_true q10; have p12 : 0 ≤ (x9_1 : Int) := of_decide_eq_true aA; have q12 : x9_1 < (a0.size : Int) := of_decide_eq_true aA; have hx12 := bt_at a0 x9_1; replace p12 := eq_true p12; replace q12 := eq_true q12; have p14 : 0 ≤ (x9_1 : Int) := of_decide_eq_true aA; have q14 : x9_1 < (a0.size : Int) := of_decide_eq_true aA; have hx14 := bt_at a0 x9_1; replace p14 := eq_true p14; replace q14 := eq_true q14)); try go_wp2_with (first | (go_at_call 85; (with_reducible refine (fold_Space.calls (bt a0 x9_1) false _ A8.out).mono ?_); rintro e w' ⟨rfl, ⟨nd, rfl⟩⟩; (try first | exact ⟨rfl, _, World.drewN_drewN _ _ _⟩ | exact ⟨rfl, _, Eq.trans (World.drewN_drewN _ _ _) (congrArg (World.drewN _) (Nat.add_assoc _ _ _))⟩); have p10 : 0 ≤ (x9_1 : Int) := of_decide_eq_true aA; have q10 : x9_1 < (a0.size : Int) := of_decide_eq_true aA; have hx10 := bt_at a0 x9_1; replace p10 := eq_true p10; replace q10 := eq_true q10; have p12 : 0 ≤ (x9_1 : Int) := of_decide_eq_true aA; have q12 : x9_1 < (a0.size : Int) := of_decide_eq_true aA; have hx12 := bt_at a0 x9_1; replace p12 := eq_true p12; replace q12 := eq_true q12; have p14 : 0 ≤ (x9_1 : Int) := of_decide_eq_true aA; have q14 : x9_1 < (a0.size : Int) := of_decide_eq_true aA; have hx14 := bt_at a0 x9_1; replace p14 := eq_true p14; replace q14 := eq_true q14)))
          go_meet
          case rel => exact ⟨_, (((bt a0 x9_1) == 0)), aE, H', ⟨by have := HK1.out; first | omega | exact Nat.le_refl _⟩, by repeat (first | exact Drawn0.refl _ | apply Drawn0.step)⟩
        ·rw [if_neg c11] at H
         have c11b0 : decide (65 ≤ (bt a0 x9_1)) = false := decide_eq_false c11
         clear c11
         have H' := Aside0.mk H
         clear H
         have p7 : 0 ≤ (x9_1 : Int) := of_decide_eq_true aA
         have q7 : x9_1 < (a0.size : Int) := of_decide_eq_true aA
         have hx7 := bt_at a0 x9_1
         replace p7 := eq_true p7
         replace q7 := eq_true q7
         go_wp2_with (first | (go_at_call 85; (with_reducible refine (fold_Space.calls (bt a0 x9_1) false _ A8.out).mono ?_); rintro e w' ⟨rfl, ⟨nd, rfl⟩⟩; (try first | exact ⟨rfl, _, World.drewN_drewN _ _ _⟩ | exact ⟨rfl, _, Eq.trans (World.drewN_drewN _ _ _) (congrArg (World.drewN _) (Nat.add_assoc _ _ _))⟩); have p10 : 0 ≤ (x9_1 : Int) := of_decide_eq_true aA; have q10 : x9_1 < (a0.size : Int) := of_decide_eq_true aA; have hx10 := bt_at a0 x9_1; replace p10 := eq_true p10; replace q10 := eq_true q10; have p15 : 0 ≤ (x9_1 : Int) := of_decide_eq_true aA; have q15 : x9_1 < (a0.size : Int) := of_decide_eq_true aA; have hx15 := bt_at a0 x9_1; replace p15 := eq_true p15; replace q15 := eq_true q15))
         repeat (go_quiet (first | (go_at_call 85; (with_reducible refine (fold_Space.calls (bt a0 x9_1) false _ A8.out).mono ?_); rintro e w' ⟨rfl, ⟨nd, rfl⟩⟩; (try first | exact ⟨rfl, _, World.drewN_drewN _ _ _⟩ | exact ⟨rfl, _, Eq.trans (World.drewN_drewN _ _ _) (congrArg (World.drewN _) (Nat.add_assoc _ _ _))⟩); have p10 : 0 ≤ (x9_1 : Int) := of_decide_eq_true aA; have q10 : x9_1 < (a0.size : Int) := of_decide_eq_true aA; have hx10 := bt_at a0 x9_1; replace p10 := eq_true p10; replace q10 := eq_true q10; have p15 : 0 ≤ (x9_1 : Int) := of_decide_eq_true aA; have q15 : x9_1 < (a0.size : Int) := of_decide_eq_true aA; have hx15 := bt_at a0 x9_1; replace p15 := eq_true p15; replace q15 := eq_true q15)); try go_wp2_with (first | (go_at_call 85; (with_reducible refine (fold_Space.calls (bt a0 x9_1) false _ A8.out).mono ?_); rintro e w' ⟨rfl, ⟨nd, rfl⟩⟩; (try first | exact ⟨rfl, _, World.drewN_drewN _ _ _⟩ | exact ⟨rfl, _, Eq.trans (World.drewN_drewN _ _ _) (congrArg (World.drewN _) (Nat.add_assoc _ _ _))⟩); have p10 : 0 ≤ (x9_1 : Int) := of_decide_eq_true aA; have q10 : x9_1 < (a0.size : Int) := of_decide_eq_true aA; have hx10 := bt_at a0 x9_1; replace p10 := eq_true p10; replace q10 := eq_true q10; have p15 : 0 ≤ (x9_1 : Int) := of_decide_eq_true aA; have q15 : x9_1 < (a0.size : Int) := of_decide_eq_true aA; have hx15 := bt_at a0 x9_1; replace p15 := eq_true p15; replace q15 := eq_true q15)))
         go_meet
         case rel => exact ⟨_, (((bt a0 x9_1) == 0)), aE, H', ⟨by have := HK1.out; first | omega | exact Nat.le_refl _⟩, by repeat (first | exact Drawn0.refl _ | apply Drawn0.step)⟩
      ·rw [if_neg c6] at H
       exact absurd H (by simp)
     ·rw [if_neg c5] at H
      exact absurd H (by simp)
    case rest =>
     clear HC4
     try clear c1
     try clear p1
     try clear q1
     try clear hx1
     try clear p2
     try clear c3
     try clear c3b0
     try clear c5
     try clear c5b0
     try clear c6
     try clear c6b0
     try clear c7
     try clear p7
     try clear q7
     try clear hx7
     try clear c9
     try clear p10
     try clear q10
     try clear hx10
     try clear c11
     try clear c11b0
     try clear p12
     try clear q12
     try clear hx12
     try clear c13
     try clear c13b0
     try clear p14
     try clear q14
     try clear hx14
     try clear p15
     try clear q15
     try clear hx15
     try clear p10
     try clear p12
     try clear p14
     try clear p15
     try clear p2
     try clear p7
     try clear q10
     try clear q12
     try clear q14
     try clear q15
     try clear q7
     obtain ⟨kq, x33_3, rfl, HA, HJ3, ⟨mc3, rfl⟩⟩ := hcut
     cases kq with
     | zero => exact absurd HA.out (by simp [names_plain.j1])
     | succ kj3 =>
      have H := HA.out
      clear HA
      simp only [names_plain.j1] at H
      by_cases c16 : x33_3 = true
      ·subst c16
       have H1 : (some false) = some r := by rw [if_pos rfl] at H; exact H
       clear H
       have H := H1
       clear H1
       obtain rfl := Option.some.inj H
       go_wp2
       repeat (go_quiet (fail); try go_wp2)
       go_ret
       exact ⟨by first | rfl | (simp; done) | (congr 1; first | (with_reducible assumption) | (symm; with_reducible assumption)) | (simp [*]; done) | (simp only [ne_nil_empty]; done) | (rw [ne_nil_empty]; rfl), by repeat (first | exact Drawn0.refl _ | apply Drawn0.step)⟩
      ·replace c16 := Bool.eq_false_iff.mpr c16
       subst c16
       have H1 : (names_plain.l1 kj3 a0 a1 x9_1 (a0.size : Int) x9_1 (a1.size : Int) 0) = some r := by rw [if_neg (show ¬ (false = true) by decide)] at H; exact H
       clear H
       have H := H1
       clear H1
       have H' := Aside0.mk H
       clear H
       go_wp2
       repeat (go_quiet (fail); try go_wp2)
       go_loopg [36] kj3 (fun kq v36 w' => ∃ (x36_3 : Int), v36 = .int .i64 x36_3 ∧ Aside0 (names_plain.l1 kq a0 a1 x9_1 (a0.size : Int) x9_1 (a1.size : Int) x36_3 = some r) ∧ Aside0 (kq ≤ kj3) ∧ Drawn0 w w')
       case atStart => exact ⟨(0), aE, H', ⟨Nat.le_refl _⟩, by repeat (first | exact Drawn0.refl _ | apply Drawn0.step)⟩
       case round =>
        clear H'
        try clear c1
        try clear p1
        try clear q1
        try clear hx1
        try clear p2
        try clear c3
        try clear c3b0
        try clear c5
        try clear c5b0
        try clear c6
        try clear c6b0
        try clear c7
        try clear p7
        try clear q7
        try clear hx7
        try clear c9
        try clear p10
        try clear q10
        try clear hx10
        try clear c11
        try clear c11b0
        try clear p12
        try clear q12
        try clear hx12
        try clear c13
        try clear c13b0
        try clear p14
        try clear q14
        try clear hx14
        try clear p15
        try clear q15
        try clear hx15
        try clear c16
        try clear p1
        try clear p10
        try clear p12
        try clear p14
        try clear p15
        try clear p2
        try clear p7
        try clear q1
        try clear q10
        try clear q12
        try clear q14
        try clear q15
        try clear q7
        obtain ⟨x36_3, rfl, HA, HK3, ⟨m3, rfl⟩⟩ := hrel
        cases gk with
        | zero => exact absurd HA.out (by simp [names_plain.l1])
        | succ k3 =>
         have H := HA.out
         clear HA
         simp only [names_plain.l1] at H
         by_cases c17 : x36_3 < (a1.size : Int)
         ·rw [if_pos c17] at H
          have c17b0 : decide (x36_3 < (a1.size : Int)) = true := decide_eq_true c17
          clear c17
          by_cases c18 : 0 ≤ x9_1
          ·rw [if_pos c18] at H
           have c18b0 : decide (0 ≤ x9_1) = true := decide_eq_true c18
           clear c18
           by_cases c19 : x9_1 < (a0.size : Int)
           ·rw [if_pos c19] at H
            have c19b0 : decide (x9_1 < (a0.size : Int)) = true := decide_eq_true c19
            clear c19
            by_cases c21 : 0 ≤ x36_3
            ·rw [if_pos c21] at H
             have c21b0 : decide (0 ≤ x36_3) = true := decide_eq_true c21
             clear c21
             by_cases c22 : x36_3 < (a1.size : Int)
             ·rw [if_pos c22] at H
              have c22b0 : decide (x36_3 < (a1.size : Int)) = true := decide_eq_true c22
              clear c22
              by_cases c24 : (bt a0 x9_1) = (bt a1 x36_3)
              ·rw [if_pos c24] at H
               have c24b0 : ((bt a0 x9_1) == (bt a1 x36_3)) = true := beq_iff_eq.mpr c24
               have c24b1 : ((bt a0 x9_1) != (bt a1 x36_3)) = false := bne_eq_false_iff_eq.mpr c24
               clear c24
               obtain rfl := Option.some.inj H
               have p20 : 0 ≤ (x9_1 : Int) := of_decide_eq_true aA
               have q20 : x9_1 < (a0.size : Int) := of_decide_eq_true aA
               have hx20 := bt_at a0 x9_1
               replace p20 := eq_true p20
               replace q20 := eq_true q20
               have p23 : 0 ≤ (x36_3 : Int) := of_decide_eq_true aA
               have q23 : x36_3 < (a1.size : Int) := of_decide_eq_true aA
               have hx23 := bt_at a1 x36_3
               replace p23 := eq_true p23
               replace q23 := eq_true q23
               go_wp2
               repeat (go_quiet (fail); try go_wp2)
               go_ret
               exact ⟨by first | rfl | (simp; done) | (congr 1; first | (with_reducible assumption) | (symm; with_reducible assumption)) | (simp [*]; done) | (simp only [ne_nil_empty]; done) | (rw [ne_nil_empty]; rfl), by repeat (first | exact Drawn0.refl _ | apply Drawn0.step)⟩
              ·rw [if_neg c24] at H
               have c24b0 : ((bt a0 x9_1) == (bt a1 x36_3)) = false := beq_eq_false_iff_ne.mpr c24
               have c24b1 : ((bt a0 x9_1) != (bt a1 x36_3)) = true := bne_iff_ne.mpr c24
               have H' := Aside0.mk H
               clear H
               have p20 : 0 ≤ (x9_1 : Int) := of_decide_eq_true aA
               have q20 : x9_1 < (a0.size : Int) := of_decide_eq_true aA
               have hx20 := bt_at a0 x9_1
               replace p20 := eq_true p20
               replace q20 := eq_true q20
               have p23 : 0 ≤ (x36_3 : Int) := of_decide_eq_true aA
               have q23 : x36_3 < (a1.size : Int) := of_decide_eq_true aA
               have hx23 := bt_at a1 x36_3
               replace p23 := eq_true p23
               replace q23 := eq_true q23
               go_wp2
               repeat (go_quiet (fail); try go_wp2)
               go_roundg k3
               case measure => have := HK1.out; have := HJ3.out; have := HK3.out; omega
               case rel => exact ⟨(wrap64 (x36_3 + 1)), aE, H', ⟨by have := HK1.out; have := HJ3.out; have := HK3.out; omega⟩, by repeat (first | exact Drawn0.refl _ | apply Drawn0.step)⟩
             ·rw [if_neg c22] at H
              exact absurd H (by simp)
            ·rw [if_neg c21] at H
             exact absurd H (by simp)
           ·rw [if_neg c19] at H
            exact absurd H (by simp)
          ·rw [if_neg c18] at H
           exact absurd H (by simp)
         ·rw [if_neg c17] at H
          have c17b0 : decide (x36_3 < (a1.size : Int)) = false := decide_eq_false c17
          clear c17
          have H' := Aside0.mk H
          clear H
          go_wp2
          repeat (go_quiet (fail); try go_wp2)
          go_roundg k3
          case measure => have := HK1.out; have := HJ3.out; have := HK3.out; omega
          case rel => exact ⟨(wrap64 (x9_1 + 1)), aE, H', ⟨by have := HK1.out; have := HJ3.out; have := HK3.out; omega⟩, by repeat (first | exact Drawn0.refl _ | apply Drawn0.step)⟩
   ·rw [if_neg c3] at H
    have c3b0 : decide (x9_1 < (a0.size : Int)) = false := decide_eq_false c3
    clear c3
    obtain rfl := Option.some.inj H
    go_wp2
    repeat (go_quiet (fail); try go_wp2)
    go_ret
    exact ⟨by first | rfl | (simp; done) | (congr 1; first | (with_reducible assumption) | (symm; with_reducible assumption)) | (simp [*]; done) | (simp only [ne_nil_empty]; done) | (rw [ne_nil_empty]; rfl), by repeat (first | exact Drawn0.refl _ | apply Drawn0.step)⟩

end Go.Proofs.Ytpkaliaaffgbdaa.QA
