-- Written by a program of this claim's own (wip/gen/gen.py), out of the translation; an ordinary proof text.
import Derived.Test.YtllggaogjcknoaaQAx0
import Derived.Test.YtllggaogjcknoaaQAx4
namespace Go.Proofs.Ytllggaogjcknoaa.QA
open Go.RowKit Go.Proofs.YtllggaogjcknoaaW.PrintWords Go.Proofs.YtllggaogjcknoaaW.PrintLast Go.Proofs.YtllggaogjcknoaaW.PrintMore
attribute [local go_sem] max2_int min2_int max_two min_two max_three min_three max_four min_four   -- for this text's walks alone
set_option linter.unusedVariables false
set_option linter.unusedSimpArgs false

/-! ### boltingref04_Same: function 16 -/
theorem boltingref04_Attrs.is_l (l0 l1 : List S46) (hm : l0.length ≤ 9223372036854775807) (he : l0.length = l1.length) (d : Nat) : ∀ (k i : Nat), i + d = l0.length → d < k → l0.take i = l1.take i →
  boltingref04_Attrs.l0 k l0 l1 (i : Int) = some (decide (l0 = l1)) := by
 induction d with
 | zero =>
  intro k i hi hk ht
  obtain ⟨k, rfl⟩ : ∃ m, k = m + 1 := ⟨k - 1, by omega⟩
  simp only [boltingref04_Attrs.l0]
  rw [if_neg (by omega)]
  rw [List.take_of_length_le (by omega), List.take_of_length_le (by omega)] at ht
  rw [decide_eq_true ht]
 | succ d ih =>
  intro k i hi hk ht
  obtain ⟨k, rfl⟩ : ∃ m, k = m + 1 := ⟨k - 1, by omega⟩
  simp only [boltingref04_Attrs.l0]
  rw [if_pos (by omega), if_pos (by omega), if_pos (by omega), attr_eq, rd_T46_at l0 i (by omega), rd_T46_at l1 i (by omega), up1 (by omega)]
  by_cases h : l0[i]'(by omega) = l1[i]'(by omega)
  ·rw [decide_eq_true h, if_neg (by decide), ih k (i + 1) (by omega) (by omega) ((take_succ_eq (by omega) (by omega)).2 ⟨ht, h⟩)]
  ·rw [decide_eq_false h, if_pos (by decide)]
   congr 1
   exact (decide_eq_false (fun e => h (by simp [e]))).symm
theorem boltingref04_Attrs.is (l0 l1 : List S46) (hm : l0.length ≤ 9223372036854775807) : boltingref04_Attrs.f (l0.length + 1) l0 l1 = some (decide (l0 = l1)) := by
 unfold boltingref04_Attrs.f
 by_cases h : (l0.length : Int) = (l1.length : Int)
 ·rw [if_pos h]
  exact boltingref04_Attrs.is_l l0 l1 hm (by omega) l0.length _ 0 (by omega) (by omega) rfl
 ·rw [if_neg h, decide_eq_false (fun e => h (by rw [e]))]
theorem boltingref04_Attrs.eq_calls (l0 l1 : List S46) (A0 : Option Addr) (c0 : Nat) (A1 : Option Addr) (c1 : Nat) (w : World) (hr0 : Kd.C k46 w A0 l0.length l0) (hc0 : l0.length ≤ c0) (hr1 : Kd.C k46 w A1 l1.length l1) (hc1 : l1.length ≤ c1) :
  Calls Try.prog 42 #[.slice A0 l0.length c0, .slice A1 l1.length c1] w fun e w' => e = .returned (.bool (decide (l0 = l1))) ∧ Below w.heap.size w w' :=
 (boltingref04_Attrs.calls (l0.length + 1) A0 c0 l0 A1 c1 l1 (decide (l0 = l1)) w hr0 hc0 hr1 hc1 (boltingref04_Attrs.is l0 l1 (Kd.C_max hr0))).mono fun _ _ ⟨he, hd⟩ => ⟨he, hd.below⟩
def boltingref04_Same.T6 : Bool × List (List Nat × List Nat) := (true, [([], []), ([], []), ([0, 1], [0, 1]), ([2], [2]), ([], []), ([], []), ([4, 5], [4, 5]), ([6], [6]), ([], []), ([], []), ([8, 3, 0, 1, 2, 3, 8, 9], [3, 8]), ([9, 7, 10, 0, 1, 2, 3, 4, 5, 6, 7, 8, 9, 10], [7, 9])])
def boltingref04_Same.B6 : List Nat := [0, 0, 3, 7, 0, 0, 48, 112, 0, 0, 783, 2047]
theorem boltingref04_Same.tab6 : rtab .any (opsOf Try.f16 6) = boltingref04_Same.T6 := by kernel_rfl
theorem boltingref04_Same.bits6 : waitsOk boltingref04_Same.T6.2 boltingref04_Same.B6 = true := by kernel_rfl
def boltingref04_Same.f (l0 : List (S43)) (l1 : List (S43)) : Option (Bool) := some (decide (l0 = l1))
set_option maxHeartbeats 800000 in
set_option maxRecDepth 100000 in
theorem boltingref04_Same.calls (A0 : Option Addr) (c0 : Nat) (l0 : List (S43)) (A1 : Option Addr) (c1 : Nat) (l1 : List (S43)) (r : Bool) (w : World) (hr0 : Kd.C k43 w A0 l0.length l0) (hc0 : l0.length ≤ c0) (hr1 : Kd.C k43 w A1 l1.length l1) (hc1 : l1.length ≤ c1) (h : boltingref04_Same.f l0 l1 = some r) :
  Calls Try.prog 16 #[.slice A0 l0.length c0, .slice A1 l1.length c1] w fun e w' => e = .returned (.bool r) ∧ Below w.heap.size w w' := by
 obtain rfl := Option.some.inj h
 clear h
 have hm := Kd.C_max hr0
 have hu43 := Try.underlying43
 have HR0 := Aside0.mk hr0
 have HC0 := Aside0.mk hc0
 have HR1 := Aside0.mk hr1
 have HC1 := Aside0.mk hc1
 clear hr0 hc0 hr1 hc1
 by_cases hl : l0.length = l1.length
 rotate_left
 ·have hr : Aside0 (decide (l0 = l1) = false) := ⟨decide_eq_false (fun e => hl (by rw [e]))⟩
  have b0 : (l0.length == l1.length) = false := beq_eq_false_iff_ne.2 hl
  have b1 : (l0.length != l1.length) = true := bne_iff_ne.2 hl
  have b2 : ((l0.length : Int) == (l1.length : Int)) = false := beq_eq_false_iff_ne.2 (by omega)
  have b3 : ((l0.length : Int) != (l1.length : Int)) = true := bne_iff_ne.2 (by omega)
  rw [hr.out]
  clear hl hr
  go_enter Try.func16, Try.ntmps16
  go_wp2
  go_ret
  exact ⟨rfl, by repeat (first | exact Below.refl _ _ | apply below_alloc | apply pw_below_drewN | apply below_drew1)⟩
 have b0 : (l0.length == l1.length) = true := beq_iff_eq.2 hl
 have b1 : (l0.length != l1.length) = false := bne_eq_false_iff_eq.2 hl
 have b2 : ((l0.length : Int) == (l1.length : Int)) = true := beq_iff_eq.2 (by omega)
 have b3 : ((l0.length : Int) != (l1.length : Int)) = false := bne_eq_false_iff_eq.2 (by omega)
 have HL := Aside0.mk hl
 clear hl
 have HB := Aside0.mk (Below.refl w.heap.size w)
 go_enter Try.func16, Try.ntmps16
 go_wp2
 clear b0 b1 b2 b3
 go_loopg [5] l0.length (fun gg v5 w' => ∃ kk : Nat, kk ≤ l0.length ∧ l0.length - kk ≤ gg ∧ v5 = .int .i64 kk ∧ Aside0 (l0.take kk = l1.take kk) ∧ Aside0 (Below w.heap.size w w'))
 case atStart => exact ⟨0, Nat.zero_le _, by omega, rfl, ⟨rfl⟩, HB⟩
 case round =>
  clear HB
  obtain ⟨kk, hkk, hg, rfl, HA, HB⟩ := hrel
  by_cases hlt : kk < l0.length
  ·have hltz : (kk : Int) < (l0.length : Int) := by omega
   have hltz1 : (kk : Int) < (l1.length : Int) := by have := HL.out; omega
   have hlt1 : kk < l1.length := by omega
   obtain ⟨ad, A4, c4, e4, hx0, hx1, hx2, hx3, hx4, hl4, hi4⟩ := at_T43 HR0.out (kk : Int) (by omega) hltz
   cases e4
   obtain ⟨bd, B4, d4, f4, hy0, hy1, hy2, hy3, hy4, hm4, hj4⟩ := at_T43 HR1.out (kk : Int) (by omega) hltz1
   cases f4
   have HL4 := Aside0.mk hl4
   have HI4 := Aside0.mk hi4
   have HM4 := Aside0.mk hm4
   have HJ4 := Aside0.mk hj4
   clear hl4 hi4 hm4 hj4
   simp only [Int.toNat_natCast] at hx0 hx1 hx2 hx3 hx4 hy0 hy1 hy2 hy3 hy4
   have X0 := Aside0.mk hx0
   have X1 := Aside0.mk hx1
   have X2 := Aside0.mk hx2
   have X3 := Aside0.mk hx3
   have X4 := Aside0.mk hx4
   have Y0 := Aside0.mk hy0
   have Y1 := Aside0.mk hy1
   have Y2 := Aside0.mk hy2
   have Y3 := Aside0.mk hy3
   have Y4 := Aside0.mk hy4
   clear hx0 hx1 hx2 hx3 hx4 hy0 hy1 hy2 hy3 hy4
   obtain ⟨x, hx⟩ : ∃ x, rd_T43 l0 (kk : Int) = x := ⟨_, rfl⟩
   obtain ⟨y, hy⟩ : ∃ y, rd_T43 l1 (kk : Int) = y := ⟨_, rfl⟩
   have HX := Aside0.mk hx
   have HY := Aside0.mk hy
   rw [hx] at HL4 HI4 X0 X1 X2 X3 X4
   rw [hy] at HM4 HJ4 Y0 Y1 Y2 Y3 Y4
   clear hx hy
   go_upto_region 7 with (fail)
   go_cut [6, 7] (fun v6 v7 wc => ∃ g6 g7 : Nat, v6 = .pointer (some ⟨g6, 0, none⟩) ∧ v7 = .pointer (some ⟨g7, 0, none⟩) ∧ Aside0 (wc.heap[g6]? = some (.cells #[.int .i64 x.f0, .int .i64 x.f1, .string x.f2, .string x.f3, .slice A4 x.f4.length c4] 43 (0, 0))) ∧ Aside0 (wc.heap[g7]? = some (.cells #[.int .i64 y.f0, .int .i64 y.f1, .string y.f2, .string y.f3, .slice B4 y.f4.length d4] 43 (0, 0))) ∧ Aside0 (Below w.heap.size w wc))
   case first =>
    have p0 : (0 ≤ (kk : Int)) = True := eq_true (by omega)
    have q0 := eq_true hltz
    have q1 := eq_true hltz1
    try go_wp2
    have n0_ := Aside0.mk (below_drew1 HB.out)
    clear HB
    have HB := n0_
    clear n0_
    refine start_ (n := 12) (S := fun w' => Below w.heap.size w w') (ds := []) #[Z, Z, Z, Z, Z, Z, Z, Z, Z, Z, Z, Z] (by kernel_rfl) rfl rfl HB.out (fun hHeld => ?_); refine with_tabW boltingref04_Same.tab6 boltingref04_Same.bits6 (fun HT_ HW_ => ?_)
    generalize wr.drew = w13 at HB hHeld ⊢
    refine pA 0 19 #[Y, Z, Z, Z, Z, Z, Z, Z, Z, Z, Z, Z] HT_ ?_
    refine pA 1 20 #[Y, Y, Z, Z, Z, Z, Z, Z, Z, Z, Z, Z] HT_ ?_
    refine pA 2 21 #[Y, Y, Y, Z, Z, Z, Z, Z, Z, Z, Z, Z] HT_ ?_
    refine pA 4 23 #[Y, Y, Y, Z, Y, Z, Z, Z, Z, Z, Z, Z] HT_ ?_
    refine pA 5 24 #[Y, Y, Y, Z, Y, Y, Z, Z, Z, Z, Z, Z] HT_ ?_
    refine pA 6 25 #[Y, Y, Y, Z, Y, Y, Y, Z, Z, Z, Z, Z] HT_ ?_
    refine take_ (i := 3) (N := some 22) (v := ?_) (a' := ?_) #[Y, Y, Y, Y, Y, Y, Y, Z, Z, Z, Z, Z] rfl rfl (take_ofW HT_.out HW_.out (by kernel_rfl)) (fun _ _ _ h => h) (Or.inl ⟨by rfl, ?_⟩) hHeld ?_ ?_
    rotate_left
    ·intro w' hS
     have s0 := (hS.cell (World.block_lt_of_cell? w _ X0.out)).trans X0.out
     have s1 := (hS.cell (World.block_lt_of_cell? w _ X1.out)).trans X1.out
     have s2 := (hS.cell (World.block_lt_of_cell? w _ X2.out)).trans X2.out
     have s3 := (hS.cell (World.block_lt_of_cell? w _ X3.out)).trans X3.out
     have s4 := (hS.cell (World.block_lt_of_cell? w _ X4.out)).trans X4.out
     clear hS
     go_simp
     with_reducible rfl
    rotate_left
    ·simp only [Act.put, List.setIfInBounds_toArray, List.set_cons_zero, List.set_cons_succ, i64_w, i32_w]
     rfl
    refine take_ (i := 7) (N := some 26) (v := ?_) (a' := ?_) #[Y, Y, Y, Y, Y, Y, Y, Y, Z, Z, Z, Z] rfl rfl (take_ofW HT_.out HW_.out (by kernel_rfl)) (fun _ _ _ h => h) (Or.inl ⟨by rfl, ?_⟩) hHeld ?_ ?_
    rotate_left
    ·intro w' hS
     have s0 := (hS.cell (World.block_lt_of_cell? w _ Y0.out)).trans Y0.out
     have s1 := (hS.cell (World.block_lt_of_cell? w _ Y1.out)).trans Y1.out
     have s2 := (hS.cell (World.block_lt_of_cell? w _ Y2.out)).trans Y2.out
     have s3 := (hS.cell (World.block_lt_of_cell? w _ Y3.out)).trans Y3.out
     have s4 := (hS.cell (World.block_lt_of_cell? w _ Y4.out)).trans Y4.out
     clear hS
     go_simp
     with_reducible rfl
    rotate_left
    ·simp only [Act.put, List.setIfInBounds_toArray, List.set_cons_zero, List.set_cons_succ, i64_w, i32_w]
     rfl
    refine join_ (σ := Nat × Nat) 2 #[Y, Y, Y, Y, Y, Y, Y, Y, Y, Y, Z, Z] (fun s_ => [(6, .pointer (some ⟨s_.1, 0, none⟩)), (7, .pointer (some ⟨s_.2, 0, none⟩))]) (fun s_ w' => (Below w.heap.size w w') ∧ (w'.heap[s_.1]? = some (.cells #[.int .i64 0, .int .i64 0, .string (⟨#[]⟩ : ByteArray), .string (⟨#[]⟩ : ByteArray), .slice none 0 0] 43 (0, 0))) ∧ (w'.heap[s_.2]? = some (.cells #[.int .i64 0, .int .i64 0, .string (⟨#[]⟩ : ByteArray), .string (⟨#[]⟩ : ByteArray), .slice none 0 0] 43 (0, 0))) ∧ (w.heap.size ≤ s_.1) ∧ (s_.2 ≠ s_.1) ∧ (w.heap.size ≤ s_.2)) ?_ ?_
    rotate_left
    ·intro hCont
     refine two_ (i := 8) (j := 9) (Ni := some 6) (Nj := some 7) #[Y, Y, Y, Y, Y, Y, Y, Y, Y, Z, Z, Z] #[Y, Y, Y, Y, Y, Y, Y, Y, Z, Y, Z, Z] rfl rfl rfl rfl (two_of HT_.out (by kernel_rfl)) (by decide) (by decide) (fun K hK => ?_) (fun K hK => ?_)
     ·refine box_step ?hg (N := 6) ?hd (cs := #[.int .i64 0, .int .i64 0, .string (⟨#[]⟩ : ByteArray), .string (⟨#[]⟩ : ByteArray), .slice none 0 0]) (t := 43) ?hr ?_; (case hd => rfl); (case hg => rfl); (case hr => first | (go_simp; done) | (go_simp; rfl))
      intro ga hga w14 hbox hb
      have GA : w.heap.size ≤ ga := by rw [hga]; exact below_size HB.out
      have HB' := below_step HB.out hb
      refine hK.out _ _ HB' (fun hHeld => ?_)
      clear hK K
      refine norm_ (a' := ?_) ?_ ?_
      rotate_left
      ·show Act.put _ (some 6) _ = _
       simp only [Act.put, List.setIfInBounds_toArray, List.set_cons_zero, List.set_cons_succ, i64_w, i32_w]
       rfl
      refine one_ (i := 9) (N := some 7) #[Y, Y, Y, Y, Y, Y, Y, Y, Y, Y, Z, Z] rfl rfl (one_of HT_.out (by kernel_rfl)) (by decide) (fun K hK => ?_)
      refine box_step ?hg (N := 7) ?hd (cs := #[.int .i64 0, .int .i64 0, .string (⟨#[]⟩ : ByteArray), .string (⟨#[]⟩ : ByteArray), .slice none 0 0]) (t := 43) ?hr ?_; (case hd => rfl); (case hg => rfl); (case hr => first | (go_simp; done) | (go_simp; rfl))
      intro gb hgb w15 hbox2 hb2
      have GB : w.heap.size ≤ gb := by rw [hgb]; exact below_size HB'
      have hne : gb ≠ ga := by rw [hgb]; exact Nat.ne_of_gt (blk_lt hbox)
      have HB2 := below_step HB' hb2
      refine hK.out _ _ HB2 (fun hHeld => ?_)
      clear hK K
      refine norm_ (a' := ?_) ?_ ?_
      rotate_left
      ·show Act.put _ (some 7) _ = _
       simp only [Act.put, List.setIfInBounds_toArray, List.set_cons_zero, List.set_cons_succ, i64_w, i32_w]
       rfl
      exact norm_ (by simp only [putAll, Act.put, List.setIfInBounds_toArray, List.set_cons_zero, List.set_cons_succ]) (hCont (ga, gb) _ ⟨HB2, blk_below hbox hb2, hbox2, GA, hne, GB⟩)
     ·refine box_step ?hg (N := 7) ?hd (cs := #[.int .i64 0, .int .i64 0, .string (⟨#[]⟩ : ByteArray), .string (⟨#[]⟩ : ByteArray), .slice none 0 0]) (t := 43) ?hr ?_; (case hd => rfl); (case hg => rfl); (case hr => first | (go_simp; done) | (go_simp; rfl))
      intro ga hga w14 hbox hb
      have GA : w.heap.size ≤ ga := by rw [hga]; exact below_size HB.out
      have HB' := below_step HB.out hb
      refine hK.out _ _ HB' (fun hHeld => ?_)
      clear hK K
      refine norm_ (a' := ?_) ?_ ?_
      rotate_left
      ·show Act.put _ (some 7) _ = _
       simp only [Act.put, List.setIfInBounds_toArray, List.set_cons_zero, List.set_cons_succ, i64_w, i32_w]
       rfl
      refine one_ (i := 8) (N := some 6) #[Y, Y, Y, Y, Y, Y, Y, Y, Y, Y, Z, Z] rfl rfl (one_of HT_.out (by kernel_rfl)) (by decide) (fun K hK => ?_)
      refine box_step ?hg (N := 6) ?hd (cs := #[.int .i64 0, .int .i64 0, .string (⟨#[]⟩ : ByteArray), .string (⟨#[]⟩ : ByteArray), .slice none 0 0]) (t := 43) ?hr ?_; (case hd => rfl); (case hg => rfl); (case hr => first | (go_simp; done) | (go_simp; rfl))
      intro gb hgb w15 hbox2 hb2
      have GB : w.heap.size ≤ gb := by rw [hgb]; exact below_size HB'
      have hne : ga ≠ gb := by rw [hgb]; exact Nat.ne_of_lt (blk_lt hbox)
      have HB2 := below_step HB' hb2
      refine hK.out _ _ HB2 (fun hHeld => ?_)
      clear hK K
      refine norm_ (a' := ?_) ?_ ?_
      rotate_left
      ·show Act.put _ (some 6) _ = _
       simp only [Act.put, List.setIfInBounds_toArray, List.set_cons_zero, List.set_cons_succ, i64_w, i32_w]
       rfl
      exact norm_ (by simp only [putAll, Act.put, List.setIfInBounds_toArray, List.set_cons_zero, List.set_cons_succ]) (hCont (gb, ga) _ ⟨HB2, hbox2, blk_below hbox hb2, GB, hne, GA⟩)
    clear HB hHeld
    rintro ⟨g6, g7⟩ w16 ⟨h0_, h1_, h2_, h3_, h4_, h5_⟩
    dsimp only at h1_ h2_ h3_ h4_ h5_
    have HB := Aside0.mk h0_
    have BK6 := Aside0.mk h1_
    have BK7 := Aside0.mk h2_
    have GE6 := Aside0.mk h3_
    have GE7 := Aside0.mk h5_
    have h4' : g6 ≠ g7 := fun e => h4_ e.symm
    clear h0_ h1_ h2_ h3_ h5_
    refine norm_ (a' := ?_) ?_ ?_
    rotate_left
    ·simp only [putAll, Act.put, List.setIfInBounds_toArray, List.set_cons_zero, List.set_cons_succ]
     rfl
    refine one_ (i := 10) (N := none) #[Y, Y, Y, Y, Y, Y, Y, Y, Y, Y, Y, Z] rfl rfl (one_of HT_.out (by kernel_rfl)) (by decide) (fun K hK => ?_)
    have hs0 : w16.cell? ⟨g6, 0, none⟩ = some (.int .i64 0) := (blk_cell BK6.out 0).trans rfl
    have hs1 : w16.cell? ⟨g6, 1, none⟩ = some (.int .i64 0) := (blk_cell BK6.out 1).trans rfl
    have hs2 : w16.cell? ⟨g6, 2, none⟩ = some (.string (⟨#[]⟩ : ByteArray)) := (blk_cell BK6.out 2).trans rfl
    have hs3 : w16.cell? ⟨g6, 3, none⟩ = some (.string (⟨#[]⟩ : ByteArray)) := (blk_cell BK6.out 3).trans rfl
    have hs4 : w16.cell? ⟨g6, 4, none⟩ = some (.slice none 0 0) := (blk_cell BK6.out 4).trans rfl
    have hf0 := blk_frozen BK6.out 0
    have hf1 := blk_frozen BK6.out 1
    have hf2 := blk_frozen BK6.out 2
    have hf3 := blk_frozen BK6.out 3
    have hf4 := blk_frozen BK6.out 4
    refine skip_ (w1 := ?_) (by rfl) rfl ?_ ?_
    rotate_left
    ·go_simp
     rfl
    refine hK.out _ _ (by repeat (first | (with_reducible exact HB.out) | refine below_set ?_ GE6.out)) (fun hHeld => ?_)
    clear hK K hs0 hs1 hs2 hs3 hs4 hf0 hf1 hf2 hf3 hf4
    refine one_ (i := 11) (N := none) #[Y, Y, Y, Y, Y, Y, Y, Y, Y, Y, Y, Y] rfl rfl (one_of HT_.out (by kernel_rfl)) (by decide) (fun K hK => ?_)
    have ht0 : w16.cell? ⟨g7, 0, none⟩ = some (.int .i64 0) := (blk_cell BK7.out 0).trans rfl
    have ht1 : w16.cell? ⟨g7, 1, none⟩ = some (.int .i64 0) := (blk_cell BK7.out 1).trans rfl
    have ht2 : w16.cell? ⟨g7, 2, none⟩ = some (.string (⟨#[]⟩ : ByteArray)) := (blk_cell BK7.out 2).trans rfl
    have ht3 : w16.cell? ⟨g7, 3, none⟩ = some (.string (⟨#[]⟩ : ByteArray)) := (blk_cell BK7.out 3).trans rfl
    have ht4 : w16.cell? ⟨g7, 4, none⟩ = some (.slice none 0 0) := (blk_cell BK7.out 4).trans rfl
    have he0 := blk_frozen BK7.out 0
    have he1 := blk_frozen BK7.out 1
    have he2 := blk_frozen BK7.out 2
    have he3 := blk_frozen BK7.out 3
    have he4 := blk_frozen BK7.out 4
    refine skip_ (w1 := ?_) (by rfl) rfl ?_ ?_
    rotate_left
    ·go_simp
     rfl
    refine hK.out _ _ (by repeat (first | (with_reducible exact HB.out) | refine below_set ?_ GE6.out | refine below_set ?_ GE7.out)) (fun hHeld => ?_)
    clear hK K ht0 ht1 ht2 ht3 ht4 he0 he1 he2 he3 he4
    refine done_ (done_of HT_.out (by kernel_rfl)) ?_
    go_wp2
    go_meet
    case rel => exact ⟨g6, g7, rfl, rfl, ⟨blk_far (blk_far (blk_far (blk_far (blk_far (blk_set (blk_set (blk_set (blk_set (blk_set BK6.out 0 _) 1 _) 2 _) 3 _) 4 _) h4' _) h4' _) h4' _) h4' _) h4' _⟩, ⟨blk_set (blk_set (blk_set (blk_set (blk_set (blk_far (blk_far (blk_far (blk_far (blk_far BK7.out h4_ _) h4_ _) h4_ _) h4_ _) h4_ _) 0 _) 1 _) 2 _) 3 _) 4 _⟩, ⟨by repeat (first | (with_reducible exact HB.out) | refine below_set ?_ GE6.out | refine below_set ?_ GE7.out)⟩⟩
   case rest =>
    clear HB
    obtain ⟨g6, g7, rfl, rfl, BK6, BK7, HB⟩ := hcut
    have hk0 : wc.cell? ⟨g6, 0, none⟩ = some (.int .i64 x.f0) := (blk_cell BK6.out 0).trans rfl
    have hk1 : wc.cell? ⟨g6, 1, none⟩ = some (.int .i64 x.f1) := (blk_cell BK6.out 1).trans rfl
    have hk2 : wc.cell? ⟨g6, 2, none⟩ = some (.string x.f2) := (blk_cell BK6.out 2).trans rfl
    have hk3 : wc.cell? ⟨g6, 3, none⟩ = some (.string x.f3) := (blk_cell BK6.out 3).trans rfl
    have hk4 : wc.cell? ⟨g6, 4, none⟩ = some (.slice A4 x.f4.length c4) := (blk_cell BK6.out 4).trans rfl
    have hm0 : wc.cell? ⟨g7, 0, none⟩ = some (.int .i64 y.f0) := (blk_cell BK7.out 0).trans rfl
    have hm1 : wc.cell? ⟨g7, 1, none⟩ = some (.int .i64 y.f1) := (blk_cell BK7.out 1).trans rfl
    have hm2 : wc.cell? ⟨g7, 2, none⟩ = some (.string y.f2) := (blk_cell BK7.out 2).trans rfl
    have hm3 : wc.cell? ⟨g7, 3, none⟩ = some (.string y.f3) := (blk_cell BK7.out 3).trans rfl
    have hm4 : wc.cell? ⟨g7, 4, none⟩ = some (.slice B4 y.f4.length d4) := (blk_cell BK7.out 4).trans rfl
    have HE : Aside0 (x ≠ y → decide (l0 = l1) = false) := ⟨fun hne => decide_eq_false (fun e => hne (by rw [← HX.out, ← HY.out, e]))⟩
    by_cases h0 : x.f0 = y.f0
    rotate_left
    ·have hr : Aside0 (decide (l0 = l1) = false) := ⟨HE.out (fun e => h0 (by rw [e]))⟩
     have b0 : (x.f0 == y.f0) = false := beq_eq_false_iff_ne.2 h0
     have b1 : (x.f0 != y.f0) = true := bne_iff_ne.2 h0
     clear h0 HE
     go_wp2
     go_ret
     exact ⟨by rw [hr.out]; rfl, by repeat (first | exact HB.out | apply below_alloc | apply pw_below_drewN | apply below_drew1)⟩
    have b0 : (x.f0 == y.f0) = true := beq_iff_eq.2 h0
    have b0' : (x.f0 != y.f0) = false := bne_eq_false_iff_eq.2 h0
    have H0 := Aside0.mk h0
    clear h0
    by_cases h1 : x.f1 = y.f1
    rotate_left
    ·have hr : Aside0 (decide (l0 = l1) = false) := ⟨HE.out (fun e => h1 (by rw [e]))⟩
     have b1 : (x.f1 == y.f1) = false := beq_eq_false_iff_ne.2 h1
     have b1' : (x.f1 != y.f1) = true := bne_iff_ne.2 h1
     clear h1 HE
     go_wp2
     go_ret
     exact ⟨by rw [hr.out]; rfl, by repeat (first | exact HB.out | apply below_alloc | apply pw_below_drewN | apply below_drew1)⟩
    have b1 : (x.f1 == y.f1) = true := beq_iff_eq.2 h1
    have b1' : (x.f1 != y.f1) = false := bne_eq_false_iff_eq.2 h1
    have H1 := Aside0.mk h1
    clear h1
    by_cases h2 : x.f2 = y.f2
    rotate_left
    ·have hr : Aside0 (decide (l0 = l1) = false) := ⟨HE.out (fun e => h2 (by rw [e]))⟩
     have b2 : (x.f2.toList == y.f2.toList) = false := by rw [bytes_beq]; exact decide_eq_false h2
     have b2' : (x.f2.toList != y.f2.toList) = true := bne_iff_ne.2 (fun e => h2 (bytes_ext.1 e))
     clear h2 HE
     go_wp2
     go_ret
     exact ⟨by rw [hr.out]; rfl, by repeat (first | exact HB.out | apply below_alloc | apply pw_below_drewN | apply below_drew1)⟩
    have b2 : (x.f2.toList == y.f2.toList) = true := by rw [bytes_beq]; exact decide_eq_true h2
    have b2' : (x.f2.toList != y.f2.toList) = false := bne_eq_false_iff_eq.2 (by rw [h2])
    have H2 := Aside0.mk h2
    clear h2
    by_cases h3 : x.f3 = y.f3
    rotate_left
    ·have hr : Aside0 (decide (l0 = l1) = false) := ⟨HE.out (fun e => h3 (by rw [e]))⟩
     have b3 : (x.f3.toList == y.f3.toList) = false := by rw [bytes_beq]; exact decide_eq_false h3
     have b3' : (x.f3.toList != y.f3.toList) = true := bne_iff_ne.2 (fun e => h3 (bytes_ext.1 e))
     clear h3 HE
     go_wp2
     go_ret
     exact ⟨by rw [hr.out]; rfl, by repeat (first | exact HB.out | apply below_alloc | apply pw_below_drewN | apply below_drew1)⟩
    have b3 : (x.f3.toList == y.f3.toList) = true := by rw [bytes_beq]; exact decide_eq_true h3
    have b3' : (x.f3.toList != y.f3.toList) = false := bne_eq_false_iff_eq.2 (by rw [h3])
    have H3 := Aside0.mk h3
    clear h3
    have hcall := boltingref04_Attrs.eq_calls x.f4 y.f4 A4 c4 B4 d4 wc (Kd.C_below HI4.out HB.out) HL4.out (Kd.C_below HJ4.out HB.out) HM4.out
    by_cases h4 : x.f4 = y.f4
    ·have HN : Aside0 (l0.take (kk + 1) = l1.take (kk + 1)) := ⟨(take_succ_eq hlt hlt1).2 ⟨HA.out, by
      rw [← rd_T43_at l0 kk hlt, ← rd_T43_at l1 kk hlt1, HX.out, HY.out]
      have a0 := H0.out; have a1 := H1.out; have a2 := H2.out; have a3 := H3.out
      cases x; cases y; simp_all⟩⟩
     rw [decide_eq_true h4] at hcall
     clear h4 HE HA H0 H1 H2 H3 HX HY
     go_wp2_with (go_at_call 42; refine hcall.mono ?_; rintro e w' ⟨rfl, hb'⟩)
     go_roundg (l0.length - (kk + 1))
     case measure => omega
     case rel => exact ⟨kk + 1, by omega, by omega, by go_num, HN, ⟨below_step HB.out hb'⟩⟩
    ·have hr : Aside0 (decide (l0 = l1) = false) := ⟨HE.out (fun e => h4 (by rw [e]))⟩
     rw [decide_eq_false h4] at hcall
     clear h4 HE HA H0 H1 H2 H3 HX HY
     go_wp2_with (go_at_call 42; refine hcall.mono ?_; rintro e w' ⟨rfl, hb'⟩)
     go_ret
     exact ⟨by rw [hr.out]; rfl, below_step HB.out hb'⟩
  ·have hltz : ¬ (kk : Int) < (l0.length : Int) := by omega
   obtain rfl : kk = l0.length := by omega
   have hr : Aside0 (decide (l0 = l1) = true) := ⟨decide_eq_true (by have h := HA.out; rw [List.take_length, HL.out, List.take_length] at h; exact h)⟩
   clear HA
   go_wp2
   go_ret
   exact ⟨by rw [hr.out]; rfl, HB.out⟩


/-! ### rows_is: function 44 -/
def rows_is.f (l0 : List (S43)) (a1 : Int) : Option (Bool) := if a1 ≥ 0 then (some (decide (a1 < (l0.length : Int)))) else (some false)
set_option maxHeartbeats 8000000 in
set_option maxRecDepth 100000 in
theorem rows_is.calls (A0 : Option Addr) (c0 : Nat) (l0 : List (S43)) (a1 : Int) (r : Bool) (w : World) (hr0 : Kd.C k43 w A0 l0.length l0) (hc0 : l0.length ≤ c0) (h : rows_is.f l0 a1 = some r) :
  Calls Try.prog 44 #[.slice A0 l0.length c0, .int .i64 a1] w fun e w' => e = .returned (.bool r) ∧ Drawn0 w w' := by
 have HR0 := Aside0.mk hr0
 have HC0 := Aside0.mk hc0
 clear hr0 hc0
 have H : (if a1 ≥ 0 then (some (decide (a1 < (l0.length : Int)))) else (some false)) = some r := h
 clear h
 by_cases c3 : a1 ≥ 0
 ·rw [if_pos c3] at H
  have c3b0 : decide (0 ≤ a1) = true := decide_eq_true c3
  clear c3
  obtain rfl := Option.some.inj H
  go_enter Try.func44, Try.ntmps44
  go_wp2
  go_ret
  exact ⟨by first | rfl | (simp; done) | (congr 1; first | (with_reducible assumption) | (symm; with_reducible assumption)) | (simp [*]; done) | (simp only [ne_nil_empty]; done) | (rw [ne_nil_empty]; rfl), by repeat (first | exact Drawn0.refl _ | apply Drawn0.step)⟩
 ·rw [if_neg c3] at H
  have c3b0 : decide (0 ≤ a1) = false := decide_eq_false c3
  clear c3
  obtain rfl := Option.some.inj H
  go_enter Try.func44, Try.ntmps44
  go_wp2
  go_ret
  exact ⟨by first | rfl | (simp; done) | (congr 1; first | (with_reducible assumption) | (symm; with_reducible assumption)) | (simp [*]; done) | (simp only [ne_nil_empty]; done) | (rw [ne_nil_empty]; rfl), by repeat (first | exact Drawn0.refl _ | apply Drawn0.step)⟩

/-! ### rows_End: function 19 -/
def rows_End.l0 : Nat → List (S43) → Int → Int → Option (Int)
 | 0, _, _, _ => none
 | k + 1, x0, x1, x5 => if x5 < (x0.length : Int) then (if 0 ≤ x5 then (if 0 ≤ x1 then (if x1 < (x0.length : Int) then (if ((rd_T43 x0 x5).f0) > ((rd_T43 x0 x1).f0) then (rows_End.l0 k x0 x1 (wrap64 (x5 + 1))) else (some x5)) else (none)) else (none)) else (none)) else (some x5)
def rows_End.f (k : Nat) (l0 : List (S43)) (a1 : Int) : Option (Int) := (rows_is.f l0 a1).bind fun t132 => (if t132 = true then (rows_End.l0 k l0 a1 (wrap64 (a1 + 1))) else (some 0))
theorem rows_End.mono_l : ∀ k, (∀ y0 y1 y2, LeO (rows_End.l0 k y0 y1 y2) (rows_End.l0 (k + 1) y0 y1 y2))
 | 0 => fun _ _ _ r h => by simp [rows_End.l0] at h
 | k + 1 => by
  have ih0 := rows_End.mono_l k
  ·intro y0 y1 y2
   unfold rows_End.l0
   repeat' first
   | (with_reducible exact ih0 _ _ _)
   | (with_reducible exact LeO.refl _)
   | (with_reducible exact LeO.none _)
   | (with_reducible refine LeO.ite ?_ ?_)
   | (with_reducible refine LeO.bind ?_ (fun _ => ?_))
   | exact ih0 _ _ _
   | exact LeO.none _
   | refine LeO.ite ?_ ?_
   | refine LeO.bind ?_ (fun _ => ?_)
theorem rows_End.mono : ∀ a0 a1 k, LeO (rows_End.f k a0 a1) (rows_End.f (k + 1) a0 a1) := by
 intro a0 a1 k
 have ih0 := rows_End.mono_l k
 unfold rows_End.f
 repeat' first
   | (with_reducible exact ih0 _ _ _)
   | (with_reducible exact LeO.refl _)
   | (with_reducible exact LeO.none _)
   | (with_reducible refine LeO.ite ?_ ?_)
   | (with_reducible refine LeO.bind ?_ (fun _ => ?_))
   | exact ih0 _ _ _
   | exact LeO.none _
   | refine LeO.ite ?_ ?_
   | refine LeO.bind ?_ (fun _ => ?_)
set_option maxHeartbeats 8000000 in
set_option maxRecDepth 100000 in
theorem rows_End.calls (k : Nat) (A0 : Option Addr) (c0 : Nat) (l0 : List (S43)) (a1 : Int) (r : Int) (w : World) (hr0 : Kd.C k43 w A0 l0.length l0) (hc0 : l0.length ≤ c0) (h : rows_End.f k l0 a1 = some r) :
  Calls Try.prog 19 #[.slice A0 l0.length c0, .int .i64 a1] w fun e w' => e = .returned (.int .i64 r) ∧ Drawn0 w w' := by
 have HR0 := Aside0.mk hr0
 have HC0 := Aside0.mk hc0
 clear hr0 hc0
 have H : ((rows_is.f l0 a1).bind fun t132 => (if t132 = true then (rows_End.l0 k l0 a1 (wrap64 (a1 + 1))) else (some 0))) = some r := h
 clear h
 replace H := Option.bind_eq_some_iff.mp H
 obtain ⟨t132, A30, H⟩ := H
 replace H : (if t132 = true then (rows_End.l0 k l0 a1 (wrap64 (a1 + 1))) else (some 0)) = some r := H
 have A3 := Aside0.mk A30
 clear A30
 by_cases c4 : t132 = true
 ·subst c4
  have H1 : (rows_End.l0 k l0 a1 (wrap64 (a1 + 1))) = some r := by rw [if_pos rfl] at H; exact H
  clear H
  have H := H1
  clear H1
  have H' := Aside0.mk H
  clear H
  go_enter Try.func19, Try.ntmps19
  go_wp2_with (first | (go_at_call 44; (with_reducible refine (rows_is.calls _ _ l0 a1 true _ ?side1 ?side2 A3.out).mono ?_); (case side1 => exact aC HR0.out); (case side2 => exact HC0.out); rintro e w' ⟨rfl, ⟨nd, rfl⟩⟩; (try first | exact ⟨rfl, _, World.drewN_drewN _ _ _⟩ | exact ⟨rfl, _, Eq.trans (World.drewN_drewN _ _ _) (congrArg (World.drewN _) (Nat.add_assoc _ _ _))⟩)))
  repeat (go_quiet (first | (go_at_call 44; (with_reducible refine (rows_is.calls _ _ l0 a1 true _ ?side1 ?side2 A3.out).mono ?_); (case side1 => exact aC HR0.out); (case side2 => exact HC0.out); rintro e w' ⟨rfl, ⟨nd, rfl⟩⟩; (try first | exact ⟨rfl, _, World.drewN_drewN _ _ _⟩ | exact ⟨rfl, _, Eq.trans (World.drewN_drewN _ _ _) (congrArg (World.drewN _) (Nat.add_assoc _ _ _))⟩))); try go_wp2_with (first | (go_at_call 44; (with_reducible refine (rows_is.calls _ _ l0 a1 true _ ?side1 ?side2 A3.out).mono ?_); (case side1 => exact aC HR0.out); (case side2 => exact HC0.out); rintro e w' ⟨rfl, ⟨nd, rfl⟩⟩; (try first | exact ⟨rfl, _, World.drewN_drewN _ _ _⟩ | exact ⟨rfl, _, Eq.trans (World.drewN_drewN _ _ _) (congrArg (World.drewN _) (Nat.add_assoc _ _ _))⟩))))
  go_loopg [5] k (fun kq v5 w' => ∃ (x5_1 : Int), v5 = .int .i64 x5_1 ∧ Aside0 (rows_End.l0 kq l0 a1 x5_1 = some r) ∧ Aside0 (kq ≤ k) ∧ Drawn0 w w')
  case atStart => exact ⟨(wrap64 (a1 + 1)), aE, H', ⟨Nat.le_refl _⟩, by repeat (first | exact Drawn0.refl _ | apply Drawn0.step)⟩
  case round =>
   clear H'
   try clear c1
   try clear p2
   try clear c4
   obtain ⟨x5_1, rfl, HA, HK1, ⟨m1, rfl⟩⟩ := hrel
   cases gk with
   | zero => exact absurd HA.out (by simp [rows_End.l0])
   | succ k1 =>
    have H := HA.out
    clear HA
    simp only [rows_End.l0] at H
    by_cases c5 : x5_1 < (l0.length : Int)
    ·rw [if_pos c5] at H
     have c5b0 : decide (x5_1 < (l0.length : Int)) = true := decide_eq_true c5
     clear c5
     by_cases c6 : 0 ≤ x5_1
     ·rw [if_pos c6] at H
      have c6b0 : decide (0 ≤ x5_1) = true := decide_eq_true c6
      clear c6
      by_cases c7 : 0 ≤ a1
      ·rw [if_pos c7] at H
       have c7b0 : decide (0 ≤ a1) = true := decide_eq_true c7
       clear c7
       by_cases c8 : a1 < (l0.length : Int)
       ·rw [if_pos c8] at H
        have c8b0 : decide (a1 < (l0.length : Int)) = true := decide_eq_true c8
        clear c8
        by_cases c9 : ((rd_T43 l0 x5_1).f0) > ((rd_T43 l0 a1).f0)
        ·rw [if_pos c9] at H
         have c9b0 : decide (((rd_T43 l0 a1).f0) < ((rd_T43 l0 x5_1).f0)) = true := decide_eq_true c9
         clear c9
         have H' := Aside0.mk H
         clear H
         have p133 : 0 ≤ (x5_1 : Int) := of_decide_eq_true aA
         have q133 : x5_1 < (l0.length : Int) := of_decide_eq_true aA
         obtain ⟨ad133, A133_4, c133_4, e133, hx133_0, hx133_1, hx133_2, hx133_3, hx133_4, hl133_4, hi133_4⟩ := at_T43 HR0.out x5_1 p133 q133
         cases e133
         have HR133_4 := Aside0.mk hi133_4
         have HC133_4 := Aside0.mk hl133_4
         clear hi133_4 hl133_4
         replace p133 := eq_true p133
         replace q133 := eq_true q133
         have p134 : 0 ≤ (a1 : Int) := of_decide_eq_true aA
         have q134 : a1 < (l0.length : Int) := of_decide_eq_true aA
         obtain ⟨ad134, A134_4, c134_4, e134, hx134_0, hx134_1, hx134_2, hx134_3, hx134_4, hl134_4, hi134_4⟩ := at_T43 HR0.out a1 p134 q134
         obtain rfl : ad133 = ad134 := (by injection e134)
         have HR134_4 := Aside0.mk hi134_4
         have HC134_4 := Aside0.mk hl134_4
         clear hi134_4 hl134_4
         replace p134 := eq_true p134
         replace q134 := eq_true q134
         go_wp2
         repeat (go_quiet (fail); try go_wp2)
         go_roundg k1
         case measure => have := HK1.out; omega
         case rel => exact ⟨(wrap64 (x5_1 + 1)), aE, H', ⟨by have := HK1.out; omega⟩, by repeat (first | exact Drawn0.refl _ | apply Drawn0.step)⟩
        ·rw [if_neg c9] at H
         have c9b0 : decide (((rd_T43 l0 a1).f0) < ((rd_T43 l0 x5_1).f0)) = false := decide_eq_false c9
         clear c9
         obtain rfl := Option.some.inj H
         have p133 : 0 ≤ (x5_1 : Int) := of_decide_eq_true aA
         have q133 : x5_1 < (l0.length : Int) := of_decide_eq_true aA
         obtain ⟨ad133, A133_4, c133_4, e133, hx133_0, hx133_1, hx133_2, hx133_3, hx133_4, hl133_4, hi133_4⟩ := at_T43 HR0.out x5_1 p133 q133
         cases e133
         have HR133_4 := Aside0.mk hi133_4
         have HC133_4 := Aside0.mk hl133_4
         clear hi133_4 hl133_4
         replace p133 := eq_true p133
         replace q133 := eq_true q133
         have p134 : 0 ≤ (a1 : Int) := of_decide_eq_true aA
         have q134 : a1 < (l0.length : Int) := of_decide_eq_true aA
         obtain ⟨ad134, A134_4, c134_4, e134, hx134_0, hx134_1, hx134_2, hx134_3, hx134_4, hl134_4, hi134_4⟩ := at_T43 HR0.out a1 p134 q134
         obtain rfl : ad133 = ad134 := (by injection e134)
         have HR134_4 := Aside0.mk hi134_4
         have HC134_4 := Aside0.mk hl134_4
         clear hi134_4 hl134_4
         replace p134 := eq_true p134
         replace q134 := eq_true q134
         go_wp2
         repeat (go_quiet (fail); try go_wp2)
         go_ret
         exact ⟨by first | rfl | (simp; done) | (congr 1; first | (with_reducible assumption) | (symm; with_reducible assumption)) | (simp [*]; done) | (simp only [ne_nil_empty]; done) | (rw [ne_nil_empty]; rfl), by repeat (first | exact Drawn0.refl _ | apply Drawn0.step)⟩
       ·rw [if_neg c8] at H
        exact absurd H (by simp)
      ·rw [if_neg c7] at H
       exact absurd H (by simp)
     ·rw [if_neg c6] at H
      exact absurd H (by simp)
    ·rw [if_neg c5] at H
     have c5b0 : decide (x5_1 < (l0.length : Int)) = false := decide_eq_false c5
     clear c5
     obtain rfl := Option.some.inj H
     go_wp2
     repeat (go_quiet (fail); try go_wp2)
     go_ret
     exact ⟨by first | rfl | (simp; done) | (congr 1; first | (with_reducible assumption) | (symm; with_reducible assumption)) | (simp [*]; done) | (simp only [ne_nil_empty]; done) | (rw [ne_nil_empty]; rfl), by repeat (first | exact Drawn0.refl _ | apply Drawn0.step)⟩
 ·replace c4 := Bool.eq_false_iff.mpr c4
  subst c4
  have H1 : (some 0) = some r := by rw [if_neg (show ¬ (false = true) by decide)] at H; exact H
  clear H
  have H := H1
  clear H1
  obtain rfl := Option.some.inj H
  go_enter Try.func19, Try.ntmps19
  go_wp2_with (first | (go_at_call 44; (with_reducible refine (rows_is.calls _ _ l0 a1 false _ ?side1 ?side2 A3.out).mono ?_); (case side1 => exact aC HR0.out); (case side2 => exact HC0.out); rintro e w' ⟨rfl, ⟨nd, rfl⟩⟩; (try first | exact ⟨rfl, _, World.drewN_drewN _ _ _⟩ | exact ⟨rfl, _, Eq.trans (World.drewN_drewN _ _ _) (congrArg (World.drewN _) (Nat.add_assoc _ _ _))⟩)))
  repeat (go_quiet (first | (go_at_call 44; (with_reducible refine (rows_is.calls _ _ l0 a1 false _ ?side1 ?side2 A3.out).mono ?_); (case side1 => exact aC HR0.out); (case side2 => exact HC0.out); rintro e w' ⟨rfl, ⟨nd, rfl⟩⟩; (try first | exact ⟨rfl, _, World.drewN_drewN _ _ _⟩ | exact ⟨rfl, _, Eq.trans (World.drewN_drewN _ _ _) (congrArg (World.drewN _) (Nat.add_assoc _ _ _))⟩))); try go_wp2_with (first | (go_at_call 44; (with_reducible refine (rows_is.calls _ _ l0 a1 false _ ?side1 ?side2 A3.out).mono ?_); (case side1 => exact aC HR0.out); (case side2 => exact HC0.out); rintro e w' ⟨rfl, ⟨nd, rfl⟩⟩; (try first | exact ⟨rfl, _, World.drewN_drewN _ _ _⟩ | exact ⟨rfl, _, Eq.trans (World.drewN_drewN _ _ _) (congrArg (World.drewN _) (Nat.add_assoc _ _ _))⟩))))
  go_ret
  exact ⟨by first | rfl | (simp; done) | (congr 1; first | (with_reducible assumption) | (symm; with_reducible assumption)) | (simp [*]; done) | (simp only [ne_nil_empty]; done) | (rw [ne_nil_empty]; rfl), by repeat (first | exact Drawn0.refl _ | apply Drawn0.step)⟩

/-! ### rows_Parent: function 21 -/
def rows_Parent.l0 : Nat → List (S43) → Int → Int → Option (Int)
 | 0, _, _, _ => none
 | k + 1, x0, x1, x5 => if x5 ≥ 0 then (if 0 ≤ x5 then (if x5 < (x0.length : Int) then (if 0 ≤ x1 then (if x1 < (x0.length : Int) then (if ((rd_T43 x0 x5).f0) < ((rd_T43 x0 x1).f0) then (some x5) else (rows_Parent.l0 k x0 x1 (wrap64 (x5 - 1)))) else (none)) else (none)) else (none)) else (none)) else (some (-1))
def rows_Parent.f (k : Nat) (l0 : List (S43)) (a1 : Int) : Option (Int) := (rows_is.f l0 a1).bind fun t135 => (if t135 = true then (rows_Parent.l0 k l0 a1 (wrap64 (a1 - 1))) else (some (-1)))
theorem rows_Parent.mono_l : ∀ k, (∀ y0 y1 y2, LeO (rows_Parent.l0 k y0 y1 y2) (rows_Parent.l0 (k + 1) y0 y1 y2))
 | 0 => fun _ _ _ r h => by simp [rows_Parent.l0] at h
 | k + 1 => by
  have ih0 := rows_Parent.mono_l k
  ·intro y0 y1 y2
   unfold rows_Parent.l0
   repeat' first
   | (with_reducible exact ih0 _ _ _)
   | (with_reducible exact LeO.refl _)
   | (with_reducible exact LeO.none _)
   | (with_reducible refine LeO.ite ?_ ?_)
   | (with_reducible refine LeO.bind ?_ (fun _ => ?_))
   | exact ih0 _ _ _
   | exact LeO.none _
   | refine LeO.ite ?_ ?_
   | refine LeO.bind ?_ (fun _ => ?_)
theorem rows_Parent.mono : ∀ a0 a1 k, LeO (rows_Parent.f k a0 a1) (rows_Parent.f (k + 1) a0 a1) := by
 intro a0 a1 k
 have ih0 := rows_Parent.mono_l k
 unfold rows_Parent.f
 repeat' first
   | (with_reducible exact ih0 _ _ _)
   | (with_reducible exact LeO.refl _)
   | (with_reducible exact LeO.none _)
   | (with_reducible refine LeO.ite ?_ ?_)
   | (with_reducible refine LeO.bind ?_ (fun _ => ?_))
   | exact ih0 _ _ _
   | exact LeO.none _
   | refine LeO.ite ?_ ?_
   | refine LeO.bind ?_ (fun _ => ?_)
set_option maxHeartbeats 8000000 in
set_option maxRecDepth 100000 in
theorem rows_Parent.calls (k : Nat) (A0 : Option Addr) (c0 : Nat) (l0 : List (S43)) (a1 : Int) (r : Int) (w : World) (hr0 : Kd.C k43 w A0 l0.length l0) (hc0 : l0.length ≤ c0) (h : rows_Parent.f k l0 a1 = some r) :
  Calls Try.prog 21 #[.slice A0 l0.length c0, .int .i64 a1] w fun e w' => e = .returned (.int .i64 r) ∧ Drawn0 w w' := by
 have HR0 := Aside0.mk hr0
 have HC0 := Aside0.mk hc0
 clear hr0 hc0
 have H : ((rows_is.f l0 a1).bind fun t135 => (if t135 = true then (rows_Parent.l0 k l0 a1 (wrap64 (a1 - 1))) else (some (-1)))) = some r := h
 clear h
 replace H := Option.bind_eq_some_iff.mp H
 obtain ⟨t135, A30, H⟩ := H
 replace H : (if t135 = true then (rows_Parent.l0 k l0 a1 (wrap64 (a1 - 1))) else (some (-1))) = some r := H
 have A3 := Aside0.mk A30
 clear A30
 by_cases c4 : t135 = true
 ·subst c4
  have H1 : (rows_Parent.l0 k l0 a1 (wrap64 (a1 - 1))) = some r := by rw [if_pos rfl] at H; exact H
  clear H
  have H := H1
  clear H1
  have H' := Aside0.mk H
  clear H
  go_enter Try.func21, Try.ntmps21
  go_wp2_with (first | (go_at_call 44; (with_reducible refine (rows_is.calls _ _ l0 a1 true _ ?side1 ?side2 A3.out).mono ?_); (case side1 => exact aC HR0.out); (case side2 => exact HC0.out); rintro e w' ⟨rfl, ⟨nd, rfl⟩⟩; (try first | exact ⟨rfl, _, World.drewN_drewN _ _ _⟩ | exact ⟨rfl, _, Eq.trans (World.drewN_drewN _ _ _) (congrArg (World.drewN _) (Nat.add_assoc _ _ _))⟩)))
  repeat (go_quiet (first | (go_at_call 44; (with_reducible refine (rows_is.calls _ _ l0 a1 true _ ?side1 ?side2 A3.out).mono ?_); (case side1 => exact aC HR0.out); (case side2 => exact HC0.out); rintro e w' ⟨rfl, ⟨nd, rfl⟩⟩; (try first | exact ⟨rfl, _, World.drewN_drewN _ _ _⟩ | exact ⟨rfl, _, Eq.trans (World.drewN_drewN _ _ _) (congrArg (World.drewN _) (Nat.add_assoc _ _ _))⟩))); try go_wp2_with (first | (go_at_call 44; (with_reducible refine (rows_is.calls _ _ l0 a1 true _ ?side1 ?side2 A3.out).mono ?_); (case side1 => exact aC HR0.out); (case side2 => exact HC0.out); rintro e w' ⟨rfl, ⟨nd, rfl⟩⟩; (try first | exact ⟨rfl, _, World.drewN_drewN _ _ _⟩ | exact ⟨rfl, _, Eq.trans (World.drewN_drewN _ _ _) (congrArg (World.drewN _) (Nat.add_assoc _ _ _))⟩))))
  go_loopg [5] k (fun kq v5 w' => ∃ (x5_1 : Int), v5 = .int .i64 x5_1 ∧ Aside0 (rows_Parent.l0 kq l0 a1 x5_1 = some r) ∧ Aside0 (kq ≤ k) ∧ Drawn0 w w')
  case atStart => exact ⟨(wrap64 (a1 - 1)), aE, H', ⟨Nat.le_refl _⟩, by repeat (first | exact Drawn0.refl _ | apply Drawn0.step)⟩
  case round =>
   clear H'
   try clear c2
   try clear p2
   try clear c4
   obtain ⟨x5_1, rfl, HA, HK1, ⟨m1, rfl⟩⟩ := hrel
   cases gk with
   | zero => exact absurd HA.out (by simp [rows_Parent.l0])
   | succ k1 =>
    have H := HA.out
    clear HA
    simp only [rows_Parent.l0] at H
    by_cases c5 : x5_1 ≥ 0
    ·rw [if_pos c5] at H
     have c5b0 : decide (0 ≤ x5_1) = true := decide_eq_true c5
     clear c5
     by_cases c6 : 0 ≤ x5_1
     ·rw [if_pos c6] at H
      have c6b0 : decide (0 ≤ x5_1) = true := decide_eq_true c6
      clear c6
      by_cases c7 : x5_1 < (l0.length : Int)
      ·rw [if_pos c7] at H
       have c7b0 : decide (x5_1 < (l0.length : Int)) = true := decide_eq_true c7
       clear c7
       by_cases c8 : 0 ≤ a1
       ·rw [if_pos c8] at H
        have c8b0 : decide (0 ≤ a1) = true := decide_eq_true c8
        clear c8
        by_cases c9 : a1 < (l0.length : Int)
        ·rw [if_pos c9] at H
         have c9b0 : decide (a1 < (l0.length : Int)) = true := decide_eq_true c9
         clear c9
         by_cases c10 : ((rd_T43 l0 x5_1).f0) < ((rd_T43 l0 a1).f0)
         ·rw [if_pos c10] at H
          have c10b0 : decide (((rd_T43 l0 x5_1).f0) < ((rd_T43 l0 a1).f0)) = true := decide_eq_true c10
          clear c10
          obtain rfl := Option.some.inj H
          have p136 : 0 ≤ (x5_1 : Int) := of_decide_eq_true aA
          have q136 : x5_1 < (l0.length : Int) := of_decide_eq_true aA
          obtain ⟨ad136, A136_4, c136_4, e136, hx136_0, hx136_1, hx136_2, hx136_3, hx136_4, hl136_4, hi136_4⟩ := at_T43 HR0.out x5_1 p136 q136
          cases e136
          have HR136_4 := Aside0.mk hi136_4
          have HC136_4 := Aside0.mk hl136_4
          clear hi136_4 hl136_4
          replace p136 := eq_true p136
          replace q136 := eq_true q136
          have p137 : 0 ≤ (a1 : Int) := of_decide_eq_true aA
          have q137 : a1 < (l0.length : Int) := of_decide_eq_true aA
          obtain ⟨ad137, A137_4, c137_4, e137, hx137_0, hx137_1, hx137_2, hx137_3, hx137_4, hl137_4, hi137_4⟩ := at_T43 HR0.out a1 p137 q137
          obtain rfl : ad136 = ad137 := (by injection e137)
          have HR137_4 := Aside0.mk hi137_4
          have HC137_4 := Aside0.mk hl137_4
          clear hi137_4 hl137_4
          replace p137 := eq_true p137
          replace q137 := eq_true q137
          go_wp2
          repeat (go_quiet (fail); try go_wp2)
          go_ret
          exact ⟨by first | rfl | (simp; done) | (congr 1; first | (with_reducible assumption) | (symm; with_reducible assumption)) | (simp [*]; done) | (simp only [ne_nil_empty]; done) | (rw [ne_nil_empty]; rfl), by repeat (first | exact Drawn0.refl _ | apply Drawn0.step)⟩
         ·rw [if_neg c10] at H
          have c10b0 : decide (((rd_T43 l0 x5_1).f0) < ((rd_T43 l0 a1).f0)) = false := decide_eq_false c10
          clear c10
          have H' := Aside0.mk H
          clear H
          have p136 : 0 ≤ (x5_1 : Int) := of_decide_eq_true aA
          have q136 : x5_1 < (l0.length : Int) := of_decide_eq_true aA
          obtain ⟨ad136, A136_4, c136_4, e136, hx136_0, hx136_1, hx136_2, hx136_3, hx136_4, hl136_4, hi136_4⟩ := at_T43 HR0.out x5_1 p136 q136
          cases e136
          have HR136_4 := Aside0.mk hi136_4
          have HC136_4 := Aside0.mk hl136_4
          clear hi136_4 hl136_4
          replace p136 := eq_true p136
          replace q136 := eq_true q136
          have p137 : 0 ≤ (a1 : Int) := of_decide_eq_true aA
          have q137 : a1 < (l0.length : Int) := of_decide_eq_true aA
          obtain ⟨ad137, A137_4, c137_4, e137, hx137_0, hx137_1, hx137_2, hx137_3, hx137_4, hl137_4, hi137_4⟩ := at_T43 HR0.out a1 p137 q137
          obtain rfl : ad136 = ad137 := (by injection e137)
          have HR137_4 := Aside0.mk hi137_4
          have HC137_4 := Aside0.mk hl137_4
          clear hi137_4 hl137_4
          replace p137 := eq_true p137
          replace q137 := eq_true q137
          go_wp2
          repeat (go_quiet (fail); try go_wp2)
          go_roundg k1
          case measure => have := HK1.out; omega
          case rel => exact ⟨(wrap64 (x5_1 - 1)), aE, H', ⟨by have := HK1.out; omega⟩, by repeat (first | exact Drawn0.refl _ | apply Drawn0.step)⟩
        ·rw [if_neg c9] at H
         exact absurd H (by simp)
       ·rw [if_neg c8] at H
        exact absurd H (by simp)
      ·rw [if_neg c7] at H
       exact absurd H (by simp)
     ·rw [if_neg c6] at H
      exact absurd H (by simp)
    ·rw [if_neg c5] at H
     have c5b0 : decide (0 ≤ x5_1) = false := decide_eq_false c5
     clear c5
     obtain rfl := Option.some.inj H
     go_wp2
     repeat (go_quiet (fail); try go_wp2)
     go_ret
     exact ⟨by first | rfl | (simp; done) | (congr 1; first | (with_reducible assumption) | (symm; with_reducible assumption)) | (simp [*]; done) | (simp only [ne_nil_empty]; done) | (rw [ne_nil_empty]; rfl), by repeat (first | exact Drawn0.refl _ | apply Drawn0.step)⟩
 ·replace c4 := Bool.eq_false_iff.mpr c4
  subst c4
  have H1 : (some (-1)) = some r := by rw [if_neg (show ¬ (false = true) by decide)] at H; exact H
  clear H
  have H := H1
  clear H1
  obtain rfl := Option.some.inj H
  go_enter Try.func21, Try.ntmps21
  go_wp2_with (first | (go_at_call 44; (with_reducible refine (rows_is.calls _ _ l0 a1 false _ ?side1 ?side2 A3.out).mono ?_); (case side1 => exact aC HR0.out); (case side2 => exact HC0.out); rintro e w' ⟨rfl, ⟨nd, rfl⟩⟩; (try first | exact ⟨rfl, _, World.drewN_drewN _ _ _⟩ | exact ⟨rfl, _, Eq.trans (World.drewN_drewN _ _ _) (congrArg (World.drewN _) (Nat.add_assoc _ _ _))⟩)))
  repeat (go_quiet (first | (go_at_call 44; (with_reducible refine (rows_is.calls _ _ l0 a1 false _ ?side1 ?side2 A3.out).mono ?_); (case side1 => exact aC HR0.out); (case side2 => exact HC0.out); rintro e w' ⟨rfl, ⟨nd, rfl⟩⟩; (try first | exact ⟨rfl, _, World.drewN_drewN _ _ _⟩ | exact ⟨rfl, _, Eq.trans (World.drewN_drewN _ _ _) (congrArg (World.drewN _) (Nat.add_assoc _ _ _))⟩))); try go_wp2_with (first | (go_at_call 44; (with_reducible refine (rows_is.calls _ _ l0 a1 false _ ?side1 ?side2 A3.out).mono ?_); (case side1 => exact aC HR0.out); (case side2 => exact HC0.out); rintro e w' ⟨rfl, ⟨nd, rfl⟩⟩; (try first | exact ⟨rfl, _, World.drewN_drewN _ _ _⟩ | exact ⟨rfl, _, Eq.trans (World.drewN_drewN _ _ _) (congrArg (World.drewN _) (Nat.add_assoc _ _ _))⟩))))
  go_ret
  exact ⟨by first | rfl | (simp; done) | (congr 1; first | (with_reducible assumption) | (symm; with_reducible assumption)) | (simp [*]; done) | (simp only [ne_nil_empty]; done) | (rw [ne_nil_empty]; rfl), by repeat (first | exact Drawn0.refl _ | apply Drawn0.step)⟩

end Go.Proofs.Ytllggaogjcknoaa.QA
