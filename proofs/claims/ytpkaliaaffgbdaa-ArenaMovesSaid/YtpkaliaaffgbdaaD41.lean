/- The law ArenaMoves. -/
import Derived.Test.YtpkaliaaffgbdaaM11
namespace Go.Proofs.Ytpkaliaaffgbdaa.QA
open Go.RowKit Go.Proofs.YtpkaliaaffgbdaaW.PrintWords Go.Proofs.YtpkaliaaffgbdaaW.PrintLast Go.Proofs.YtpkaliaaffgbdaaW.PrintMore
attribute [local go_sem] max2_int min2_int max_two min_two max_three min_three max_four min_four   -- for this text's walks alone
set_option linter.unusedVariables false
set_option linter.unusedSimpArgs false
def reg3_8.T : Bool × List (List Nat × List Nat) := (true, [([], []), ([0], [0]), ([1], [1]), ([2], [2]), ([3], [3]), ([4, 3], [3, 4]), ([3], [3]), ([6, 3], [3, 6]), ([5, 7, 3], [3, 5, 7]), ([3, 8], [3, 8]), ([9, 3], [9]), ([10], [10]), ([10], [10]), ([12, 10], [10, 12]), ([11, 13, 10], [10, 11, 13]), ([14, 10], [10, 14]), ([10], [10]), ([16, 10], [10, 16]), ([15, 17, 10], [10, 15, 17]), ([10, 18], [10, 18]), ([19, 10], [19]), ([20], [20]), ([20], [20]), ([22, 20], [20, 22]), ([21, 23, 20, 20], [20, 21, 23]), ([20], [20]), ([25, 20], [20, 25]), ([24, 26, 20], [20, 24, 26]), ([20, 27], [20, 27]), ([28, 24], [28]), ([29], [29]), ([29], [29]), ([31, 29], [29, 31]), ([30, 32, 29, 29], [29, 30, 32]), ([29], [29]), ([33, 34, 33, 29], [29, 33, 34]), ([35, 29], [29, 35]), ([29, 36], [29, 36])])
def reg3_8.B : List Nat := [0, 1, 3, 7, 15, 31, 15, 79, 255, 511, 1023, 2047, 2047, 6143, 16383, 32767, 2047, 67583, 262143, 524287, 1048575, 2097151, 2097151, 6291455, 16777215, 2097151, 35651583, 134217727, 268435455, 536870911, 1073741823, 1073741823, 3221225471, 8589934591, 1073741823, 34359738367, 68719476735, 137438953471]
theorem reg3_8.tab : rtab .any (opsOf Try.f3 8) = reg3_8.T := by kernel_rfl
theorem reg3_8.bits : waitsOk reg3_8.T.2 reg3_8.B = true := by kernel_rfl

open Go
set_option maxHeartbeats 16000000 in
set_option maxRecDepth 100000 in
theorem ArenaMoves_calls (w : World) (A0 : Option Addr) (c0 : Nat) (l0 : List SOp) (hC : Kd.C kOp w A0 l0.length l0) (hc0 : l0.length ≤ c0) (hs : ∀ a ∈ l0, a.f5.size ≤ 140737488351232) (o : SOp) (A7 : Option Addr) (c7 : Nat) :
    Calls Try.prog 3 #[.slice A0 l0.length c0, vop o A7 c7] w fun e w' => e = .returned (.bool true) ∧ Below w.heap.size w w' := by
  have HP := Aside0.mk (fun ob => played_calls (w.alloc ob) A0 c0 l0 (Kd.C_alloc hC ob) hc0 hs)
  have hbx := blk_new w (.cells #[.int .i64 o.f0, .int .i64 o.f1, .int .i64 o.f2, .int .i64 o.f3, .int .i64 o.f4, .string o.f5, .string o.f6, .slice A7 o.f7.length c7] 25)
  have HW := Aside0.mk (fun ob => below_alloc (Below.refl w.heap.size w) ob)
  have HX0 : Aside0 (∀ W, Below (w.alloc (.cells #[.int .i64 o.f0, .int .i64 o.f1, .int .i64 o.f2, .int .i64 o.f3, .int .i64 o.f4, .string o.f5, .string o.f6, .slice A7 o.f7.length c7] 25)).heap.size (w.alloc (.cells #[.int .i64 o.f0, .int .i64 o.f1, .int .i64 o.f2, .int .i64 o.f3, .int .i64 o.f4, .string o.f5, .string o.f6, .slice A7 o.f7.length c7] 25)) W → W.heap[w.heap.size]? = some (.cells #[.int .i64 o.f0, .int .i64 o.f1, .int .i64 o.f2, .int .i64 o.f3, .int .i64 o.f4, .string o.f5, .string o.f6, .slice A7 o.f7.length c7] 25 (0, 0))) :=
    ⟨fun W hb => (hb.block _ (by rw [World.size_alloc]; omega)).trans hbx⟩
  clear hC hs hbx
  obtain ⟨f0, f1, f2, f3, f4, f5, f6, f7⟩ := o
  unfold vop
  dsimp only at HX0 ⊢
  go_enter Try.func3, Try.ntmps3
  go_upto_region 4 with (first | (go_at_call 10; refine (HP.out _).mono ?_; rintro e w2 ⟨g, rfl, xs, hH, hG⟩))
  obtain ⟨r, hr, _⟩ := rowsR_some hG f2
  obtain ⟨k, q, hq, hkp⟩ := keeps_insert hG f1 f3 f2
  obtain ⟨e1, ys⟩ := q
  have hB0 := HW.out (.cells #[.int .i64 f0, .int .i64 f1, .int .i64 f2, .int .i64 f3, .int .i64 f4, .string f5, .string f6, .slice A7 f7.length c7] 25)
  have HH := Aside0.mk hH.held
  generalize w.alloc (.cells #[.int .i64 f0, .int .i64 f1, .int .i64 f2, .int .i64 f3, .int .i64 f4, .string f5, .string f6, .slice A7 f7.length c7] 25) = W0 at HX0 hB0 HH
  have HB0 := Aside0.mk hB0
  have HG := Aside0.mk hG
  have HR := Aside0.mk hr
  have HQ := Aside0.mk hq
  have HKP := Aside0.mk hkp
  obtain ⟨q0, q1, q2, q3, q4, q5, q6, q7⟩ := cells8 (HX0.out _ HH.out.bel)
  clear hH hG hr hq hkp hB0 HP HW
  have k1 := Aside0.mk trivial
  by_cases he : e1 = 0
  rotate_left
  · have he0 : (e1 != 0) = true := bne_iff_ne.2 he
    clear he
    go_wp2_with (first | (go_at_call 11; clear k1; refine (HH.out.rows (HG.out.fit (by omega)) _ f2 HR.out).mono ?_; rintro e w3 ⟨A1, c1, rfl, _, hH, _⟩; clear HH q0 q1 q2 q3 q4 q5 q6 q7; have HH := Aside0.mk hH; obtain ⟨q0, q1, q2, q3, q4, q5, q6, q7⟩ := cells8 (HX0.out _ hH.bel); clear hH) | (go_at_call 12; refine (HH.out.via (P := fun e => e = .returned (.int .i64 e1)) fun ok hI => Doc_Insert hI (HG.out.fit (by omega)) k f1 f3 f2 (e1, ys) HQ.out).mono ?_; rintro e w4 ⟨rfl, hH, _⟩; have HE := Aside0.mk hH.bel; clear HH hH q0 q1 q2 q3 q4 q5 q6 q7) | (go_at_call 13; refine (fixed_calls _).mono ?_; rintro e w5 ⟨rfl, hB⟩; have HE2 := Aside0.mk (below_step HE.out hB); clear hB))
    go_ret
    exact ⟨rfl, HB0.out.trans (HE2.out.mono HB0.out.size)⟩
  · subst he
    have hM := moved_of HG.out k f1 f3 f2 HQ.out
    obtain ⟨b, hb⟩ := Int.eq_ofNat_of_zero_le hM.lo
    subst hb
    obtain ⟨zs, hz1, hz2, hz3, hz4, hz5, hz6, hz7⟩ := taken_of hM.good hM.inN hM.inP hM.par
    have HM := Aside0.mk hM
    have HZ := Aside0.mk (And.intro hz1 (And.intro hz2 (And.intro hz3 (And.intro hz4 (And.intro hz5 (And.intro hz6 hz7))))))
    clear hM hz1 hz2 hz3 hz4 hz5 hz6 hz7
    go_upto_region 8 with (first | (go_at_call 11; clear k1; refine (HH.out.rows (HG.out.fit (by omega)) _ f2 HR.out).mono ?_; rintro e w3 ⟨A1, c1, rfl, hL, hH, _⟩; clear HH q0 q1 q2 q3 q4 q5 q6 q7; have HL := Aside0.mk hL; have HH := Aside0.mk hH; obtain ⟨q0, q1, q2, q3, q4, q5, q6, q7⟩ := cells8 (HX0.out _ hH.bel); clear hH hL) | (go_at_call 12; refine (HH.out.via (P := fun e => e = .returned (.int .i64 0)) fun ok hI => Doc_Insert hI (HG.out.fit (by omega)) k f1 (b : Int) f2 (0, ys) HQ.out).mono ?_; rintro e w4 ⟨rfl, hH, hs4, hf4⟩; have hL := HL.out.move hs4 (fun k hk _ => hf4 k hk); clear HH HL q0 q1 q2 q3 q4 q5 q6 q7; have HL := Aside0.mk hL; have HH := Aside0.mk hH; obtain ⟨q0, q1, q2, q3, q4, q5, q6, q7⟩ := cells8 (HX0.out _ hH.bel); clear hH hL hs4 hf4) | (go_at_call 14; refine (HH.out.kids (HM.out.good.fit (by omega)) f1).mono ?_; rintro e w5 ⟨Ak, ck, rfl, hK, hH, hB⟩; have hL := (HL.out.below hB).mono (F' := Or2 _ w4 w5) (fun k hk => .inl hk); clear HH HL q0 q1 q2 q3 q4 q5 q6 q7; have HL := Aside0.mk hL; have HK := Aside0.mk hK; have HH := Aside0.mk hH; obtain ⟨q0, q1, q2, q3, q4, q5, q6, q7⟩ := cells8 (HX0.out _ hH.bel); clear hH hL hB hK))
    have hbl : b < (kidsN ys f1).length := by have := HM.out.at_; omega
    have hrow := HM.out.rows _ _ HR.out
    have hrow2 := HZ.out.2.2.2.2.2.1 _ _ hrow
    have hkl := HZ.out.2.2.2.2.2.2
    have hkmax := kidsN_le HM.out.good f1
    have his : rd (kidsN ys f1) (b : Int) = f2 := by
      have h1 := HM.out.is
      rw [Int.toNat_natCast, List.getElem?_eq_getElem hbl] at h1
      rw [rd_at hbl]
      exact Option.some.inj h1
    have HR2 := Aside0.mk hrow
    have HR3 := Aside0.mk hrow2
    have HKL := Aside0.mk hkl
    have HIS := Aside0.mk his
    clear hrow hrow2 hkl his
    generalize kidsN ys f1 = K at HK HKL HIS hbl hkmax ⊢
    obtain ⟨ad, ea, hck⟩ := Kd.at_int (Kd.R_reads' HK.out).2.2 (b : Int) (by omega) (by omega)
    subst ea
    rw [HIS.out, Int.toNat_natCast] at hck
    have d0 : decide ((b : Int) < 0) = false := decide_eq_false (by omega)
    have d1 : decide ((K.length : Int) ≤ (b : Int)) = false := decide_eq_false (by omega)
    have z1 : (b : Int) < (K.length : Int) := by omega
    have d1n : decide (K.length ≤ b) = false := decide_eq_false (by omega)
    have hdr : Below w5.heap.size w5 w5.drew := below_drew1 (Below.refl _ _)
    have HH2 := Aside0.mk (HH.out.quiet0 hdr)
    have HL2 := Aside0.mk (HL.out.below hdr)
    have HK2 := Aside0.mk (HK.out.below hdr)
    have r1 : w5.drew.cell? ⟨w.heap.size, 1, none⟩ = _ := q1
    have r2 : w5.drew.cell? ⟨w.heap.size, 2, none⟩ = _ := q2
    have r3 : w5.drew.cell? ⟨w.heap.size, 3, none⟩ = _ := q3
    have r4 : w5.drew.cell? (ad.add b) = _ := hck
    clear HH HL HK hdr q0 q1 q2 q3 q4 q5 q6 q7 hck
    go_cut [67] (fun v67 wc => v67 = .bool false ∧ Aside0 (RowsIn wc (Or2 (Or2 (fun _ => False) w2 w3) w4 w5) A1 c1 r ∧ Held W0 wc (Or2 (Or2 (fun _ => False) w2 w3) w4 w5) g ys))
    case first =>
      refine start_ (n := 38) (S := (fun w' => w'.cell? ⟨w.heap.size, 1, none⟩ = some (.int .i64 f1) ∧ w'.cell? ⟨w.heap.size, 2, none⟩ = some (.int .i64 f2) ∧ w'.cell? ⟨w.heap.size, 3, none⟩ = some (.int .i64 (b : Int)) ∧ w'.cell? (ad.add b) = some (.int .i64 f2))) (ds := []) #[Z, Z, Z, Z, Z, Z, Z, Z, Z, Z, Z, Z, Z, Z, Z, Z, Z, Z, Z, Z, Z, Z, Z, Z, Z, Z, Z, Z, Z, Z, Z, Z, Z, Z, Z, Z, Z, Z] (by kernel_rfl) rfl rfl ⟨r1, r2, r3, r4⟩ (fun hHeld => ?_); refine with_tabW reg3_8.tab reg3_8.bits (fun HT_ HW_ => ?_)
      clear r1 r2 r3 r4; generalize w5.drew = Wc at HH2 HL2 HK2 hHeld ⊢
      refine pA 0 30 #[Y, Z, Z, Z, Z, Z, Z, Z, Z, Z, Z, Z, Z, Z, Z, Z, Z, Z, Z, Z, Z, Z, Z, Z, Z, Z, Z, Z, Z, Z, Z, Z, Z, Z, Z, Z, Z, Z] HT_ ?_
      refine take_ (i := 1) (N := some 31) (v := ?_) (a' := ?_) #[Y, Y, Z, Z, Z, Z, Z, Z, Z, Z, Z, Z, Z, Z, Z, Z, Z, Z, Z, Z, Z, Z, Z, Z, Z, Z, Z, Z, Z, Z, Z, Z, Z, Z, Z, Z, Z, Z] rfl rfl (take_ofW HT_.out HW_.out (by kernel_rfl)) (fun _ _ _ h => h) (Or.inl ⟨by rfl, ?_⟩) hHeld ?_ ?_
      rotate_left
      · rintro w' hs
        (try obtain ⟨s0, s1⟩ := hs)
        (try obtain ⟨s1, s2⟩ := s1)
        (try obtain ⟨s2, s3⟩ := s2)
        (try obtain ⟨s3, s4⟩ := s3)
        (try obtain ⟨s4, s5⟩ := s4)
        (try obtain ⟨s5, s6⟩ := s5)
        go_simp
        with_reducible rfl
      rotate_left
      · simp only [Act.put, List.setIfInBounds_toArray, List.set_cons_zero, List.set_cons_succ, i64_w, i32_w]
        rfl
      refine pA 2 32 #[Y, Y, Y, Z, Z, Z, Z, Z, Z, Z, Z, Z, Z, Z, Z, Z, Z, Z, Z, Z, Z, Z, Z, Z, Z, Z, Z, Z, Z, Z, Z, Z, Z, Z, Z, Z, Z, Z] HT_ ?_
      refine pA 3 33 #[Y, Y, Y, Y, Z, Z, Z, Z, Z, Z, Z, Z, Z, Z, Z, Z, Z, Z, Z, Z, Z, Z, Z, Z, Z, Z, Z, Z, Z, Z, Z, Z, Z, Z, Z, Z, Z, Z] HT_ ?_
      refine pA 4 34 #[Y, Y, Y, Y, Y, Z, Z, Z, Z, Z, Z, Z, Z, Z, Z, Z, Z, Z, Z, Z, Z, Z, Z, Z, Z, Z, Z, Z, Z, Z, Z, Z, Z, Z, Z, Z, Z, Z] HT_ ?_
      refine take_ (i := 5) (N := some 35) (v := ?_) (a' := ?_) #[Y, Y, Y, Y, Y, Y, Z, Z, Z, Z, Z, Z, Z, Z, Z, Z, Z, Z, Z, Z, Z, Z, Z, Z, Z, Z, Z, Z, Z, Z, Z, Z, Z, Z, Z, Z, Z, Z] rfl rfl (take_ofW HT_.out HW_.out (by kernel_rfl)) (fun _ _ _ h => h) (Or.inl ⟨by rfl, ?_⟩) hHeld ?_ ?_
      rotate_left
      · rintro w' hs
        (try obtain ⟨s0, s1⟩ := hs)
        (try obtain ⟨s1, s2⟩ := s1)
        (try obtain ⟨s2, s3⟩ := s2)
        (try obtain ⟨s3, s4⟩ := s3)
        (try obtain ⟨s4, s5⟩ := s4)
        (try obtain ⟨s5, s6⟩ := s5)
        go_simp
        with_reducible rfl
      rotate_left
      · simp only [Act.put, List.setIfInBounds_toArray, List.set_cons_zero, List.set_cons_succ, i64_w, i32_w]
        rfl
      refine pA 6 36 #[Y, Y, Y, Y, Y, Y, Y, Z, Z, Z, Z, Z, Z, Z, Z, Z, Z, Z, Z, Z, Z, Z, Z, Z, Z, Z, Z, Z, Z, Z, Z, Z, Z, Z, Z, Z, Z, Z] HT_ ?_
      refine pA 7 37 #[Y, Y, Y, Y, Y, Y, Y, Y, Z, Z, Z, Z, Z, Z, Z, Z, Z, Z, Z, Z, Z, Z, Z, Z, Z, Z, Z, Z, Z, Z, Z, Z, Z, Z, Z, Z, Z, Z] HT_ ?_
      refine pA 8 38 #[Y, Y, Y, Y, Y, Y, Y, Y, Y, Z, Z, Z, Z, Z, Z, Z, Z, Z, Z, Z, Z, Z, Z, Z, Z, Z, Z, Z, Z, Z, Z, Z, Z, Z, Z, Z, Z, Z] HT_ ?_
      refine pA 9 39 #[Y, Y, Y, Y, Y, Y, Y, Y, Y, Y, Z, Z, Z, Z, Z, Z, Z, Z, Z, Z, Z, Z, Z, Z, Z, Z, Z, Z, Z, Z, Z, Z, Z, Z, Z, Z, Z, Z] HT_ ?_
      refine pA 10 40 #[Y, Y, Y, Y, Y, Y, Y, Y, Y, Y, Y, Z, Z, Z, Z, Z, Z, Z, Z, Z, Z, Z, Z, Z, Z, Z, Z, Z, Z, Z, Z, Z, Z, Z, Z, Z, Z, Z] HT_ ?_
      refine pA 11 41 #[Y, Y, Y, Y, Y, Y, Y, Y, Y, Y, Y, Y, Z, Z, Z, Z, Z, Z, Z, Z, Z, Z, Z, Z, Z, Z, Z, Z, Z, Z, Z, Z, Z, Z, Z, Z, Z, Z] HT_ ?_
      refine pA 12 42 #[Y, Y, Y, Y, Y, Y, Y, Y, Y, Y, Y, Y, Y, Z, Z, Z, Z, Z, Z, Z, Z, Z, Z, Z, Z, Z, Z, Z, Z, Z, Z, Z, Z, Z, Z, Z, Z, Z] HT_ ?_
      refine take_ (i := 13) (N := some 43) (v := ?_) (a' := ?_) #[Y, Y, Y, Y, Y, Y, Y, Y, Y, Y, Y, Y, Y, Y, Z, Z, Z, Z, Z, Z, Z, Z, Z, Z, Z, Z, Z, Z, Z, Z, Z, Z, Z, Z, Z, Z, Z, Z] rfl rfl (take_ofW HT_.out HW_.out (by kernel_rfl)) (fun _ _ _ h => h) (Or.inl ⟨by rfl, ?_⟩) hHeld ?_ ?_
      rotate_left
      · rintro w' hs
        (try obtain ⟨s0, s1⟩ := hs)
        (try obtain ⟨s1, s2⟩ := s1)
        (try obtain ⟨s2, s3⟩ := s2)
        (try obtain ⟨s3, s4⟩ := s3)
        (try obtain ⟨s4, s5⟩ := s4)
        (try obtain ⟨s5, s6⟩ := s5)
        go_simp
        with_reducible rfl
      rotate_left
      · simp only [Act.put, List.setIfInBounds_toArray, List.set_cons_zero, List.set_cons_succ, i64_w, i32_w]
        rfl
      refine pA 14 44 #[Y, Y, Y, Y, Y, Y, Y, Y, Y, Y, Y, Y, Y, Y, Y, Z, Z, Z, Z, Z, Z, Z, Z, Z, Z, Z, Z, Z, Z, Z, Z, Z, Z, Z, Z, Z, Z, Z] HT_ ?_
      refine take_ (i := 15) (N := some 45) (v := ?_) (a' := ?_) #[Y, Y, Y, Y, Y, Y, Y, Y, Y, Y, Y, Y, Y, Y, Y, Y, Z, Z, Z, Z, Z, Z, Z, Z, Z, Z, Z, Z, Z, Z, Z, Z, Z, Z, Z, Z, Z, Z] rfl rfl (take_ofW HT_.out HW_.out (by kernel_rfl)) (fun _ _ _ h => h) (Or.inl ⟨by rfl, ?_⟩) hHeld ?_ ?_
      rotate_left
      · rintro w' hs
        (try obtain ⟨s0, s1⟩ := hs)
        (try obtain ⟨s1, s2⟩ := s1)
        (try obtain ⟨s2, s3⟩ := s2)
        (try obtain ⟨s3, s4⟩ := s3)
        (try obtain ⟨s4, s5⟩ := s4)
        (try obtain ⟨s5, s6⟩ := s5)
        go_simp
        with_reducible rfl
      rotate_left
      · simp only [Act.put, List.setIfInBounds_toArray, List.set_cons_zero, List.set_cons_succ, i64_w, i32_w]
        rfl
      refine pA 16 46 #[Y, Y, Y, Y, Y, Y, Y, Y, Y, Y, Y, Y, Y, Y, Y, Y, Y, Z, Z, Z, Z, Z, Z, Z, Z, Z, Z, Z, Z, Z, Z, Z, Z, Z, Z, Z, Z, Z] HT_ ?_
      refine take_ (i := 17) (N := some 47) (v := ?_) (a' := ?_) #[Y, Y, Y, Y, Y, Y, Y, Y, Y, Y, Y, Y, Y, Y, Y, Y, Y, Y, Z, Z, Z, Z, Z, Z, Z, Z, Z, Z, Z, Z, Z, Z, Z, Z, Z, Z, Z, Z] rfl rfl (take_ofW HT_.out HW_.out (by kernel_rfl)) (fun _ _ _ h => h) (Or.inl ⟨by rfl, ?_⟩) hHeld ?_ ?_
      rotate_left
      · rintro w' hs
        (try obtain ⟨s0, s1⟩ := hs)
        (try obtain ⟨s1, s2⟩ := s1)
        (try obtain ⟨s2, s3⟩ := s2)
        (try obtain ⟨s3, s4⟩ := s3)
        (try obtain ⟨s4, s5⟩ := s4)
        (try obtain ⟨s5, s6⟩ := s5)
        go_simp
        with_reducible rfl
      rotate_left
      · simp only [Act.put, List.setIfInBounds_toArray, List.set_cons_zero, List.set_cons_succ, i64_w, i32_w]
        rfl
      refine pA 18 48 #[Y, Y, Y, Y, Y, Y, Y, Y, Y, Y, Y, Y, Y, Y, Y, Y, Y, Y, Y, Z, Z, Z, Z, Z, Z, Z, Z, Z, Z, Z, Z, Z, Z, Z, Z, Z, Z, Z] HT_ ?_
      refine pA 19 49 #[Y, Y, Y, Y, Y, Y, Y, Y, Y, Y, Y, Y, Y, Y, Y, Y, Y, Y, Y, Y, Z, Z, Z, Z, Z, Z, Z, Z, Z, Z, Z, Z, Z, Z, Z, Z, Z, Z] HT_ ?_
      refine pA 20 50 #[Y, Y, Y, Y, Y, Y, Y, Y, Y, Y, Y, Y, Y, Y, Y, Y, Y, Y, Y, Y, Y, Z, Z, Z, Z, Z, Z, Z, Z, Z, Z, Z, Z, Z, Z, Z, Z, Z] HT_ ?_
      refine pA 21 51 #[Y, Y, Y, Y, Y, Y, Y, Y, Y, Y, Y, Y, Y, Y, Y, Y, Y, Y, Y, Y, Y, Y, Z, Z, Z, Z, Z, Z, Z, Z, Z, Z, Z, Z, Z, Z, Z, Z] HT_ ?_
      refine pA 22 52 #[Y, Y, Y, Y, Y, Y, Y, Y, Y, Y, Y, Y, Y, Y, Y, Y, Y, Y, Y, Y, Y, Y, Y, Z, Z, Z, Z, Z, Z, Z, Z, Z, Z, Z, Z, Z, Z, Z] HT_ ?_
      refine take_ (i := 23) (N := some 53) (v := ?_) (a' := ?_) #[Y, Y, Y, Y, Y, Y, Y, Y, Y, Y, Y, Y, Y, Y, Y, Y, Y, Y, Y, Y, Y, Y, Y, Y, Z, Z, Z, Z, Z, Z, Z, Z, Z, Z, Z, Z, Z, Z] rfl rfl (take_ofW HT_.out HW_.out (by kernel_rfl)) (fun _ _ _ h => h) (Or.inl ⟨by rfl, ?_⟩) hHeld ?_ ?_
      rotate_left
      · rintro w' hs
        (try obtain ⟨s0, s1⟩ := hs)
        (try obtain ⟨s1, s2⟩ := s1)
        (try obtain ⟨s2, s3⟩ := s2)
        (try obtain ⟨s3, s4⟩ := s3)
        (try obtain ⟨s4, s5⟩ := s4)
        (try obtain ⟨s5, s6⟩ := s5)
        go_simp
        with_reducible rfl
      rotate_left
      · simp only [Act.put, List.setIfInBounds_toArray, List.set_cons_zero, List.set_cons_succ, i64_w, i32_w]
        rfl
      refine pA 25 55 #[Y, Y, Y, Y, Y, Y, Y, Y, Y, Y, Y, Y, Y, Y, Y, Y, Y, Y, Y, Y, Y, Y, Y, Y, Z, Y, Z, Z, Z, Z, Z, Z, Z, Z, Z, Z, Z, Z] HT_ ?_
      refine take_ (i := 26) (N := some 56) (v := ?_) (a' := ?_) #[Y, Y, Y, Y, Y, Y, Y, Y, Y, Y, Y, Y, Y, Y, Y, Y, Y, Y, Y, Y, Y, Y, Y, Y, Z, Y, Y, Z, Z, Z, Z, Z, Z, Z, Z, Z, Z, Z] rfl rfl (take_ofW HT_.out HW_.out (by kernel_rfl)) (fun _ _ _ h => h) (Or.inl ⟨by rfl, ?_⟩) hHeld ?_ ?_
      rotate_left
      · rintro w' hs
        (try obtain ⟨s0, s1⟩ := hs)
        (try obtain ⟨s1, s2⟩ := s1)
        (try obtain ⟨s2, s3⟩ := s2)
        (try obtain ⟨s3, s4⟩ := s3)
        (try obtain ⟨s4, s5⟩ := s4)
        (try obtain ⟨s5, s6⟩ := s5)
        go_simp
        with_reducible rfl
      rotate_left
      · simp only [Act.put, List.setIfInBounds_toArray, List.set_cons_zero, List.set_cons_succ, i64_w, i32_w]
        rfl
      refine one_ (i := 24) (N := some 54) #[Y, Y, Y, Y, Y, Y, Y, Y, Y, Y, Y, Y, Y, Y, Y, Y, Y, Y, Y, Y, Y, Y, Y, Y, Y, Y, Y, Z, Z, Z, Z, Z, Z, Z, Z, Z, Z, Z] rfl rfl (one_of HT_.out (by kernel_rfl)) (by decide) (fun K hK => ?_)
      refine goes_ Try.func15 (by kernel_rfl) rfl #[.pointer (some ⟨g, 0, none⟩), .int .i64 f2] (by rfl) rfl rfl (by simp only [List.map_toArray, List.map_cons, List.map_nil]; rfl) ?_
      refine (HH2.out.parent f2 (someB_inB HM.out.inN) HM.out.par).mono ?_
      rintro e Wd ⟨rfl, hH, hB⟩
      refine ⟨_, rfl, hK.out _ _ ⟨(hB.cell (block_lt_of_cell hHeld.1)).trans hHeld.1, (hB.cell (block_lt_of_cell hHeld.2.1)).trans hHeld.2.1, (hB.cell (block_lt_of_cell hHeld.2.2.1)).trans hHeld.2.2.1, (hB.cell (block_lt_of_cell hHeld.2.2.2)).trans hHeld.2.2.2⟩ (fun hHeld => ?_)⟩
      have HH3 := Aside0.mk hH
      have HL3 := Aside0.mk (HL2.out.below hB)
      clear hH hB hK K HH2 HL2 HK2
      refine pA 27 57 #[Y, Y, Y, Y, Y, Y, Y, Y, Y, Y, Y, Y, Y, Y, Y, Y, Y, Y, Y, Y, Y, Y, Y, Y, Y, Y, Y, Y, Z, Z, Z, Z, Z, Z, Z, Z, Z, Z] HT_ ?_
      refine pA 28 58 #[Y, Y, Y, Y, Y, Y, Y, Y, Y, Y, Y, Y, Y, Y, Y, Y, Y, Y, Y, Y, Y, Y, Y, Y, Y, Y, Y, Y, Y, Z, Z, Z, Z, Z, Z, Z, Z, Z] HT_ ?_
      refine pA 29 59 #[Y, Y, Y, Y, Y, Y, Y, Y, Y, Y, Y, Y, Y, Y, Y, Y, Y, Y, Y, Y, Y, Y, Y, Y, Y, Y, Y, Y, Y, Y, Z, Z, Z, Z, Z, Z, Z, Z] HT_ ?_
      refine pA 30 60 #[Y, Y, Y, Y, Y, Y, Y, Y, Y, Y, Y, Y, Y, Y, Y, Y, Y, Y, Y, Y, Y, Y, Y, Y, Y, Y, Y, Y, Y, Y, Y, Z, Z, Z, Z, Z, Z, Z] HT_ ?_
      refine pA 31 61 #[Y, Y, Y, Y, Y, Y, Y, Y, Y, Y, Y, Y, Y, Y, Y, Y, Y, Y, Y, Y, Y, Y, Y, Y, Y, Y, Y, Y, Y, Y, Y, Y, Z, Z, Z, Z, Z, Z] HT_ ?_
      refine take_ (i := 32) (N := some 62) (v := ?_) (a' := ?_) #[Y, Y, Y, Y, Y, Y, Y, Y, Y, Y, Y, Y, Y, Y, Y, Y, Y, Y, Y, Y, Y, Y, Y, Y, Y, Y, Y, Y, Y, Y, Y, Y, Y, Z, Z, Z, Z, Z] rfl rfl (take_ofW HT_.out HW_.out (by kernel_rfl)) (fun _ _ _ h => h) (Or.inl ⟨by rfl, ?_⟩) hHeld ?_ ?_
      rotate_left
      · rintro w' hs
        (try obtain ⟨s0, s1⟩ := hs)
        (try obtain ⟨s1, s2⟩ := s1)
        (try obtain ⟨s2, s3⟩ := s2)
        (try obtain ⟨s3, s4⟩ := s3)
        (try obtain ⟨s4, s5⟩ := s4)
        (try obtain ⟨s5, s6⟩ := s5)
        go_simp
        with_reducible rfl
      rotate_left
      · simp only [Act.put, List.setIfInBounds_toArray, List.set_cons_zero, List.set_cons_succ, i64_w, i32_w]
        rfl
      refine pA 34 64 #[Y, Y, Y, Y, Y, Y, Y, Y, Y, Y, Y, Y, Y, Y, Y, Y, Y, Y, Y, Y, Y, Y, Y, Y, Y, Y, Y, Y, Y, Y, Y, Y, Y, Z, Y, Z, Z, Z] HT_ ?_
      refine one_ (i := 33) (N := some 63) #[Y, Y, Y, Y, Y, Y, Y, Y, Y, Y, Y, Y, Y, Y, Y, Y, Y, Y, Y, Y, Y, Y, Y, Y, Y, Y, Y, Y, Y, Y, Y, Y, Y, Y, Y, Z, Z, Z] rfl rfl (one_of HT_.out (by kernel_rfl)) (by decide) (fun K hK => ?_)
      refine goes_ Try.func11 (by kernel_rfl) rfl #[.pointer (some ⟨g, 0, none⟩), .int .i64 f2] (by rfl) rfl rfl (by simp only [List.map_toArray, List.map_cons, List.map_nil]; rfl) ?_
      refine (HH3.out.rows (HM.out.good.fit (by omega)) _ f2 HR2.out).mono ?_
      rintro e We ⟨A2, c2, rfl, hR, hH, hB⟩
      refine ⟨_, rfl, hK.out _ _ ⟨(hB.cell (block_lt_of_cell hHeld.1)).trans hHeld.1, (hB.cell (block_lt_of_cell hHeld.2.1)).trans hHeld.2.1, (hB.cell (block_lt_of_cell hHeld.2.2.1)).trans hHeld.2.2.1, (hB.cell (block_lt_of_cell hHeld.2.2.2)).trans hHeld.2.2.2⟩ (fun hHeld => ?_)⟩
      have HH4 := Aside0.mk (hH.less (F' := Or2 (Or2 (fun _ => False) w2 w3) w4 w5) fun _ h => .inl h)
      have HL4 := Aside0.mk (HL3.out.below hB)
      have HN4 := Aside0.mk hR
      clear hH hB hK K HH3 HL3 hR
      refine one_ (i := 35) (N := some 65) #[Y, Y, Y, Y, Y, Y, Y, Y, Y, Y, Y, Y, Y, Y, Y, Y, Y, Y, Y, Y, Y, Y, Y, Y, Y, Y, Y, Y, Y, Y, Y, Y, Y, Y, Y, Y, Z, Z] rfl rfl (one_of HT_.out (by kernel_rfl)) (by decide) (fun K hK => ?_)
      refine goes_ Try.func16 (by kernel_rfl) rfl #[.slice A2 r.length c2, .slice A1 r.length c1] (by rfl) rfl rfl (by simp only [List.map_toArray, List.map_cons, List.map_nil]; rfl) ?_
      refine (rows_same HN4.out HL4.out).mono ?_
      rintro e Wf ⟨rfl, hB⟩
      refine ⟨_, rfl, hK.out _ _ ⟨(hB.cell (block_lt_of_cell hHeld.1)).trans hHeld.1, (hB.cell (block_lt_of_cell hHeld.2.1)).trans hHeld.2.1, (hB.cell (block_lt_of_cell hHeld.2.2.1)).trans hHeld.2.2.1, (hB.cell (block_lt_of_cell hHeld.2.2.2)).trans hHeld.2.2.2⟩ (fun hHeld => ?_)⟩
      have HE := Aside0.mk (And.intro (HL4.out.below hB) (HH4.out.quiet0 hB))
      clear hB hK K HH4 HL4 HN4
      refine pA 36 66 #[Y, Y, Y, Y, Y, Y, Y, Y, Y, Y, Y, Y, Y, Y, Y, Y, Y, Y, Y, Y, Y, Y, Y, Y, Y, Y, Y, Y, Y, Y, Y, Y, Y, Y, Y, Y, Y, Z] HT_ ?_
      refine pA 37 67 #[Y, Y, Y, Y, Y, Y, Y, Y, Y, Y, Y, Y, Y, Y, Y, Y, Y, Y, Y, Y, Y, Y, Y, Y, Y, Y, Y, Y, Y, Y, Y, Y, Y, Y, Y, Y, Y, Y] HT_ ?_
      refine done_ (done_of HT_.out (by kernel_rfl)) ?_
      go_wp2
      go_meet
      case rel => exact ⟨rfl, HE⟩
    case rest =>
      obtain ⟨rfl, HE⟩ := hcut
      have HH := Aside0.mk HE.out.2
      have HL := Aside0.mk HE.out.1
      clear HE HH2 HL2 HK2 r1 r2 r3 r4 d0 d1 d1n
      obtain ⟨q0, q1, q2, q3, q4, q5, q6, q7⟩ := cells8 (HX0.out _ HH.out.bel)
      have k1 := Aside0.mk trivial
      have k2 := Aside0.mk trivial
      go_wp2_with (first | (go_at_call 17; refine (HH.out.via (P := fun e => e = .returned (.int .i64 0)) fun ok hI => by have := Doc_Remove hI (HM.out.good.fit (by omega)) f2; rw [HZ.out.1] at this; exact this).mono ?_; rintro e w6 ⟨rfl, hH, hs6, hf6⟩; have hL := HL.out.move hs6 (fun k hk _ => hf6 k hk); clear HH HL q0 q1 q2 q3 q4 q5 q6 q7; have HL := Aside0.mk hL; have HH := Aside0.mk hH; obtain ⟨q0, q1, q2, q3, q4, q5, q6, q7⟩ := cells8 (HX0.out _ hH.bel); clear hH hL hs6 hf6) | (go_at_call 15; clear k1; refine (HH.out.parent f2 HZ.out.2.2.1 HZ.out.2.2.2.2.1).mono ?_; rintro e w7 ⟨rfl, hH, hB⟩; have hL := HL.out.below hB; clear HH HL q0 q1 q2 q3 q4 q5 q6 q7; have HL := Aside0.mk hL; have HH := Aside0.mk hH; obtain ⟨q0, q1, q2, q3, q4, q5, q6, q7⟩ := cells8 (HX0.out _ hH.bel); clear hH hL hB) | (go_at_call 11; refine (HH.out.rows (HZ.out.2.1.fit (by omega)) _ f2 HR3.out).mono ?_; rintro e w8 ⟨A2, c2, rfl, hR, hH, hB⟩; have hL := HL.out.below hB; clear HH HL q0 q1 q2 q3 q4 q5 q6 q7; have HL := Aside0.mk hL; have HN := Aside0.mk hR; have HH := Aside0.mk hH; obtain ⟨q0, q1, q2, q3, q4, q5, q6, q7⟩ := cells8 (HX0.out _ hH.bel); clear hH hL hB hR) | (go_at_call 16; refine (rows_same HN.out HL.out).mono ?_; rintro e w9 ⟨rfl, hB⟩; have hH := HH.out.quiet0 hB; clear HH HN HL q0 q1 q2 q3 q4 q5 q6 q7; have HH := Aside0.mk hH; obtain ⟨q0, q1, q2, q3, q4, q5, q6, q7⟩ := cells8 (HX0.out _ hH.bel); clear hH hB) | (go_at_call 14; refine (HH.out.kids (HZ.out.2.1.fit (by omega)) f1).mono ?_; rintro e w10 ⟨Az, cz, rfl, _, hH, hB⟩; clear HH q0 q1 q2 q3 q4 q5 q6 q7; have HH := Aside0.mk hH; clear hH hB) | (go_at_call 13; refine (fixed_calls _).mono ?_; rintro e w11 ⟨rfl, hB⟩; have HE2 := Aside0.mk (below_step HH.out.bel hB); clear hB))
      · go_ret
        exact ⟨rfl, HB0.out.trans (HE2.out.mono HB0.out.size)⟩
      · exfalso
        have := HKL.out
        omega
end Go.Proofs.Ytpkaliaaffgbdaa.QA
