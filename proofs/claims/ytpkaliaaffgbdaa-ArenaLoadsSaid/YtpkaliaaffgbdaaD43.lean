/- The law ArenaLoads. -/
import Derived.Test.YtpkaliaaffgbdaaM11
import Derived.Test.YtpkaliaaffgbdaaQAx10
namespace Go.Proofs.Ytpkaliaaffgbdaa.QA
open Go.RowKit Go.Proofs.YtpkaliaaffgbdaaW.PrintWords Go.Proofs.YtpkaliaaffgbdaaW.PrintLast Go.Proofs.YtpkaliaaffgbdaaW.PrintMore
attribute [local go_sem] max2_int min2_int max_two min_two max_three min_three max_four min_four   -- for this text's walks alone
set_option linter.unusedVariables false
set_option linter.unusedSimpArgs false
def reg9_13.T : Bool × List (List Nat × List Nat) := (true, [([], []), ([], []), ([1], [1]), ([2], [2]), ([], []), ([], []), ([4, 5], [4, 5]), ([6], [6]), ([0, 3, 7, 2], [0, 3, 7]), ([8], [8])])
def reg9_13.B : List Nat := [0, 0, 2, 6, 0, 0, 48, 112, 255, 511]
theorem reg9_13.tab : rtab .any (opsOf Try.f9 13) = reg9_13.T := by kernel_rfl
theorem reg9_13.bits : waitsOk reg9_13.T.2 reg9_13.B = true := by kernel_rfl

open Go
section
variable {w W W' : World} {F : Nat → Prop} {g M : Nat} {xs ys : List S79} {l : List S54}
theorem Has.held2 (h : Has w W g xs) : Held w W (fun k => k < w.heap.size) g xs := by
  obtain ⟨ok, h⟩ := h
  exact ⟨ok, h, fun k hk => ⟨Nat.lt_of_lt_of_le hk h.bel.size, fun h2 => by have := h.own k h2; omega⟩⟩
theorem Held.load {A : Option Addr} {c k : Nat} {r : List S79 × List Int × Int} (h : Held w W F g xs) (hL : RowsIn W F A c l) (hx : xs.length < 100000) (hll : l.length < 100000) (hr : loadR xs k l = some r) :
    Calls Try.prog 33 #[.pointer (some ⟨g, 0, none⟩), .slice A l.length c] W fun e w' => ∃ A2 c2, e = .returned (.tuple #[.slice A2 r.2.1.length c2, .int .i64 r.2.2]) ∧ NumsIn w' (fun k => F k ∨ some k = (Value.slice A2 r.2.1.length c2).ownBlock) A2 c2 r.2.1 ∧ Held w w' (fun k => F k ∨ some k = (Value.slice A2 r.2.1.length c2).ownBlock) g r.1 ∧ W.heap.size ≤ w'.heap.size ∧ ∀ k, F k → w'.heap[k]? = W.heap[k]? := by
  obtain ⟨ok, hs, hf⟩ := h
  refine (Doc_Load hs.doc l A c hL.2 (fun k hk => (hf k hk).2) hL.1 hx hll k r hr).mono ?_
  rintro e w' ⟨v, va, ar, ok1, rfl, hI⟩
  obtain ⟨A2, c2, rfl⟩ := Kd.R_slice hI.rts
  obtain ⟨ok', h3, h4⟩ := hs.op hI.to
  refine ⟨A2, c2, rfl, R_put_own (Kd.R_lower hI.rts (Nat.zero_le _)) fun k hk => .inr hk.symm, ⟨ok1, ⟨hI.doc, fun k hk => (hI.new k hk).elim (hs.own k) fun h2 => Nat.le_trans hs.bel.size h2, hI.lt, h3.bel⟩, fun k hk => ?_⟩, hI.mod.size, fun k hk => (h4 k (hf k hk).1 (hf k hk).2).1⟩
  rcases hk with hk | hk
  · exact ⟨Nat.lt_of_lt_of_le (hf k hk).1 hI.mod.size, fun h2 => (hI.new k h2).elim (hf k hk).2 fun h5 => by have := (hf k hk).1; omega⟩
  · exact ⟨Kd.R_lt hI.rts k hk.symm, hI.rts.1 k hk.symm⟩
theorem depth_range : ∀ (l : List S54) (a : Int), DepthOk a l → ∀ x ∈ l, 0 ≤ x.f0 ∧ x.f0 ≤ a + (l.length : Int)
  | [], _, _, _, hx => by cases hx
  | y :: l, a, h, x, hx => by
    obtain ⟨h0, h1, h2⟩ := h
    rw [List.length_cons]
    rcases List.mem_cons.1 hx with rfl | hx
    · omega
    · have := depth_range l _ h2 x hx
      omega
theorem mv_id (hd : DepthOk 0 l) (hl : l.length < 1000000) : l.map (mv 0) = l := by
  have : ∀ x ∈ l, mv 0 x = x := fun x hx => by
    have h := depth_range l 0 hd x hx
    unfold mv
    rw [show wrap64 (x.f0 + 0) = x.f0 by unfold wrap64; omega]
  exact (List.map_congr_left this).trans (List.map_id _)
theorem moved_mono (l : List S54) (d : Int) {r : List S54} {k m : Nat} (h : boltingref04_Moved.f k l d = some r) : boltingref04_Moved.f (k + m) l d = some r := by
  induction m with
  | zero => exact h
  | succ m ih => exact boltingref04_Moved.mono l d (k + m) r ih
theorem join_is {a b : List S54} (ha : DepthOk 0 a) (hb : DepthOk 0 b) (hal : a.length < 100000) (hbl : b.length < 100000) (hax : ∀ x ∈ a, x.f4.length < 4398046511104) (hbx : ∀ x ∈ b, x.f4.length < 4398046511104) : boltingref04_Join.f (a.length + 1 + (b.length + 1)) a b = some (a ++ b) := by
  unfold boltingref04_Join.f
  have h1 := moved_mono a 0 (m := b.length + 1) (moved_is a 0 (by omega) hax)
  have h2 := moved_mono b 0 (m := a.length + 1) (moved_is b 0 (by omega) hbx)
  rw [show b.length + 1 + (a.length + 1) = a.length + 1 + (b.length + 1) by omega] at h2
  rw [h1, Option.bind_some, h2, Option.bind_some, mv_id ha (by omega), mv_id hb (by omega), if_pos (by omega)]
end
set_option maxHeartbeats 16000000 in
set_option maxRecDepth 100000 in
theorem ArenaLoads_calls (w : World) (A0 : Option Addr) (c0 : Nat) (l0 : List SOp) (hC : Kd.C kOp w A0 l0.length l0) (hc0 : l0.length ≤ c0) (hs : ∀ a ∈ l0, a.f5.size ≤ 140737488351232) (A1 : Option Addr) (c1 : Nat) (l1 : List S54) (hC1 : Kd.C k54 w A1 l1.length l1) (hc1 : l1.length ≤ c1) :
    Calls Try.prog 9 #[.slice A0 l0.length c0, .slice A1 l1.length c1] w fun e w' => e = .returned (.bool true) ∧ Below w.heap.size w w' := by
  have HP := Aside0.mk (played_calls w A0 c0 l0 hC hc0 hs)
  have HC1 := Aside0.mk (And.intro hC1 hc1)
  clear hC hs hC1 hc1
  go_enter Try.func9, Try.ntmps9
  go_upto_region 4 with (first | (go_at_call 10; refine HP.out.mono ?_; rintro e w2 ⟨g, rfl, xs, hH, hG⟩))
  have HH := Aside0.mk hH
  have HG := Aside0.mk hG
  have hpos := hG.tree.pos
  have hlen := hG.len
  clear hH hG HP
  go_upto_region 5 with (first | (go_at_call 34; refine (trees_calls w w2 HH.out.bel A1 c1 l1 HC1.out.1 HC1.out.2).mono ?_; rintro q w3 ⟨At, ct, rfl, h1, hF, hB⟩))
  have HT := Aside0.mk (treesL_few l1)
  have HL : Aside0 (RowsIn w3 (Or2 (fun k => k < w.heap.size) w2 w3) At ct (treesL l1)) := ⟨⟨h1, fun W' hW => hF W' fun k hk hl => hW k (hk.imp id fun h => ⟨h, hl⟩) hl⟩⟩
  have HH2 := Aside0.mk (HH.out.held2.quiet hB)
  generalize treesL l1 = l at HT HL ⊢
  have hll : l.length ≤ 12 := HT.out.1
  have hx44 : ∀ x ∈ l, x.f4.length ≤ 44 := fun x hx => by have := HT.out.2 x hx; omega
  obtain ⟨rq, hrq, hkp⟩ := keeps_load HG.out (by omega) l (3 * l.length + 201) (chkV l) (check_is _ (few_of HT.out) _ (by omega)) (fun he => by
    unfold chkV at he
    split at he
    · omega
    · split at he
      · exact depth_right _ 0 (by assumption)
      · omega) hx44
  obtain ⟨ys, roots, e⟩ := rq
  obtain ⟨r0, hr0, hd0, hl0, ha0, _⟩ := rowsR_some HG.out 0
  have HRQ := Aside0.mk hrq
  have HR0 := Aside0.mk hr0
  have HX := Aside0.mk hx44
  have HD0 := Aside0.mk (And.intro hd0 (And.intro hl0 ha0))
  clear HH h1 hF hB hrq hr0 hx44 hd0 hl0 ha0
  have k1 := Aside0.mk trivial
  have k2 := Aside0.mk trivial
  have k3 := Aside0.mk trivial
  by_cases he : e = 0
  rotate_left
  · have hys := hkp.1 he
    dsimp only at hys
    subst hys
    have he0 : (e != 0) = true := bne_iff_ne.2 he
    clear he hkp
    go_wp2_with (first | (go_at_call 11; clear k1; refine (HH2.out.rows (HG.out.fit (by omega)) _ 0 HR0.out).mono ?_; rintro q w4 ⟨A2, c2, rfl, hN, hH, hB⟩; have hL := (HL.out.below hB).mono (F' := Or2 _ w3 w4) (fun k hk => .inl hk); clear HH2 HL; have HL := Aside0.mk hL; have HN := Aside0.mk hN; have HH2 := Aside0.mk hH; clear hH hN hL hB) | (go_at_call 30; clear k3; refine (HH2.out.len rfl).mono ?_; rintro q w5 ⟨rfl, hH, hB⟩; have hL := HL.out.below hB; have hN := HN.out.below hB; clear HH2 HL HN; have HL := Aside0.mk hL; have HN := Aside0.mk hN; have HH2 := Aside0.mk hH; clear hH hN hL hB) | (go_at_call 30; refine (HH2.out.len rfl).mono ?_; rintro q w5 ⟨rfl, hH, hB⟩; have hN := HN.out.below hB; clear HH2 HN; have HN := Aside0.mk hN; have HH2 := Aside0.mk hH; clear hH hN hB) | (go_at_call 33; refine (HH2.out.load HL.out (by omega) (by omega) HRQ.out).mono ?_; rintro q w6 ⟨Ar, cr, rfl, _, hH, hs7, hf7⟩; have hN := HN.out.move hs7 (fun k hk _ => hf7 k hk); clear HH2 HN HL; have HN := Aside0.mk hN; have HH2 := Aside0.mk hH; clear hH hN hs7 hf7) | (go_at_call 11; clear k2; refine (HH2.out.rows (HG.out.fit (by omega)) _ 0 HR0.out).mono ?_; rintro q w7 ⟨A3, c3, rfl, hM, hH, hB⟩; have hN := HN.out.below hB; clear HH2 HN; have HM := Aside0.mk hM; have HN := Aside0.mk hN; have HH2 := Aside0.mk hH; clear hH hN hM hB) | (go_at_call 16; refine (rows_same HM.out HN.out).mono ?_; rintro q w8 ⟨rfl, hB⟩; have HE0 := Aside0.mk (below_step HH2.out.bel hB); clear hB) | (go_at_call 13; refine (fixed_calls _).mono ?_; rintro q w9 ⟨rfl, hB⟩; have HE := Aside0.mk (below_step HE0.out hB); clear hB))
    go_ret
    exact ⟨rfl, HE.out⟩
  · subst he
    have hps := planted_start HG.out (by omega) _ roots HX.out (fun k' hk' => by
      have h1 := HRQ.out
      have h2 : chkV l = 0 := by
        by_cases h4 : chkV l = 0
        · exact h4
        · exfalso
          have h3 := check_is l (few_of HT.out) (3 * l.length + 201) (by omega)
          unfold loadR at h1
          rw [h3] at h1
          dsimp only at h1
          rw [if_pos h4] at h1
          injection h1 with h1
          injection h1 with _ h1
          injection h1 with _ h1
          exact h4 h1
      unfold chkV at h2
      by_cases h5 : bigL l = true
      · rw [if_pos h5] at h2
        omega
      · rw [if_neg h5] at h2
        by_cases h6 : RightL 0 l
        · exact depth_right _ 0 h6
        · rw [if_neg h6] at h2
          omega) HRQ.out
    obtain ⟨hLo, hP0⟩ := hps
    have hGy := hP0.good
    have HLO := Aside0.mk hLo
    have HP0 := Aside0.mk hP0
    have HGY := Aside0.mk hGy
    have hrl := loadR_roots HRQ.out hpos
    clear hLo hP0 hGy hkp
    have HYL := Aside0.mk HLO.out.len
    have hdl : DepthOk 0 l := by
      have h1 := HRQ.out
      have h2 : chkV l = 0 := by
        by_cases h4 : chkV l = 0
        · exact h4
        · exfalso
          have h3 := check_is l (few_of HT.out) (3 * l.length + 201) (by omega)
          unfold loadR at h1
          rw [h3] at h1
          dsimp only at h1
          rw [if_pos h4] at h1
          injection h1 with h1
          injection h1 with _ h1
          injection h1 with _ h1
          exact h4 h1
      unfold chkV at h2
      by_cases h5 : bigL l = true
      · rw [if_pos h5] at h2
        omega
      · rw [if_neg h5] at h2
        by_cases h6 : RightL 0 l
        · exact depth_right _ 0 h6
        · rw [if_neg h6] at h2
          omega
    have HDL := Aside0.mk hdl
    clear hdl
    go_upto_region 10 with (first | (go_at_call 11; clear k1; refine (HH2.out.rows (HG.out.fit (by omega)) _ 0 HR0.out).mono ?_; rintro q w4 ⟨A2, c2, rfl, hN, hH, hB⟩; have hL := (HL.out.below hB).mono (F' := Or2 _ w3 w4) (fun k hk => .inl hk); clear HH2 HL; have HL := Aside0.mk hL; have HN := Aside0.mk hN; have HH2 := Aside0.mk hH; clear hH hN hL hB) | (go_at_call 30; clear k3; refine (HH2.out.len rfl).mono ?_; rintro q w5 ⟨rfl, hH, hB⟩; have hL := HL.out.below hB; have hN := HN.out.below hB; clear HH2 HL HN; have HL := Aside0.mk hL; have HN := Aside0.mk hN; have HH2 := Aside0.mk hH; clear hH hN hL hB) | (go_at_call 33; refine (HH2.out.load HL.out (by omega) (by omega) HRQ.out).mono ?_; rintro q w6 ⟨Ar, cr, rfl, hV, hH, hs7, hf7⟩; have hN := (HN.out.move hs7 (fun k hk _ => hf7 k hk)).mono (F' := fun k => Or2 _ w3 w4 k ∨ some k = (Value.slice Ar roots.length cr).ownBlock) (fun k hk => .inl hk); have hL := (HL.out.move hs7 (fun k hk _ => hf7 k hk)).mono (F' := fun k => Or2 _ w3 w4 k ∨ some k = (Value.slice Ar roots.length cr).ownBlock) (fun k hk => .inl hk); clear HH2 HN HL; have HN := Aside0.mk hN; have HL := Aside0.mk hL; have HV := Aside0.mk hV; have HH2 := Aside0.mk hH; clear hH hN hL hV hs7 hf7))
    obtain ⟨F0, HH2, HN, HL, HV⟩ : ∃ F0, Aside0 (Held w w6 F0 g ys) ∧ Aside0 (RowsIn w6 F0 A2 c2 r0) ∧ Aside0 (RowsIn w6 F0 At ct l) ∧ Aside0 (NumsIn w6 F0 Ar cr roots) := ⟨_, HH2, HN, HL, HV⟩
    go_wp2
    go_loopg [10] roots.length (fun gg v10 W => ∃ (i : Nat) (zs : List S79), i ≤ roots.length ∧ roots.length - i ≤ gg ∧ v10 = .int .i64 (i : Int) ∧ Aside0 (Planted 44 xs ys zs roots i ∧ Held w W F0 g zs ∧ RowsIn W F0 A2 c2 r0 ∧ RowsIn W F0 At ct l ∧ NumsIn W F0 Ar cr roots))
    case atStart => exact ⟨0, ys, Nat.zero_le _, by omega, rfl, ⟨⟨HP0.out, HH2.out, HN.out, HL.out, HV.out⟩⟩⟩
    case round =>
      clear HH2 HN HL HV
      obtain ⟨i, zs, hi, hgg, rfl, HI⟩ := hrel
      by_cases hlt : i < roots.length
      · have z1 : (i : Int) < (roots.length : Int) := by omega
        have hqi : roots[i]? = some (rd roots (i : Int)) := by rw [rd_at hlt, List.getElem?_eq_getElem hlt]
        obtain ⟨k, zs', hins, hpl⟩ := planted_step hpos HLO.out HI.out.1 hqi
        generalize rd roots (i : Int) = q at hqi hins
        have HQI := Aside0.mk hqi
        have HINS := Aside0.mk hins
        have HPL := Aside0.mk hpl
        obtain ⟨ad, ea, hck⟩ := Kd.at_int (Kd.R_reads' HI.out.2.2.2.2).2.2 (i : Int) (by omega) z1
        subst ea
        have hrq : rd roots (i : Int) = q := by rw [rd_at hlt]; rw [List.getElem?_eq_getElem hlt] at hqi; exact Option.some.inj hqi
        rw [hrq, Int.toNat_natCast] at hck
        clear hqi hins hpl hrq
        go_upto_region 13 with (fail)
        have hdr : Below wr.heap.size wr wr.drew := below_drew1 (Below.refl _ _)
        have HI2 := Aside0.mk (show Held w wr.drew F0 g zs ∧ RowsIn wr.drew F0 A2 c2 r0 ∧ RowsIn wr.drew F0 At ct l ∧ NumsIn wr.drew F0 (some ad) cr roots from ⟨HI.out.2.1.quiet0 hdr, HI.out.2.2.1.below hdr, HI.out.2.2.2.1.below hdr, HI.out.2.2.2.2.below hdr⟩)
        have HGZ := Aside0.mk HI.out.1.good
        have r1 : wr.drew.cell? (ad.add i) = _ := hck
        clear HI hdr hck
        refine start_ (n := 10) (S := (fun w' => w'.cell? (ad.add i) = some (.int .i64 q))) (ds := [8]) #[Z, Z, Z, Z, Z, Z, Z, Z, Z, Z] (by kernel_rfl) rfl rfl r1 (fun hHeld => ?_); refine with_tabW reg9_13.tab reg9_13.bits (fun HT_ HW_ => ?_)
        clear r1; generalize wr.drew = Wc at HI2 hHeld ⊢
        refine pA 0 48 #[Y, Z, Z, Z, Z, Z, Z, Z, Z, Z] HT_ ?_
        refine pA 1 49 #[Y, Y, Z, Z, Z, Z, Z, Z, Z, Z] HT_ ?_
        refine pA 4 52 #[Y, Y, Z, Z, Y, Z, Z, Z, Z, Z] HT_ ?_
        refine pA 5 53 #[Y, Y, Z, Z, Y, Y, Z, Z, Z, Z] HT_ ?_
        refine pA 6 54 #[Y, Y, Z, Z, Y, Y, Y, Z, Z, Z] HT_ ?_
        refine take_ (i := 7) (N := some 55) (v := ?_) (a' := ?_) #[Y, Y, Z, Z, Y, Y, Y, Y, Z, Z] rfl rfl (take_ofW HT_.out HW_.out (by kernel_rfl)) (fun _ _ _ h => h) (Or.inl ⟨by rfl, ?_⟩) hHeld ?_ ?_
        rotate_left
        · rintro w' hs
          (try obtain ⟨s0, s1⟩ := hs)
          (try obtain ⟨s1, s2⟩ := s1)
          (try obtain ⟨s2, s3⟩ := s2)
          (try obtain ⟨s3, s4⟩ := s3)
          (try obtain ⟨s4, s5⟩ := s4)
          (try obtain ⟨s5, s6⟩ := s5)
          go_simp
          with_reducible rfl
        rotate_left
        · simp only [Act.put, List.setIfInBounds_toArray, List.set_cons_zero, List.set_cons_succ, i64_w, i32_w]
          rfl
        refine one_ (i := 2) (N := some 50) #[Y, Y, Y, Z, Y, Y, Y, Y, Z, Z] rfl rfl (one_of HT_.out (by kernel_rfl)) (by decide) (fun K hK => ?_)
        refine goes_ Try.func14 (by kernel_rfl) rfl #[.pointer (some ⟨g, 0, none⟩), .int .i64 0] (by rfl) rfl rfl (by simp only [List.map_toArray, List.map_cons, List.map_nil]; rfl) ?_
        refine (HI2.out.1.kids (HGZ.out.fit (by omega)) 0).mono ?_
        rintro e Wd ⟨Ak, ck, rfl, _, hH, hB⟩
        refine ⟨_, rfl, hK.out _ _ ((hB.cell (block_lt_of_cell hHeld)).trans hHeld) (fun hHeld => ?_)⟩
        have HI3 := Aside0.mk (show Held w Wd F0 g zs ∧ RowsIn Wd F0 A2 c2 r0 ∧ RowsIn Wd F0 At ct l ∧ NumsIn Wd F0 (some ad) cr roots from ⟨hH.less fun _ h => .inl h, HI2.out.2.1.below hB, HI2.out.2.2.1.below hB, HI2.out.2.2.2.below hB⟩)
        clear hH hB hK K HI2
        refine pA 3 51 #[Y, Y, Y, Y, Y, Y, Y, Y, Z, Z] HT_ ?_
        refine last_ (i := 8) (N := some 56) #[Y, Y, Y, Y, Y, Y, Y, Y, Y, Z] rfl rfl (one_of HT_.out (by kernel_rfl)) (by decide) (fun K hK => ?_)
        refine goes_ Try.func12 (by kernel_rfl) rfl #[.pointer (some ⟨g, 0, none⟩), .int .i64 0, .int .i64 ((kidsN zs 0).length : Int), .int .i64 q] (by rfl) rfl rfl (by simp only [List.map_toArray, List.map_cons, List.map_nil]; rfl) ?_
        refine (HI3.out.1.via (P := fun e => e = .returned (.int .i64 0)) fun ok hI => Doc_Insert hI (HGZ.out.fit (by omega)) k 0 ((kidsN zs 0).length : Int) q (0, zs') HINS.out).mono ?_
        rintro e We ⟨rfl, hH, hs, hf⟩
        refine ⟨_, rfl, hK.out _ _ ?_⟩
        have HE := Aside0.mk (show Planted 44 xs ys zs' roots (i + 1) ∧ Held w We F0 g zs' ∧ RowsIn We F0 A2 c2 r0 ∧ RowsIn We F0 At ct l ∧ NumsIn We F0 (some ad) cr roots from ⟨HPL.out, hH, HI3.out.2.1.move hs (fun k hk _ => hf k hk), HI3.out.2.2.1.move hs (fun k hk _ => hf k hk), HI3.out.2.2.2.move (fun k hk _ => hf k hk)⟩)
        clear hH hs hf hK K HI3 hHeld
        refine pA 9 57 #[Y, Y, Y, Y, Y, Y, Y, Y, Y, Y] HT_ ?_
        refine done_ (done_of HT_.out (by kernel_rfl)) ?_
        go_wp2
        go_roundg (roots.length - (i + 1))
        case measure => omega
        case rel => exact ⟨i + 1, zs', by omega, by omega, by first | (rw [wrap1 (by omega)]; done) | go_num, HE⟩
      · obtain rfl : i = roots.length := by omega
        have z1 : ¬ (roots.length : Int) < (roots.length : Int) := by omega
        have hend := planted_end HG.out HLO.out HGY.out HI.out.1 HR0.out
        have HEN := Aside0.mk hend
        have HGZ := Aside0.mk HI.out.1.good
        have HZL := Aside0.mk (show (zs.length : Int) = (xs.length : Int) + (l.length : Int) by rw [HI.out.1.len, HYL.out]; omega)
        have HH := Aside0.mk HI.out.2.1
        have HN := Aside0.mk HI.out.2.2.1
        have HL := Aside0.mk HI.out.2.2.2.1
        have HJ := Aside0.mk (join_is HD0.out.1 HDL.out (by have := HD0.out.2.1; omega) (by omega) (fun x hx => by have := HD0.out.2.2 x hx; omega) (fun x hx => by have := HX.out x hx; omega))
        have hw : wrap64 ((xs.length : Int) + (l.length : Int)) = (xs.length : Int) + (l.length : Int) := by unfold wrap64; omega
        clear HI hend
        generalize r0 ++ l = J at HEN HJ
        go_wp2_with (first | (go_at_call 11; refine (HH.out.rows (HGZ.out.fit (by omega)) _ 0 HEN.out).mono ?_; rintro q w7 ⟨A5, c5, rfl, hM, hH, hB⟩; have hL := (HL.out.below hB).mono (F' := Or2 F0 wr w7) (fun k hk => .inl hk); have hN := (HN.out.below hB).mono (F' := Or2 F0 wr w7) (fun k hk => .inl hk); clear HH HL HN; have HL := Aside0.mk hL; have HN := Aside0.mk hN; have HH := Aside0.mk hH; have HM := Aside0.mk hM; clear hH hN hL hM hB) | (go_at_call 35; refine (boltingref04_Join.calls _ A2 c2 r0 At ct l J _ HN.out.now.2 HN.out.now.1 HL.out.now.2 HL.out.now.1 HJ.out).mono ?_; rintro q w8 ⟨v, rfl, hNv, hB⟩; obtain ⟨A6, c6, rfl⟩ := Kd.N_slice hNv; have hM := HM.out.below hB; have hH := HH.out.quiet0 hB; clear HH HM; have HH := Aside0.mk hH; have HM := Aside0.mk hM; have HV := Aside0.mk (show RowsIn w8 _ A6 c6 J from ⟨(Kd.N_reads' hNv).2.1, Kd.N_F hNv⟩); clear hH hM hNv hB) | (go_at_call 16; refine (rows_same HM.out HV.out).mono ?_; rintro q w9 ⟨rfl, hB⟩; have hH := HH.out.quiet0 hB; clear HH; have HH := Aside0.mk hH; clear hH hB) | (go_at_call 30; refine (HH.out.len HZL.out).mono ?_; rintro q w10 ⟨rfl, hH, hB⟩; clear HH; have HH := Aside0.mk hH; clear hH hB) | (go_at_call 13; refine (fixed_calls _).mono ?_; rintro q w11 ⟨rfl, hB⟩; have HE := Aside0.mk (below_step HH.out.bel hB); clear hB))
        go_ret
        exact ⟨rfl, HE.out⟩
end Go.Proofs.Ytpkaliaaffgbdaa.QA
