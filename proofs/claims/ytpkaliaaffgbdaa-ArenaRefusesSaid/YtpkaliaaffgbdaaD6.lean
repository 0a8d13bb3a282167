/- The document of package arena: slices.Delete, slices.IndexFunc at attributes; Drop. -/
import Derived.Test.YtpkaliaaffgbdaaD5
namespace Go.Proofs.Ytpkaliaaffgbdaa.QA
open Go.RowKit Go.Proofs.YtpkaliaaffgbdaaW.PrintWords Go.Proofs.YtpkaliaaffgbdaaW.PrintLast Go.Proofs.YtpkaliaaffgbdaaW.PrintMore
attribute [local go_sem] max2_int min2_int max_two min_two max_three min_three max_four min_four   -- for this text's walks alone
set_option linter.unusedVariables false
set_option linter.unusedSimpArgs false
def reg62_5.T : Bool × List (List Nat × List Nat) := (true, [([], []), ([], []), ([0, 1], [0, 1]), ([], []), ([], []), ([3, 4], [3, 4]), ([2, 5], [2, 5]), ([6, 6, 0, 1, 2, 3, 4, 5, 6], [0, 3, 6])])
def reg62_5.B : List Nat := [0, 0, 3, 0, 0, 24, 63, 127]
theorem reg62_5.tab : rtab .any (opsOf Try.f62 5) = reg62_5.T := by kernel_rfl
theorem reg62_5.bits : waitsOk reg62_5.T.2 reg62_5.B = true := by kernel_rfl

open Go
section
variable {W w : World} {ok okn : Nat → Prop} {g : Nat} {xs : List S79}
theorem slice_inj {G G' n n' c c' : Nat} {t t' : TypeId} {f f' : Nat × Nat} (e : some (Obj.cells #[Value.slice (some ⟨G, 0, none⟩) n c] t f) = some (Obj.cells #[Value.slice (some ⟨G', 0, none⟩) n' c'] t' f')) : G = G' ∧ n = n' ∧ c = c' := by
  injection e with e
  injection e with e _ _
  injection e with e
  injection e with e
  injection e with e e1 e2
  injection e with e
  injection e with e _
  exact ⟨e, e1, e2⟩
theorem IsDoc.attrs2 (h : IsDoc w ok g xs) (i : Nat) (hi : i < xs.length) : ∃ G c v4, w.heap[g]? = some (.cells #[.slice (some ⟨G, 0, none⟩) xs.length c] 82 (0, 0)) ∧ w.cell? ⟨G, i * 7 + 4, none⟩ = some v4 ∧
    (∀ j, w.frozen? ⟨G, i * 7 + j, none⟩ = false) ∧ Kd.R k52 52 w 0 (fun k => some k = v4.ownBlock) v4 xs[i].f0.f4 ∧ v4.ownBlock ≠ some G ∧ G < w.heap.size ∧
    (∀ W, Below w.heap.size w W → ∀ W1 v l, W.grownBy W1 v4.ownBlock → Kd.R k52 52 W1 0 (fun k => some k = v4.ownBlock ∨ W.heap.size ≤ k) v l → To w (W1.setCell ⟨G, i * 7 + 4, none⟩ v) ok g (xs.set i (withAttrs xs[i] l))) := by
  obtain ⟨G, c, v4, hb, hl, h4, hf, hR, hv4, hG, hGg, hGl, _, _⟩ := h.attrs i hi
  refine ⟨G, c, v4, hb, h4, hf, hR, fun e => (hv4 G e).2.2 rfl, hGl, fun W hB W1 v l hg hR1 => ?_⟩
  obtain ⟨G', c', v4', hb', hl', h4', hf', hR', hv4', hG', hGg', hGl', _, hback⟩ := (h.below hB).attrs i hi
  obtain ⟨rfl, _, _⟩ := slice_inj (hb'.symm.trans ((hB.block g h.lt).trans hb))
  have e := h4'.symm.trans ((hB.cell (p := ⟨G', i * 7 + 4, none⟩) hGl).trans h4)
  injection e with e
  subst e
  obtain ⟨hI, hM⟩ := hback W1 v l hg hR1
  exact To.mk hI (fun k hk => hk.imp id fun h => Nat.le_trans hB.size h) ((Mod.of_below hB).trans hM fun k hk => .inl hk)
theorem grown_setCells {W1 : World} {G : Nat} (h : W.grownBy W1 (some G)) (o : Nat) (vs : List Value) : W.grownBy (W1.setCells G o vs) (some G) := by
  have h1 := setCells_same G vs o W1
  exact ⟨h1.1.trans h.os, h1.2.1.trans h.tape, h1.2.2.1.trans h.output, by rw [h1.2.2.2]; exact h.size, fun k hk hn => (setCells_far vs o k fun e => hn (by rw [e])).trans (h.block k hk hn)⟩
/-- The place of the first attribute of a name, from place i on; -1: none. -/
def idxA (n : ByteArray) : Nat → List S52 → Int
  | _, [] => -1
  | i, x :: l => if x.f0 = n then (i : Int) else idxA n (i + 1) l
theorem drop1_calls (x : S52) (n : ByteArray) (B : Nat) (w : World) (hB : w.cell? ⟨B, 0, none⟩ = some (.string n)) :
    Calls Try.prog 61 #[.agg #[.string x.f0, .string x.f1], .pointer (some ⟨B, 0, none⟩)] w fun e w' => e = .returned (.bool (decide (x.f0 = n))) ∧ Below w.heap.size w w' := by
  have hl := block_lt_of_cell hB
  rw [← bytes_beq]
  go_enter Try.func61, Try.ntmps61
  go_wp2
  go_ret
  exact ⟨rfl, by repeat (first | exact Below.refl _ _ | apply below_alloc | apply pw_below_drewN | apply below_drew1)⟩
set_option maxHeartbeats 2000000 in
set_option maxRecDepth 100000 in
theorem idxA_calls (n : ByteArray) (B : Nat) (A0 : Option Addr) (c0 : Nat) (l0 : List S52) (w : World) (hr0 : Kd.C k52 w A0 l0.length l0) (hc0 : l0.length ≤ c0) (hn : w.cell? ⟨B, 0, none⟩ = some (.string n)) :
    Calls Try.prog 60 #[.slice A0 l0.length c0, .func (.func 61) #[] #[.pointer (some ⟨B, 0, none⟩)]] w fun e w' => e = .returned (.int .i64 (idxA n 0 l0)) ∧ Below w.heap.size w w' := by
  have hm := Kd.C_max hr0
  have HR0 := Aside0.mk hr0
  have HC0 := Aside0.mk hc0
  have HN := Aside0.mk hn
  have hBl := block_lt_of_cell hn
  clear hr0 hc0 hn
  have HB := Aside0.mk (Below.refl w.heap.size w)
  go_enter Try.func60, Try.ntmps60
  go_wp2
  go_loopg [5, 8] l0.length (fun gg v5 v8 w' => ∃ kk : Nat, kk ≤ l0.length ∧ l0.length - kk ≤ gg ∧ v8 = .int .i64 kk ∧ Aside0 (idxA n kk (l0.drop kk) = idxA n 0 l0) ∧ Aside0 (Below w.heap.size w w'))
  case atStart => exact ⟨0, Nat.zero_le _, by omega, rfl, ⟨rfl⟩, HB⟩
  case round =>
    clear HB
    obtain ⟨kk, hkk, hg, rfl, HA, HB⟩ := hrel
    by_cases hlt : kk < l0.length
    · have hltz : (kk : Int) < (l0.length : Int) := by omega
      have hd : l0.drop kk = rd_T52 l0 kk :: l0.drop (kk + 1) := by
        rw [List.drop_eq_getElem_cons hlt]
        simp [rd_T52, List.getElem?_eq_getElem hlt]
      obtain ⟨ad, e4, hx0, hx1⟩ := at_T52 HR0.out (kk : Int) (by omega) hltz
      cases e4
      simp only [Int.toNat_natCast] at hx0 hx1
      replace hx0 := (HB.out.cell (World.block_lt_of_cell? w _ hx0)).trans hx0
      replace hx1 := (HB.out.cell (World.block_lt_of_cell? w _ hx1)).trans hx1
      have HA' := HA.out
      rw [hd] at HA'
      clear hd
      have hcall := drop1_calls (rd_T52 l0 kk) n B wr ((HB.out.cell (p := ⟨B, 0, none⟩) hBl).trans HN.out)
      by_cases hq : (rd_T52 l0 kk).f0 = n
      · rw [decide_eq_true hq] at hcall
        have HA2 : Aside0 ((kk : Int) = idxA n 0 l0) := ⟨by rw [← HA']; simp [idxA, hq]⟩
        clear HA' hq
        go_wp2_with (go_at_call 61; refine hcall.mono ?_; rintro e w' ⟨rfl, hb'⟩)
        go_ret
        exact ⟨by rw [← HA2.out]; rfl, below_step HB.out hb'⟩
      · rw [decide_eq_false hq] at hcall
        have HA2 : Aside0 (idxA n (kk + 1) (l0.drop (kk + 1)) = idxA n 0 l0) := ⟨by rw [← HA']; simp [idxA, hq]⟩
        clear HA' hq
        go_wp2_with (go_at_call 61; refine hcall.mono ?_; rintro e w' ⟨rfl, hb'⟩)
        go_roundg (l0.length - (kk + 1))
        case measure => omega
        case rel => exact ⟨kk + 1, by omega, by omega, by go_num, HA2, ⟨below_step HB.out hb'⟩⟩
    · have hltz : ¬ (kk : Int) < (l0.length : Int) := by omega
      obtain rfl : kk = l0.length := by omega
      have HA2 : Aside0 (-1 = idxA n 0 l0) := ⟨by rw [← HA.out, List.drop_length]; rfl⟩
      clear HA
      go_wp2
      go_ret
      exact ⟨by rw [← HA2.out]; rfl, HB.out⟩
/-- clear of one attribute. -/
theorem run_clear_attr (w : World) (ty : TypeId) (b o c : Nat) (h0 : (w.cell? ⟨b, o, none⟩).isSome = true) (h1 : (w.cell? ⟨b, o + 1, none⟩).isSome = true) (f0 : w.frozen? ⟨b, o, none⟩ = false) (f1 : w.frozen? ⟨b, o + 1, none⟩ = false) :
    (Builtin.clear_ #[50] ty #[.slice (some ⟨b, o, none⟩) 1 c]).run Try.prog w = .ok (.tuple #[]) (w.setCells b o [.string (⟨#[]⟩ : ByteArray), .string (⟨#[]⟩ : ByteArray)]) := by
  have hst := run_storeCells_cells (P := Try.prog) b o [.string (⟨#[]⟩ : ByteArray), .string (⟨#[]⟩ : ByteArray)] 0 w (by
    intro j hj
    match j, hj with
    | 0, _ => exact h0
    | 1, _ => exact h1
    | j + 2, hj => exact absurd hj (by show ¬ j + 2 < 2; omega)) (by
    intro j hj
    match j, hj with
    | 0, _ => exact f0
    | 1, _ => exact f1
    | j + 2, hj => exact absurd hj (by show ¬ j + 2 < 2; omega)) (by simp [Value.oneCell'])
  simp only [Nat.add_zero] at hst
  have hv := Try.zeroValue52
  have ht := Try.underlying50
  simp [Builtin.clear_, run_underlying ht, hv, Builtin.zeroCells, Value.cells]
  show ((Sem.run Try.prog (storeCells ⟨b, o, none⟩ [.string (⟨#[]⟩ : ByteArray), .string (⟨#[]⟩ : ByteArray)]) w).andThen _) = _
  rw [hst]
  rfl
set_option maxHeartbeats 4000000 in
set_option maxRecDepth 100000 in
theorem attr_delete (G c : Nat) (l : List S52) (j : Nat) (hj : j < l.length) (w : World) (hR : Kd.R k52 52 w 0 ok (.slice (some ⟨G, 0, none⟩) l.length c) l) (hl : l.length < 1000000) :
    Calls Try.prog 62 #[.slice (some ⟨G, 0, none⟩) l.length c, .int .i64 j, .int .i64 (j + 1)] w fun e w' => e = .returned (.slice (some ⟨G, 0, none⟩) (l.length - 1) c) ∧ Kd.R k52 52 w' 0 ok (.slice (some ⟨G, 0, none⟩) (l.length - 1) c) (l.eraseIdx j) ∧ w.grownBy w' (some G) := by
  have hrr := Kd.R_reads' hR
  have hlc := hrr.2.1
  have hjz : (j : Int) < (l.length : Int) := by omega
  have hj1 : (j : Int) + 1 ≤ (l.length : Int) := by omega
  have hj2 : ((j : Int) == (j : Int) + 1) = false := beq_eq_false_iff_ne.2 (by omega)
  have hjc : j ≤ c := by omega
  have hj0 : 0 ≤ (j : Int) + 1 := by omega
  have HR := Aside0.mk hR
  clear hR hrr
  go_enter Try.func62, Try.ntmps62
  go_wp2
  refine start_ (n := 8) (S := (fun _ => True)) (ds := [6]) #[Z, Z, Z, Z, Z, Z, Z, Z] (by kernel_rfl) rfl rfl trivial (fun hHeld => ?_); refine with_tabW reg62_5.tab reg62_5.bits (fun HT_ HW_ => ?_)
  have HR3 := Aside0.mk (Kd.R_drew HR.out); have HGr := Aside0.mk (show ∀ W1, w.drew.grownBy W1 (some G) → w.grownBy W1 (some G) from fun W1 h => ⟨h.os, h.tape, h.output, h.size, h.block⟩); generalize w.drew = W3 at HR3 HGr ⊢; clear HR
  refine pA 0 20 #[Y, Z, Z, Z, Z, Z, Z, Z] HT_ ?_
  refine pA 1 21 #[Y, Y, Z, Z, Z, Z, Z, Z] HT_ ?_
  refine pA 2 22 #[Y, Y, Y, Z, Z, Z, Z, Z] HT_ ?_
  refine pA 3 23 #[Y, Y, Y, Y, Z, Z, Z, Z] HT_ ?_
  refine pA 4 24 #[Y, Y, Y, Y, Y, Z, Z, Z] HT_ ?_
  refine pA 5 25 #[Y, Y, Y, Y, Y, Y, Z, Z] HT_ ?_
  refine last_ (i := 6) (N := some 26) #[Y, Y, Y, Y, Y, Y, Y, Z] rfl rfl (one_of HT_.out (by kernel_rfl)) (by decide) (fun K hK => ?_)
  refine Kd.R_delete_step k52 (w0 := W3) 0 (by rfl) (.tmp 22) (.tmp 25) 50 52 rfl Try.underlying50 (by kernel_rfl) (g := G) (n := l.length) (c := c) (k := j) rfl rfl ?_ rfl HR3.out hj (Below.refl _ _) (Nat.zero_le _) ?_
  · split
    · rfl
    · simp only [Option.map_some, add_plain]
      rfl
  intro w5 hR5 _ hg5
  refine hK.out _ _ ?_
  clear hK K
  refine pA 7 0 #[Y, Y, Y, Y, Y, Y, Y, Y] HT_ ?_
  refine done_ (done_of HT_.out (by kernel_rfl)) ?_
  obtain ⟨m, hm⟩ : ∃ m, l.length - 1 = m := ⟨_, rfl⟩
  rw [hm] at hR5
  have hm1 : (m : Int) ≤ (l.length : Int) := by omega
  have hm2 : m ≤ l.length := by omega
  have hm3 : ¬ c = m := by omega
  have hm4 : l.length - m = 1 := by omega
  have hm5 : (m : Int) < (l.length : Int) := by omega
  have hcc : ∀ q, q < 2 → (w5.cell? ⟨G, m * 2 + q, none⟩).isSome = true ∧ w5.frozen? ⟨G, m * 2 + q, none⟩ = false := by
    obtain ⟨_, inner, ⟨_, hown⟩, _⟩ := hR5
    intro q hq
    rcases hown with ⟨hv, _⟩ | ⟨g', c', cur, hv, hbg, hh, hnc, hcm, hcs, ht⟩
    · cases hv
    injection hv with hv h1 h2
    injection hv with hv
    injection hv with hv _
    subst hv h2
    refine ⟨?_, blk_frozen hh _⟩
    rw [show w5.cell? ⟨G, m * 2 + q, none⟩ = cur[m * 2 + q]? from blk_cell hh _, Array.getElem?_eq_getElem (by have : cur.size = c * 2 := hcs; omega)]
    rfl
  have hclr := fun ty => run_clear_attr w5 ty G (m * 2) (c - m) (by have := (hcc 0 (by omega)).1; simpa using this) (hcc 1 (by omega)).1 (by have := (hcc 0 (by omega)).2; simpa using this) (hcc 1 (by omega)).2
  have HR5 := Aside0.mk hR5
  have HG5 := Aside0.mk hg5
  clear hR5 hg5 hcc HR3
  rw [hm]
  go_wp2
  all_goals
    go_ret
    refine ⟨rfl, ?_, HGr.out _ (grown_setCells HG5.out _ _)⟩
    have h9 := R_tail HR5.out (m * 2) [.string (⟨#[]⟩ : ByteArray), .string (⟨#[]⟩ : ByteArray)] (Nat.le_refl _) (by show m * 2 + 2 ≤ _ * 2; omega)
    first
    | exact h9
    | (rename c = j + 1 => e; rw [← e]; exact h9)
theorem idxA_lt (n : ByteArray) : ∀ (l : List S52) (i : Nat), idxA n i l = -1 ∨ ∃ j, j < l.length ∧ idxA n i l = ((i + j : Nat) : Int)
  | [], _ => .inl rfl
  | x :: l, i => by
    unfold idxA
    split
    · exact .inr ⟨0, by simp, rfl⟩
    · rcases idxA_lt n l (i + 1) with h | ⟨j, hj, h⟩
      · exact .inl h
      · exact .inr ⟨j + 1, by simpa using hj, by rw [h]; congr 1; omega⟩
def dropR (xs : List S79) (n : Int) (name : ByteArray) : Int × List S79 :=
  if elemB xs n = false then (110, xs) else
  if idxA name 0 (rd_T79 xs n).f0.f4 < 0 then (1, xs) else
  (0, xs.set n.toNat (withAttrs (rd_T79 xs n) ((rd_T79 xs n).f0.f4.eraseIdx (idxA name 0 (rd_T79 xs n).f0.f4).toNat)))
set_option maxHeartbeats 4000000 in
set_option maxRecDepth 100000 in
theorem Doc_Drop (h : IsDoc w ok g xs) (hF : Fit xs) (n : Int) (name : ByteArray) : Calls Try.prog 27 #[.pointer (some ⟨g, 0, none⟩), .int .i64 n, .string name] w fun e w' => e = .returned (.int .i64 (dropR xs n name).1) ∧ To w w' ok g (dropR xs n name).2 := by
  have hB0 := below_alloc (Below.refl w.heap.size w) (.cells #[.string name] 9)
  have hE := Doc_element (h.below hB0) n
  unfold dropR elemB
  have HI := Aside0.mk h
  by_cases c0 : 0 < n ∧ n < (xs.length : Int) ∧ (rd_T79 xs n).f0.f1 = 0
  rotate_left
  · rw [decide_eq_false c0] at hE ⊢
    rw [if_pos rfl]
    clear h
    go_enter Try.func27, Try.ntmps27
    go_wp2_with (first | (go_at_call 47; refine hE.mono ?_; rintro e w' ⟨rfl, ⟨m, rfl⟩⟩))
    go_ret
    exact ⟨rfl, To.quiet HI.out (by repeat (first | exact Below.refl _ _ | apply pw_below_drewN | apply below_alloc))⟩
  rw [decide_eq_true c0] at hE ⊢
  rw [if_neg (by decide)]
  obtain ⟨i, rfl⟩ := Int.eq_ofNat_of_zero_le (show 0 ≤ n by omega)
  have hi : i < xs.length := by omega
  have hz : (i : Int) < (xs.length : Int) := by omega
  rw [nd_at i hi, Int.toNat_natCast]
  have hla := hF.attrs i hi
  obtain ⟨G, c, v4, hb, h4, hf, hR, hne, hGl, hback⟩ := h.attrs2 i hi
  obtain ⟨A4, c4, rfl⟩ := Kd.R_slice hR
  have hc := doc_cell hb
  have hgl := blk_lt hb
  have hcl := (Kd.R_reads' hR).2.1
  generalize hattr : xs[i].f0.f4 = l at hR hla h4 hback hcl hne ⊢
  have hidx := fun m => idxA_calls name w.heap.size A4 c4 l ((w.alloc (.cells #[.string name] 9)).drewN m) (Kd.C_drewN (Kd.C_alloc (Kd.R_reads' hR).2.2 _) m) hcl (by simp)
  have HBK := Aside0.mk hback
  have HR := Aside0.mk hR
  have HNE := Aside0.mk hne
  have HAL := Aside0.mk (idxA_lt name l 0)
  clear h hF hb hback hR c0 hB0 hne
  generalize idxA name 0 l = ix at hidx HAL ⊢
  rcases HAL.out with rfl | ⟨j, hj, rfl⟩
  · rw [if_pos (by decide)]
    go_enter Try.func27, Try.ntmps27
    go_wp2_with (first | (go_at_call 47; refine hE.mono ?_; rintro e w' ⟨rfl, ⟨m, rfl⟩⟩) | (go_at_call 60; refine (hidx _).mono ?_; rintro e w' ⟨rfl, hB⟩; have HB := Aside0.mk hB; clear hB))
    go_ret
    exact ⟨rfl, To.quiet HI.out (Below.trans (by repeat (first | exact Below.refl _ _ | apply pw_below_drewN | apply below_alloc)) (HB.out.mono (by simp)))⟩
  · rw [Nat.zero_add] at hidx ⊢
    have hj0 : ¬ (j : Int) < 0 := by omega
    rw [if_neg hj0, Int.toNat_natCast]
    have hj2 := up1 (i := j) (by omega)
    clear HAL
    obtain ⟨g4, cap, e, _, hg4, _⟩ := Kd.R_form HR.out (by omega)
    injection e with e _ e2
    subst e
    subst e2
    have HBM := Aside0.mk (show ∀ m W, Below ((w.alloc (.cells #[.string name] 9)).drewN m).heap.size ((w.alloc (.cells #[.string name] 9)).drewN m) W → Below w.heap.size w W from fun m W h => (pw_below_drewN (below_alloc (Below.refl w.heap.size w) _) m).trans (h.mono (by simp)))
    have HDel := Aside0.mk (fun w2 (hB2 : Below w.heap.size w w2) => attr_delete g4 c4 l j hj w2 (Kd.R_below HR.out hB2) (by omega))
    go_enter Try.func27, Try.ntmps27
    go_wp2_with (first | (go_at_call 47; refine hE.mono ?_; rintro e w' ⟨rfl, ⟨m, rfl⟩⟩) | (go_at_call 60; refine (hidx _).mono ?_; rintro e w2 ⟨rfl, hB⟩; have hB2 : Below w.heap.size w w2 := HBM.out _ w2 hB; have s4 := (hB2.cell (p := ⟨G, i * 7 + 4, none⟩) hGl).trans h4; have HD := Aside0.mk (HDel.out w2 hB2); have HB2 := Aside0.mk hB2; clear hB hB2) | (go_at_call 62; refine HD.out.mono ?_; rintro e w3 ⟨rfl, hR3, hg3⟩; have s5 := (World.cell?_of_block (a := ⟨G, i * 7 + 4, none⟩) (hg3.block G (Nat.lt_of_lt_of_le hGl HB2.out.size) (fun e => HNE.out e.symm))).trans s4; have f5 : w3.frozen? ⟨G, i * 7 + 4, none⟩ = false := (World.frozen?_of_block (a := ⟨G, i * 7 + 4, none⟩) (hg3.block G (Nat.lt_of_lt_of_le hGl HB2.out.size) (fun e => HNE.out e.symm))).trans ((HB2.out.frozen (p := ⟨G, i * 7 + 4, none⟩) hGl).trans (hf 4)); have HT := Aside0.mk (HBK.out w2 HB2.out w3 _ _ hg3 (Kd.R_mono hR3 fun k hk => .inl hk)); clear hR3 hg3))
    go_ret
    exact ⟨rfl, HT.out⟩
end
end Go.Proofs.Ytpkaliaaffgbdaa.QA
