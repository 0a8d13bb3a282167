/- The law's trees: the first rows, the first attributes of each, that are the caller's own. -/
import Derived.Test.YtpkaliaaffgbdaaD18
namespace Go.Proofs.Ytpkaliaaffgbdaa.QA
open Go.RowKit Go.Proofs.YtpkaliaaffgbdaaW.PrintWords Go.Proofs.YtpkaliaaffgbdaaW.PrintLast Go.Proofs.YtpkaliaaffgbdaaW.PrintMore
attribute [local go_sem] max2_int min2_int max_two min_two max_three min_three max_four min_four   -- for this text's walks alone
set_option linter.unusedVariables false
set_option linter.unusedSimpArgs false

open Go
/-- A row's cells, its attributes anywhere. -/
def kP : Kd (S54 × Option Addr × Nat) where
  sz := 5
  E := []
  K := fun _ p cs => cs = [.int .i64 p.1.f0, .int .i64 p.1.f1, .string p.1.f2, .string p.1.f3, .slice p.2.1 p.1.f4.length p.2.2]
  M := fun _ _ _ p cs => cs = [.int .i64 p.1.f0, .int .i64 p.1.f1, .string p.1.f2, .string p.1.f3, .slice p.2.1 p.1.f4.length p.2.2]
  K_len := fun h => by rw [h]; rfl
  K_one := fun h u hu => by
    rw [h] at hu
    simp only [List.mem_cons, List.not_mem_nil, or_false] at hu
    rcases hu with rfl | rfl | rfl | rfl | rfl <;> rfl
  K_below := fun _ h => h
  K_of_M := fun h => h
  M_mono := fun _ h => h
  M_bound := fun h => h
  M_move := fun _ h => h
  M_lower := fun _ h => h
theorem kP_C {W : World} {A : Option Addr} {n : Nat} {ps : List (S54 × Option Addr × Nat)} (h : Kd.C kP W A n ps) (ha : ∀ p ∈ ps, p.1.f4.length ≤ p.2.2 ∧ Kd.C k52 W p.2.1 p.1.f4.length p.1.f4) : Kd.C k54 W A n (ps.map (·.1)) := by
  refine ⟨by rw [List.length_map]; exact h.1, h.2.1, fun hp => ?_⟩
  obtain ⟨ad, e, hc⟩ := h.2.2 hp
  refine ⟨ad, e, fun j p hj => ?_⟩
  rw [List.getElem?_map] at hj
  obtain ⟨q, hq, rfl⟩ := Option.map_eq_some_iff.1 hj
  obtain ⟨cs, h1, h2, h3⟩ := hc j q hq
  have h4 := ha q (List.mem_of_getElem? hq)
  have h5 : cs = _ := h2
  subst h5
  exact ⟨_, h1, k54_mk W q.1 h4.1 h4.2, h3⟩
theorem kP_mk {W : World} {base : Nat} {ok : Nat → Prop} {f0 f1 : Int} {f2 f3 : ByteArray} {f4 : List S52} {A4 : Option Addr} {c4 m : Nat} (h : f4.length = m) : kP.M W base ok (⟨f0, f1, f2, f3, f4⟩, A4, c4) [.int .i64 f0, .int .i64 f1, .string f2, .string f3, .slice A4 m c4] := by
  subst h
  rfl
theorem heap52 : Kd.Heap k52 := Kd.heap_iso _ (Kd.heap_pair Kd.heap_string Kd.heap_string)
def cutRow (x : S54) : S54 := ⟨x.f0, x.f1, x.f2, x.f3, x.f4.take 4⟩
def treesL (l : List S54) : List S54 := (l.take 12).map cutRow
/-- What trees has so far. -/
structure TreesInv (w0 w W : World) (l : List S54) (kk : Nat) (v : Value) (ps : List (S54 × Option Addr × Nat)) : Prop where
  bel : Below w.heap.size w W
  row : Kd.R kP 54 W 0 (fun k => w.heap.size ≤ k) v ps
  is : ps.map (·.1) = (l.take kk).map cutRow
  att : ∀ p ∈ ps, p.1.f4.length ≤ p.2.2 ∧ Kd.C k52 w0 p.2.1 p.1.f4.length p.1.f4
theorem TreesInv.len {w0 w W : World} {l : List S54} {kk : Nat} {v : Value} {ps : List (S54 × Option Addr × Nat)} (h : TreesInv w0 w W l kk v ps) (hk : kk ≤ l.length) : ps.length = kk := by
  have := congrArg List.length h.is
  simp at this
  omega
theorem TreesInv.put {w0 w W W1 W2 : World} {l : List S54} {kk : Nat} {v v2 : Value} {ps : List (S54 × Option Addr × Nat)} (h : TreesInv w0 w W l kk v ps) {x : S54} (hl : kk < l.length) (hx : l[kk] = x) (A4 : Option Addr) (c4 : Nat) (h4 : x.f4.length ≤ c4) (hK : Kd.C k52 w0 A4 x.f4.length x.f4)
    (hB : Below W.heap.size W W1) (hB2 : Below 0 W1 W2) (hg : W1.grownBy W2 v.ownBlock) (hR : Kd.R kP 54 W2 0 (fun k => w.heap.size ≤ k) v2 (ps ++ [(⟨x.f0, x.f1, x.f2, x.f3, x.f4.take 4⟩, A4, c4)])) : TreesInv w0 w W2 l (kk + 1) v2 (ps ++ [(⟨x.f0, x.f1, x.f2, x.f3, x.f4.take 4⟩, A4, c4)]) := by
  have hb := below_step h.bel hB
  refine ⟨⟨hB2.os.trans hb.os, hB2.tape.trans hb.tape, hB2.output.trans hb.output, Nat.le_trans hb.size hg.size, fun k hk => (hg.block k (Nat.lt_of_lt_of_le hk hb.size) fun e => ?_).trans (hb.block k hk)⟩, hR, ?_, fun p hp => ?_⟩
  · have := h.row.1 k e.symm
    omega
  · rw [List.map_append, h.is, List.take_add_one (l := l), List.getElem?_eq_getElem hl, hx, List.map_append]
    rfl
  · rcases List.mem_append.1 hp with hp | hp
    · exact h.att p hp
    · rw [List.mem_singleton.1 hp]
      dsimp only
      refine ⟨by rw [List.length_take]; omega, ?_⟩
      by_cases h5 : 4 ≤ x.f4.length
      · exact Kd.C_take hK h5
      · rw [List.take_of_length_le (by omega)]
        exact hK
theorem TreesInv.done {w0 w W : World} {l : List S54} {kk : Nat} {v : Value} {ps : List (S54 × Option Addr × Nat)} (h : TreesInv w0 w W l kk v ps) (h0 : Below w0.heap.size w0 w) : ∃ A c, v = .slice A ((l.take kk).map cutRow).length c ∧ ((l.take kk).map cutRow).length ≤ c ∧ Kd.F k54 W (fun k => k < w0.heap.size ∨ w.heap.size ≤ k) A ((l.take kk).map cutRow).length ((l.take kk).map cutRow) ∧ Below w.heap.size w W := by
  obtain ⟨A, c, rfl⟩ := Kd.R_slice h.row
  rw [← h.is, List.length_map]
  refine ⟨A, c, rfl, (Kd.R_reads' h.row).2.1, fun W' hW => kP_C (Kd.R_reads' (Kd.R_step h.row fun k hk hl => hW k (.inr hk) hl)).2.2 fun p hp => ⟨(h.att p hp).1, heap52.C (fun k hk => ?_) (h.att p hp).2⟩, h.bel⟩
  have h1 := h0.block k hk
  have h2 := h.bel.block k (Nat.lt_of_lt_of_le hk h0.size)
  have h3 := hW k (.inl hk) (Nat.lt_of_lt_of_le hk (Nat.le_trans h0.size h.bel.size))
  exact h3.trans (h2.trans h1)
set_option maxHeartbeats 4000000 in
set_option maxRecDepth 100000 in
theorem trees_calls (w0 w : World) (h0 : Below w0.heap.size w0 w) (A : Option Addr) (c : Nat) (l : List S54) (hC : Kd.C k54 w0 A l.length l) (hc : l.length ≤ c) :
    Calls Try.prog 34 #[.slice A l.length c] w fun e w' => ∃ A' c', e = .returned (.slice A' (treesL l).length c') ∧ (treesL l).length ≤ c' ∧ Kd.F k54 w' (fun k => k < w0.heap.size ∨ w.heap.size ≤ k) A' (treesL l).length (treesL l) ∧ Below w.heap.size w w' := by
  have HC := Aside0.mk hC
  have H0 := Aside0.mk h0
  clear hC h0
  go_enter Try.func34, Try.ntmps34
  go_wp2
  have HI : Aside0 (TreesInv w0 w (w.alloc (.cells #[] 54)) l 0 (.slice (some ⟨w.heap.size, 0, none⟩) 0 0) []) := ⟨⟨below_alloc (Below.refl _ _) _, ⟨fun k hk => by
    injection hk with hk
    subst hk
    exact Nat.le_refl _, _, ⟨rfl, .inr ⟨w.heap.size, 0, _, rfl, Nat.zero_le _, blk_new _ _, Nat.le_refl _, by decide, rfl, rfl⟩⟩, Reps.none _ _⟩, rfl, by simp⟩⟩
  go_loopg [3, 4] l.length (fun gg v3 v4 W => ∃ (kk : Nat) (ps : List (S54 × Option Addr × Nat)), kk ≤ l.length ∧ kk ≤ 12 ∧ l.length - kk ≤ gg ∧ v4 = .int .i64 (kk : Int) ∧ Aside0 (TreesInv w0 w W l kk v3 ps))
  case atStart => exact ⟨0, [], Nat.zero_le _, Nat.zero_le _, by omega, rfl, HI⟩
  case round =>
    clear HI
    obtain ⟨kk, ps, hkk, hk12, hgg, rfl, HI⟩ := hrel
    by_cases hlt : kk < l.length ∧ kk < 12
    · obtain ⟨hlt1, hlt2⟩ := hlt
      have d1 : decide ((kk : Int) < (l.length : Int)) = true := decide_eq_true (by omega)
      have d2 : decide ((kk : Int) < 12) = true := decide_eq_true (by omega)
      have z1 : (kk : Int) < (l.length : Int) := by omega
      have hB := below_step H0.out HI.out.bel
      obtain ⟨ad, A4, c4, e4, hx0, hx1, hx2, hx3, hx4, hl4, hi4⟩ := at_T54 HC.out (kk : Int) (by omega) z1
      subst e4
      rw [rd_T54_at l kk hlt1, Int.toNat_natCast] at hx0 hx1 hx2 hx3 hx4
      rw [rd_T54_at l kk hlt1] at hl4 hi4
      have hx0 := (hB.cell (block_lt_of_cell hx0)).trans hx0
      have hx1 := (hB.cell (block_lt_of_cell hx1)).trans hx1
      have hx2 := (hB.cell (block_lt_of_cell hx2)).trans hx2
      have hx3 := (hB.cell (block_lt_of_cell hx3)).trans hx3
      have hx4 := (hB.cell (block_lt_of_cell hx4)).trans hx4
      have HL := Aside0.mk hl4
      have HK := Aside0.mk hi4
      obtain ⟨x, HX⟩ : ∃ x, Aside0 (l[kk] = x) := ⟨_, ⟨rfl⟩⟩
      rw [HX.out] at hx0 hx1 hx2 hx3 hx4 HL HK
      obtain ⟨f0, f1, f2, f3, f4⟩ := x
      dsimp only at hx0 hx1 hx2 hx3 hx4 HL HK
      obtain ⟨Av, cv, rfl⟩ := Kd.R_slice HI.out.row
      have HP := Aside0.mk (HI.out.len hkk)
      have HB := Aside0.mk hB
      clear hB hl4 hi4
      by_cases hm : f4.length ≤ 4
      · have HM : Aside0 ((f4.take 4).length = f4.length) := ⟨by rw [List.length_take]; omega⟩
        have b1 : f4.length ≤ c4 := HL.out
        have b2 : (f4.length : Int) ≤ (c4 : Int) := by omega
        go_wp2_with (first | ((with_reducible refine gate_builtin (b := .append) (xs := #[.tmp 29, .tmp 31]) rfl ?_); at_builtin; refine Kd.R_append kP (w0 := wr.alloc (.cells #[.int .i64 f0, .int .i64 f1, .string f2, .string f3, .slice A4 f4.length c4] 54)) 0 rfl (.tmp 29) (.tmp 31) 23 54 _ 72 rfl Try.underlying23 info54 rfl (by decide) (by decide) (.slice Av ps.length cv) ps (⟨f0, f1, f2, f3, f4.take 4⟩, A4, c4) [.int .i64 f0, .int .i64 f1, .string f2, .string f3, .slice A4 f4.length c4] (fun k => w.heap.size ≤ k) (fun _ => False) rfl (by rw [World.size_alloc]; rfl) (kP_mk HM.out) (fun _ h => h.elim) (fun k hk => Nat.le_trans HI.out.bel.size (Nat.le_trans (by rw [World.size_alloc]; omega) hk)) (Kd.R_below HI.out.row (below_alloc (Below.refl _ _) _)) (Below.refl _ _) (Nat.zero_le _) (by have := HP.out; omega) ?_; intro v7 W7 hR7 hB7 hg7 _; have HE := Aside0.mk (HI.out.put hlt1 HX.out A4 c4 HL.out HK.out (below_alloc (Below.refl _ _) _) hB7 hg7 hR7); clear hR7 hB7 hg7))
        go_roundg (l.length - (kk + 1))
        case measure => omega
        case rel => exact ⟨kk + 1, _, by omega, by omega, by omega, by go_num, HE⟩
      · have HM : Aside0 ((f4.take 4).length = 4) := ⟨by rw [List.length_take]; omega⟩
        have b1 : 4 ≤ c4 := by have := HL.out; omega
        have b2 : (4 : Int) ≤ (c4 : Int) := by omega
        go_wp2_with (first | ((with_reducible refine gate_builtin (b := .append) (xs := #[.tmp 29, .tmp 31]) rfl ?_); at_builtin; refine Kd.R_append kP (w0 := wr.alloc (.cells #[.int .i64 f0, .int .i64 f1, .string f2, .string f3, .slice A4 4 c4] 54)) 0 rfl (.tmp 29) (.tmp 31) 23 54 _ 72 rfl Try.underlying23 info54 rfl (by decide) (by decide) (.slice Av ps.length cv) ps (⟨f0, f1, f2, f3, f4.take 4⟩, A4, c4) [.int .i64 f0, .int .i64 f1, .string f2, .string f3, .slice A4 4 c4] (fun k => w.heap.size ≤ k) (fun _ => False) rfl (by rw [World.size_alloc]; rfl) (kP_mk HM.out) (fun _ h => h.elim) (fun k hk => Nat.le_trans HI.out.bel.size (Nat.le_trans (by rw [World.size_alloc]; omega) hk)) (Kd.R_below HI.out.row (below_alloc (Below.refl _ _) _)) (Below.refl _ _) (Nat.zero_le _) (by have := HP.out; omega) ?_; intro v7 W7 hR7 hB7 hg7 _; have HE := Aside0.mk (HI.out.put hlt1 HX.out A4 c4 HL.out HK.out (below_alloc (Below.refl _ _) _) hB7 hg7 hR7); clear hR7 hB7 hg7))
        go_roundg (l.length - (kk + 1))
        case measure => omega
        case rel => exact ⟨kk + 1, _, by omega, by omega, by omega, by go_num, HE⟩
    · have hx : (¬ kk < l.length) ∨ (kk < l.length ∧ ¬ kk < 12) := by omega
      have HX : Aside0 (l.take kk = l.take 12) := ⟨by
        rcases hx with hx | hx
        · rw [List.take_of_length_le (by omega), List.take_of_length_le (by omega)]
        · rw [show kk = 12 by omega]⟩
      have HD := Aside0.mk (HI.out.done H0.out)
      rw [HX.out] at HD
      obtain ⟨A', c', rfl, h1, h2, h3⟩ := HD.out
      have HE := Aside0.mk (And.intro h1 (And.intro h2 h3))
      clear h1 h2 h3 HD HI hlt
      rcases hx with hx | ⟨hx, hy⟩
      all_goals
        go_wp2
        go_ret
        exact ⟨_, _, rfl, HE.out⟩
end Go.Proofs.Ytpkaliaaffgbdaa.QA
