/- The law's same: does the arena's document tell what the answer's does. -/
import Derived.Test.YtpkaliaaffgbdaaM14
namespace Go.Proofs.Ytpkaliaaffgbdaa.QA
open Go.RowKit Go.Proofs.YtpkaliaaffgbdaaW.PrintWords Go.Proofs.YtpkaliaaffgbdaaW.PrintLast Go.Proofs.YtpkaliaaffgbdaaW.PrintMore
attribute [local go_sem] max2_int min2_int max_two min_two max_three min_three max_four min_four   -- for this text's walks alone
set_option linter.unusedVariables false
set_option linter.unusedSimpArgs false
def reg24_8.T : Bool × List (List Nat × List Nat) := (true, [([], []), ([0], [0]), ([1], [1]), ([2], [2]), ([2], [2]), ([3, 4, 2, 2], [2, 3, 4]), ([2], [2]), ([6, 2], [2, 6]), ([7, 2], [2, 7]), ([8, 2], [2, 8]), ([2], [2]), ([9, 10, 2], [2, 9, 10]), ([11, 2], [2, 11]), ([5, 12, 2], [2, 5, 12]), ([2, 13], [2, 13]), ([14, 5], [14]), ([15], [15]), ([15], [15]), ([16, 17, 15, 15], [15, 16, 17]), ([15], [15]), ([15], [15]), ([19, 20, 18, 15], [15, 19, 20]), ([18, 21, 21, 15], [15, 18, 21]), ([22, 15], [15, 22]), ([15, 23], [15, 23]), ([24, 22], [24]), ([25], [25]), ([26, 25], [25, 26]), ([25], [25]), ([28, 25], [25, 28]), ([29, 25], [25, 29]), ([30, 25], [25, 30]), ([25], [25]), ([25], [25]), ([33, 25], [25, 33]), ([31, 32, 34, 25], [25, 31, 32, 34]), ([27, 35, 25, 25], [25, 27, 35]), ([36, 25], [25, 36]), ([25, 37], [25, 37])])
def reg24_8.B : List Nat := [0, 1, 3, 7, 7, 31, 7, 71, 199, 455, 7, 1991, 4039, 8191, 16383, 32767, 65535, 65535, 262143, 65535, 65535, 2097151, 4194303, 8388607, 16777215, 33554431, 67108863, 134217727, 67108863, 335544319, 872415231, 1946157055, 67108863, 67108863, 8657043455, 34158411775, 68719476735, 137438953471, 274877906943]
theorem reg24_8.tab : rtab .any (opsOf Try.f24 8) = reg24_8.T := by kernel_rfl
theorem reg24_8.bits : waitsOk reg24_8.T.2 reg24_8.B = true := by kernel_rfl

open Go
section
variable {w W W' : World} {F : Nat → Prop} {g gR M : Nat} {xs xr : List S79} {r : List S54}
theorem Both.lenA (h : Both w W F g gR xs xr) {n : Int} (hn : (xs.length : Int) = n) : Calls Try.prog 30 #[.pointer (some ⟨g, 0, none⟩)] W fun e w' => e = .returned (.int .i64 n) ∧ Both w w' F g gR xs xr := by
 subst hn
 obtain ⟨ok, okr, h2, hF⟩ := h
 refine (Doc_Len h2.a).mono ?_
 rintro e w' ⟨rfl, ⟨m, rfl⟩⟩
 exact ⟨rfl, Both.quiet ⟨ok, okr, h2, hF⟩ (pw_below_drewN (Below.refl _ _) m)⟩
theorem Both.parentA (h : Both w W F g gR xs xr) (n : Int) {p : Int} (hp : (if 0 ≤ n ∧ n < (xs.length : Int) then (rd_T79 xs n).f1 else -1) = p) : Calls Try.prog 15 #[.pointer (some ⟨g, 0, none⟩), .int .i64 n] W fun e w' => e = .returned (.int .i64 p) ∧ Both w w' F g gR xs xr ∧ Below W.heap.size W w' := by
 subst hp
 obtain ⟨ok, okr, h2, hF⟩ := h
 refine (Doc_Parent h2.a n).mono ?_
 rintro e w' ⟨rfl, ⟨m, rfl⟩⟩
 have hB := pw_below_drewN (Below.refl W.heap.size W) m
 exact ⟨rfl, Both.quiet ⟨ok, okr, h2, hF⟩ hB, hB⟩
theorem Both.kidsA (h : Both w W F g gR xs xr) (hf : Fit xs) (n : Int) {l : List Int} (hl : kidsN xs n = l) : Calls Try.prog 14 #[.pointer (some ⟨g, 0, none⟩), .int .i64 n] W fun e w' => ∃ A c, e = .returned (.slice A l.length c) ∧ Kd.R kI 3 w' W.heap.size (fun _ => True) (.slice A l.length c) l ∧ Both w w' F g gR xs xr ∧ Below W.heap.size W w' := by
 subst hl
 obtain ⟨ok, okr, h2, hF⟩ := h
 refine (Doc_Kids h2.a hf n).mono ?_
 rintro e w' ⟨v, rfl, hR, hB⟩
 obtain ⟨A, c, rfl⟩ := Kd.R_slice hR
 exact ⟨A, c, rfl, hR, Both.quiet ⟨ok, okr, h2, hF⟩ hB, hB⟩
theorem Both.kidsR (h : Both w W F g gR xs xr) (hG : Good M xr) (n : Int) {l : List Int} (hl : kidsN xr n = l) : Calls Try.prog 59 #[.pointer (some ⟨gR, 0, none⟩), .int .i64 n] W fun e w' => ∃ A c, e = .returned (.slice A l.length c) ∧ Kd.R kI 3 w' W.heap.size (fun _ => True) (.slice A l.length c) l ∧ Both w w' F g gR xs xr ∧ Below W.heap.size W w' := by
 subst hl
 obtain ⟨ok, okr, h2, hF⟩ := h
 refine (RD_Kids h2.r hG n).mono ?_
 rintro e w' ⟨v, rfl, hR, hB⟩
 obtain ⟨A, c, rfl⟩ := Kd.R_slice hR
 exact ⟨A, c, rfl, hR, Both.quiet ⟨ok, okr, h2, hF⟩ hB, hB⟩
theorem Both.rowsA2 (h : Both w W F g gR xs xr) (hf : Fit xs) (k : Nat) (n : Int) (hr : rowsR xs k n = some r) : Calls Try.prog 11 #[.pointer (some ⟨g, 0, none⟩), .int .i64 n] W fun e w' => ∃ A c, e = .returned (.slice A r.length c) ∧ RowsIn w' (fun k => W.heap.size ≤ k ∧ k < w'.heap.size) A c r ∧ Both w w' F g gR xs xr ∧ Below W.heap.size W w' := by
 obtain ⟨ok, okr, h2, hF⟩ := h
 refine (Doc_Rows h2.a hf k n r hr).mono ?_
 rintro e w' ⟨v, rfl, hS, hB⟩
 obtain ⟨A, c, rfl⟩ := Kd.S_slice hS
 exact ⟨A, c, rfl, ⟨(Kd.S_reads' hS).2.1, Kd.S_F (Kd.S_mono (Kd.S_bound hS) fun k hk => ⟨hk.2.1, hk.2.2.1⟩)⟩, Both.quiet ⟨ok, okr, h2, hF⟩ hB, hB⟩
theorem Both.rowsR (h : Both w W F g gR xs xr) (hG : Good M xr) (hM : M < 100000) (hN : Neat xr) (k : Nat) (n : Int) (hr : rowsR xr k n = some r) (hl : r.length < 800000) : Calls Try.prog 58 #[.pointer (some ⟨gR, 0, none⟩), .int .i64 n] W fun e w' => ∃ A c, e = .returned (.slice A r.length c) ∧ RowsIn w' (fun k => W.heap.size ≤ k ∧ k < w'.heap.size) A c r ∧ Both w w' F g gR xs xr ∧ Below W.heap.size W w' := by
 obtain ⟨ok, okr, h2, hF⟩ := h
 refine (RD_Rows h2.r hG hM hN k n hr hl).mono ?_
 rintro e w' ⟨A, c, rfl, hR, hB⟩
 exact ⟨A, c, rfl, hR, Both.quiet ⟨ok, okr, h2, hF⟩ hB, hB⟩
theorem Both.rowA (h : Both w W F g gR xs xr) (i : Nat) (hi : i < xs.length) (ha : xs[i].f0.f4.length < 4398046511104) {x : S54} (hx : xs[i].f0 = x) : Calls Try.prog 25 #[.pointer (some ⟨g, 0, none⟩), .int .i64 i] W fun e w' => ∃ A4 c4, e = .returned (.tuple #[.agg #[.int .i64 0, .int .i64 x.f1, .string x.f2, .string x.f3, .slice A4 x.f4.length c4], .int .i64 0]) ∧ Kd.R k52 52 w' W.heap.size (fun _ => True) (.slice A4 x.f4.length c4) x.f4 ∧ Both w w' F g gR xs xr ∧ Below W.heap.size W w' := by
 subst hx
 obtain ⟨ok, okr, h2, hF⟩ := h
 refine (Doc_Row h2.a i hi ha).mono ?_
 rintro e w' ⟨v4, rfl, hR, hB⟩
 obtain ⟨A, c, rfl⟩ := Kd.R_slice hR
 exact ⟨A, c, rfl, hR, Both.quiet ⟨ok, okr, h2, hF⟩ hB, hB⟩
theorem Both.rowA_no (h : Both w W F g gR xs xr) : Calls Try.prog 25 #[.pointer (some ⟨g, 0, none⟩), .int .i64 (xs.length : Int)] W fun e w' => e = .returned (.tuple #[.agg #[.int .i64 0, .int .i64 0, .string (⟨#[]⟩ : ByteArray), .string (⟨#[]⟩ : ByteArray), .slice none 0 0], .int .i64 110]) ∧ Both w w' F g gR xs xr := by
 obtain ⟨ok, okr, h2, hF⟩ := h
 refine (Doc_Row_no h2.a (xs.length : Int) (by omega)).mono ?_
 rintro e w' ⟨rfl, hB⟩
 exact ⟨rfl, Both.quiet ⟨ok, okr, h2, hF⟩ hB⟩
/-- What the answer's document holds at node i. -/
structure NodeR (W : World) (gR GX cX GU cU : Nat) (xs : List S79) (i : Nat) (x : S54) (p : Int) : Prop where
 q0 : W.cell? ⟨gR, 0, none⟩ = some (.slice (some ⟨GX, 0, none⟩) xs.length cX)
 q1 : W.cell? ⟨gR, 1, none⟩ = some (.slice (some ⟨GU, 0, none⟩) xs.length cU)
 u : W.cell? ⟨GU, i, none⟩ = some (.int .i64 p)
 row : Kd.C k54 W (some ⟨GX, i * 5, none⟩) 1 [x]
theorem NodeR.below {GX cX GU cU i : Nat} {x : S54} {p : Int} (h : NodeR W gR GX cX GU cU xs i x p) (hB : Below W.heap.size W W') : NodeR W' gR GX cX GU cU xs i x p :=
 ⟨(hB.cell (block_lt_of_cell h.q0)).trans h.q0, (hB.cell (block_lt_of_cell h.q1)).trans h.q1, (hB.cell (block_lt_of_cell h.u)).trans h.u, Kd.C_below h.row hB⟩
theorem Both.nodeR (h : Both w W F g gR xs xr) (i : Nat) (hi : i < xr.length) {x : S54} {p : Int} (hx : xr[i].f0 = x) (hp : (rd_T79 xr (i : Int)).f1 = p) : ∃ GX cX GU cU, NodeR W gR GX cX GU cU xr i x p ∧ xr.length ≤ cX ∧ xr.length ≤ cU := by
 obtain ⟨ok, okr, h2, hF⟩ := h
 obtain ⟨GX, cX, GU, cU, GR, cR, ⟨q0, q1, q2⟩, ⟨l0, l1, l2⟩, _, hU, hC⟩ := h2.r.reads (by omega)
 have hu := hU i hi
 rw [hp] at hu
 have h1 := C54_sub hC i hi
 have ex : rd_T54 (f0s xr) (i : Int) = x := by
  rw [rd_T54_at (f0s xr) i (by rw [f0s_length]; exact hi), ← hx]
  simp [f0s]
 rw [ex] at h1
 exact ⟨GX, cX, GU, cU, ⟨q0, q1, hu, h1⟩, l0, l1⟩
end
theorem stays8 {W W' : World} {a0 a1 a2 a3 a4 a5 a6 a7 : Addr} {v0 v1 v2 v3 v4 v5 v6 v7 : Value} (h : W.cell? a0 = some v0 ∧ W.cell? a1 = some v1 ∧ W.cell? a2 = some v2 ∧ W.cell? a3 = some v3 ∧ W.cell? a4 = some v4 ∧ W.cell? a5 = some v5 ∧ W.cell? a6 = some v6 ∧ W.cell? a7 = some v7) (hB : Below W.heap.size W W') :
  W'.cell? a0 = some v0 ∧ W'.cell? a1 = some v1 ∧ W'.cell? a2 = some v2 ∧ W'.cell? a3 = some v3 ∧ W'.cell? a4 = some v4 ∧ W'.cell? a5 = some v5 ∧ W'.cell? a6 = some v6 ∧ W'.cell? a7 = some v7 := by
 obtain ⟨h0, h1, h2, h3, h4, h5, h6, h7⟩ := h
 exact ⟨(hB.cell (block_lt_of_cell h0)).trans h0, (hB.cell (block_lt_of_cell h1)).trans h1, (hB.cell (block_lt_of_cell h2)).trans h2, (hB.cell (block_lt_of_cell h3)).trans h3, (hB.cell (block_lt_of_cell h4)).trans h4, (hB.cell (block_lt_of_cell h5)).trans h5, (hB.cell (block_lt_of_cell h6)).trans h6, (hB.cell (block_lt_of_cell h7)).trans h7⟩
theorem same_row {x y : S54} {W : World} {A1 A2 : Option Addr} {c1 c2 : Nat} (h : x = y) (hc1 : 1 ≤ c1) (hc2 : 1 ≤ c2) (h1 : Kd.C k54 W A1 1 [x]) (h2 : Kd.C k54 W A2 1 [y]) : Calls Try.prog 16 #[.slice A1 1 c1, .slice A2 1 c2] W fun e w' => e = .returned (.bool true) ∧ Below W.heap.size W w' := by
 subst h
 exact boltingref04_Same.calls A1 c1 [x] A2 c2 [x] true W h1 hc1 h2 hc2 (by simp [boltingref04_Same.f])
theorem same_nums {l : List Int} {W : World} {A1 A2 : Option Addr} {c1 c2 : Nat} (hl : l.length < 1000000) (h1 : l.length ≤ c1 ∧ Kd.C kI W A1 l.length l) (h2 : l.length ≤ c2 ∧ Kd.C kI W A2 l.length l) : Calls Try.prog 51 #[.slice A1 l.length c1, .slice A2 l.length c2] W fun e w' => e = .returned (.bool true) ∧ Below W.heap.size W w' := by
 have h := nums_is l l hl
 rw [decide_eq_true rfl] at h
 refine (boltinglaw11_nums.calls (l.length + 1) A1 c1 l A2 c2 l true W h1.2 h1.1 h2.2 h2.1 h).mono ?_
 rintro e w' ⟨rfl, ⟨m, rfl⟩⟩
 exact ⟨rfl, pw_below_drewN (Below.refl _ _) m⟩
theorem kidsN_out (xs : List S79) : kidsN xs (xs.length : Int) = [] := by
 unfold kidsN inB
 rw [decide_eq_false (by omega)]
 rfl
set_option maxHeartbeats 16000000 in
set_option maxRecDepth 100000 in
theorem same_calls (w W : World) (F : Nat → Prop) (g gR M : Nat) (xs : List S79) (h : Both w W F g gR xs xs) (hG : Good M xs) (hM : M < 100000) (hN : Neat xs) :
  Calls Try.prog 24 #[.pointer (some ⟨g, 0, none⟩), .pointer (some ⟨gR, 0, none⟩)] W fun e w' => e = .returned (.bool true) ∧ Both w w' F g gR xs xs := by
 have HB := Aside0.mk h
 have HG := Aside0.mk (And.intro hG (hG.fit hM))
 have HN := Aside0.mk (And.intro hN hM)
 have hp := hG.tree.pos
 have HXL := Aside0.mk hG.len
 obtain ⟨l, hl, _, hll, _⟩ := rowsR_some hG 0
 have HL := Aside0.mk (And.intro hl hll)
 have HM1 := Aside0.mk (show rowsR xs 1 (-1) = some [] by unfold rowsR inB; rw [decide_eq_false (by omega), if_pos rfl])
 obtain ⟨AX, cX, hcx⟩ := (show ∃ A c, W.cell? ⟨gR, 0, none⟩ = some (.slice A xs.length c) by
  obtain ⟨ok, okr, h2, hF⟩ := h
  exact h2.r.cellX)
 clear h hG hN hM hl hll
 go_enter Try.func24, Try.ntmps24
 have k1 := Aside0.mk trivial
 go_wp2_with (first | (go_at_call 30; refine (HB.out.lenA rfl).mono ?_; rintro e w1 ⟨rfl, hS⟩; clear HB hcx; have HB := Aside0.mk hS; clear hS) | (go_at_call 11; clear k1; refine (HB.out.rowsA2 HG.out.2 _ 0 HL.out.1).mono ?_; rintro e w2 ⟨A1, c1, rfl, hR, hS, _⟩; clear HB; have HB := Aside0.mk hS; have HR := Aside0.mk hR; clear hS hR) | (go_at_call 58; refine (HB.out.rowsR HG.out.1 HN.out.2 HN.out.1 _ 0 HL.out.1 (by have := HL.out.2; have := HXL.out; omega)).mono ?_; rintro e w3 ⟨A2, c2, rfl, hR, hS, hb⟩; have hr1 := HR.out.below hb; clear HB HR; have HB := Aside0.mk hS; have HR := Aside0.mk (And.intro hr1 hR); clear hS hR hb hr1) | (go_at_call 16; refine (rows_same HR.out.1 HR.out.2).mono ?_; rintro e w4 ⟨rfl, hb⟩; have hS := HB.out.quiet hb; clear HB HR; have HB := Aside0.mk hS; clear hS hb) | (go_at_call 15; refine (HB.out.parentA (xs.length : Int) (if_neg (by omega))).mono ?_; rintro e w5 ⟨rfl, hS, _⟩; clear HB; have HB := Aside0.mk hS; clear hS) | (go_at_call 14; refine (HB.out.kidsA HG.out.2 (xs.length : Int) (kidsN_out xs)).mono ?_; rintro e w6 ⟨A3, c3, rfl, _, hS, _⟩; clear HB; have HB := Aside0.mk hS; clear hS) | (go_at_call 11; refine (HB.out.rowsA2 HG.out.2 1 (-1) HM1.out).mono ?_; rintro e w7 ⟨A4, c4, rfl, _, hS, _⟩; clear HB; have HB := Aside0.mk hS; clear hS))
 go_loopg [6] xs.length (fun gg v6 W => ∃ (i : Nat), i ≤ xs.length ∧ xs.length - i ≤ gg ∧ v6 = .int .i64 (i : Int) ∧ Aside0 (Both w W F g gR xs xs))
 case atStart => exact ⟨0, Nat.zero_le _, Nat.le_refl _, rfl, HB⟩
 case round =>
  clear HB
  obtain ⟨i, hi, hgg, rfl, HB⟩ := hrel
  by_cases hlt : i < xs.length
  ·have z1 : (i : Int) < (xs.length : Int) := by omega
   have HMS := Aside0.mk (round_on hlt hgg)
   have hup := up1 (i := i) (by have := HXL.out; omega)
   obtain ⟨x, hx⟩ : ∃ x, xs[i].f0 = x := ⟨_, rfl⟩
   obtain ⟨p, hpp⟩ : ∃ p, (rd_T79 xs (i : Int)).f1 = p := ⟨_, rfl⟩
   have ha : x.f4.length < 100000 := by rw [← hx]; exact HG.out.2.attrs i hlt
   have hx0 : x.f0 = 0 := by have := (HN.out.1 i).1; rw [nd_at i hlt, hx] at this; exact this
   have HX := Aside0.mk (And.intro hx0 ha)
   have HPA := Aside0.mk (show (if 0 ≤ (i : Int) ∧ (i : Int) < (xs.length : Int) then (rd_T79 xs (i : Int)).f1 else -1) = p by rw [if_pos ⟨by omega, z1⟩]; exact hpp)
   have HRA := Aside0.mk (fun (W : World) (h : Both w W F g gR xs xs) => h.rowA i hlt (by rw [hx]; omega) hx)
   have HNR := Aside0.mk (fun (W : World) (h : Both w W F g gR xs xs) => h.nodeR i hlt hx hpp)
   obtain ⟨ks, hks⟩ : ∃ ks, kidsN xs (i : Int) = ks := ⟨_, rfl⟩
   have HKS := Aside0.mk (And.intro hks (show ks.length < 1000000 by rw [← hks]; have := kidsN_le HG.out.1 (i : Int); omega))
   clear hx hpp ha hx0 hgg hks
   go_upto_region 8 with (first | (go_at_call 25; refine (HRA.out _ HB.out).mono ?_; rintro e w1 ⟨A4, c4, rfl, hR, hS, hb⟩; clear HB; have HB := Aside0.mk hS; have HR := Aside0.mk hR; clear hS hR hb))
   obtain ⟨GX, cX, GU, cU, hn, hcX, hcU⟩ := HNR.out w1 HB.out
   have hB1 : Below w1.heap.size w1 (w1.alloc (.cells #[.int .i64 0, .int .i64 x.f1, .string x.f2, .string x.f3, .slice A4 x.f4.length c4] 54)) := below_alloc (Below.refl _ _) _
   have hbx := blk_new w1 (.cells #[.int .i64 0, .int .i64 x.f1, .string x.f2, .string x.f3, .slice A4 x.f4.length c4] 54)
   have HB2 := Aside0.mk (HB.out.quiet (below_drew hB1))
   have HR2 := Aside0.mk (Kd.R_reads' (Kd.R_below HR.out (below_drew hB1)))
   have HNR2 := Aside0.mk (hn.below (below_drew hB1))
   obtain ⟨q0, q1, q2, q3, q4, qf⟩ := cells5 hbx
   have r0 := HNR2.out.q0
   have r1 := HNR2.out.q1
   have r2 := HNR2.out.u
   have r3 : (w1.alloc (.cells #[.int .i64 0, .int .i64 x.f1, .string x.f2, .string x.f3, .slice A4 x.f4.length c4] 54)).drew.cell? ⟨w1.heap.size, 0, none⟩ = _ := q0
   have r4 : (w1.alloc (.cells #[.int .i64 0, .int .i64 x.f1, .string x.f2, .string x.f3, .slice A4 x.f4.length c4] 54)).drew.cell? ⟨w1.heap.size, 1, none⟩ = _ := q1
   have r5 : (w1.alloc (.cells #[.int .i64 0, .int .i64 x.f1, .string x.f2, .string x.f3, .slice A4 x.f4.length c4] 54)).drew.cell? ⟨w1.heap.size, 2, none⟩ = _ := q2
   have r6 : (w1.alloc (.cells #[.int .i64 0, .int .i64 x.f1, .string x.f2, .string x.f3, .slice A4 x.f4.length c4] 54)).drew.cell? ⟨w1.heap.size, 3, none⟩ = _ := q3
   have r7 : (w1.alloc (.cells #[.int .i64 0, .int .i64 x.f1, .string x.f2, .string x.f3, .slice A4 x.f4.length c4] 54)).drew.cell? ⟨w1.heap.size, 4, none⟩ = _ := q4
   have hpb : (p != p) = false := bne_self_eq_false p
   have hs1 : (0 : Int) ≤ (i : Int) + 1 := by omega
   have hs2 : (i : Int) + 1 ≤ (cX : Int) := by omega
   have hs3 : ¬ cX = i := by omega
   have HCI := Aside0.mk (show 1 ≤ cX - i by omega)
   clear HB HR hB1 hbx hn q0 q1 q2 q3 q4 qf hcX hcU hlt hi
   refine start_ (n := 39) (S := (fun w' => w'.cell? ⟨gR, 0, none⟩ = some (.slice (some ⟨GX, 0, none⟩) xs.length cX) ∧ w'.cell? ⟨gR, 1, none⟩ = some (.slice (some ⟨GU, 0, none⟩) xs.length cU) ∧ w'.cell? ⟨GU, i, none⟩ = some (.int .i64 p) ∧ w'.cell? ⟨w1.heap.size, 0, none⟩ = some (.int .i64 0) ∧ w'.cell? ⟨w1.heap.size, 1, none⟩ = some (.int .i64 x.f1) ∧ w'.cell? ⟨w1.heap.size, 2, none⟩ = some (.string x.f2) ∧ w'.cell? ⟨w1.heap.size, 3, none⟩ = some (.string x.f3) ∧ w'.cell? ⟨w1.heap.size, 4, none⟩ = some (.slice A4 x.f4.length c4))) (ds := []) #[Z, Z, Z, Z, Z, Z, Z, Z, Z, Z, Z, Z, Z, Z, Z, Z, Z, Z, Z, Z, Z, Z, Z, Z, Z, Z, Z, Z, Z, Z, Z, Z, Z, Z, Z, Z, Z, Z, Z] (by kernel_rfl) rfl rfl ⟨r0, r1, r2, r3, r4, r5, r6, r7⟩ (fun hHeld => ?_); refine with_tabW reg24_8.tab reg24_8.bits (fun HT_ HW_ => ?_)
   clear r0 r1 r2 r3 r4 r5 r6 r7; generalize (w1.alloc (.cells #[.int .i64 0, .int .i64 x.f1, .string x.f2, .string x.f3, .slice A4 x.f4.length c4] 54)).drew = W2 at HB2 HR2 HNR2 hHeld ⊢
   refine pA 0 58 #[Y, Z, Z, Z, Z, Z, Z, Z, Z, Z, Z, Z, Z, Z, Z, Z, Z, Z, Z, Z, Z, Z, Z, Z, Z, Z, Z, Z, Z, Z, Z, Z, Z, Z, Z, Z, Z, Z, Z] HT_ ?_
   refine pA 1 59 #[Y, Y, Z, Z, Z, Z, Z, Z, Z, Z, Z, Z, Z, Z, Z, Z, Z, Z, Z, Z, Z, Z, Z, Z, Z, Z, Z, Z, Z, Z, Z, Z, Z, Z, Z, Z, Z, Z, Z] HT_ ?_
   refine pA 2 60 #[Y, Y, Y, Z, Z, Z, Z, Z, Z, Z, Z, Z, Z, Z, Z, Z, Z, Z, Z, Z, Z, Z, Z, Z, Z, Z, Z, Z, Z, Z, Z, Z, Z, Z, Z, Z, Z, Z, Z] HT_ ?_
   refine pA 3 61 #[Y, Y, Y, Y, Z, Z, Z, Z, Z, Z, Z, Z, Z, Z, Z, Z, Z, Z, Z, Z, Z, Z, Z, Z, Z, Z, Z, Z, Z, Z, Z, Z, Z, Z, Z, Z, Z, Z, Z] HT_ ?_
   refine pA 4 62 #[Y, Y, Y, Y, Y, Z, Z, Z, Z, Z, Z, Z, Z, Z, Z, Z, Z, Z, Z, Z, Z, Z, Z, Z, Z, Z, Z, Z, Z, Z, Z, Z, Z, Z, Z, Z, Z, Z, Z] HT_ ?_
   refine pA 6 64 #[Y, Y, Y, Y, Y, Z, Y, Z, Z, Z, Z, Z, Z, Z, Z, Z, Z, Z, Z, Z, Z, Z, Z, Z, Z, Z, Z, Z, Z, Z, Z, Z, Z, Z, Z, Z, Z, Z, Z] HT_ ?_
   refine pA 7 65 #[Y, Y, Y, Y, Y, Z, Y, Y, Z, Z, Z, Z, Z, Z, Z, Z, Z, Z, Z, Z, Z, Z, Z, Z, Z, Z, Z, Z, Z, Z, Z, Z, Z, Z, Z, Z, Z, Z, Z] HT_ ?_
   refine pA 8 66 #[Y, Y, Y, Y, Y, Z, Y, Y, Y, Z, Z, Z, Z, Z, Z, Z, Z, Z, Z, Z, Z, Z, Z, Z, Z, Z, Z, Z, Z, Z, Z, Z, Z, Z, Z, Z, Z, Z, Z] HT_ ?_
   refine take_ (i := 9) (N := some 67) (v := ?_) (a' := ?_) #[Y, Y, Y, Y, Y, Z, Y, Y, Y, Y, Z, Z, Z, Z, Z, Z, Z, Z, Z, Z, Z, Z, Z, Z, Z, Z, Z, Z, Z, Z, Z, Z, Z, Z, Z, Z, Z, Z, Z] rfl rfl (take_ofW HT_.out HW_.out (by kernel_rfl)) (fun _ _ _ h => h) (Or.inl ⟨by rfl, ?_⟩) hHeld ?_ ?_
   rotate_left
   ·rintro w' hs
    (try obtain ⟨s0, s1⟩ := hs)
    (try obtain ⟨s1, s2⟩ := s1)
    (try obtain ⟨s2, s3⟩ := s2)
    (try obtain ⟨s3, s4⟩ := s3)
    (try obtain ⟨s4, s5⟩ := s4)
    (try obtain ⟨s5, s6⟩ := s5)
    go_simp
    with_reducible rfl
   rotate_left
   ·simp only [Act.put, List.setIfInBounds_toArray, List.set_cons_zero, List.set_cons_succ, i64_w, i32_w]
    rfl
   refine pA 10 68 #[Y, Y, Y, Y, Y, Z, Y, Y, Y, Y, Y, Z, Z, Z, Z, Z, Z, Z, Z, Z, Z, Z, Z, Z, Z, Z, Z, Z, Z, Z, Z, Z, Z, Z, Z, Z, Z, Z, Z] HT_ ?_
   refine pA 11 69 #[Y, Y, Y, Y, Y, Z, Y, Y, Y, Y, Y, Y, Z, Z, Z, Z, Z, Z, Z, Z, Z, Z, Z, Z, Z, Z, Z, Z, Z, Z, Z, Z, Z, Z, Z, Z, Z, Z, Z] HT_ ?_
   refine take_ (i := 12) (N := some 70) (v := ?_) (a' := ?_) #[Y, Y, Y, Y, Y, Z, Y, Y, Y, Y, Y, Y, Y, Z, Z, Z, Z, Z, Z, Z, Z, Z, Z, Z, Z, Z, Z, Z, Z, Z, Z, Z, Z, Z, Z, Z, Z, Z, Z] rfl rfl (take_ofW HT_.out HW_.out (by kernel_rfl)) (fun _ _ _ h => h) (Or.inl ⟨by rfl, ?_⟩) hHeld ?_ ?_
   rotate_left
   ·rintro w' hs
    (try obtain ⟨s0, s1⟩ := hs)
    (try obtain ⟨s1, s2⟩ := s1)
    (try obtain ⟨s2, s3⟩ := s2)
    (try obtain ⟨s3, s4⟩ := s3)
    (try obtain ⟨s4, s5⟩ := s4)
    (try obtain ⟨s5, s6⟩ := s5)
    go_simp
    with_reducible rfl
   rotate_left
   ·simp only [Act.put, List.setIfInBounds_toArray, List.set_cons_zero, List.set_cons_succ, i64_w, i32_w]
    rfl
   refine one_ (i := 5) (N := some 63) #[Y, Y, Y, Y, Y, Y, Y, Y, Y, Y, Y, Y, Y, Z, Z, Z, Z, Z, Z, Z, Z, Z, Z, Z, Z, Z, Z, Z, Z, Z, Z, Z, Z, Z, Z, Z, Z, Z, Z] rfl rfl (one_of HT_.out (by kernel_rfl)) (by decide) (fun K hK => ?_)
   refine goes_ Try.func15 (by kernel_rfl) rfl #[.pointer (some ⟨g, 0, none⟩), .int .i64 (i : Int)] (by rfl) rfl rfl (by simp only [List.map_toArray, List.map_cons, List.map_nil]; rfl) ?_
   refine (HB2.out.parentA (i : Int) HPA.out).mono ?_
   rintro e W3 ⟨rfl, hS, hb⟩
   refine ⟨_, rfl, hK.out _ _ (stays8 hHeld hb) (fun hHeld => ?_)⟩
   have HB3 := Aside0.mk hS
   have HR3 := Aside0.mk (And.intro HR2.out.2.1 (Kd.C_below HR2.out.2.2 hb))
   have HN3 := Aside0.mk (HNR2.out.below hb)
   clear hK K hS hb HB2 HR2 HNR2
   refine pA 13 71 #[Y, Y, Y, Y, Y, Y, Y, Y, Y, Y, Y, Y, Y, Y, Z, Z, Z, Z, Z, Z, Z, Z, Z, Z, Z, Z, Z, Z, Z, Z, Z, Z, Z, Z, Z, Z, Z, Z, Z] HT_ ?_
   refine pA 14 72 #[Y, Y, Y, Y, Y, Y, Y, Y, Y, Y, Y, Y, Y, Y, Y, Z, Z, Z, Z, Z, Z, Z, Z, Z, Z, Z, Z, Z, Z, Z, Z, Z, Z, Z, Z, Z, Z, Z, Z] HT_ ?_
   refine pA 15 73 #[Y, Y, Y, Y, Y, Y, Y, Y, Y, Y, Y, Y, Y, Y, Y, Y, Z, Z, Z, Z, Z, Z, Z, Z, Z, Z, Z, Z, Z, Z, Z, Z, Z, Z, Z, Z, Z, Z, Z] HT_ ?_
   refine pA 16 74 #[Y, Y, Y, Y, Y, Y, Y, Y, Y, Y, Y, Y, Y, Y, Y, Y, Y, Z, Z, Z, Z, Z, Z, Z, Z, Z, Z, Z, Z, Z, Z, Z, Z, Z, Z, Z, Z, Z, Z] HT_ ?_
   refine pA 17 75 #[Y, Y, Y, Y, Y, Y, Y, Y, Y, Y, Y, Y, Y, Y, Y, Y, Y, Y, Z, Z, Z, Z, Z, Z, Z, Z, Z, Z, Z, Z, Z, Z, Z, Z, Z, Z, Z, Z, Z] HT_ ?_
   refine pA 19 77 #[Y, Y, Y, Y, Y, Y, Y, Y, Y, Y, Y, Y, Y, Y, Y, Y, Y, Y, Z, Y, Z, Z, Z, Z, Z, Z, Z, Z, Z, Z, Z, Z, Z, Z, Z, Z, Z, Z, Z] HT_ ?_
   refine pA 20 78 #[Y, Y, Y, Y, Y, Y, Y, Y, Y, Y, Y, Y, Y, Y, Y, Y, Y, Y, Z, Y, Y, Z, Z, Z, Z, Z, Z, Z, Z, Z, Z, Z, Z, Z, Z, Z, Z, Z, Z] HT_ ?_
   refine one_ (i := 18) (N := some 76) #[Y, Y, Y, Y, Y, Y, Y, Y, Y, Y, Y, Y, Y, Y, Y, Y, Y, Y, Y, Y, Y, Z, Z, Z, Z, Z, Z, Z, Z, Z, Z, Z, Z, Z, Z, Z, Z, Z, Z] rfl rfl (one_of HT_.out (by kernel_rfl)) (by decide) (fun K hK => ?_)
   refine goes_ Try.func14 (by kernel_rfl) rfl #[.pointer (some ⟨g, 0, none⟩), .int .i64 (i : Int)] (by rfl) rfl rfl (by simp only [List.map_toArray, List.map_cons, List.map_nil]; rfl) ?_
   refine (HB3.out.kidsA HG.out.2 (i : Int) HKS.out.1).mono ?_
   rintro e W4 ⟨Ak, ck, rfl, hRk, hS, hb⟩
   refine ⟨_, rfl, hK.out _ _ (stays8 hHeld hb) (fun hHeld => ?_)⟩
   have HB4 := Aside0.mk hS
   have HR4 := Aside0.mk (And.intro HR3.out.1 (Kd.C_below HR3.out.2 hb))
   have HN4 := Aside0.mk (HN3.out.below hb)
   have HK4 := Aside0.mk (Kd.R_reads' hRk)
   clear hK K hS hb hRk HB3 HR3 HN3
   refine one_ (i := 21) (N := some 79) #[Y, Y, Y, Y, Y, Y, Y, Y, Y, Y, Y, Y, Y, Y, Y, Y, Y, Y, Y, Y, Y, Y, Z, Z, Z, Z, Z, Z, Z, Z, Z, Z, Z, Z, Z, Z, Z, Z, Z] rfl rfl (one_of HT_.out (by kernel_rfl)) (by decide) (fun K hK => ?_)
   refine goes_ Try.func59 (by kernel_rfl) rfl #[.pointer (some ⟨gR, 0, none⟩), .int .i64 (i : Int)] (by rfl) rfl rfl (by simp only [List.map_toArray, List.map_cons, List.map_nil]; rfl) ?_
   refine (HB4.out.kidsR HG.out.1 (i : Int) HKS.out.1).mono ?_
   rintro e W5 ⟨Al, cl, rfl, hRk, hS, hb⟩
   refine ⟨_, rfl, hK.out _ _ (stays8 hHeld hb) (fun hHeld => ?_)⟩
   have HB5 := Aside0.mk hS
   have HR5 := Aside0.mk (And.intro HR4.out.1 (Kd.C_below HR4.out.2 hb))
   have HN5 := Aside0.mk (HN4.out.below hb)
   have HK5 := Aside0.mk (And.intro (And.intro HK4.out.2.1 (Kd.C_below HK4.out.2.2 hb)) (Kd.R_reads' hRk).2)
   clear hK K hS hb hRk HB4 HR4 HN4 HK4
   refine one_ (i := 22) (N := some 80) #[Y, Y, Y, Y, Y, Y, Y, Y, Y, Y, Y, Y, Y, Y, Y, Y, Y, Y, Y, Y, Y, Y, Y, Z, Z, Z, Z, Z, Z, Z, Z, Z, Z, Z, Z, Z, Z, Z, Z] rfl rfl (one_of HT_.out (by kernel_rfl)) (by decide) (fun K hK => ?_)
   refine goes_ Try.func51 (by kernel_rfl) rfl #[.slice Ak ks.length ck, .slice Al ks.length cl] (by rfl) rfl rfl (by simp only [List.map_toArray, List.map_cons, List.map_nil]; rfl) ?_
   refine (same_nums HKS.out.2 HK5.out.1 HK5.out.2).mono ?_
   rintro e W6 ⟨rfl, hb⟩
   refine ⟨_, rfl, hK.out _ _ (stays8 hHeld hb) (fun hHeld => ?_)⟩
   have HB6 := Aside0.mk (HB5.out.quiet hb)
   have HR6 := Aside0.mk (And.intro HR5.out.1 (Kd.C_below HR5.out.2 hb))
   have HN6 := Aside0.mk (HN5.out.below hb)
   clear hK K hb HB5 HR5 HN5 HK5
   refine pA 23 81 #[Y, Y, Y, Y, Y, Y, Y, Y, Y, Y, Y, Y, Y, Y, Y, Y, Y, Y, Y, Y, Y, Y, Y, Y, Z, Z, Z, Z, Z, Z, Z, Z, Z, Z, Z, Z, Z, Z, Z] HT_ ?_
   refine pA 24 82 #[Y, Y, Y, Y, Y, Y, Y, Y, Y, Y, Y, Y, Y, Y, Y, Y, Y, Y, Y, Y, Y, Y, Y, Y, Y, Z, Z, Z, Z, Z, Z, Z, Z, Z, Z, Z, Z, Z, Z] HT_ ?_
   refine pA 25 83 #[Y, Y, Y, Y, Y, Y, Y, Y, Y, Y, Y, Y, Y, Y, Y, Y, Y, Y, Y, Y, Y, Y, Y, Y, Y, Y, Z, Z, Z, Z, Z, Z, Z, Z, Z, Z, Z, Z, Z] HT_ ?_
   refine take_ (i := 26) (N := some 84) (v := ?_) (a' := ?_) #[Y, Y, Y, Y, Y, Y, Y, Y, Y, Y, Y, Y, Y, Y, Y, Y, Y, Y, Y, Y, Y, Y, Y, Y, Y, Y, Y, Z, Z, Z, Z, Z, Z, Z, Z, Z, Z, Z, Z] rfl rfl (take_ofW HT_.out HW_.out (by kernel_rfl)) (fun _ _ _ h => h) (Or.inl ⟨by rfl, ?_⟩) hHeld ?_ ?_
   rotate_left
   ·rintro w' hs
    (try obtain ⟨s0, s1⟩ := hs)
    (try obtain ⟨s1, s2⟩ := s1)
    (try obtain ⟨s2, s3⟩ := s2)
    (try obtain ⟨s3, s4⟩ := s3)
    (try obtain ⟨s4, s5⟩ := s4)
    (try obtain ⟨s5, s6⟩ := s5)
    go_simp
    with_reducible rfl
   rotate_left
   ·simp only [Act.put, List.setIfInBounds_toArray, List.set_cons_zero, List.set_cons_succ, i64_w, i32_w]
    rfl
   refine pA 28 86 #[Y, Y, Y, Y, Y, Y, Y, Y, Y, Y, Y, Y, Y, Y, Y, Y, Y, Y, Y, Y, Y, Y, Y, Y, Y, Y, Y, Z, Y, Z, Z, Z, Z, Z, Z, Z, Z, Z, Z] HT_ ?_
   refine pA 29 87 #[Y, Y, Y, Y, Y, Y, Y, Y, Y, Y, Y, Y, Y, Y, Y, Y, Y, Y, Y, Y, Y, Y, Y, Y, Y, Y, Y, Z, Y, Y, Z, Z, Z, Z, Z, Z, Z, Z, Z] HT_ ?_
   refine pA 30 88 #[Y, Y, Y, Y, Y, Y, Y, Y, Y, Y, Y, Y, Y, Y, Y, Y, Y, Y, Y, Y, Y, Y, Y, Y, Y, Y, Y, Z, Y, Y, Y, Z, Z, Z, Z, Z, Z, Z, Z] HT_ ?_
   refine take_ (i := 31) (N := some 89) (v := ?_) (a' := ?_) #[Y, Y, Y, Y, Y, Y, Y, Y, Y, Y, Y, Y, Y, Y, Y, Y, Y, Y, Y, Y, Y, Y, Y, Y, Y, Y, Y, Z, Y, Y, Y, Y, Z, Z, Z, Z, Z, Z, Z] rfl rfl (take_ofW HT_.out HW_.out (by kernel_rfl)) (fun _ _ _ h => h) (Or.inl ⟨by rfl, ?_⟩) hHeld ?_ ?_
   rotate_left
   ·rintro w' hs
    (try obtain ⟨s0, s1⟩ := hs)
    (try obtain ⟨s1, s2⟩ := s1)
    (try obtain ⟨s2, s3⟩ := s2)
    (try obtain ⟨s3, s4⟩ := s3)
    (try obtain ⟨s4, s5⟩ := s4)
    (try obtain ⟨s5, s6⟩ := s5)
    go_simp
    with_reducible rfl
   rotate_left
   ·simp only [Act.put, List.setIfInBounds_toArray, List.set_cons_zero, List.set_cons_succ, i64_w, i32_w]
    rfl
   refine pA 32 90 #[Y, Y, Y, Y, Y, Y, Y, Y, Y, Y, Y, Y, Y, Y, Y, Y, Y, Y, Y, Y, Y, Y, Y, Y, Y, Y, Y, Z, Y, Y, Y, Y, Y, Z, Z, Z, Z, Z, Z] HT_ ?_
   refine pA 33 91 #[Y, Y, Y, Y, Y, Y, Y, Y, Y, Y, Y, Y, Y, Y, Y, Y, Y, Y, Y, Y, Y, Y, Y, Y, Y, Y, Y, Z, Y, Y, Y, Y, Y, Y, Z, Z, Z, Z, Z] HT_ ?_
   refine pA 34 92 #[Y, Y, Y, Y, Y, Y, Y, Y, Y, Y, Y, Y, Y, Y, Y, Y, Y, Y, Y, Y, Y, Y, Y, Y, Y, Y, Y, Z, Y, Y, Y, Y, Y, Y, Y, Z, Z, Z, Z] HT_ ?_
   refine pA 35 93 #[Y, Y, Y, Y, Y, Y, Y, Y, Y, Y, Y, Y, Y, Y, Y, Y, Y, Y, Y, Y, Y, Y, Y, Y, Y, Y, Y, Z, Y, Y, Y, Y, Y, Y, Y, Y, Z, Z, Z] HT_ ?_
   refine one_ (i := 27) (N := some 85) #[Y, Y, Y, Y, Y, Y, Y, Y, Y, Y, Y, Y, Y, Y, Y, Y, Y, Y, Y, Y, Y, Y, Y, Y, Y, Y, Y, Y, Y, Y, Y, Y, Y, Y, Y, Y, Z, Z, Z] rfl rfl (one_of HT_.out (by kernel_rfl)) (by decide) (fun K hK => ?_)
   refine value_ (v := .slice (some ⟨W6.heap.size, 0, none⟩) 1 1) (w1 := W6.alloc (.cells #[.int .i64 0, .int .i64 x.f1, .string x.f2, .string x.f3, .slice A4 x.f4.length c4] 54)) (by rfl) rfl (by first | (go_simp; done) | (go_simp; rfl)) ?_
   have hb : Below W6.heap.size W6 (W6.alloc (.cells #[.int .i64 0, .int .i64 x.f1, .string x.f2, .string x.f3, .slice A4 x.f4.length c4] 54)) := below_alloc (Below.refl _ _) _
   refine hK.out _ _ (stays8 hHeld hb) (fun hHeld => ?_)
   have HB7 := Aside0.mk (HB6.out.quiet hb)
   have HN7 := Aside0.mk (HN6.out.below hb)
   have HC7 := Aside0.mk (C54_one (x := ⟨0, x.f1, x.f2, x.f3, x.f4⟩) (c := c4) (A := A4) (blk_new W6 (.cells #[.int .i64 0, .int .i64 x.f1, .string x.f2, .string x.f3, .slice A4 x.f4.length c4] 54)) HR6.out.1 (Kd.C_below HR6.out.2 hb))
   clear hK K hb HB6 HR6 HN6
   generalize W6.alloc (.cells #[.int .i64 0, .int .i64 x.f1, .string x.f2, .string x.f3, .slice A4 x.f4.length c4] 54) = W7 at HB7 HN7 HC7 hHeld ⊢
   generalize W6.heap.size = b7 at HC7 ⊢
   refine one_ (i := 36) (N := some 94) #[Y, Y, Y, Y, Y, Y, Y, Y, Y, Y, Y, Y, Y, Y, Y, Y, Y, Y, Y, Y, Y, Y, Y, Y, Y, Y, Y, Y, Y, Y, Y, Y, Y, Y, Y, Y, Y, Z, Z] rfl rfl (one_of HT_.out (by kernel_rfl)) (by decide) (fun K hK => ?_)
   refine goes_ Try.func16 (by kernel_rfl) rfl #[.slice (some ⟨b7, 0, none⟩) 1 1, .slice (some ⟨GX, i * 5, none⟩) 1 (cX - i)] (by rfl) rfl rfl (by simp only [List.map_toArray, List.map_cons, List.map_nil]; rfl) ?_
   refine (same_row (y := x) (by rw [← HX.out.1]) (Nat.le_refl _) HCI.out HC7.out HN7.out.row).mono ?_
   rintro e W8 ⟨rfl, hb⟩
   refine ⟨_, rfl, hK.out _ _ (stays8 hHeld hb) (fun hHeld => ?_)⟩
   have HB8 := Aside0.mk (HB7.out.quiet hb)
   clear hK K hb HB7 HN7 HC7
   refine pA 37 95 #[Y, Y, Y, Y, Y, Y, Y, Y, Y, Y, Y, Y, Y, Y, Y, Y, Y, Y, Y, Y, Y, Y, Y, Y, Y, Y, Y, Y, Y, Y, Y, Y, Y, Y, Y, Y, Y, Y, Z] HT_ ?_
   refine pA 38 96 #[Y, Y, Y, Y, Y, Y, Y, Y, Y, Y, Y, Y, Y, Y, Y, Y, Y, Y, Y, Y, Y, Y, Y, Y, Y, Y, Y, Y, Y, Y, Y, Y, Y, Y, Y, Y, Y, Y, Y] HT_ ?_
   refine done_ (done_of HT_.out (by kernel_rfl)) ?_
   go_wp2
   go_roundg (xs.length - (i + 1))
   case measure => exact HMS.out.1
   case rel => exact ⟨i + 1, HMS.out.2, Nat.le_refl _, by first | rfl | go_num, HB8⟩
  ·obtain rfl : i = xs.length := by omega
   have z1 : ¬ (xs.length : Int) < (xs.length : Int) := by omega
   clear hlt hgg hi
   go_wp2_with (first | (go_at_call 25; refine HB.out.rowA_no.mono ?_; rintro e w1 ⟨rfl, hS⟩; clear HB; have HB := Aside0.mk hS; clear hS))
   go_ret
   exact ⟨rfl, HB.out.quiet (below_alloc (Below.refl _ _) _)⟩
end Go.Proofs.Ytpkaliaaffgbdaa.QA
