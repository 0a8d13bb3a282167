/- The document of package arena: Copy. A document on which a script was played. The law's document, beside what the law holds on to. -/
import Derived.Test.YtpkaliaaffgbdaaM13
namespace Go.Proofs.Ytpkaliaaffgbdaa.QA
open Go.RowKit Go.Proofs.YtpkaliaaffgbdaaW.PrintWords Go.Proofs.YtpkaliaaffgbdaaW.PrintLast Go.Proofs.YtpkaliaaffgbdaaW.PrintMore
attribute [local go_sem] max2_int min2_int max_two min_two max_three min_three max_four min_four   -- for this text's walks alone
set_option linter.unusedVariables false
set_option linter.unusedSimpArgs false
def reg20_5.T : Bool × List (List Nat × List Nat) := (true, [([], []), ([0], [0]), ([1], [1]), ([2], [2]), ([], []), ([], []), ([5], [5]), ([6], [6]), ([7], [7]), ([], []), ([8, 9], [8, 9]), ([10], [10]), ([11], [11]), ([12], [12]), ([13], [13]), ([3, 4, 0, 1, 2, 3, 4, 5, 6, 7, 8, 9, 10, 11, 12, 13, 14], [3, 4]), ([15, 0, 1, 2, 3, 4, 5, 6, 7, 8, 9, 10, 11, 12, 13, 14], [15]), ([16, 0, 1, 2, 3, 4, 5, 6, 7, 8, 9, 10, 11, 12, 13, 14], [16]), ([17, 14, 14, 0, 1, 2, 3, 4, 5, 6, 7, 8, 9, 10, 11, 12, 13, 14], [14, 17])])
def reg20_5.B : List Nat := [0, 1, 3, 7, 0, 0, 32, 96, 224, 0, 992, 2016, 4064, 8160, 16352, 32767, 65535, 131071, 262143]
theorem reg20_5.tab : rtab .any (opsOf Try.f20 5) = reg20_5.T := by kernel_rfl
theorem reg20_5.bits : waitsOk reg20_5.T.2 reg20_5.B = true := by kernel_rfl

def reg20_6.T : Bool × List (List Nat × List Nat) := (true, [([], []), ([0], [0]), ([1], [1]), ([2], [2]), ([], []), ([], []), ([5], [5]), ([6], [6]), ([7], [7]), ([], []), ([8, 9], [8, 9]), ([10], [10]), ([11], [11]), ([12], [12]), ([3, 4, 0, 1, 2, 3, 4, 5, 6, 7, 8, 9, 10, 11, 12, 13], [3, 4]), ([14, 0, 1, 2, 3, 4, 5, 6, 7, 8, 9, 10, 11, 12, 13], [14]), ([15, 13, 13, 0, 1, 2, 3, 4, 5, 6, 7, 8, 9, 10, 11, 12, 13], [13, 15])])
def reg20_6.B : List Nat := [0, 1, 3, 7, 0, 0, 32, 96, 224, 0, 992, 2016, 4064, 8160, 16383, 32767, 65535]
theorem reg20_6.tab : rtab .any (opsOf Try.f20 6) = reg20_6.T := by kernel_rfl
theorem reg20_6.bits : waitsOk reg20_6.T.2 reg20_6.B = true := by kernel_rfl

open Go
def zsQ (ps : List PN) (i : Nat) : List (S79 ⊕ PN) := (ps.take i).map (fun p => .inl p.1) ++ (ps.drop i).map .inr
theorem zsQ_length (ps : List PN) (i : Nat) (hi : i ≤ ps.length) : (zsQ ps i).length = ps.length := by
 unfold zsQ
 rw [List.length_append, List.length_map, List.length_map, List.length_take, List.length_drop]
 omega
theorem zsQ_split (ps : List PN) (i : Nat) (hi : i < ps.length) : zsQ ps i = (ps.take i).map (fun p => .inl p.1) ++ (Sum.inr ps[i] :: (ps.drop (i + 1)).map .inr) := by
 unfold zsQ
 rw [List.drop_eq_getElem_cons hi, List.map_cons]
theorem zsQ_at (ps : List PN) (i : Nat) (hi : i < ps.length) : (zsQ ps i)[i]? = some (.inr ps[i]) := by
 rw [zsQ_split ps i hi, List.getElem?_append_right (by rw [List.length_map, List.length_take]; omega), List.length_map, List.length_take, show i - min i ps.length = 0 by omega]
 rfl
theorem zsQ_next (ps : List PN) (i : Nat) (hi : i < ps.length) : (zsQ ps i).set i (.inl ps[i].1) = zsQ ps (i + 1) := by
 rw [zsQ_split ps i hi, List.set_append_right _ _ (by rw [List.length_map, List.length_take]; omega), List.length_map, List.length_take, show i - min i ps.length = 0 by omega, List.set_cons_zero]
 unfold zsQ
 rw [List.take_succ_eq_append_getElem hi, List.map_append, List.append_assoc]
 rfl
theorem zsQ_zero (ps : List PN) : zsQ ps 0 = ps.map .inr := rfl
theorem zsQ_end (ps : List PN) : zsQ ps ps.length = (ps.map (·.1)).map .inl := by
 unfold zsQ
 rw [List.take_length, List.drop_length, List.map_nil, List.append_nil, List.map_map]
 rfl
/-- Nodes that are copied so far. -/
structure CopyInv (w W : World) (g G c : Nat) (ps : List PN) (i : Nat) : Prop where
 bel : Below w.heap.size w W
 box : W.heap[g]? = some (.cells #[.slice (some ⟨G, 0, none⟩) ps.length c] 82 (0, 0))
 low : w.heap.size ≤ g
 row : Kd.S kQ 79 W 0 (fun k => w.heap.size ≤ k ∧ k ≠ g) (.slice (some ⟨G, 0, none⟩) ps.length c) (zsQ ps i)
/-- .. between a node's attributes and its kids; B: so much there was before the node. -/
structure CopyMid (w W : World) (g G c : Nat) (ps : List PN) (i B : Nat) (x : S79) (A4 : Option Addr) (c4 : Nat) (A6 : Option Addr) (c6 : Nat) : Prop where
 bel : Below w.heap.size w W
 box : W.heap[g]? = some (.cells #[.slice (some ⟨G, 0, none⟩) ps.length c] 82 (0, 0))
 low : w.heap.size ≤ g
 row : Kd.S kQ 79 W 0 (fun k => (w.heap.size ≤ k ∧ k ≠ g) ∧ k < B) (.slice (some ⟨G, 0, none⟩) ps.length c) ((zsQ ps i).set i (.inr (x, (A4, c4), (A6, c6))))
 att : Kd.R k52 52 W B (fun _ => True) (.slice A4 x.f0.f4.length c4) x.f0.f4
 gB : g < B
 wB : w.heap.size ≤ B
 BW : B ≤ W.heap.size
section
variable {w W W3 w4 : World} {g G c i B : Nat} {ps : List PN} {x : S79} {A4 A6 A5 A7 : Option Addr} {c4 c6 c5 c7 : Nat}
theorem CopyInv.low2 (h : CopyInv w W g G c ps i) : w.heap.size ≤ G ∧ G ≠ g ∧ G < W.heap.size := ⟨((Kd.S_R h.row).1 G rfl).1, ((Kd.S_R h.row).1 G rfl).2, Kd.S_lt h.row G rfl⟩
theorem CopyInv.cells (h : CopyInv w W g G c ps i) (hi : i < ps.length) (hx : ps[i] = (x, (A4, c4), (A6, c6))) : W.cell? ⟨g, 0, none⟩ = some (.slice (some ⟨G, 0, none⟩) ps.length c) ∧ W.cell? ⟨G, i * 7 + 4, none⟩ = some (.slice A4 x.f0.f4.length c4) ∧ ∀ j, W.frozen? ⟨G, i * 7 + j, none⟩ = false := by
 have hz := zsQ_at ps i hi
 rw [hx] at hz
 obtain ⟨h1, h2⟩ := Q_at h.row i (by rw [zsQ_length ps i (by omega)]; exact hi) _ hz
 exact ⟨doc_cell h.box, h1 4 _ rfl, h2⟩
theorem CopyInv.attrs (h : CopyInv w W g G c ps i) (hi : i < ps.length) (hx : ps[i] = (x, (A4, c4), (A6, c6))) (hb3 : Below W.heap.size W W3) (hb4 : Below W3.heap.size W3 w4) (hR : Kd.R k52 52 w4 W3.heap.size (fun _ => True) (.slice A5 x.f0.f4.length c5) x.f0.f4) :
  CopyMid w (w4.setCell ⟨G, i * 7 + 4, none⟩ (.slice A5 x.f0.f4.length c5)) g G c ps i W3.heap.size x A5 c5 A6 c6 := by
 have hz := zsQ_at ps i hi
 rw [hx] at hz
 obtain ⟨l1, l2, l3⟩ := h.low2
 have hgl := blk_lt h.box
 have hs3 := hb3.size
 have hb := below_step hb3 hb4
 have h2 := Q_cell (Kd.S_mono (Kd.S_below (Kd.S_bound h.row) hb) (ok' := fun k => (w.heap.size ≤ k ∧ k ≠ g) ∧ k < W3.heap.size) fun k hk => ⟨hk.1, Nat.lt_of_lt_of_le hk.2.2.1 hs3⟩) i (by rw [zsQ_length ps i (by omega)]; exact hi) _ (x, (A5, c5), (A6, c6)) hz 4 (by omega) (.slice A5 x.f0.f4.length c5) rfl
 refine ⟨?_, ?_, h.low, h2.1, ?_, by omega, by omega, ?_⟩
 ·exact below_set (below_step h.bel hb) l1
 ·exact (Below.heap_setCell w4 _ _ g fun e => l2 e.symm).trans ((hb.block g hgl).trans h.box)
 ·exact Kd.R_mono (Kd.R_step (Kd.R_bound hR) fun k hk _ => Below.heap_setCell w4 _ _ k fun e => by have : k = G := e; have := hk.2.1; omega) fun _ _ => trivial
 ·have := hb4.size
  simpa [World.setCell] using this
theorem CopyMid.cells (h : CopyMid w W g G c ps i B x A4 c4 A6 c6) (hi : i < ps.length) : W.cell? ⟨g, 0, none⟩ = some (.slice (some ⟨G, 0, none⟩) ps.length c) ∧ W.cell? ⟨G, i * 7 + 6, none⟩ = some (.slice A6 x.f2.length c6) ∧ ∀ j, W.frozen? ⟨G, i * 7 + j, none⟩ = false := by
 have hl : i < (zsQ ps i).length := by rw [zsQ_length ps i (by omega)]; exact hi
 obtain ⟨h1, h2⟩ := Q_at h.row i (by rw [List.length_set]; exact hl) _ (List.getElem?_set_self hl)
 exact ⟨doc_cell h.box, h1 6 _ rfl, h2⟩
theorem CopyMid.low2 (h : CopyMid w W g G c ps i B x A4 c4 A6 c6) : w.heap.size ≤ G ∧ G ≠ g ∧ G < B := ⟨((Kd.S_R h.row).1 G rfl).1.1, ((Kd.S_R h.row).1 G rfl).1.2, ((Kd.S_R h.row).1 G rfl).2⟩
theorem CopyMid.kids (h : CopyMid w W g G c ps i B x A4 c4 A6 c6) (hi : i < ps.length) (hx : ps[i].1 = x) (hb3 : Below W.heap.size W W3) (hb4 : Below W3.heap.size W3 w4) (hR : Kd.R (Kd.int .i64) 3 w4 W3.heap.size (fun _ => True) (.slice A7 x.f2.length c7) x.f2) :
  CopyInv w (w4.setCell ⟨G, i * 7 + 6, none⟩ (.slice A7 x.f2.length c7)) g G c ps (i + 1) := by
 have hl : i < (zsQ ps i).length := by rw [zsQ_length ps i (by omega)]; exact hi
 obtain ⟨l1, l2, l3⟩ := h.low2
 have hgl := h.gB
 have hBW := h.BW
 have hwB := h.wB
 have hs3 := hb3.size
 have hb := below_step hb3 hb4
 have h4 : Kd.R k52 52 w4 0 (fun k => B ≤ k) (.slice A4 x.f0.f4.length c4) x.f0.f4 := Kd.R_lower (Kd.R_mono (Kd.R_bound (Kd.R_below h.att hb)) fun k hk => hk.2.1) (Nat.zero_le _)
 have h6 : Kd.R (Kd.int .i64) 3 w4 0 (fun k => B ≤ k) (.slice A7 x.f2.length c7) x.f2 := Kd.R_lower (Kd.R_mono (Kd.R_bound hR) fun k hk => by have := hk.2.1; omega) (Nat.zero_le _)
 have h2 := Q_own (Kd.S_below h.row hb) (okn := fun k => B ≤ k) (fun k hk h2 => by have := h2.2; omega) i (by rw [List.length_set]; exact hl) _ (List.getElem?_set_self hl) 6 (by omega) (.slice A7 x.f2.length c7) (k79_mkM w4 0 _ x h4 h6)
 rw [List.set_set] at h2
 dsimp only at h2
 rw [← hx, zsQ_next ps i hi] at h2
 refine ⟨?_, ?_, h.low, Kd.S_mono (by rw [hx] at h2; exact h2.1) fun k hk => ?_⟩
 ·exact below_set (below_step h.bel hb) l1
 ·exact (Below.heap_setCell w4 _ _ g fun e => l2 e.symm).trans ((hb.block g (by omega)).trans h.box)
 ·rcases hk with hk | hk
  ·exact hk.1
  ·exact ⟨by omega, by omega⟩
theorem CopyInv.start {v : Value} (hps : 0 < ps.length) (hb : Below w.heap.size w W) (h : Kd.R kR 79 W w.heap.size (fun _ => True) (.slice A4 ps.length c) ps) : ∃ G, A4 = some ⟨G, 0, none⟩ ∧ CopyInv w (W.alloc (.cells #[.slice A4 ps.length c] 82)) W.heap.size G c ps 0 := by
 obtain ⟨G, cap, e, _⟩ := Kd.R_form h hps
 injection e with e _ _
 subst e
 refine ⟨G, rfl, below_alloc hb _, blk_new _ _, hb.size, ?_⟩
 rw [zsQ_zero]
 exact Kd.S_alloc (Kd.S_lower (Kd.S_mono (Kd.S_bound (Q_start h)) fun k hk => ⟨hk.2.1, by have := hk.2.2.1; omega⟩) (Nat.zero_le _)) _
theorem CopyInv.doc {xs : List S79} (h : CopyInv w W g G c ps ps.length) (hps : ps.map (·.1) = xs) : IsDoc W (fun k => w.heap.size ≤ k) g xs := by
 have h2 := h.row
 rw [zsQ_end, hps] at h2
 exact ⟨_, h.box, h.low, Q_end h2⟩
end
set_option maxHeartbeats 8000000 in
set_option maxRecDepth 100000 in
theorem Doc_Copy {w : World} {ok : Nat → Prop} {g0 : Nat} {xs : List S79} (h : IsDoc w ok g0 xs) (hF : Fit xs) (hp : 0 < xs.length) : Calls Try.prog 20 #[.pointer (some ⟨g0, 0, none⟩)] w fun e w' => ∃ g, e = .returned (.pointer (some ⟨g, 0, none⟩)) ∧ IsDoc w' (fun k => w.heap.size ≤ k) g xs ∧ Below w.heap.size w w' := by
 obtain ⟨A, c0, hb0, hl0, hC⟩ := h.reads
 have hc0 := doc_cell hb0
 obtain ⟨ps, hps, hCR, hLe⟩ := C79_pick hC
 obtain ⟨ad, rfl, _⟩ := hCR.2.2 hp
 have hpl : ps.length = xs.length := by rw [← hps, List.length_map]
 rw [← hpl] at hc0 hl0 hCR
 have hF2 : ∀ p ∈ ps, p.1.f0.f4.length < 100000 ∧ p.1.f2.length < 100000 := fun p hp => by
  obtain ⟨i, hi, e⟩ := List.mem_iff_getElem.1 (List.mem_map.2 ⟨p, hp, rfl⟩ : p.1 ∈ ps.map (·.1))
  have hi2 : i < xs.length := by rw [List.length_map] at hi; omega
  have e2 : xs[i] = p.1 := by rw [← e]; exact (List.getElem_of_eq hps.symm hi2)
  rw [← e2]
  exact ⟨hF.attrs i hi2, hF.kids i hi2⟩
 have hlen := hF.len
 have HPS := Aside0.mk hps
 have HLE := Aside0.mk (And.intro hLe hF2)
 have HPL := Aside0.mk (show 0 < ps.length ∧ ps.length ≤ 100000 by omega)
 have HCR := Aside0.mk hCR
 clear h hF hp hb0 hC hps hCR hLe hF2 hpl hlen
 go_enter Try.func20, Try.ntmps20
 go_upto_region 2 with (first | (go_at_call 43; refine (node_clone ad c0 ps w HCR.out hl0 (by have := HPL.out; omega)).mono ?_; rintro e w1 ⟨v, rfl, hR, hB⟩; obtain ⟨A1, c1, rfl⟩ := Kd.R_slice hR; have HR := Aside0.mk (And.intro hR hB); clear hR hB))
 obtain ⟨G, hA, hI⟩ := CopyInv.start (v := .slice none 0 0) HPL.out.1 HR.out.2 HR.out.1
 subst hA
 have hbc := doc_cell hI.box
 have HI := Aside0.mk hI
 clear hI HR
 generalize w1.alloc (.cells #[.slice (some ⟨G, 0, none⟩) ps.length c1] 82) = w2 at HI hbc ⊢
 generalize w1.heap.size = g at HI hbc ⊢
 go_wp2
 go_loopg [17, 4] ps.length (fun gg v17 v4 W => ∃ (i : Nat), i ≤ ps.length ∧ ps.length - i ≤ gg ∧ v17 = .int .i64 (i : Int) ∧ Aside0 (CopyInv w W g G c1 ps i))
 case atStart => exact ⟨0, Nat.zero_le _, Nat.le_refl _, rfl, HI⟩
 case round =>
  clear HI hbc
  obtain ⟨i, hi, hgg, rfl, HI⟩ := hrel
  by_cases hlt : i < ps.length
  ·have z1 : (i : Int) < (ps.length : Int) := by omega
   have HMS := Aside0.mk (round_on hlt hgg)
   have hup := up1 (i := i) (by have := HPL.out; omega)
   obtain ⟨hle, hfit⟩ := And.intro (HLE.out.1 ps[i] (List.getElem_mem hlt)) (HLE.out.2 ps[i] (List.getElem_mem hlt))
   obtain ⟨⟨x, ⟨A4, c4⟩, ⟨A6, c6⟩⟩, hx⟩ : ∃ p, ps[i] = p := ⟨_, rfl⟩
   rw [hx] at hle hfit
   obtain ⟨⟨l4, g4⟩, l6, g6⟩ := hle
   dsimp only at l4 g4 l6 g6 hfit
   have HX := Aside0.mk hx
   have H4 := Aside0.mk (And.intro l4 (And.intro g4 hfit.1))
   have H6 := Aside0.mk (And.intro l6 (And.intro g6 hfit.2))
   have HLT := Aside0.mk hlt
   clear hx l4 g4 l6 g6 hfit hgg hi
   go_upto_region 5 with (fail)
   obtain ⟨q0, q1, qf⟩ := HI.out.cells hlt HX.out
   have r0 : wr.drew.cell? ⟨g, 0, none⟩ = _ := q0
   have r1 : wr.drew.cell? ⟨G, i * 7 + 4, none⟩ = _ := q1
   have HB3 := Aside0.mk (show Below wr.heap.size wr wr.drew from below_drew1 (Below.refl _ _))
   have HFZ := Aside0.mk (show ∀ j, wr.drew.frozen? ⟨G, i * 7 + j, none⟩ = false from qf)
   clear q0 q1 qf
   refine start_ (n := 19) (S := (fun w' => w'.cell? ⟨g, 0, none⟩ = some (.slice (some ⟨G, 0, none⟩) ps.length c1) ∧ w'.cell? ⟨G, i * 7 + 4, none⟩ = some (.slice A4 x.f0.f4.length c4))) (ds := [18]) #[Z, Z, Z, Z, Z, Z, Z, Z, Z, Z, Z, Z, Z, Z, Z, Z, Z, Z, Z] (by kernel_rfl) rfl rfl ⟨r0, r1⟩ (fun hHeld => ?_); refine with_tabW reg20_5.tab reg20_5.bits (fun HT_ HW_ => ?_)
   generalize wr.drew = W3 at HB3 HFZ hHeld ⊢; clear r0 r1
   refine pA 0 20 #[Y, Z, Z, Z, Z, Z, Z, Z, Z, Z, Z, Z, Z, Z, Z, Z, Z, Z, Z] HT_ ?_
   refine pA 1 21 #[Y, Y, Z, Z, Z, Z, Z, Z, Z, Z, Z, Z, Z, Z, Z, Z, Z, Z, Z] HT_ ?_
   refine pA 2 22 #[Y, Y, Y, Z, Z, Z, Z, Z, Z, Z, Z, Z, Z, Z, Z, Z, Z, Z, Z] HT_ ?_
   refine take_ (i := 3) (N := some 23) (v := ?_) (a' := ?_) #[Y, Y, Y, Y, Z, Z, Z, Z, Z, Z, Z, Z, Z, Z, Z, Z, Z, Z, Z] rfl rfl (take_ofW HT_.out HW_.out (by kernel_rfl)) (fun _ _ _ h => h) (Or.inl ⟨by rfl, ?_⟩) hHeld ?_ ?_
   rotate_left
   ·rintro w' hs
    (try obtain ⟨s0, s1⟩ := hs)
    (try obtain ⟨s1, s2⟩ := s1)
    (try obtain ⟨s2, s3⟩ := s2)
    (try obtain ⟨s3, s4⟩ := s3)
    (try obtain ⟨s4, s5⟩ := s4)
    (try obtain ⟨s5, s6⟩ := s5)
    go_simp
    with_reducible rfl
   rotate_left
   ·simp only [Act.put, List.setIfInBounds_toArray, List.set_cons_zero, List.set_cons_succ, i64_w, i32_w]
    rfl
   refine pA 4 24 #[Y, Y, Y, Y, Y, Z, Z, Z, Z, Z, Z, Z, Z, Z, Z, Z, Z, Z, Z] HT_ ?_
   refine pA 5 25 #[Y, Y, Y, Y, Y, Y, Z, Z, Z, Z, Z, Z, Z, Z, Z, Z, Z, Z, Z] HT_ ?_
   refine pA 6 26 #[Y, Y, Y, Y, Y, Y, Y, Z, Z, Z, Z, Z, Z, Z, Z, Z, Z, Z, Z] HT_ ?_
   refine pA 7 27 #[Y, Y, Y, Y, Y, Y, Y, Y, Z, Z, Z, Z, Z, Z, Z, Z, Z, Z, Z] HT_ ?_
   refine take_ (i := 8) (N := some 28) (v := ?_) (a' := ?_) #[Y, Y, Y, Y, Y, Y, Y, Y, Y, Z, Z, Z, Z, Z, Z, Z, Z, Z, Z] rfl rfl (take_ofW HT_.out HW_.out (by kernel_rfl)) (fun _ _ _ h => h) (Or.inl ⟨by rfl, ?_⟩) hHeld ?_ ?_
   rotate_left
   ·rintro w' hs
    (try obtain ⟨s0, s1⟩ := hs)
    (try obtain ⟨s1, s2⟩ := s1)
    (try obtain ⟨s2, s3⟩ := s2)
    (try obtain ⟨s3, s4⟩ := s3)
    (try obtain ⟨s4, s5⟩ := s4)
    (try obtain ⟨s5, s6⟩ := s5)
    go_simp
    with_reducible rfl
   rotate_left
   ·simp only [Act.put, List.setIfInBounds_toArray, List.set_cons_zero, List.set_cons_succ, i64_w, i32_w]
    rfl
   refine pA 9 29 #[Y, Y, Y, Y, Y, Y, Y, Y, Y, Y, Z, Z, Z, Z, Z, Z, Z, Z, Z] HT_ ?_
   refine pA 10 30 #[Y, Y, Y, Y, Y, Y, Y, Y, Y, Y, Y, Z, Z, Z, Z, Z, Z, Z, Z] HT_ ?_
   refine pA 11 31 #[Y, Y, Y, Y, Y, Y, Y, Y, Y, Y, Y, Y, Z, Z, Z, Z, Z, Z, Z] HT_ ?_
   refine pA 12 32 #[Y, Y, Y, Y, Y, Y, Y, Y, Y, Y, Y, Y, Y, Z, Z, Z, Z, Z, Z] HT_ ?_
   refine take_ (i := 13) (N := some 33) (v := ?_) (a' := ?_) #[Y, Y, Y, Y, Y, Y, Y, Y, Y, Y, Y, Y, Y, Y, Z, Z, Z, Z, Z] rfl rfl (take_ofW HT_.out HW_.out (by kernel_rfl)) (fun _ _ _ h => h) (Or.inl ⟨by rfl, ?_⟩) hHeld ?_ ?_
   rotate_left
   ·rintro w' hs
    (try obtain ⟨s0, s1⟩ := hs)
    (try obtain ⟨s1, s2⟩ := s1)
    (try obtain ⟨s2, s3⟩ := s2)
    (try obtain ⟨s3, s4⟩ := s3)
    (try obtain ⟨s4, s5⟩ := s4)
    (try obtain ⟨s5, s6⟩ := s5)
    go_simp
    with_reducible rfl
   rotate_left
   ·simp only [Act.put, List.setIfInBounds_toArray, List.set_cons_zero, List.set_cons_succ, i64_w, i32_w]
    rfl
   refine one_ (i := 14) (N := some 34) #[Y, Y, Y, Y, Y, Y, Y, Y, Y, Y, Y, Y, Y, Y, Y, Z, Z, Z, Z] rfl rfl (one_of HT_.out (by kernel_rfl)) (by decide) (fun K hK => ?_)
   refine goes_ Try.func44 (by kernel_rfl) rfl #[.slice A4 x.f0.f4.length c4] (by rfl) rfl rfl (by simp only [List.map_toArray, List.map_cons, List.map_nil]; rfl) ?_
   refine (api_Attr_44.calls A4 c4 x.f0.f4 x.f0.f4 W3 (Kd.C_below H4.out.2.1 (below_step HI.out.bel HB3.out)) H4.out.1 (by unfold api_Attr_44.f; rw [if_pos (by have := H4.out.2.2; omega)])).mono ?_
   rintro e w4 ⟨v4, rfl, hR4, hB4⟩
   have s4 := (hB4.cell (block_lt_of_cell hHeld.1)).trans hHeld.1
   have s5 := (hB4.cell (block_lt_of_cell hHeld.2)).trans hHeld.2
   have s6 : w4.frozen? ⟨G, i * 7 + 4, none⟩ = false := (hB4.frozen (p := ⟨G, i * 7 + 4, none⟩) (block_lt_of_cell hHeld.2)).trans (HFZ.out 4)
   refine ⟨_, rfl, hK.out _ _ ⟨s4, s5⟩ (fun hHeld => ?_)⟩
   have HR4 := Aside0.mk hR4
   have HB4 := Aside0.mk hB4
   have HF4 := Aside0.mk s6
   clear hK K hR4 hB4 s4 s5 s6
   refine pA 15 35 #[Y, Y, Y, Y, Y, Y, Y, Y, Y, Y, Y, Y, Y, Y, Y, Y, Z, Z, Z] HT_ ?_
   refine pA 16 36 #[Y, Y, Y, Y, Y, Y, Y, Y, Y, Y, Y, Y, Y, Y, Y, Y, Y, Z, Z] HT_ ?_
   refine pA 17 37 #[Y, Y, Y, Y, Y, Y, Y, Y, Y, Y, Y, Y, Y, Y, Y, Y, Y, Y, Z] HT_ ?_
   refine last_ (i := 18) (N := none) #[Y, Y, Y, Y, Y, Y, Y, Y, Y, Y, Y, Y, Y, Y, Y, Y, Y, Y, Y] rfl rfl (one_of HT_.out (by kernel_rfl)) (by decide) (fun K hK => ?_)
   obtain ⟨A5, c5, rfl⟩ := Kd.R_slice HR4.out
   have hf4 := HF4.out
   refine skip_ (w1 := ?_) (by rfl) rfl ?_ ?_
   rotate_left
   ·go_simp
    rfl
   refine hK.out _ _ ?_
   clear hK K
   refine done_ (done_of HT_.out (by kernel_rfl)) ?_
   have HM := Aside0.mk (HI.out.attrs hlt HX.out HB3.out HB4.out HR4.out)
   clear HI HR4 HB4 HF4 HFZ hHeld hf4
   generalize w4.setCell ⟨G, i * 7 + 4, none⟩ (.slice A5 x.f0.f4.length c5) = W5 at HM ⊢
   generalize W3.heap.size = B at HM
   clear HB3
   obtain ⟨q0, q1, qf⟩ := HM.out.cells hlt
   have r0 : W5.drew.cell? ⟨g, 0, none⟩ = _ := q0
   have r1 : W5.drew.cell? ⟨G, i * 7 + 6, none⟩ = _ := q1
   have HB3 := Aside0.mk (show Below W5.heap.size W5 W5.drew from below_drew1 (Below.refl _ _))
   have HFZ := Aside0.mk (show ∀ j, W5.drew.frozen? ⟨G, i * 7 + j, none⟩ = false from qf)
   clear q0 q1 qf
   go_upto_region 6 with (fail)
   refine start_ (n := 17) (S := (fun w' => w'.cell? ⟨g, 0, none⟩ = some (.slice (some ⟨G, 0, none⟩) ps.length c1) ∧ w'.cell? ⟨G, i * 7 + 6, none⟩ = some (.slice A6 x.f2.length c6))) (ds := [16]) #[Z, Z, Z, Z, Z, Z, Z, Z, Z, Z, Z, Z, Z, Z, Z, Z, Z] (by kernel_rfl) rfl rfl ⟨r0, r1⟩ (fun hHeld => ?_); refine with_tabW reg20_6.tab reg20_6.bits (fun HT_ HW_ => ?_)
   generalize W5.drew = W6 at HB3 HFZ hHeld ⊢; clear r0 r1
   refine pA 0 38 #[Y, Z, Z, Z, Z, Z, Z, Z, Z, Z, Z, Z, Z, Z, Z, Z, Z] HT_ ?_
   refine pA 1 39 #[Y, Y, Z, Z, Z, Z, Z, Z, Z, Z, Z, Z, Z, Z, Z, Z, Z] HT_ ?_
   refine pA 2 40 #[Y, Y, Y, Z, Z, Z, Z, Z, Z, Z, Z, Z, Z, Z, Z, Z, Z] HT_ ?_
   refine take_ (i := 3) (N := some 41) (v := ?_) (a' := ?_) #[Y, Y, Y, Y, Z, Z, Z, Z, Z, Z, Z, Z, Z, Z, Z, Z, Z] rfl rfl (take_ofW HT_.out HW_.out (by kernel_rfl)) (fun _ _ _ h => h) (Or.inl ⟨by rfl, ?_⟩) hHeld ?_ ?_
   rotate_left
   ·rintro w' hs
    (try obtain ⟨s0, s1⟩ := hs)
    (try obtain ⟨s1, s2⟩ := s1)
    (try obtain ⟨s2, s3⟩ := s2)
    (try obtain ⟨s3, s4⟩ := s3)
    (try obtain ⟨s4, s5⟩ := s4)
    (try obtain ⟨s5, s6⟩ := s5)
    go_simp
    with_reducible rfl
   rotate_left
   ·simp only [Act.put, List.setIfInBounds_toArray, List.set_cons_zero, List.set_cons_succ, i64_w, i32_w]
    rfl
   refine pA 4 42 #[Y, Y, Y, Y, Y, Z, Z, Z, Z, Z, Z, Z, Z, Z, Z, Z, Z] HT_ ?_
   refine pA 5 43 #[Y, Y, Y, Y, Y, Y, Z, Z, Z, Z, Z, Z, Z, Z, Z, Z, Z] HT_ ?_
   refine pA 6 44 #[Y, Y, Y, Y, Y, Y, Y, Z, Z, Z, Z, Z, Z, Z, Z, Z, Z] HT_ ?_
   refine pA 7 45 #[Y, Y, Y, Y, Y, Y, Y, Y, Z, Z, Z, Z, Z, Z, Z, Z, Z] HT_ ?_
   refine take_ (i := 8) (N := some 46) (v := ?_) (a' := ?_) #[Y, Y, Y, Y, Y, Y, Y, Y, Y, Z, Z, Z, Z, Z, Z, Z, Z] rfl rfl (take_ofW HT_.out HW_.out (by kernel_rfl)) (fun _ _ _ h => h) (Or.inl ⟨by rfl, ?_⟩) hHeld ?_ ?_
   rotate_left
   ·rintro w' hs
    (try obtain ⟨s0, s1⟩ := hs)
    (try obtain ⟨s1, s2⟩ := s1)
    (try obtain ⟨s2, s3⟩ := s2)
    (try obtain ⟨s3, s4⟩ := s3)
    (try obtain ⟨s4, s5⟩ := s4)
    (try obtain ⟨s5, s6⟩ := s5)
    go_simp
    with_reducible rfl
   rotate_left
   ·simp only [Act.put, List.setIfInBounds_toArray, List.set_cons_zero, List.set_cons_succ, i64_w, i32_w]
    rfl
   refine pA 9 47 #[Y, Y, Y, Y, Y, Y, Y, Y, Y, Y, Z, Z, Z, Z, Z, Z, Z] HT_ ?_
   refine pA 10 48 #[Y, Y, Y, Y, Y, Y, Y, Y, Y, Y, Y, Z, Z, Z, Z, Z, Z] HT_ ?_
   refine pA 11 49 #[Y, Y, Y, Y, Y, Y, Y, Y, Y, Y, Y, Y, Z, Z, Z, Z, Z] HT_ ?_
   refine take_ (i := 12) (N := some 50) (v := ?_) (a' := ?_) #[Y, Y, Y, Y, Y, Y, Y, Y, Y, Y, Y, Y, Y, Z, Z, Z, Z] rfl rfl (take_ofW HT_.out HW_.out (by kernel_rfl)) (fun _ _ _ h => h) (Or.inl ⟨by rfl, ?_⟩) hHeld ?_ ?_
   rotate_left
   ·rintro w' hs
    (try obtain ⟨s0, s1⟩ := hs)
    (try obtain ⟨s1, s2⟩ := s1)
    (try obtain ⟨s2, s3⟩ := s2)
    (try obtain ⟨s3, s4⟩ := s3)
    (try obtain ⟨s4, s5⟩ := s4)
    (try obtain ⟨s5, s6⟩ := s5)
    go_simp
    with_reducible rfl
   rotate_left
   ·simp only [Act.put, List.setIfInBounds_toArray, List.set_cons_zero, List.set_cons_succ, i64_w, i32_w]
    rfl
   refine one_ (i := 13) (N := some 51) #[Y, Y, Y, Y, Y, Y, Y, Y, Y, Y, Y, Y, Y, Y, Z, Z, Z] rfl rfl (one_of HT_.out (by kernel_rfl)) (by decide) (fun K hK => ?_)
   refine goes_ Try.func42 (by kernel_rfl) rfl #[.slice A6 x.f2.length c6] (by rfl) rfl rfl (by simp only [List.map_toArray, List.map_cons, List.map_nil]; rfl) ?_
   refine (int_clone.calls A6 c6 x.f2 x.f2 W6 (Kd.C_below H6.out.2.1 (below_step HM.out.bel HB3.out)) H6.out.1 (by unfold int_clone.f; rw [if_pos (by have := H6.out.2.2; omega)])).mono ?_
   rintro e w7 ⟨v7, rfl, hR4, hB4⟩
   have s4 := (hB4.cell (block_lt_of_cell hHeld.1)).trans hHeld.1
   have s5 := (hB4.cell (block_lt_of_cell hHeld.2)).trans hHeld.2
   have s6 : w7.frozen? ⟨G, i * 7 + 6, none⟩ = false := (hB4.frozen (p := ⟨G, i * 7 + 6, none⟩) (block_lt_of_cell hHeld.2)).trans (HFZ.out 6)
   refine ⟨_, rfl, hK.out _ _ ⟨s4, s5⟩ (fun hHeld => ?_)⟩
   have HR4 := Aside0.mk hR4
   have HB4 := Aside0.mk hB4
   have HF4 := Aside0.mk s6
   clear hK K hR4 hB4 s4 s5 s6
   refine pA 14 52 #[Y, Y, Y, Y, Y, Y, Y, Y, Y, Y, Y, Y, Y, Y, Y, Z, Z] HT_ ?_
   refine pA 15 53 #[Y, Y, Y, Y, Y, Y, Y, Y, Y, Y, Y, Y, Y, Y, Y, Y, Z] HT_ ?_
   refine last_ (i := 16) (N := none) #[Y, Y, Y, Y, Y, Y, Y, Y, Y, Y, Y, Y, Y, Y, Y, Y, Y] rfl rfl (one_of HT_.out (by kernel_rfl)) (by decide) (fun K hK => ?_)
   obtain ⟨A7, c7, rfl⟩ := Kd.R_slice HR4.out
   have hf4 := HF4.out
   refine skip_ (w1 := ?_) (by rfl) rfl ?_ ?_
   rotate_left
   ·go_simp
    rfl
   refine hK.out _ _ ?_
   clear hK K
   refine done_ (done_of HT_.out (by kernel_rfl)) ?_
   have HI := Aside0.mk (HM.out.kids hlt (by rw [HX.out]) HB3.out HB4.out HR4.out)
   clear HM HR4 HB4 HF4 HFZ hHeld hf4 HB3
   generalize w7.setCell ⟨G, i * 7 + 6, none⟩ (.slice A7 x.f2.length c7) = W8 at HI ⊢
   go_wp2
   go_roundg (ps.length - (i + 1))
   case measure => exact HMS.out.1
   case rel => exact ⟨i + 1, HMS.out.2, Nat.le_refl _, by first | rfl | go_num, HI⟩
  ·obtain rfl : i = ps.length := by omega
   have z1 : ¬ (ps.length : Int) < (ps.length : Int) := by omega
   clear hlt hgg hi
   go_wp2
   go_ret
   exact ⟨_, rfl, HI.out.doc HPS.out, HI.out.bel⟩
end Go.Proofs.Ytpkaliaaffgbdaa.QA
namespace Go.Proofs.Ytpkaliaaffgbdaa.QA
open Go.RowKit Go.Proofs.YtpkaliaaffgbdaaW.PrintWords Go.Proofs.YtpkaliaaffgbdaaW.PrintLast Go.Proofs.YtpkaliaaffgbdaaW.PrintMore
attribute [local go_sem] max2_int min2_int max_two min_two max_three min_three max_four min_four   -- for this text's walks alone
set_option linter.unusedVariables false
set_option linter.unusedSimpArgs false
def reg10_5.T : Bool × List (List Nat × List Nat) := (true, [([], []), ([], []), ([], []), ([], []), ([2, 3], [2, 3]), ([4], [4]), ([0, 1, 5, 1], [0, 1, 5])])
def reg10_5.B : List Nat := [0, 0, 0, 0, 12, 28, 63]
theorem reg10_5.tab : rtab .any (opsOf Try.f10 5) = reg10_5.T := by kernel_rfl
theorem reg10_5.bits : waitsOk reg10_5.T.2 reg10_5.B = true := by kernel_rfl

open Go
theorem Has.to (w W : World) {F : Nat → Prop} {g gk : Nat} {xs xr : List S79} (h : Both w W F g gk xs xr) : Has w W g xs := h.hasA
set_option maxHeartbeats 8000000 in
set_option maxRecDepth 100000 in
theorem played_calls (w : World) (A0 : Option Addr) (c0 : Nat) (l0 : List SOp) (hC : Kd.C kOp w A0 l0.length l0) (hc0 : l0.length ≤ c0) (hs : ∀ a ∈ l0, a.f5.size ≤ 140737488351232) :
  Calls Try.prog 10 #[.slice A0 l0.length c0] w fun e w' => ∃ g, e = .returned (.pointer (some ⟨g, 0, none⟩)) ∧ ∃ xs, Has w w' g xs ∧ Good 44 xs := by
 have HC := Aside0.mk hC
 have HS0 := Aside0.mk hs
 clear hC hs
 go_enter Try.func10, Try.ntmps10
 have k1 := Aside0.mk trivial
 go_wp2_with (first | (go_at_call 18; clear k1; refine (Has.new w w (Below.refl _ _)).mono ?_; rintro e w1 ⟨g, rfl, hS⟩; have HS := Aside0.mk hS; clear hS))
 go_loopg [4] l0.length (fun gg v4 W => ∃ (kk : Nat) (xs : List S79), kk ≤ l0.length ∧ kk ≤ 40 ∧ l0.length - kk ≤ gg ∧ v4 = .int .i64 (kk : Int) ∧ Aside0 (Has w W g xs ∧ Good (kk + 4) xs))
 case atStart => exact ⟨0, newDoc, Nat.zero_le _, Nat.zero_le _, by omega, rfl, ⟨⟨HS.out, good_new.weak (Nat.zero_le _)⟩⟩⟩
 case round =>
  clear HS
  obtain ⟨kk, xs, hkk, hk40, hgg, rfl, HR⟩ := hrel
  have k1 := Aside0.mk trivial
  by_cases hlt : kk < l0.length ∧ kk < 40 ∧ xs.length < 300
  rotate_left
  ·have hx : (¬ kk < l0.length) ∨ (kk < l0.length ∧ ¬ kk < 40) ∨ (kk < l0.length ∧ kk < 40 ∧ ¬ xs.length < 300) := by omega
   have HH := Aside0.mk HR.out.1
   have HG := Aside0.mk (HR.out.2.weak (show kk + 4 ≤ 44 by omega))
   clear HR hlt
   rcases hx with hx | ⟨hx, hy⟩ | ⟨hx, hy, hz⟩
   all_goals
    go_wp2_with (first | (go_at_call 30; clear k1; refine (HH.out.len rfl).mono ?_; rintro e w1 ⟨rfl, hS, _⟩; clear HH; have HH := Aside0.mk hS; clear hS))
    go_ret
    exact ⟨_, rfl, _, HH.out, HG.out⟩
  ·obtain ⟨hlt1, hlt2, hlt3⟩ := hlt
   have d1 : decide ((kk : Int) < (l0.length : Int)) = true := decide_eq_true (by omega)
   have d2 : decide ((kk : Int) < 40) = true := decide_eq_true (by omega)
   have d3 : decide ((xs.length : Int) < 300) = true := decide_eq_true (by omega)
   have z1 : (kk : Int) < (l0.length : Int) := by omega
   obtain ⟨ad, A7, c7, e4, ⟨hx0, hx1, hx2, hx3, hx4, hx5, hx6, hx7⟩, hl7, hi7⟩ := at_Op HC.out kk hlt1
   subst e4
   have hn5 := HS0.out l0[kk] (List.getElem_mem hlt1)
   have HX : Aside0 (∀ W, Below w.heap.size w W → W.cell? (ad.add (kk * 8)) = some (.int .i64 l0[kk].f0) ∧ W.cell? ⟨(ad.add (kk * 8)).block, (ad.add (kk * 8)).off + 1, none⟩ = some (.int .i64 l0[kk].f1) ∧ W.cell? ⟨(ad.add (kk * 8)).block, (ad.add (kk * 8)).off + 2, none⟩ = some (.int .i64 l0[kk].f2) ∧ W.cell? ⟨(ad.add (kk * 8)).block, (ad.add (kk * 8)).off + 3, none⟩ = some (.int .i64 l0[kk].f3) ∧ W.cell? ⟨(ad.add (kk * 8)).block, (ad.add (kk * 8)).off + 4, none⟩ = some (.int .i64 l0[kk].f4) ∧ W.cell? ⟨(ad.add (kk * 8)).block, (ad.add (kk * 8)).off + 5, none⟩ = some (.string l0[kk].f5) ∧ W.cell? ⟨(ad.add (kk * 8)).block, (ad.add (kk * 8)).off + 6, none⟩ = some (.string l0[kk].f6) ∧ W.cell? ⟨(ad.add (kk * 8)).block, (ad.add (kk * 8)).off + 7, none⟩ = some (.slice A7 l0[kk].f7.length c7)) :=
    ⟨fun W hB => ⟨(hB.cell (block_lt_of_cell hx0)).trans hx0, (hB.cell (block_lt_of_cell hx1)).trans hx1, (hB.cell (block_lt_of_cell hx2)).trans hx2, (hB.cell (block_lt_of_cell hx3)).trans hx3, (hB.cell (block_lt_of_cell hx4)).trans hx4, (hB.cell (block_lt_of_cell hx5)).trans hx5, (hB.cell (block_lt_of_cell hx6)).trans hx6, (hB.cell (block_lt_of_cell hx7)).trans hx7⟩⟩
   have HL7 := Aside0.mk (And.intro hl7 hi7)
   clear hx0 hx1 hx2 hx3 hx4 hx5 hx6 hx7 hl7 hi7
   generalize l0[kk] = o at hn5 HX HL7
   have HN5 := Aside0.mk hn5
   clear hn5
   have HH := Aside0.mk HR.out.1
   have HG := Aside0.mk HR.out.2
   clear HR
   obtain ⟨a, e, ys, hA, hK, ha⟩ := ansA_some HG.out (by omega) (by omega) o HN5.out
   obtain ⟨a2, e2, yr, hR⟩ := ansR_new o HN5.out
   have HA := Aside0.mk (And.intro hA (And.intro hR ha))
   have HK := Aside0.mk hK
   clear hA hK ha hR
   go_upto_region 5 with (first | (go_at_call 30; clear k1; refine (HH.out.len rfl).mono ?_; rintro e w1 ⟨rfl, hS, _⟩; clear HH; have HH := Aside0.mk hS; clear hS))
   have hdr : Below w1.heap.size w1 w1.drew := below_drew1 (Below.refl _ _)
   have HH2 := Aside0.mk (HH.out.quiet hdr)
   have hx := HX.out _ HH2.out.bel
   clear HH hdr
   refine start_ (n := 7) (S := (fun w' => w'.cell? (ad.add (kk * 8)) = some (.int .i64 o.f0) ∧ w'.cell? ⟨(ad.add (kk * 8)).block, (ad.add (kk * 8)).off + 1, none⟩ = some (.int .i64 o.f1) ∧ w'.cell? ⟨(ad.add (kk * 8)).block, (ad.add (kk * 8)).off + 2, none⟩ = some (.int .i64 o.f2) ∧ w'.cell? ⟨(ad.add (kk * 8)).block, (ad.add (kk * 8)).off + 3, none⟩ = some (.int .i64 o.f3) ∧ w'.cell? ⟨(ad.add (kk * 8)).block, (ad.add (kk * 8)).off + 4, none⟩ = some (.int .i64 o.f4) ∧ w'.cell? ⟨(ad.add (kk * 8)).block, (ad.add (kk * 8)).off + 5, none⟩ = some (.string o.f5) ∧ w'.cell? ⟨(ad.add (kk * 8)).block, (ad.add (kk * 8)).off + 6, none⟩ = some (.string o.f6) ∧ w'.cell? ⟨(ad.add (kk * 8)).block, (ad.add (kk * 8)).off + 7, none⟩ = some (.slice A7 o.f7.length c7))) (ds := [6]) #[Z, Z, Z, Z, Z, Z, Z] (by kernel_rfl) rfl rfl hx (fun hHeld => ?_); refine with_tabW reg10_5.tab reg10_5.bits (fun HT_ HW_ => ?_)
   clear hx; generalize w1.drew = W2 at HH2 hHeld ⊢
   refine pA 0 25 #[Y, Z, Z, Z, Z, Z, Z] HT_ ?_
   refine pA 2 27 #[Y, Z, Y, Z, Z, Z, Z] HT_ ?_
   refine pA 3 28 #[Y, Z, Y, Y, Z, Z, Z] HT_ ?_
   refine pA 4 29 #[Y, Z, Y, Y, Y, Z, Z] HT_ ?_
   refine take_ (i := 5) (N := some 30) (v := ?_) (a' := ?_) #[Y, Z, Y, Y, Y, Y, Z] rfl rfl (take_ofW HT_.out HW_.out (by kernel_rfl)) (fun _ _ _ h => h) (Or.inl ⟨by rfl, ?_⟩) hHeld ?_ ?_
   rotate_left
   ·rintro w' hs
    (try obtain ⟨s0, s1⟩ := hs)
    (try obtain ⟨s1, s2⟩ := s1)
    (try obtain ⟨s2, s3⟩ := s2)
    (try obtain ⟨s3, s4⟩ := s3)
    (try obtain ⟨s4, s5⟩ := s4)
    (try obtain ⟨s5, s6⟩ := s5)
    go_simp
    with_reducible rfl
   rotate_left
   ·simp only [Act.put, List.setIfInBounds_toArray, List.set_cons_zero, List.set_cons_succ, i64_w, i32_w]
    rfl
   refine one_ (i := 1) (N := some 26) #[Y, Y, Y, Y, Y, Y, Z] rfl rfl (one_of HT_.out (by kernel_rfl)) (by decide) (fun K hK => ?_)
   refine goes_ Try.func19 (by kernel_rfl) rfl #[] (by rfl) rfl rfl (by simp only [List.map_toArray, List.map_nil]) ?_
   refine (RD_New W2).mono ?_
   rintro q W3 ⟨gk, rfl, hD, hB⟩
   refine ⟨_, rfl, hK.out _ _ (HX.out W3 (HH2.out.quiet hB).bel) (fun hHeld => ?_)⟩
   have HB := Aside0.mk (Both.start HH2.out hB hD)
   clear hK hD hB K
   refine last_ (i := 6) (N := some 31) #[Y, Y, Y, Y, Y, Y, Y] rfl rfl (one_of HT_.out (by kernel_rfl)) (by decide) (fun K hK => ?_)
   refine goes_ Try.func23 (by kernel_rfl) rfl #[.pointer (some ⟨g, 0, none⟩), .pointer (some ⟨gk, 0, none⟩), vop o A7 c7] (by rfl) rfl rfl (by simp only [List.map_toArray, List.map_cons, List.map_nil]; rfl) ?_
   refine (tells_calls w W3 g gk (kk + 4) xs newDoc ys yr HB.out HG.out (by omega) o A7 c7 HL7.out.1 HL7.out.2 HN5.out a a2 e e2 HA.out.1 HA.out.2.1 HA.out.2.2).mono ?_
   rintro q W4 ⟨b, rfl, _, hB2⟩
   refine ⟨_, rfl, hK.out _ _ ?_⟩
   have HE := Aside0.mk hB2.hasA
   clear hK K hB2 HB hHeld
   refine done_ (done_of HT_.out (by kernel_rfl)) ?_
   go_wp2
   go_roundg (l0.length - (kk + 1))
   case measure => omega
   case rel => exact ⟨kk + 1, ys, by omega, by omega, by omega, by go_num, ⟨⟨HE.out, by have h_ := HK.out.2.2; rwa [show kk + 4 + 1 = kk + 1 + 4 by omega] at h_⟩⟩⟩
end Go.Proofs.Ytpkaliaaffgbdaa.QA
namespace Go.Proofs.Ytpkaliaaffgbdaa.QA
open Go.RowKit Go.Proofs.YtpkaliaaffgbdaaW.PrintWords Go.Proofs.YtpkaliaaffgbdaaW.PrintLast Go.Proofs.YtpkaliaaffgbdaaW.PrintMore
attribute [local go_sem] max2_int min2_int max_two min_two max_three min_three max_four min_four   -- for this text's walks alone
set_option linter.unusedVariables false
set_option linter.unusedSimpArgs false

open Go
/-- A document; the blocks F are not its own. -/
def Held (w W : World) (F : Nat → Prop) (g : Nat) (xs : List S79) : Prop := ∃ ok, St w W ok g xs ∧ ∀ k, F k → k < W.heap.size ∧ ¬ ok k
def Or2 (F : Nat → Prop) (W W' : World) (k : Nat) : Prop := F k ∨ (W.heap.size ≤ k ∧ k < W'.heap.size)
section
variable {w W W' : World} {F F' : Nat → Prop} {g : Nat} {xs ys : List S79} {r : List S54}
theorem Has.held (h : Has w W g xs) : Held w W (fun _ => False) g xs := by
 obtain ⟨ok, h⟩ := h
 exact ⟨ok, h, fun _ h => h.elim⟩
theorem Held.has (h : Held w W F g xs) : Has w W g xs := h.imp fun _ h => h.1
theorem Held.bel (h : Held w W F g xs) : Below w.heap.size w W := h.has.bel
theorem Held.lt (h : Held w W F g xs) (k : Nat) (hk : F k) : k < W.heap.size := by
 obtain ⟨ok, _, h⟩ := h
 exact (h k hk).1
theorem Held.quiet (h : Held w W F g xs) (hb : Below W.heap.size W W') : Held w W' (Or2 F W W') g xs := by
 obtain ⟨ok, hs, hF⟩ := h
 refine ⟨ok, hs.quiet hb, fun k hk => ?_⟩
 rcases hk with hk | hk
 ·exact ⟨Nat.lt_of_lt_of_le (hF k hk).1 hb.size, (hF k hk).2⟩
 ·exact ⟨hk.2, fun h2 => by have := hs.lt k h2; omega⟩
theorem Held.less (h : Held w W F g xs) (hf : ∀ k, F' k → F k) : Held w W F' g xs := by
 obtain ⟨ok, hs, hF⟩ := h
 exact ⟨ok, hs, fun k hk => hF k (hf k hk)⟩
theorem Held.quiet0 (h : Held w W F g xs) (hb : Below W.heap.size W W') : Held w W' F g xs := (h.quiet hb).less fun _ h => .inl h
theorem Held.via {f : Nat} {args : Array Value} {P : Ending → Prop} (h : Held w W F g xs) (hc : ∀ ok, IsDoc W ok g xs → Calls Try.prog f args W fun e w' => P e ∧ To W w' ok g ys) : Calls Try.prog f args W fun e w' => P e ∧ Held w w' F g ys ∧ W.heap.size ≤ w'.heap.size ∧ ∀ k, F k → w'.heap[k]? = W.heap[k]? := by
 obtain ⟨ok, hs, hF⟩ := h
 refine (hc ok hs.doc).mono fun e w' ⟨h1, h2⟩ => ⟨h1, ?_⟩
 obtain ⟨ok', h3, h4⟩ := hs.op h2
 obtain ⟨_, _, _, _, hm⟩ := h2
 exact ⟨⟨ok', h3, fun k hk => ⟨Nat.lt_of_lt_of_le (hF k hk).1 hm.size, (h4 k (hF k hk).1 (hF k hk).2).2⟩⟩, hm.size, fun k hk => (h4 k (hF k hk).1 (hF k hk).2).1⟩
/-- Rows that are held. -/
def RowsIn (W : World) (F : Nat → Prop) (A : Option Addr) (c : Nat) (r : List S54) : Prop := r.length ≤ c ∧ Kd.F k54 W F A r.length r
theorem RowsIn.mono {A : Option Addr} {c : Nat} (h : RowsIn W F A c r) (hf : ∀ k, F k → F' k) : RowsIn W F' A c r := ⟨h.1, fun W' hW => h.2 W' fun k hk hl => hW k (hf k hk) hl⟩
theorem RowsIn.move {A : Option Addr} {c : Nat} (h : RowsIn W F A c r) (hs : W.heap.size ≤ W'.heap.size) (hm : ∀ k, F k → k < W.heap.size → W'.heap[k]? = W.heap[k]?) : RowsIn W' F A c r :=
 ⟨h.1, fun W2 hW => h.2 W2 fun k hk hl => (hW k hk (Nat.lt_of_lt_of_le hl hs)).trans (hm k hk hl)⟩
theorem RowsIn.below {A : Option Addr} {c : Nat} (h : RowsIn W F A c r) (hb : Below W.heap.size W W') : RowsIn W' F A c r := h.move hb.size fun k _ hl => hb.block k hl
theorem RowsIn.now {A : Option Addr} {c : Nat} (h : RowsIn W F A c r) : r.length ≤ c ∧ Kd.C k54 W A r.length r := ⟨h.1, Kd.F_now h.2⟩
/-- Numbers that are held. -/
def NumsIn (W : World) (F : Nat → Prop) (A : Option Addr) (c : Nat) (l : List Int) : Prop := Kd.R kI 3 W 0 F (.slice A l.length c) l
theorem NumsIn.mono {A : Option Addr} {c : Nat} {l : List Int} (h : NumsIn W F A c l) (hf : ∀ k, F k → F' k) : NumsIn W F' A c l := Kd.R_mono h hf
theorem NumsIn.move {A : Option Addr} {c : Nat} {l : List Int} (h : NumsIn W F A c l) (hm : ∀ k, F k → k < W.heap.size → W'.heap[k]? = W.heap[k]?) : NumsIn W' F A c l := Kd.R_step h hm
theorem NumsIn.below {A : Option Addr} {c : Nat} {l : List Int} (h : NumsIn W F A c l) (hb : Below W.heap.size W W') : NumsIn W' F A c l := Kd.R_below h hb
theorem Held.rows (h : Held w W F g xs) (hF : Fit xs) (k : Nat) (n : Int) (hr : rowsR xs k n = some r) : Calls Try.prog 11 #[.pointer (some ⟨g, 0, none⟩), .int .i64 n] W fun e w' => ∃ A c, e = .returned (.slice A r.length c) ∧ RowsIn w' (Or2 F W w') A c r ∧ Held w w' (Or2 F W w') g xs ∧ Below W.heap.size W w' := by
 obtain ⟨ok, hs, hf⟩ := h
 refine (Doc_Rows hs.doc hF k n r hr).mono ?_
 rintro e w' ⟨v, rfl, hS, hB⟩
 obtain ⟨A, c, rfl⟩ := Kd.S_slice hS
 exact ⟨A, c, rfl, ⟨(Kd.S_reads' hS).2.1, Kd.S_F (Kd.S_mono (Kd.S_bound hS) fun k hk => .inr ⟨hk.2.1, hk.2.2.1⟩)⟩, Held.quiet ⟨ok, hs, hf⟩ hB, hB⟩
theorem Held.kids (h : Held w W F g xs) (hF : Fit xs) (n : Int) : Calls Try.prog 14 #[.pointer (some ⟨g, 0, none⟩), .int .i64 n] W fun e w' => ∃ A c, e = .returned (.slice A (kidsN xs n).length c) ∧ NumsIn w' (Or2 F W w') A c (kidsN xs n) ∧ Held w w' (Or2 F W w') g xs ∧ Below W.heap.size W w' := by
 obtain ⟨ok, hs, hf⟩ := h
 refine (Doc_Kids hs.doc hF n).mono ?_
 rintro e w' ⟨v, rfl, hR, hB⟩
 obtain ⟨A, c, rfl⟩ := Kd.R_slice hR
 exact ⟨A, c, rfl, Kd.R_lower (Kd.R_mono (Kd.R_bound hR) fun k hk => .inr ⟨hk.2.1, hk.2.2.1⟩) (Nat.zero_le _), Held.quiet ⟨ok, hs, hf⟩ hB, hB⟩
theorem Held.parent (h : Held w W F g xs) (n : Int) {p : Int} (hn : inB xs n = true) (hp : (rd_T79 xs n).f1 = p) : Calls Try.prog 15 #[.pointer (some ⟨g, 0, none⟩), .int .i64 n] W fun e w' => e = .returned (.int .i64 p) ∧ Held w w' F g xs ∧ Below W.heap.size W w' := by
 obtain ⟨ok, hs, hf⟩ := h
 refine (Doc_Parent hs.doc n).mono ?_
 rintro e w' ⟨rfl, ⟨m, rfl⟩⟩
 have hB := pw_below_drewN (Below.refl W.heap.size W) m
 rw [if_pos (of_decide_eq_true hn), hp]
 exact ⟨rfl, Held.quiet0 ⟨ok, hs, hf⟩ hB, hB⟩
theorem Held.len (h : Held w W F g xs) {n : Int} (hn : (xs.length : Int) = n) : Calls Try.prog 30 #[.pointer (some ⟨g, 0, none⟩)] W fun e w' => e = .returned (.int .i64 n) ∧ Held w w' F g xs ∧ Below W.heap.size W w' := by
 subst hn
 obtain ⟨ok, hs, hf⟩ := h
 refine (Doc_Len hs.doc).mono ?_
 rintro e w' ⟨rfl, ⟨m, rfl⟩⟩
 have hB := pw_below_drewN (Below.refl W.heap.size W) m
 exact ⟨rfl, Held.quiet0 ⟨ok, hs, hf⟩ hB, hB⟩
/-- The same rows. -/
theorem rows_same {F1 F2 : Nat → Prop} {A1 A2 : Option Addr} {c1 c2 : Nat} (h1 : RowsIn W F1 A1 c1 r) (h2 : RowsIn W F2 A2 c2 r) : Calls Try.prog 16 #[.slice A1 r.length c1, .slice A2 r.length c2] W fun e w' => e = .returned (.bool true) ∧ Below W.heap.size W w' :=
 boltingref04_Same.calls A1 c1 r A2 c2 r true W h1.now.2 h1.now.1 h2.now.2 h2.now.1 (by simp [boltingref04_Same.f])
end
end Go.Proofs.Ytpkaliaaffgbdaa.QA
