/- Nodes at depth 0 whose attributes' names differ: what each call keeps; attributes told by definition. The document's own answer (boltingref11): Remove, Data. The document's own answer (boltingref11): Attr, Drop. The document's own answer (boltingref11): Drop. The document's own answer (boltingref11): tree. -/
import Derived.Test.YtpkaliaaffgbdaaM11
namespace Go.Proofs.Ytpkaliaaffgbdaa.QA
open Go.RowKit Go.Proofs.YtpkaliaaffgbdaaW.PrintWords Go.Proofs.YtpkaliaaffgbdaaW.PrintLast Go.Proofs.YtpkaliaaffgbdaaW.PrintMore
attribute [local go_sem] max2_int min2_int max_two min_two max_three min_three max_four min_four   -- for this text's walks alone
set_option linter.unusedVariables false
set_option linter.unusedSimpArgs false

open Go
/-- Names that differ. -/
def Apart1 (l : List S52) : Prop := (l.map fun a => a.f0).Nodup
/-- Each node at depth 0, its attributes' names apart. -/
def Neat (xs : List S79) : Prop := ∀ i : Nat, (rd_T79 xs (i : Int)).f0.f0 = 0 ∧ Apart1 (rd_T79 xs (i : Int)).f0.f4
section
variable {M : Nat} {xs ys : List S79}
theorem Neat.same (h : Neat xs) (he : ∀ i : Nat, (rd_T79 ys (i : Int)).f0 = (rd_T79 xs (i : Int)).f0) : Neat ys := fun i => by rw [he i]; exact h i
theorem neat_new : Neat newDoc := fun i => by
 match i with
 | 0 => exact ⟨rfl, List.nodup_nil⟩
 | i + 1 => rw [rd_out _ _ (by simp [newDoc])]; exact ⟨rfl, List.nodup_nil⟩
theorem Neat.add (h : Neat xs) (x : S54) (hx : Apart1 x.f4) : Neat (addN xs x) := fun i => by
 unfold addN
 rw [rd_add]
 split
 ·exact ⟨rfl, hx⟩
 ·exact h i
theorem putN_f0 (p a n j : Nat) : (rd_T79 (putN xs p a n) (j : Int)).f0 = (rd_T79 xs (j : Int)).f0 := by
 unfold putN
 dsimp only
 rw [rd_set]
 split
 ·rename_i c
  show (rd_T79 (xs.set p _) (n : Int)).f0 = _
  rw [rd_set, c.1]
  split
  ·rename_i c2
   show (rd_T79 xs (p : Int)).f0 = _
   rw [c2.1]
  ·rfl
 ·rw [rd_set]
  split
  ·rename_i c
   show (rd_T79 xs (p : Int)).f0 = _
   rw [c.1]
  ·rfl
theorem takeN_f0 (i j : Nat) : (rd_T79 (takeN xs i) (j : Int)).f0 = (rd_T79 xs (j : Int)).f0 := by
 have key : ∀ zs : List S79, (∀ q : Nat, (rd_T79 zs (q : Int)).f0 = (rd_T79 xs (q : Int)).f0) → (rd_T79 (zs.set i (withUp (rd_T79 zs (i : Int)) (-1))) (j : Int)).f0 = (rd_T79 xs (j : Int)).f0 := fun zs hz => by
  rw [rd_set]
  split
  ·rename_i c
   show (rd_T79 zs (i : Int)).f0 = _
   rw [hz, c.1]
  ·exact hz j
 unfold takeN
 dsimp only
 split
 ·exact key xs fun _ => rfl
 ·refine key _ fun q => ?_
  rw [rd_set]
  split
  ·rename_i c
   show (rd_T79 xs (rd_T79 xs (i : Int)).f1).f0 = _
   have : (rd_T79 xs (i : Int)).f1 = (q : Int) ∨ (rd_T79 xs (i : Int)).f1 ≤ 0 := by omega
   rcases this with h1 | h1
   ·rw [h1]
   ·have hq : q = 0 := by omega
    subst hq
    show (xs.getD (rd_T79 xs (i : Int)).f1.toNat z79).f0 = (xs.getD ((0 : Nat) : Int).toNat z79).f0
    rw [show (rd_T79 xs (i : Int)).f1.toNat = 0 by omega]
    rfl
  ·rfl
theorem Neat.load : ∀ (l : List S54) (xs ys : List S79) (roots ar rs : List Int), loadL l xs roots ar = some (ys, rs) → Neat xs → (∀ x ∈ l, Apart1 x.f4) → Neat ys
 | [], xs, ys, roots, ar, rs, h, hN, _ => by
  simp only [loadL] at h
  injection h with h
  injection h with h _
  rw [← h]
  exact hN
 | x :: l, xs, ys, roots, ar, rs, h, hN, hx => by
  have ha := hN.add x (hx x List.mem_cons_self)
  have hl : ∀ y ∈ l, Apart1 y.f4 := fun y hy => hx y (List.mem_cons_of_mem _ hy)
  simp only [loadL] at h
  split at h
  rotate_left
  ·cases h
  split at h
  ·exact Neat.load l _ ys _ _ rs h ha hl
  ·split at h
   ·exact Neat.load l _ ys _ _ rs h (ha.same fun i => putN_f0 _ _ _ i) hl
   ·cases h
theorem reads_apart {s : List (Int × Int)} {r : List S54} (h : Reads xs s r) (hN : Neat xs) (hs : ∀ p ∈ s, 0 ≤ p.1) (hG : Good M xs) : ∀ x ∈ r, Apart1 x.f4 := by
 induction h with
 | nil => intro x hx; cases hx
 | @cons p rest r h ih =>
  intro x hx
  obtain ⟨j, hj⟩ := Int.eq_ofNat_of_zero_le (hs p List.mem_cons_self)
  rcases List.mem_append.1 hx with hx | hx
  ·split at hx
   ·cases hx
   ·rw [List.mem_singleton.1 hx]
    show Apart1 (rd_T79 xs p.1).f0.f4
    rw [hj]
    exact (hN j).2
  ·refine ih (fun q hq => ?_) x hx
   rcases List.mem_append.1 hq with hq | hq
   ·unfold kidsAt at hq
    rw [hj] at hq
    obtain ⟨k, hk, rfl⟩ := List.mem_map.1 hq
    obtain ⟨m, rfl, _⟩ := hG.tree.kid j k hk
    exact Int.natCast_nonneg _
   ·exact hs q (List.mem_cons_of_mem _ hq)
theorem noTwo_apart {l : List S52} (h : NoTwo l 0) : Apart1 l := by
 unfold Apart1 List.Nodup
 rw [List.pairwise_map]
 refine List.pairwise_iff_getElem.2 fun a b ha hb hab e => ?_
 have := h a b hab (Nat.zero_le _) hb
 rw [show rd_T52 l (a : Int) = l[a] by simp [rd_T52, List.getElem?_eq_getElem ha], show rd_T52 l (b : Int) = l[b] by simp [rd_T52, List.getElem?_eq_getElem hb], e] at this
 exact this rfl
theorem rowOk_apart {x : S54} (h : RowOk x) : Apart1 x.f4 := by
 unfold RowOk at h
 split at h
 ·have : x.f4 = [] := List.eq_nil_of_length_eq_zero h.2
  rw [this]
  exact List.nodup_nil
 ·exact noTwo_apart h.2.2.2
theorem right_apart : ∀ (l : List S54) (d : Int), RightL d l → ∀ x ∈ l, Apart1 x.f4
 | [], _, _, x, hx => by cases hx
 | y :: l, d, h, x, hx => by
  rcases List.mem_cons.1 hx with rfl | hx
  ·exact rowOk_apart h.1.2.2
  ·exact right_apart l _ h.2 x hx
/-! #### an attribute set, or dropped, wherever it stands -/
theorem setAttr_all {n v : ByteArray} : ∀ (l : List S52), Apart1 l → setAttr l n v = if (l.any fun a => decide (a.f0 = n)) = true then l.map (fun a => if a.f0 = n then ⟨a.f0, v⟩ else a) else l ++ [⟨n, v⟩]
 | [], _ => rfl
 | a :: l, h => by
  unfold Apart1 at h
  rw [List.map_cons, List.nodup_cons] at h
  obtain ⟨h1, h2⟩ := h
  simp only [setAttr, List.any_cons, List.map_cons]
  by_cases c : a.f0 = n
  ·rw [if_pos c, decide_eq_true c, Bool.true_or, if_pos rfl, if_pos c]
   congr 1
   refine (List.map_id _).symm.trans (List.map_congr_left fun b hb => ?_)
   rw [if_neg fun e => h1 (List.mem_map.2 ⟨b, hb, e.trans c.symm⟩)]
   rfl
  ·rw [if_neg c, decide_eq_false c, Bool.false_or, if_neg c, setAttr_all l h2]
   split <;> rfl
theorem setAttr_apart {n v : ByteArray} (l : List S52) (h : Apart1 l) : Apart1 (setAttr l n v) := by
 rw [setAttr_all l h]
 unfold Apart1 at h ⊢
 split
 ·rw [List.map_map]
  have : ((fun a : S52 => a.f0) ∘ fun a => if a.f0 = n then (⟨a.f0, v⟩ : S52) else a) = fun a => a.f0 := by
   funext a
   show (if a.f0 = n then (⟨a.f0, v⟩ : S52) else a).f0 = a.f0
   split <;> rfl
  rw [this]
  exact h
 ·rename_i c
  rw [List.map_append, List.nodup_append]
  refine ⟨h, by simp, fun a ha b hb e => c ?_⟩
  rw [List.map_singleton, List.mem_singleton] at hb
  obtain ⟨x, hx, hxa⟩ := List.mem_map.1 ha
  exact List.any_eq_true.2 ⟨x, hx, decide_eq_true (by rw [hxa, e, hb])⟩
theorem drop_all {n : ByteArray} : ∀ (l : List S52) (i : Nat), Apart1 l → (idxA n i l < 0 ∧ (l.filter fun a => !decide (a.f0 = n)) = l) ∨ ∃ j : Nat, idxA n i l = ((i + j : Nat) : Int) ∧ j < l.length ∧ (l.filter fun a => !decide (a.f0 = n)) = l.eraseIdx j
 | [], _, _ => .inl ⟨by unfold idxA; decide, rfl⟩
 | a :: l, i, h => by
  unfold Apart1 at h
  rw [List.map_cons, List.nodup_cons] at h
  obtain ⟨h1, h2⟩ := h
  by_cases c : a.f0 = n
  ·right
   refine ⟨0, by simp only [idxA]; rw [if_pos c]; simp, by simp, ?_⟩
   rw [List.filter_cons, if_neg (by simp [c]), List.eraseIdx_cons_zero]
   refine List.filter_eq_self.2 fun b hb => ?_
   simp only [Bool.not_eq_true', decide_eq_false_iff_not]
   exact fun e => h1 (List.mem_map.2 ⟨b, hb, e.trans c.symm⟩)
  ·rcases drop_all l (i + 1) h2 with ⟨h3, h4⟩ | ⟨j, h3, h4, h5⟩
   ·left
    refine ⟨by simp only [idxA]; rw [if_neg c]; exact h3, ?_⟩
    rw [List.filter_cons, if_pos (by simp [c]), h4]
   ·right
    refine ⟨j + 1, by simp only [idxA]; rw [if_neg c, h3]; congr 1; omega, by simp; omega, ?_⟩
    rw [List.filter_cons, if_pos (by simp [c]), h5, List.eraseIdx_cons_succ]
theorem erase_apart {l : List S52} (h : Apart1 l) (j : Nat) : Apart1 (l.eraseIdx j) := by
 unfold Apart1 at h ⊢
 exact h.sublist ((List.eraseIdx_sublist l j).map _)
end
end Go.Proofs.Ytpkaliaaffgbdaa.QA
namespace Go.Proofs.Ytpkaliaaffgbdaa.QA
open Go.RowKit Go.Proofs.YtpkaliaaffgbdaaW.PrintWords Go.Proofs.YtpkaliaaffgbdaaW.PrintLast Go.Proofs.YtpkaliaaffgbdaaW.PrintMore
attribute [local go_sem] max2_int min2_int max_two min_two max_three min_three max_four min_four   -- for this text's walks alone
set_option linter.unusedVariables false
set_option linter.unusedSimpArgs false

open Go
theorem f0s_set (xs : List S79) (i : Nat) (x : S79) : f0s (xs.set i x) = (f0s xs).set i x.f0 := by
 unfold f0s
 rw [List.map_set]
theorem f1s_same (xs : List S79) (i : Nat) (x : S79) (h : x.f1 = (rd_T79 xs (i : Int)).f1) : f1s (xs.set i x) = f1s xs := by
 unfold f1s
 rw [List.map_set]
 by_cases hi : i < xs.length
 ·rw [h, nd_at i hi]
  have : (xs.map fun x => x.f1).set i xs[i].f1 = xs.map fun x => x.f1 := by
   have h2 : (xs.map fun x => x.f1)[i]'(by simpa using hi) = xs[i].f1 := by simp
   rw [← h2]
   exact List.set_getElem_self _
  exact this
 ·rw [List.set_eq_of_length_le (by simp; omega)]
theorem ks9_same (xs : List S79) (i : Nat) (x : S79) (h : x.f2 = (rd_T79 xs (i : Int)).f2) (p : Nat) : ks9 (xs.set i x) p = ks9 xs p := by
 rw [ks_set]
 split
 ·rename_i c
  rw [h, c.1]
  rfl
 ·rfl
theorem ranked_same {xs ys : List S79} {R : List Int} (h : Ranked xs R) (hl : ys.length = xs.length) (hk : ∀ p, ks9 ys p = ks9 xs p) : Ranked ys R :=
 ⟨by rw [h.len, hl], fun p => by rw [hk]; exact h.ord p, fun p k hkk => by rw [hk] at hkk; exact h.lo p k hkk⟩
theorem mv0 {x : S54} (h : x.f0 = 0) : mv 0 x = x := by
 obtain ⟨f0, f1, f2, f3, f4⟩ := x
 dsimp only at h
 subst h
 unfold mv
 rw [show wrap64 ((0 : Int) + 0) = 0 by unfold wrap64; omega]
theorem neat_mv {xs : List S79} (h : Neat xs) : (f0s xs).map (mv 0) = f0s xs := by
 refine (List.map_congr_left fun x hx => ?_).trans (List.map_id _)
 obtain ⟨y, hy, rfl⟩ := List.mem_map.1 hx
 obtain ⟨i, hi, rfl⟩ := List.getElem_of_mem hy
 have := (h i).1
 rw [nd_at i hi] at this
 exact mv0 this
section
variable {W w w1 w2 : World} {ok ok1 : Nat → Prop} {g M : Nat} {xs ys : List S79} {v : Value}
/-- d.X = x, where x is a row that was made meanwhile. -/
theorem RD.setRow (h : RD w W ok ok1 g xs) (hb : Below W.heap.size W w2) (hS : Kd.R k54 54 w2 0 (fun k => W.heap.size ≤ k) v (f0s ys)) (hu : f1s ys = f1s xs) (hl : ys.length = xs.length) (hk : ∀ p, ks9 ys p = ks9 xs p) : ToRD w (w2.setCell ⟨g, 0, none⟩ v) ok g ys := by
 obtain ⟨R, vX, vU, vR, h, hR⟩ := h
 have h2 := h.quiet hb
 have hg := h.lt g h.at_.own
 have h3 := h2.setX (okn := fun k => W.heap.size ≤ k) (World.grownBy.refl _ _) (Kd.R_mono hS fun k hk => ⟨.inr hk, by omega⟩) fun k hk => by have := h.size; omega
 exact ⟨_, R, _, vU, vR, by rw [hu]; exact h3, ranked_same hR hl hk⟩
/-- All rows, anew: what Moved answers. -/
theorem RD_moved (h : RDoc W ok g xs) (hG : Good M xs) (hM : M < 100000) (hN : Neat xs) {GX cX : Nat} (hC : Kd.C k54 W (some ⟨GX, 0, none⟩) xs.length (f0s xs)) (hc : xs.length ≤ cX) : Calls Try.prog 65 #[.slice (some ⟨GX, 0, none⟩) xs.length cX, .int .i64 0] W fun e w' => ∃ G c, e = .returned (.slice (some ⟨G, 0, none⟩) xs.length c) ∧ W.heap.size ≤ G ∧ xs.length ≤ c ∧ Kd.R k54 54 w' W.heap.size (fun _ => True) (.slice (some ⟨G, 0, none⟩) xs.length c) (f0s xs) ∧ Below W.heap.size W w' := by
 have hl := hG.len
 have hp := hG.tree.pos
 have hm := moved_is (f0s xs) 0 (by rw [f0s_length]; omega) (fun x hx => by
  obtain ⟨y, hy, rfl⟩ := List.mem_map.1 hx
  obtain ⟨i, hi, rfl⟩ := List.getElem_of_mem hy
  have := hG.attrs i
  rw [nd_at i hi] at this
  omega)
 rw [neat_mv hN] at hm
 have hc2 := boltingref04_Moved.calls _ (some ⟨GX, 0, none⟩) cX (f0s xs) 0 _ W (by rw [f0s_length]; exact hC) (by rw [f0s_length]; exact hc) hm
 rw [f0s_length] at hc2
 refine hc2.mono ?_
 rintro e w' ⟨v, rfl, hS, hB⟩
 obtain ⟨G, c, rfl, hG1, _, _, _⟩ := Kd.S_form hS (by rw [f0s_length]; exact hp)
 rw [f0s_length] at hS
 exact ⟨G, c, by rw [f0s_length], hG1, (Kd.S_reads' hS).2.1, Kd.S_R hS, hB⟩
theorem row_cells {G n c : Nat} {X : List S54} {base : Nat} {ok : Nat → Prop} (h : Kd.R k54 54 W base ok (.slice (some ⟨G, 0, none⟩) n c) X) (i : Nat) (hi : i < n) : (∃ u, W.cell? ⟨G, i * 5 + 3, none⟩ = some (.string u)) ∧ (∃ A m c, W.cell? ⟨G, i * 5 + 4, none⟩ = some (.slice A m c)) ∧ ∀ j, W.frozen? ⟨G, j, none⟩ = false := by
 obtain ⟨hn, hnc, hC⟩ := Kd.R_reads' h
 obtain ⟨ad, A4, c4, e4, _, _, _, x3, x4, _, _⟩ := at_T54 hC (i : Int) (by omega) (by omega)
 injection e4 with e4
 subst e4
 rw [Int.toNat_natCast, add_plain] at x3 x4
 obtain ⟨cells, hb⟩ := Kd.R_typed h G rfl
 exact ⟨⟨_, x3⟩, ⟨_, _, _, x4⟩, fun j => blk_frozen hb j⟩
set_option maxHeartbeats 8000000 in
set_option maxRecDepth 100000 in
theorem RD_Data (h : RDoc w ok g xs) (hG : Good M xs) (hM : M < 100000) (hN : Neat xs) (n : Int) (s : ByteArray) : Calls Try.prog 57 #[.pointer (some ⟨g, 0, none⟩), .int .i64 n, .string s] w fun e w' => e = .returned (.int .i64 (dataR xs n s).1) ∧ ToRD w w' ok g (dataR xs n s).2 := by
 unfold dataR
 cases hn : someB xs n with
 | false => exact RD_Data_no h n s hn
 | true =>
  rw [Bool.true_and]
  obtain ⟨i, rfl, hi0, hi⟩ := someB_iff.1 hn
  obtain ⟨GX, cX, GU, cU, GR, cR, ⟨q0, q1, q2⟩, ⟨l0, l1, l2⟩, hK, _, hC⟩ := h.reads hG.tree.pos
  have hki := hK i hi
  have a1 : ¬ (i : Int) < 1 := by omega
  have a2 : ¬ (xs.length : Int) ≤ (i : Int) := by omega
  have z1 : (i : Int) < (xs.length : Int) := by omega
  have HD := Aside0.mk h
  have HCA := Aside0.mk (And.intro hi (RD_moved h hG hM hN hC l0))
  by_cases c : (rd_T79 xs (i : Int)).f0.f1 = 0
  ·rw [if_neg (by simp [c])]
   have cb : ((rd_T79 xs (i : Int)).f0.f1 == 0) = true := beq_iff_eq.2 c
   clear h hn hK hC c
   go_enter Try.func57, Try.ntmps57
   go_wp2
   go_ret
   exact ⟨rfl, .quiet HD.out (by repeat (first | exact Below.refl _ _ | apply pw_below_drewN))⟩
  ·rw [if_pos (by simpa using c)]
   have cb : ((rd_T79 xs (i : Int)).f0.f1 == 0) = false := beq_eq_false_iff_ne.2 c
   have HQ := Aside0.mk q0
   clear h hn hK hC c
   go_enter Try.func57, Try.ntmps57
   go_upto_region 4 with (first | (go_at_call 65; refine HCA.out.2.mono ?_; rintro e w2 ⟨G, c, rfl, hG1, hcl, hR, hB⟩))
   have hq2 := (hB.cell (p := ⟨g, 0, none⟩) HD.out.lt).trans HQ.out
   obtain ⟨⟨u3, x3⟩, _, hf⟩ := row_cells hR i hi
   have hgf : ∀ j, w2.frozen? ⟨g, j, none⟩ = false := fun j => by
    obtain ⟨R, vX, vU, vR, hA, _⟩ := HD.out
    exact blk_frozen ((hB.block g hA.lt).trans hA.blk) j
   have HR := Aside0.mk hR
   have HB := Aside0.mk (And.intro hB hG1)
   have hgG : g ≠ G := by have := HD.out.lt; omega
   have HGG := Aside0.mk hgG
   clear hR hB q0 q1 q2 hki
   go_wp2
   go_ret
   have hrow := R54_set (okn := fun _ => False) HR.out i (by rw [f0s_length]; exact hi) 3 (by omega) (.string s) (withData (rd_T79 xs (i : Int)) s).f0 (fun _ h => h.elim) (fun oki cs _ hM => by
    obtain ⟨v4, rfl, h4⟩ := k54_openM hM
    have e : (f0s xs)[i]'(by rw [f0s_length]; exact hi) = (rd_T79 xs (i : Int)).f0 := by rw [nd_at i hi]; simp [f0s]
    rw [e] at h4 ⊢
    exact k54.M_mono (fun k hk => .inl hk) (k54_mkM _ _ oki (withData (rd_T79 xs (i : Int)) s).f0 h4))
   rw [Int.toNat_natCast]
   refine ⟨rfl, HD.out.start.setRow (below_set HB.out.1 HB.out.2) ?_ (f1s_same xs i _ rfl) (by simp) (ks9_same xs i _ rfl)⟩
   rw [f0s_set]
   exact Kd.R_lower (Kd.R_mono (Kd.R_bound hrow.1) fun k hk => hk.2.1) (Nat.zero_le _)
set_option maxHeartbeats 8000000 in
set_option maxRecDepth 100000 in
theorem RD_Remove (h : RDoc w ok g xs) (hG : Good M xs) (n : Int) : Calls Try.prog 53 #[.pointer (some ⟨g, 0, none⟩), .int .i64 n] w fun e w' => e = .returned (.int .i64 (removeR xs n).1) ∧ ToRD w w' ok g (removeR xs n).2 := by
 unfold removeR
 cases hn : someB xs n with
 | false => exact RD_Remove_no h n hn
 | true =>
  rw [if_pos rfl]
  obtain ⟨i, rfl, hi0, hi⟩ := someB_iff.1 hn
  rw [Int.toNat_natCast]
  have hl := hG.len
  obtain ⟨t0, t1⟩ := take_facts hG i hi
  obtain ⟨R, vX, vU, vR, hA, hR⟩ := h
  have hRT := ranked_take hG hR i hi
  have hx0 : 0 < (f0s xs).length := by rw [f0s_length]; exact hG.tree.pos
  obtain ⟨GX, cX, GU, cU, GR, cR, rfl, rfl, rfl, ⟨l0, l1, l2⟩, _, _⟩ := hA.reads hx0 (by rw [f0s_length, f1s_length]) (by rw [f0s_length, hR.len])
  obtain ⟨q0, q1, q2, qf⟩ := ref_cells hA.blk
  rw [f0s_length] at q0 q1 q2 l0 l1 l2
  have a1 : ¬ (i : Int) < 1 := by omega
  have a2 : ¬ (xs.length : Int) ≤ (i : Int) := by omega
  have z1 : (i : Int) < (xs.length : Int) := by omega
  have hgl := hA.lt
  have HCU := Aside0.mk (Kd.C_alloc (Kd.R_reads' hA.rU).2.2 (.cells #[] 3))
  have HS := Aside0.mk (RSt.start hA)
  rw [f0s_length] at HS
  rw [f1s_length] at HCU
  have HT := Aside0.mk (And.intro t0 (And.intro t1 hRT))
  have HL := Aside0.mk (And.intro hl hi)
  clear hA hn t0 t1 hRT hR hG hl hx0
  go_enter Try.func53, Try.ntmps53
  go_upto_region 4 with (first | ((with_reducible refine gate_builtin (b := .append) (xs := #[.tmp 17, .tmp 21]) rfl ?_); at_builtin; refine Kd.R_append_rows kI (Rr := kI.K (w.alloc (.cells #[] 3))) (w0 := w) w.heap.size rfl (.tmp 17) (.tmp 21) 32 3 (.int .i64 0) 8 rfl Try.underlying32 info3 rfl (by decide) (by decide) (.slice (some ⟨w.heap.size, 0, none⟩) 0 0) [] (f1s xs) (some ⟨GU, 0, none⟩) xs.length cU (fun _ => True) (fun _ => False) rfl rfl (R_int_block (xs := []) (cap := 0) (Nat.le_refl _) (blk_new w _) (Nat.le_refl _) (by decide) rfl rfl) HCU.out (K_M _ w.heap.size _) (fun _ h => h.elim) (fun _ _ => trivial) (below_alloc (Below.refl _ _) _) (by rw [World.size_alloc]; omega) (by have := HL.out.1; simp only [List.length_nil]; omega) ?_; intro v1 w1 hR1 hB1 _ _))
  rw [List.nil_append] at hR1
  obtain ⟨GA, cA, rfl, hA0, hAl, cells, hbA⟩ := Kd.R_form hR1 (by rw [f1s_length]; have := HL.out.2; omega)
  have hln := f1s_length xs
  rw [hln] at hR1 ⊢
  have hfA := blk_frozen hbA i
  have hcA : w1.cell? ⟨GA, i, none⟩ = some (.int .i64 (rd (f1s xs) (i : Int))) := by
   obtain ⟨ad, e, hc⟩ := Kd.at_int (Kd.R_reads' hR1).2.2 (i : Int) (by omega) (by rw [hln]; exact z1)
   injection e with e
   subst e
   rwa [add_plain, Int.toNat_natCast] at hc
  have r1 := (hB1.cell (p := ⟨g, 1, none⟩) hgl).trans q1
  have rf : ∀ j, w1.frozen? ⟨g, j, none⟩ = false := fun j => blk_frozen ((hB1.block g hgl).trans HS.out.at_.blk) j
  have hgA : g ≠ GA := by omega
  have HR1 := Aside0.mk hR1
  have HB1 := Aside0.mk (And.intro hB1 hA0)
  have HLN := Aside0.mk hln
  have HGA := Aside0.mk hgA
  clear hR1 hB1 q0 q1 q2 qf hbA hln
  go_wp2
  go_ret
  refine ⟨rfl, ?_⟩
  have h1 := (HS.out.quiet HB1.out.1).other (set_grown w1 GA i (.int .i64 (-1))) HB1.out.2 (fun h => by have := h.2; omega)
  have hR2 := HR1.out
  rw [← HLN.out] at hR2
  have h2 := (Kd.R_put hR2 (i : Int) (-1)).1
  rw [Int.toNat_natCast, HLN.out] at h2
  have h3 := h1.setU (v := .slice (some ⟨GA, 0, none⟩) xs.length cA) (World.grownBy.refl _ _) (Kd.R_lower h2 (Nat.zero_le _)) (fun k hk => .inr (by
   have hk : GA = k := Option.some.inj hk
   have := Kd.R_lt HS.out.at_.rR
   have := HB1.out.2
   exact ⟨by omega, by omega, fun e => by have := this; have h9 := Kd.R_lt HS.out.at_.rR k e; omega⟩))
  rw [← HT.out.1, ← HT.out.2.1] at h3
  exact ⟨_, R, _, _, _, h3, HT.out.2.2⟩
end
end Go.Proofs.Ytpkaliaaffgbdaa.QA
namespace Go.Proofs.Ytpkaliaaffgbdaa.QA
open Go.RowKit Go.Proofs.YtpkaliaaffgbdaaW.PrintWords Go.Proofs.YtpkaliaaffgbdaaW.PrintLast Go.Proofs.YtpkaliaaffgbdaaW.PrintMore
attribute [local go_sem] max2_int min2_int max_two min_two max_three min_three max_four min_four   -- for this text's walks alone
set_option linter.unusedVariables false
set_option linter.unusedSimpArgs false

open Go
def updA (n v : ByteArray) (a : S52) : S52 := if a.f0 = n then ⟨a.f0, v⟩ else a
def anyA (n : ByteArray) (l : List S52) : Bool := l.any fun a => decide (a.f0 = n)
theorem anyA_take {n : ByteArray} {l : List S52} {j : Nat} (h : j < l.length) : anyA n (l.take (j + 1)) = (anyA n (l.take j) || decide (l[j].f0 = n)) := by
 unfold anyA
 rw [List.take_add_one, List.getElem?_eq_getElem h, List.any_append]
 congr 1
 exact Bool.or_false _
theorem updA_take {n v : ByteArray} {l : List S52} {j : Nat} (h : j < l.length) : (l.take (j + 1)).map (updA n v) = (l.take j).map (updA n v) ++ [updA n v l[j]] := by
 rw [List.take_add_one, List.getElem?_eq_getElem h, List.map_append]
 rfl
theorem round_on {j n k : Nat} (h : j < n) (hg : n - j ≤ k) : n - (j + 1) < k ∧ j + 1 ≤ n := by omega
theorem map_upd_none {n v : ByteArray} {l : List S52} (h : ∀ a ∈ l, a.f0 ≠ n) : l.map (updA n v) = l := by
 refine (List.map_congr_left fun a ha => ?_).trans (List.map_id _)
 unfold updA
 rw [if_neg (h a ha)]
 rfl
theorem R_empty {α : Type} (d : Kd α) (e : Nat) {W : World} {base : Nat} (hb : base ≤ W.heap.size) : d.R e (W.alloc (.cells #[] e)) base (fun _ => True) (.slice (some ⟨W.heap.size, 0, none⟩) 0 0) [] :=
 ⟨fun _ _ => trivial, [], ⟨by simp, .inr ⟨W.heap.size, 0, #[], rfl, hb, blk_new _ _, Nat.le_refl _, by decide, by simp, by simp⟩⟩, Reps.none _ _⟩
section
variable {W w w1 w2 : World} {ok ok1 : Nat → Prop} {g M : Nat} {xs ys : List S79} {v : Value}
theorem RDoc.head (h : RDoc w ok g xs) {GX cX n c4 : Nat} {A4 : Option Addr} (i : Nat) (hi : i < xs.length) (q0 : w.cell? ⟨g, 0, none⟩ = some (.slice (some ⟨GX, 0, none⟩) xs.length cX)) (x4 : w.cell? ⟨GX, i * 5 + 4, none⟩ = some (.slice A4 n c4)) : ∀ ad, A4 = some ad → ∃ g4, ad = ⟨g4, 0, none⟩ := by
 intro ad e
 obtain ⟨R, vX, vU, vR, hA, _⟩ := h
 have e0 := (ref_cells hA.blk).1
 rw [q0] at e0
 obtain rfl := Option.some.inj e0
 obtain ⟨cs, _, hM, hcc, _⟩ := Kd.R_elem hA.rX z54 (i : Int) (by omega) (by omega)
 obtain ⟨v4, rfl, h4⟩ := k54_openM hM
 rw [Int.toNat_natCast] at hcc
 have e4 := hcc 4 v4 rfl
 rw [show w.cell? ⟨GX, i * k54.sz + 4, none⟩ = some (.slice A4 n c4) from x4] at e4
 obtain rfl := Option.some.inj e4
 subst e
 exact Kd.R_head h4
/-- d.X = x; x[i].Attrs = at, at a row of the call's own. -/
theorem RDoc.attrs {l : List S52} {G c : Nat} (h : RDoc w ok g xs) (hb : Below w.heap.size w W) (h9 : Kd.R k52 52 W w.heap.size (fun _ => True) v l) (hG1 : W.heap.size ≤ G) (hR : Kd.R k54 54 w2 W.heap.size (fun _ => True) (.slice (some ⟨G, 0, none⟩) xs.length c) (f0s xs)) (hB : Below W.heap.size W w2) (i : Nat) (hi : i < xs.length) :
  ToRD w ((w2.setCell ⟨G, i * 5 + 4, none⟩ v).setCell ⟨g, 0, none⟩ (.slice (some ⟨G, 0, none⟩) xs.length c)) ok g (xs.set i (withAttrs (rd_T79 xs (i : Int)) l)) := by
 have hsz := hb.size
 have h4 := Kd.R_lower (Kd.R_mono (Kd.R_below (Kd.R_bound h9) hB) (ok' := fun k => w.heap.size ≤ k ∧ k < W.heap.size) fun k hk => ⟨hk.2.1, hk.2.2.1⟩) (Nat.zero_le _)
 have hR2 := Kd.R_lower (Kd.R_mono (Kd.R_bound hR) (ok' := fun k => w.heap.size ≤ k) fun k hk => Nat.le_trans hsz hk.2.1) (Nat.zero_le _)
 have hrow := R54_set (okn := fun k => w.heap.size ≤ k ∧ k < W.heap.size) hR2 i (by rw [f0s_length]; exact hi) 4 (by omega) v (withAttrs (rd_T79 xs (i : Int)) l).f0 (fun k hk => ⟨hk.1, by omega⟩) (fun oki cs _ hM => by
  obtain ⟨v4, rfl, _⟩ := k54_openM hM
  have e : (f0s xs)[i]'(by rw [f0s_length]; exact hi) = (rd_T79 xs (i : Int)).f0 := by rw [nd_at i hi]; simp [f0s]
  rw [e]
  exact k54_mkM _ _ _ (withAttrs (rd_T79 xs (i : Int)) l).f0 (Kd.R_mono h4 fun k hk => .inr hk))
 refine h.start.setRow (below_set (hb.trans (hB.mono hsz)) (Nat.le_trans hsz hG1)) ?_ (f1s_same xs i _ rfl) (by simp) (ks9_same xs i _ rfl)
 rw [f0s_set]
 exact hrow.1
set_option maxHeartbeats 8000000 in
set_option maxRecDepth 100000 in
theorem RD_Attr (h : RDoc w ok g xs) (hG : Good M xs) (hM : M < 100000) (hN : Neat xs) (n : Int) (name value : ByteArray) (hn : name.size ≤ 140737488351232) (r : Int × List S79) (hr : attrR xs (name.size * 9 + 1) n name value = some r) : Calls Try.prog 55 #[.pointer (some ⟨g, 0, none⟩), .int .i64 n, .string name, .string value] w fun e w' => e = .returned (.int .i64 r.1) ∧ ToRD w w' ok g r.2 := by
 unfold attrR at hr
 cases he : elemB xs n with
 | false =>
  rw [if_pos he] at hr
  obtain rfl := Option.some.inj hr
  exact RD_Attr_no h n name value he
 | true =>
  rw [if_neg (by rw [he]; decide), attr_is name hn _ (by omega)] at hr
  have HE := Aside0.mk (RD_element h n)
  rw [he] at HE
  have HMAY := Aside0.mk (fun W => boltingref05_May.calls (name.size + 1) name true (okAttr name.data.toList) W (may_is name true hn _ (by omega)))
  have HD := Aside0.mk h
  cases hb : okAttr name.data.toList with
  | false =>
   rw [hb] at hr HMAY
   obtain rfl := Option.some.inj hr
   clear h hr he hb hn
   go_enter Try.func55, Try.ntmps55
   go_wp2_with (first | (go_at_call 77; refine HE.out.mono ?_; rintro e w' ⟨rfl, ⟨m, rfl⟩⟩) | (go_at_call 72; refine (HMAY.out _).mono ?_; rintro e w' ⟨rfl, ⟨m2, rfl⟩⟩))
   go_ret
   exact ⟨rfl, .quiet HD.out (by repeat (first | exact Below.refl _ _ | apply pw_below_drewN))⟩
  | true =>
   rw [hb] at hr HMAY
   obtain rfl := Option.some.inj hr
   have c0 := of_decide_eq_true he
   obtain ⟨i, rfl⟩ := Int.eq_ofNat_of_zero_le (show 0 ≤ n by omega)
   have hi : i < xs.length := by omega
   rw [Int.toNat_natCast]
   obtain ⟨GX, cX, GU, cU, GR, cR, ⟨q0, q1, q2⟩, ⟨l0, l1, l2⟩, hK, _, hC⟩ := h.reads hG.tree.pos
   obtain ⟨ad0, A4, c4, e4, _, _, _, _, x4, hl4, hi4⟩ := at_T54 hC (i : Int) (by omega) (by omega)
   injection e4 with e4
   subst e4
   have ex : rd_T54 (f0s xs) (i : Int) = (rd_T79 xs (i : Int)).f0 := by
    rw [rd_T54_at (f0s xs) i (by rw [f0s_length]; exact hi), nd_at i hi]
    simp [f0s]
   rw [ex, Int.toNat_natCast, add_plain] at x4
   rw [ex] at hl4 hi4
   have x4 : w.cell? ⟨GX, i * 5 + 4, none⟩ = some (.slice A4 (rd_T79 xs (i : Int)).f0.f4.length c4) := x4
   have hla := hG.attrs i
   have hap := (hN i).2
   have HG4 := Aside0.mk (h.head i hi q0 x4)
   have HCA := Aside0.mk (fun (W : World) (hB : Below w.heap.size w W) => RD_moved (HD.out.below hB) hG hM hN (Kd.C_below hC hB) l0)
   have hgl := h.lt
   have HQ := Aside0.mk (fun (W : World) (hB : Below w.heap.size w W) => (show W.cell? ⟨g, 0, none⟩ = some (.slice (some ⟨GX, 0, none⟩) xs.length cX) ∧ W.cell? ⟨GX, i * 5 + 4, none⟩ = some (.slice A4 (rd_T79 xs (i : Int)).f0.f4.length c4) ∧ Kd.C k52 W A4 (rd_T79 xs (i : Int)).f0.f4.length (rd_T79 xs (i : Int)).f0.f4 from ⟨(hB.cell (p := ⟨g, 0, none⟩) hgl).trans q0, (hB.cell (block_lt_of_cell x4)).trans x4, Kd.C_below hi4 hB⟩))
   generalize hat : (rd_T79 xs (i : Int)).f0.f4 = at_ at x4 hl4 hi4 HQ hla hap ⊢
   have HAT := Aside0.mk hat
   have HAP := Aside0.mk hap
   have HI := Aside0.mk (And.intro hi (And.intro hl4 (And.intro l0 (show at_.length < 1000000 by omega))))
   have z1 : (i : Int) < (xs.length : Int) := by omega
   clear h hr he hb hn c0 hC x4 hl4 hi4 hat hap q0 q1 q2 hK ex hla
   go_enter Try.func55, Try.ntmps55
   go_wp2_with (first | (go_at_call 77; refine HE.out.mono ?_; rintro e w' ⟨rfl, ⟨m, rfl⟩⟩) | (go_at_call 72; refine (HMAY.out _).mono ?_; rintro e w' ⟨rfl, ⟨m2, rfl⟩⟩))
   have H0 : Aside0 (Kd.R k52 52 ((w.drewN (m + m2)).alloc (.cells #[] 52)) w.heap.size (fun _ => True) (.slice (some ⟨(w.drewN (m + m2)).heap.size, 0, none⟩) 0 0) ((at_.take 0).map (updA name value)) ∧ Below w.heap.size w ((w.drewN (m + m2)).alloc (.cells #[] 52))) := ⟨⟨R_empty k52 52 (by simp), below_alloc (pw_below_drewN (Below.refl _ _) _) _⟩⟩
   go_loopg [9, 10, 11] at_.length (fun gg v9 v10 v11 W => ∃ (j : Nat) (b : Bool), j ≤ at_.length ∧ at_.length - j ≤ gg ∧ v11 = .int .i64 (j : Int) ∧ v10 = .bool b ∧ Aside0 (b = anyA name (at_.take j)) ∧ Aside0 (Kd.R k52 52 W w.heap.size (fun _ => True) v9 ((at_.take j).map (updA name value)) ∧ Below w.heap.size w W))
   case atStart => exact ⟨0, false, Nat.zero_le _, by omega, rfl, rfl, ⟨rfl⟩, H0⟩
   case round =>
    clear H0
    obtain ⟨j, b, hj, hgg, rfl, rfl, HB, HO⟩ := hrel
    obtain ⟨Av, cv, rfl⟩ := Kd.R_slice HO.out.1
    have hlj : ((at_.take j).map (updA name value)).length = j := by rw [List.length_map, List.length_take]; omega
    rw [hlj] at HO ⊢
    have HLL : Aside0 ((((at_.take j).map (updA name value)).length + 1) * 32 ≤ 140737488355328) := ⟨by have h1 := HI.out.2.2.2; rw [hlj]; clear hlj HO; omega⟩
    clear hlj
    obtain ⟨q0, x4, hC⟩ := HQ.out wr HO.out.2
    by_cases hjl : j < at_.length
    ·have z2 : (j : Int) < (at_.length : Int) := by omega
     obtain ⟨ad4, e4, r0, r1⟩ := at_T52 hC (j : Int) (by omega) z2
     obtain ⟨g4, rfl⟩ := HG4.out ad4 e4
     subst e4
     rw [rd_T52_at at_ j hjl, add_plain, Int.toNat_natCast] at r0 r1
     have hup := up1 (i := j) (by have := HI.out.2.2.2; omega)
     have HTK := Aside0.mk (And.intro (anyA_take (n := name) hjl) (updA_take (n := name) (v := value) hjl))
     have HC4 := Aside0.mk hC
     have HMS := Aside0.mk (round_on hjl hgg)
     clear hC
     by_cases cn : at_[j].f0 = name
     ·have cnb : (at_[j].f0.toList == name.toList) = true := by rw [bytes_beq]; exact decide_eq_true cn
      go_wp2_with (first | ((with_reducible refine gate_builtin (b := .append) (xs := #[.tmp 52, .tmp 54]) rfl ?_); at_builtin; refine Kd.R_append k52 (w0 := w) w.heap.size rfl (.tmp 52) (.tmp 54) 50 52 _ 32 rfl Try.underlying50 info52 rfl (by decide) (by decide) (.slice Av j cv) ((at_.take j).map (updA name value)) ⟨name, value⟩ [.string name, .string value] (fun _ => True) (fun _ => False) rfl (by rw [World.size_alloc]; rfl) (k52_mkM _ _ _ ⟨name, value⟩) (fun _ h => h.elim) (fun _ _ => trivial) (Kd.R_below HO.out.1 (below_alloc (Below.refl _ _) _)) (below_alloc HO.out.2 _) (by have := below_size HO.out.2; rw [World.size_alloc]; omega) HLL.out ?_; intro v7 W7 hR7 hB7 hg7 ha7; have HE := Aside0.mk (And.intro hR7 hB7); clear hR7 hB7 hg7 ha7))
      go_roundg (at_.length - (j + 1))
      case measure => exact HMS.out.1
      case rel => exact ⟨j + 1, true, HMS.out.2, Nat.le_refl _, by first | rfl | go_num, rfl, ⟨by rw [HTK.out.1, decide_eq_true cn, Bool.or_true]⟩, ⟨by rw [HTK.out.2, show updA name value at_[j] = ⟨name, value⟩ by unfold updA; rw [if_pos cn, cn]]; exact HE.out.1, HE.out.2⟩⟩
     ·have cnb : (at_[j].f0.toList == name.toList) = false := by rw [bytes_beq]; exact decide_eq_false cn
      go_wp2_with (first | ((with_reducible refine gate_builtin (b := .append) (xs := #[.tmp 52, .tmp 54]) rfl ?_); at_builtin; refine Kd.R_append k52 (w0 := w) w.heap.size rfl (.tmp 52) (.tmp 54) 50 52 _ 32 rfl Try.underlying50 info52 rfl (by decide) (by decide) (.slice Av j cv) ((at_.take j).map (updA name value)) at_[j] [.string at_[j].f0, .string at_[j].f1] (fun _ => True) (fun _ => False) rfl (by rw [World.size_alloc]; rfl) (k52_mkM _ _ _ at_[j]) (fun _ h => h.elim) (fun _ _ => trivial) (Kd.R_below HO.out.1 (below_alloc (Below.refl _ _) _)) (below_alloc HO.out.2 _) (by have := below_size HO.out.2; rw [World.size_alloc]; omega) HLL.out ?_; intro v7 W7 hR7 hB7 hg7 ha7; have HE := Aside0.mk (And.intro hR7 hB7); clear hR7 hB7 hg7 ha7))
      go_roundg (at_.length - (j + 1))
      case measure => exact HMS.out.1
      case rel => exact ⟨j + 1, b, HMS.out.2, Nat.le_refl _, by first | rfl | go_num, rfl, ⟨by rw [HTK.out.1, decide_eq_false cn, Bool.or_false]; exact HB.out⟩, ⟨by rw [HTK.out.2, show updA name value at_[j] = at_[j] by unfold updA; rw [if_neg cn]]; exact HE.out.1, HE.out.2⟩⟩
    ·obtain rfl : j = at_.length := by omega
     have z2 : ¬ (at_.length : Int) < (at_.length : Int) := by omega
     have hb9 := HB.out
     rw [List.take_length] at HO hb9 HLL
     have HSA := Aside0.mk (setAttr_all (n := name) (v := value) at_ HAP.out)
     have HB9 := Aside0.mk hb9
     clear hC HB hb9 hjl
     cases b with
     | true =>
      go_upto_region 17 with (first | (go_at_call 65; refine (HCA.out wr HO.out.2).mono ?_; rintro e w2 ⟨G, c, rfl, hG1, hcl, hR, hB⟩))
      have hq2 := (hB.cell (p := ⟨g, 0, none⟩) (Nat.lt_of_lt_of_le HD.out.lt HO.out.2.size)).trans q0
      obtain ⟨_, ⟨u3, u4, u5, y4⟩, hf⟩ := row_cells hR i HI.out.1
      have hgf : ∀ j, w2.frozen? ⟨g, j, none⟩ = false := fun j => by
       obtain ⟨R, vX, vU, vR, hA, _⟩ := HD.out
       exact blk_frozen ((hB.block g (Nat.lt_of_lt_of_le hA.lt HO.out.2.size)).trans ((HO.out.2.block g hA.lt).trans hA.blk)) j
      have HR := Aside0.mk (And.intro hR (And.intro hB hG1))
      have hgG : g ≠ G := by have := HD.out.lt; have := HO.out.2.size; omega
      have HGG := Aside0.mk hgG
      clear hR hB q0 x4
      go_wp2
      go_ret
      refine ⟨rfl, ?_⟩
      rw [HSA.out, if_pos (show (at_.any fun a => decide (a.f0 = name)) = true from HB9.out.symm)]
      exact HD.out.attrs HO.out.2 HO.out.1 HR.out.2.2 HR.out.1 HR.out.2.1 i HI.out.1
     | false =>
      go_upto_region 16 with (first | ((with_reducible refine gate_builtin (b := .append) (xs := #[.tmp 58, .tmp 62]) rfl ?_); at_builtin; refine Kd.R_append k52 (w0 := w) w.heap.size rfl (.tmp 58) (.tmp 62) 50 52 _ 32 rfl Try.underlying50 info52 rfl (by decide) (by decide) (.slice Av at_.length cv) (at_.map (updA name value)) ⟨name, value⟩ [.string name, .string value] (fun _ => True) (fun _ => False) rfl rfl (k52_mkM _ _ _ ⟨name, value⟩) (fun _ h => h.elim) (fun _ _ => trivial) HO.out.1 HO.out.2 (below_size HO.out.2) HLL.out ?_; intro v7 W7 hR7 hB7 hg7 ha7; have HE := Aside0.mk (And.intro hR7 hB7); clear hR7 hB7 hg7 ha7))
      obtain ⟨n7, A7, c7, rfl⟩ : ∃ n7 A7 c7, v7 = .slice A7 n7 c7 := by
       obtain ⟨A7, c7, h7⟩ := Kd.R_slice HE.out.1
       exact ⟨_, A7, c7, h7⟩
      have q0 := (HQ.out _ HE.out.2).1
      go_upto_region 17 with (first | (go_at_call 65; refine (HCA.out W7 HE.out.2).mono ?_; rintro e w2 ⟨G, c, rfl, hG1, hcl, hR, hB⟩))
      have hq2 := (hB.cell (p := ⟨g, 0, none⟩) (Nat.lt_of_lt_of_le HD.out.lt HE.out.2.size)).trans q0
      obtain ⟨_, ⟨u3, u4, u5, y4⟩, hf⟩ := row_cells hR i HI.out.1
      have hgf : ∀ j, w2.frozen? ⟨g, j, none⟩ = false := fun j => by
       obtain ⟨R, vX, vU, vR, hA, _⟩ := HD.out
       exact blk_frozen ((hB.block g (Nat.lt_of_lt_of_le hA.lt HE.out.2.size)).trans ((HE.out.2.block g hA.lt).trans hA.blk)) j
      have HR := Aside0.mk (And.intro hR (And.intro hB hG1))
      have hgG : g ≠ G := by have := HD.out.lt; have := HE.out.2.size; omega
      have HGG := Aside0.mk hgG
      clear hR hB q0 x4
      go_wp2
      go_ret
      refine ⟨rfl, ?_⟩
      rw [HSA.out, if_neg (show ¬ (at_.any fun a => decide (a.f0 = name)) = true from fun h => by have h2 : false = true := HB9.out.trans h; exact absurd h2 (by decide))]
      have h9 := HE.out.1
      rw [map_upd_none (fun a ha e => by
       have h2 : anyA name at_ = true := List.any_eq_true.2 ⟨a, ha, decide_eq_true e⟩
       rw [← HB9.out] at h2
       exact absurd h2 (by decide))] at h9
      exact HD.out.attrs HE.out.2 h9 HR.out.2.2 HR.out.1 HR.out.2.1 i HI.out.1
end
end Go.Proofs.Ytpkaliaaffgbdaa.QA
namespace Go.Proofs.Ytpkaliaaffgbdaa.QA
open Go.RowKit Go.Proofs.YtpkaliaaffgbdaaW.PrintWords Go.Proofs.YtpkaliaaffgbdaaW.PrintLast Go.Proofs.YtpkaliaaffgbdaaW.PrintMore
attribute [local go_sem] max2_int min2_int max_two min_two max_three min_three max_four min_four   -- for this text's walks alone
set_option linter.unusedVariables false
set_option linter.unusedSimpArgs false

open Go
theorem flt_take {n : ByteArray} {l : List S52} {j : Nat} (h : j < l.length) : (l.take (j + 1)).filter (fun a => !decide (a.f0 = n)) = (l.take j).filter (fun a => !decide (a.f0 = n)) ++ if l[j].f0 = n then [] else [l[j]] := by
 rw [List.take_add_one, List.getElem?_eq_getElem h, List.filter_append]
 congr 1
 by_cases c : l[j].f0 = n
 ·rw [if_pos c]; simp [c]
 ·rw [if_neg c]; simp [c]
theorem flt_len {n : ByteArray} {l : List S52} {j : Nat} : ((l.take j).filter (fun a => !decide (a.f0 = n))).length ≤ l.length :=
 Nat.le_trans (List.length_filter_le _ _) (by rw [List.length_take]; omega)
theorem row_lim {a n : Nat} (h : a ≤ n) (hn : n < 1000000) : (a + 1) * 32 ≤ 140737488355328 := by omega
section
variable {W w w1 w2 : World} {ok ok1 : Nat → Prop} {g M : Nat} {xs ys : List S79} {v : Value}
set_option maxHeartbeats 8000000 in
set_option maxRecDepth 100000 in
theorem RD_Drop (h : RDoc w ok g xs) (hG : Good M xs) (hM : M < 100000) (hN : Neat xs) (n : Int) (name : ByteArray) : Calls Try.prog 56 #[.pointer (some ⟨g, 0, none⟩), .int .i64 n, .string name] w fun e w' => e = .returned (.int .i64 (dropR xs n name).1) ∧ ToRD w w' ok g (dropR xs n name).2 := by
 unfold dropR
 cases he : elemB xs n with
 | false =>
  rw [if_pos rfl]
  exact RD_Drop_no h n name he
 | true =>
  rw [if_neg (by decide)]
  have HE := Aside0.mk (RD_element h n)
  rw [he] at HE
  have HD := Aside0.mk h
  have c0 := of_decide_eq_true he
  obtain ⟨i, rfl⟩ := Int.eq_ofNat_of_zero_le (show 0 ≤ n by omega)
  have hi : i < xs.length := by omega
  rw [Int.toNat_natCast]
  obtain ⟨GX, cX, GU, cU, GR, cR, ⟨q0, q1, q2⟩, ⟨l0, l1, l2⟩, hK, _, hC⟩ := h.reads hG.tree.pos
  obtain ⟨ad0, A4, c4, e4, _, _, _, _, x4, hl4, hi4⟩ := at_T54 hC (i : Int) (by omega) (by omega)
  injection e4 with e4
  subst e4
  have ex : rd_T54 (f0s xs) (i : Int) = (rd_T79 xs (i : Int)).f0 := by
   rw [rd_T54_at (f0s xs) i (by rw [f0s_length]; exact hi), nd_at i hi]
   simp [f0s]
  rw [ex, Int.toNat_natCast, add_plain] at x4
  rw [ex] at hl4 hi4
  have x4 : w.cell? ⟨GX, i * 5 + 4, none⟩ = some (.slice A4 (rd_T79 xs (i : Int)).f0.f4.length c4) := x4
  have hla := hG.attrs i
  have hap := (hN i).2
  have HG4 := Aside0.mk (h.head i hi q0 x4)
  have HCA := Aside0.mk (fun (W : World) (hB : Below w.heap.size w W) => RD_moved (HD.out.below hB) hG hM hN (Kd.C_below hC hB) l0)
  have hgl := h.lt
  have HQ := Aside0.mk (fun (W : World) (hB : Below w.heap.size w W) => (show W.cell? ⟨g, 0, none⟩ = some (.slice (some ⟨GX, 0, none⟩) xs.length cX) ∧ W.cell? ⟨GX, i * 5 + 4, none⟩ = some (.slice A4 (rd_T79 xs (i : Int)).f0.f4.length c4) ∧ Kd.C k52 W A4 (rd_T79 xs (i : Int)).f0.f4.length (rd_T79 xs (i : Int)).f0.f4 from ⟨(hB.cell (p := ⟨g, 0, none⟩) hgl).trans q0, (hB.cell (block_lt_of_cell x4)).trans x4, Kd.C_below hi4 hB⟩))
  generalize hat : (rd_T79 xs (i : Int)).f0.f4 = at_ at x4 hl4 hi4 HQ hla hap ⊢
  generalize hr : (if idxA name 0 at_ < 0 then ((1 : Int), xs) else _) = r
  have HR0 := Aside0.mk hr
  have HDA := Aside0.mk (drop_all (n := name) at_ 0 hap)
  have HI := Aside0.mk (And.intro hi (And.intro hl4 (And.intro l0 (show at_.length < 1000000 by omega))))
  have z1 : (i : Int) < (xs.length : Int) := by omega
  clear h he hN c0 hC x4 hl4 hi4 hat hap q0 q1 q2 hK ex hla hr
  go_enter Try.func56, Try.ntmps56
  go_wp2_with (first | (go_at_call 77; refine HE.out.mono ?_; rintro e w' ⟨rfl, ⟨m, rfl⟩⟩))
  have H0 : Aside0 (Kd.R k52 52 ((w.drewN m).alloc (.cells #[] 52)) w.heap.size (fun _ => True) (.slice (some ⟨(w.drewN m).heap.size, 0, none⟩) 0 0) ((at_.take 0).filter (fun a => !decide (a.f0 = name))) ∧ Below w.heap.size w ((w.drewN m).alloc (.cells #[] 52))) := ⟨⟨R_empty k52 52 (by simp), below_alloc (pw_below_drewN (Below.refl _ _) _) _⟩⟩
  go_loopg [7, 8] at_.length (fun gg v7 v8 W => ∃ (j nl : Nat) (Av : Option Addr) (cv : Nat), j ≤ at_.length ∧ at_.length - j ≤ gg ∧ v8 = .int .i64 (j : Int) ∧ v7 = .slice Av nl cv ∧ Aside0 (nl = ((at_.take j).filter (fun a => !decide (a.f0 = name))).length) ∧ Aside0 (Kd.R k52 52 W w.heap.size (fun _ => True) (.slice Av nl cv) ((at_.take j).filter (fun a => !decide (a.f0 = name))) ∧ Below w.heap.size w W))
  case atStart => exact ⟨0, 0, _, 0, Nat.zero_le _, Nat.le_refl _, rfl, rfl, ⟨rfl⟩, H0⟩
  case round =>
   clear H0
   obtain ⟨j, nl, Av, cv, hj, hgg, rfl, rfl, HN, HO⟩ := hrel
   obtain ⟨q0, x4, hC⟩ := HQ.out wr HO.out.2
   by_cases hjl : j < at_.length
   ·have z2 : (j : Int) < (at_.length : Int) := by omega
    obtain ⟨ad4, e4, r0, r1⟩ := at_T52 hC (j : Int) (by omega) z2
    obtain ⟨g4, rfl⟩ := HG4.out ad4 e4
    subst e4
    rw [rd_T52_at at_ j hjl, add_plain, Int.toNat_natCast] at r0 r1
    have hup := up1 (i := j) (by have := HI.out.2.2.2; omega)
    have HTK := Aside0.mk (flt_take (n := name) hjl)
    have HLL := Aside0.mk (row_lim (flt_len (n := name) (l := at_) (j := j)) HI.out.2.2.2)
    have HMS := Aside0.mk (round_on hjl hgg)
    clear hC
    by_cases cn : at_[j].f0 = name
    ·have cnb : (at_[j].f0.toList == name.toList) = true := by rw [bytes_beq]; exact decide_eq_true cn
     go_wp2
     go_roundg (at_.length - (j + 1))
     case measure => exact HMS.out.1
     case rel =>
      have h1 := HTK.out
      rw [if_pos cn, List.append_nil] at h1
      exact ⟨j + 1, nl, Av, cv, HMS.out.2, Nat.le_refl _, by first | rfl | go_num, rfl, ⟨by rw [h1]; exact HN.out⟩, ⟨by rw [h1]; exact HO.out.1, HO.out.2⟩⟩
    ·have cnb : (at_[j].f0.toList == name.toList) = false := by rw [bytes_beq]; exact decide_eq_false cn
     go_wp2_with (first | ((with_reducible refine gate_builtin (b := .append) (xs := #[.tmp 42, .tmp 54]) rfl ?_); at_builtin; refine Kd.R_append k52 (w0 := w) w.heap.size rfl (.tmp 42) (.tmp 54) 50 52 _ 32 rfl Try.underlying50 info52 rfl (by decide) (by decide) (.slice Av nl cv) ((at_.take j).filter (fun a => !decide (a.f0 = name))) at_[j] [.string at_[j].f0, .string at_[j].f1] (fun _ => True) (fun _ => False) rfl rfl (k52_mkM _ _ _ at_[j]) (fun _ h => h.elim) (fun _ _ => trivial) HO.out.1 HO.out.2 (below_size HO.out.2) HLL.out ?_; intro v7 W7 hR7 hB7 hg7 ha7; have HE7 := Aside0.mk (And.intro hR7 hB7); clear hR7 hB7 hg7 ha7))
     go_roundg (at_.length - (j + 1))
     case measure => exact HMS.out.1
     case rel =>
      have h1 := HTK.out
      rw [if_neg cn] at h1
      obtain ⟨A7, c7, h7⟩ := Kd.R_slice HE7.out.1
      have hE := HE7.out
      rw [h7, ← h1] at hE
      exact ⟨j + 1, _, A7, c7, HMS.out.2, Nat.le_refl _, by first | rfl | go_num, by rw [h7, ← h1], ⟨rfl⟩, ⟨hE⟩⟩
   ·obtain rfl : j = at_.length := by omega
    have z2 : ¬ (at_.length : Int) < (at_.length : Int) := by omega
    have hn9 := HN.out
    rw [List.take_length] at HO hn9
    rcases HDA.out with ⟨h3, h4⟩ | ⟨j, h3, h4, h5⟩
    ·have d1 : idxA name 0 at_ < 0 := h3
     rw [h4] at hn9
     have d2 : (nl : Int) = (at_.length : Int) := by rw [hn9]
     have d3 : ((nl : Int) == (at_.length : Int)) = true := beq_iff_eq.2 d2
     have HOO := HO
     clear hC HN hjl hn9 h4 h3 HO d2
     have hr := HR0.out
     rw [if_pos d1] at hr
     have HRR := Aside0.mk hr
     clear d1 hr
     go_wp2
     go_ret
     rw [← HRR.out]
     exact ⟨rfl, .quiet HD.out HOO.out.2⟩
    ·have d1 : ¬ idxA name 0 at_ < 0 := by omega
     have hr := HR0.out
     rw [if_neg d1, h3] at hr
     have hr : ((0 : Int), xs.set i (withAttrs (rd_T79 xs (i : Int)) (at_.eraseIdx j))) = r := by
      rw [← hr]
      congr 5
      omega
     rw [h5] at hn9 HO
     have d2 : nl < at_.length := by rw [hn9, List.length_eraseIdx, if_pos h4]; omega
     have d3 : ((nl : Int) == (at_.length : Int)) = false := beq_eq_false_iff_ne.2 (by omega)
     have HRR := Aside0.mk hr
     have HOO := HO
     have HLT := Aside0.mk d2
     clear hC HN hjl hn9 h3 h4 h5 HO d1 d2 hr
     go_upto_region 12 with (first | (go_at_call 65; refine (HCA.out wr HOO.out.2).mono ?_; rintro e w2 ⟨G, c, rfl, hG1, hcl, hR, hB⟩))
     have hq2 := (hB.cell (p := ⟨g, 0, none⟩) (Nat.lt_of_lt_of_le HD.out.lt HOO.out.2.size)).trans q0
     obtain ⟨_, ⟨u3, u4, u5, y4⟩, hf⟩ := row_cells hR i HI.out.1
     have hgf : ∀ j, w2.frozen? ⟨g, j, none⟩ = false := fun j => by
      obtain ⟨R, vX, vU, vR, hA, _⟩ := HD.out
      exact blk_frozen ((hB.block g (Nat.lt_of_lt_of_le hA.lt HOO.out.2.size)).trans ((HOO.out.2.block g hA.lt).trans hA.blk)) j
     have HR := Aside0.mk (And.intro hR (And.intro hB hG1))
     have hgG : g ≠ G := by have := HD.out.lt; have := HOO.out.2.size; omega
     have HGG := Aside0.mk hgG
     clear hR hB q0 x4
     go_wp2
     go_ret
     rw [← HRR.out]
     exact ⟨rfl, HD.out.attrs HOO.out.2 HOO.out.1 HR.out.2.2 HR.out.1 HR.out.2.1 i HI.out.1⟩
end
end Go.Proofs.Ytpkaliaaffgbdaa.QA
namespace Go.Proofs.Ytpkaliaaffgbdaa.QA
open Go.RowKit Go.Proofs.YtpkaliaaffgbdaaW.PrintWords Go.Proofs.YtpkaliaaffgbdaaW.PrintLast Go.Proofs.YtpkaliaaffgbdaaW.PrintMore
attribute [local go_sem] max2_int min2_int max_two min_two max_three min_three max_four min_four   -- for this text's walks alone
set_option linter.unusedVariables false
set_option linter.unusedSimpArgs false

open Go
section
variable {W W2 w w1 w2 : World} {ok ok1 : Nat → Prop} {g M : Nat} {xs ys : List S79} {v : Value}
theorem kid_pos (h : Good M xs) {p : Nat} {k : Int} (hk : k ∈ ks9 xs p) : ∃ i : Nat, k = (i : Int) ∧ i < xs.length ∧ i ≠ 0 := by
 obtain ⟨i, rfl, hi, hu⟩ := h.tree.kid p k hk
 refine ⟨i, rfl, hi, fun e => ?_⟩
 subst e
 have := h.tree.root
 omega
/-- The rows of the first of a stack, then those of the rest. -/
theorem reads_first {k : Nat} {d : Int} {rest : List (Int × Int)} {r : List S54} (hk : k ≠ 0) (h : Reads xs (((k : Int), d) :: rest) r) : ∃ ra rb, r = (rowAt xs ((k : Int), d) :: ra) ++ rb ∧ Reads xs (kidsAt xs ((k : Int), d)) ra ∧ Reads xs rest rb := by
 cases h with
 | cons h =>
  obtain ⟨ra, rb, rfl, h1, h2⟩ := h.split _ _ rfl
  refine ⟨ra, rb, ?_, h1, h2⟩
  rw [if_neg (by dsimp only; omega)]
  rfl
theorem C54_sub {GX n : Nat} {X : List S54} (h : Kd.C k54 W (some ⟨GX, 0, none⟩) n X) (i : Nat) (hi : i < n) : Kd.C k54 W (some ⟨GX, i * 5, none⟩) 1 [rd_T54 X (i : Int)] := by
 refine ⟨rfl, by omega, fun _ => ⟨_, rfl, fun j p hj => ?_⟩⟩
 match j, hj with
 | 0, hj =>
  obtain rfl := Option.some.inj hj
  obtain ⟨ad, cs, e, hcl, hK, hc⟩ := Kd.C_get h z54 (i : Int) (by omega) (by omega)
  injection e with e
  subst e
  refine ⟨cs, hcl, hK, fun q u hu => ?_⟩
  have := hc q u hu
  rw [Int.toNat_natCast, add_plain] at this
  have e : i * 5 + (0 * k54.sz + q) = i * k54.sz + q := by rw [show k54.sz = 5 from rfl]; omega
  have e2 : (⟨GX, i * 5, none⟩ : Addr).add (0 * k54.sz + q) = ⟨GX, i * 5 + (0 * k54.sz + q), none⟩ := by simp [Addr.add]
  rw [e2, e]
  exact this
 | j + 1, hj => simp at hj
theorem mv_row (hN : Neat xs) (i : Nat) (d : Int) (hd : -1 ≤ d ∧ d < 1000000) : mv d (rd_T79 xs (i : Int)).f0 = rowAt xs ((i : Int), d) := by
 unfold mv rowAt
 rw [(hN i).1, show wrap64 ((0 : Int) + d) = d by unfold wrap64; omega]
theorem RD_moved1 (hG : Good M xs) (hM : M < 100000) (hN : Neat xs) {GX n c : Nat} (hC : Kd.C k54 W (some ⟨GX, 0, none⟩) n (f0s xs)) (i : Nat) (hi : i < xs.length) (hin : i < n) (hc : 1 ≤ c) (d : Int) (hd : -1 ≤ d ∧ d < 1000000) : Calls Try.prog 65 #[.slice (some ⟨GX, i * 5, none⟩) 1 c, .int .i64 d] W fun e w' => ∃ G c, e = .returned (.slice (some ⟨G, 0, none⟩) 1 c) ∧ Kd.R k54 54 w' W.heap.size (fun _ => True) (.slice (some ⟨G, 0, none⟩) 1 c) [rowAt xs ((i : Int), d)] ∧ Below W.heap.size W w' := by
 have ex : rd_T54 (f0s xs) (i : Int) = (rd_T79 xs (i : Int)).f0 := by
  rw [rd_T54_at (f0s xs) i (by rw [f0s_length]; exact hi), nd_at i hi]
  simp [f0s]
 have h1 := C54_sub hC i hin
 rw [ex] at h1
 have hm := moved_is [(rd_T79 xs (i : Int)).f0] d (by simp) (fun x hx => by
  rw [List.mem_singleton.1 hx]
  have := hG.attrs i
  omega)
 rw [List.map_singleton, mv_row hN i d hd] at hm
 refine (boltingref04_Moved.calls _ (some ⟨GX, i * 5, none⟩) c [(rd_T79 xs (i : Int)).f0] d _ W h1 hc hm).mono ?_
 rintro e w' ⟨v, rfl, hS, hB⟩
 obtain ⟨G, c, rfl, _, _, _, _⟩ := Kd.S_form hS (by simp)
 exact ⟨G, c, rfl, Kd.S_R hS, hB⟩
theorem tree_lim {d : Int} (r1 ra rb : List S54) (x y : S54) {r : List S54} (h : r = r1 ++ (x :: ra ++ rb)) (hd : -1 ≤ d ∧ d + r.length < 900000) : ((y :: r1).length + (ra.length + 1)) * 72 ≤ 140737488355328 := by
 have := congrArg List.length h
 simp at this ⊢
 omega
theorem kI_kept {base : Nat} {v8 v7 : Value} {ks : List Int} {X : List S54} (h8 : Kd.R kI 3 W base (fun _ => True) v8 ks) (h7 : Kd.R k54 54 W base (fun _ => True) v7 X) (hg : W.grownBy W2 v7.ownBlock) : Kd.R kI 3 W2 base (fun _ => True) v8 ks := by
 refine Kd.R_mono (Kd.R_grown (Kd.R_bound h8) hg fun k hk e => ?_) fun _ _ => trivial
 obtain ⟨_, _, _, q, hq, cells, hc⟩ := hk
 obtain ⟨cells2, h2⟩ := Kd.R_typed h7 k e.symm
 rw [hc] at h2
 injection h2 with h2
 injection h2 with _ h2 _
 subst h2
 exact absurd hq (by decide)
set_option maxHeartbeats 8000000 in
set_option maxRecDepth 100000 in
theorem RD_tree (hG : Good M xs) (hM : M < 100000) (hN : Neat xs) : ∀ (q : Nat) (r : List S54), r.length < q → ∀ (i : Nat) (d : Int), i < xs.length → Reads xs (kidsAt xs ((i : Int), d)) r → -1 ≤ d → d + r.length < 900000 → ∀ (w : World) (ok : Nat → Prop) (g : Nat), RDoc w ok g xs → Calls Try.prog 78 #[.pointer (some ⟨g, 0, none⟩), .int .i64 (i : Int), .int .i64 d] w fun e w' => ∃ A c, e = .returned (.slice (some ⟨A, 0, none⟩) (r.length + 1) c) ∧ Kd.R k54 54 w' w.heap.size (fun _ => True) (.slice (some ⟨A, 0, none⟩) (r.length + 1) c) (rowAt xs ((i : Int), d) :: r) ∧ Below w.heap.size w w' := by
 intro q
 induction q with
 | zero => intro r hr; exact absurd hr (Nat.not_lt_zero _)
 | succ q ih =>
  intro r hr i d hi hR hd0 hd1 w ok g h
  obtain ⟨GX, cX, GU, cU, GR, cR, ⟨q0, q1, q2⟩, ⟨l0, l1, l2⟩, hK, _, hC⟩ := h.reads hG.tree.pos
  have HD := Aside0.mk h
  have z1 : (i : Int) < (xs.length : Int) := by omega
  have hup : wrap64 ((i : Int) + 1) = (i : Int) + 1 := by have := hG.len; unfold wrap64; omega
  have HS1 : Aside0 (((i : Int) + 1).toNat - i = 1) := ⟨by omega⟩
  have HMV := Aside0.mk (RD_moved1 hG hM hN hC i hi hi (show 1 ≤ cX - i by omega) d ⟨hd0, by omega⟩)
  have HKD := Aside0.mk (fun (W : World) (hB : Below w.heap.size w W) => RD_Kids (HD.out.below hB) hG (i : Int))
  have HRD := Aside0.mk hR
  have HLQ := Aside0.mk (And.intro hr (And.intro hd0 hd1))
  clear h hK hR hr hd0 hd1 l1 l2 q1 q2 hC
  go_enter Try.func78, Try.ntmps78
  go_wp2_with (first | (go_at_call 65; refine HMV.out.mono ?_; rintro e w1 ⟨G, c, rfl, hRM, hB1⟩; have HB1 := Aside0.mk (And.intro hRM hB1); clear hRM hB1) | (go_at_call 59; refine (HKD.out w1 HB1.out.2).mono ?_; rintro e w2 ⟨v8, rfl, hKK, hB2⟩; have HB2 := Aside0.mk (And.intro hKK hB2); clear hKK hB2))
  obtain ⟨Ak, ck, rfl⟩ := Kd.R_slice HB2.out.1
  rw [kidsN_nat] at HB2 ⊢
  have H7 := Aside0.mk (show 1 = ([] : List S54).length + 1 ∧ Kd.R k54 54 w2 w.heap.size (fun _ => True) (.slice (some ⟨G, 0, none⟩) 1 c) (rowAt xs ((i : Int), d) :: []) from ⟨rfl, Kd.R_below HB1.out.1 HB2.out.2⟩)
  have H8 := Aside0.mk (show Kd.R kI 3 w2 w.heap.size (fun _ => True) (.slice Ak (ks9 xs i).length ck) (ks9 xs i) ∧ Below w.heap.size w w2 from ⟨Kd.R_lower HB2.out.1 HB1.out.2.size, HB1.out.2.trans (HB2.out.2.mono HB1.out.2.size)⟩)
  have H9 : Aside0 (r = [] ++ r ∧ Reads xs (((ks9 xs i).drop 0).map fun q => (q, d + 1)) r) := ⟨rfl, HRD.out⟩
  have HKP := Aside0.mk (fun (k : Int) (hk : k ∈ ks9 xs i) => kid_pos hG hk)
  have HKL : Aside0 ((ks9 xs i).length < 100000) := ⟨by have := hG.kids_le i; have := hG.len; omega⟩
  clear HB1 HB2 HMV HKD HRD q0
  generalize ks9 xs i = ks at H8 H9 HKP HKL ⊢
  go_loopg [7, 9] ks.length (fun gg v7 v9 W => ∃ (j : Nat) (r1 r2 : List S54) (G7 n7 c7 : Nat), j ≤ ks.length ∧ ks.length - j ≤ gg ∧ v9 = .int .i64 (j : Int) ∧ v7 = .slice (some ⟨G7, 0, none⟩) n7 c7 ∧ Aside0 (r = r1 ++ r2 ∧ Reads xs ((ks.drop j).map fun q => (q, d + 1)) r2) ∧ Aside0 (n7 = r1.length + 1 ∧ Kd.R k54 54 W w.heap.size (fun _ => True) (.slice (some ⟨G7, 0, none⟩) n7 c7) (rowAt xs ((i : Int), d) :: r1)) ∧ Aside0 (Kd.R kI 3 W w.heap.size (fun _ => True) (.slice Ak ks.length ck) ks ∧ Below w.heap.size w W))
  case atStart => exact ⟨0, [], r, G, 1, c, Nat.zero_le _, Nat.le_refl _, rfl, rfl, H9, H7, H8⟩
  case round =>
   clear H7 H8 H9
   obtain ⟨j, r1, r2, G7, n7, c7, hj, hgg, rfl, rfl, H9, H7, H8⟩ := hrel
   by_cases hjl : j < ks.length
   ·have z2 : (j : Int) < (ks.length : Int) := by omega
    obtain ⟨ad, e, rc⟩ := Kd.at_int (Kd.R_reads' H8.out.1).2.2 (j : Int) (by omega) z2
    rw [rd_at hjl, Int.toNat_natCast] at rc
    obtain ⟨m, hm, hml, hm0⟩ := HKP.out _ (List.getElem_mem hjl)
    rw [hm] at rc
    have hrd := H9.out.2
    rw [List.drop_eq_getElem_cons hjl, List.map_cons, hm] at hrd
    obtain ⟨ra, rb, rfl, ha, hb⟩ := reads_first hm0 hrd
    have HIH := Aside0.mk (ih ra (by have := HLQ.out.1; rw [H9.out.1] at this; simp at this; omega) m (d + 1) hml ha (by have := HLQ.out.2.1; omega) (by have := HLQ.out.2.2; rw [H9.out.1] at this; simp at this; omega) wr ok g (HD.out.below H8.out.2))
    have HMS := Aside0.mk (round_on hjl hgg)
    have HRB := Aside0.mk hb
    have HLL := Aside0.mk (tree_lim r1 ra rb _ (rowAt xs ((i : Int), d)) H9.out.1 HLQ.out.2)
    clear hgg
    have hd1 : wrap64 (d + 1) = d + 1 := by have := HLQ.out.2; unfold wrap64; omega
    have hup := up1 (i := j) (by have := HKL.out; omega)
    clear hrd ha hb hm hm0
    subst e
    go_wp2_with (first | (go_at_call 78; refine HIH.out.mono ?_; rintro e w3 ⟨G3, c3, rfl, hR3, hB3⟩; have HB3 := Aside0.mk (And.intro hR3 hB3); clear hR3 hB3) | ((with_reducible refine gate_builtin (b := .append) (xs := #[.tmp 29, .tmp 37]) rfl ?_); at_builtin; refine Kd.R_append_rows k54 (Rr := fun x cs => k54.M w3 w.heap.size (fun k => wr.heap.size ≤ k) x cs) (w0 := w) w.heap.size rfl (.tmp 29) (.tmp 37) 23 54 _ 72 rfl Try.underlying23 info54 rfl (by decide) (by decide) (.slice (some ⟨G7, 0, none⟩) n7 c7) (rowAt xs ((i : Int), d) :: r1) (rowAt xs ((m : Int), d + 1) :: ra) (some ⟨G3, 0, none⟩) (ra.length + 1) c3 (fun _ => True) (fun k => wr.heap.size ≤ k) rfl rfl (Kd.R_below H7.out.2 HB3.out.2) (R54_rows (Kd.R_lower (Kd.R_mono (Kd.R_bound HB3.out.1) fun k hk => hk.2.1) H8.out.2.size) fun _ h => h) (fun _ _ h => h) (fun k hk => ⟨trivial, fun e => Nat.not_lt_of_le hk (Kd.R_lt H7.out.2 k e.symm)⟩) (fun _ _ => trivial) (H8.out.2.trans (HB3.out.2.mono H8.out.2.size)) (Nat.le_trans H8.out.2.size HB3.out.2.size) HLL.out ?_; intro v7 W7 hR7 hB7 hg7 ha7; have HE7 := Aside0.mk (And.intro hR7 (And.intro (kI_kept (Kd.R_below H8.out.1 HB3.out.2) (Kd.R_below H7.out.2 HB3.out.2) hg7) hB7)); clear hR7 hB7 hg7 ha7))
    go_roundg (ks.length - (j + 1))
    case measure => exact HMS.out.1
    case rel =>
     obtain ⟨G8, c8, h8, _⟩ := Kd.R_form HE7.out.1 (by simp)
     have hE := HE7.out
     rw [h8] at hE
     refine ⟨j + 1, r1 ++ (rowAt xs ((m : Int), d + 1) :: ra), rb, G8, _, c8, HMS.out.2, Nat.le_refl _, by first | rfl | go_num, h8, ⟨by rw [H9.out.1, List.append_assoc], HRB.out⟩, ⟨by simp <;> omega, hE.1⟩, ⟨hE.2⟩⟩
   ·obtain rfl : j = ks.length := by omega
    have z2 : ¬ (ks.length : Int) < (ks.length : Int) := by omega
    have h9 := H9.out
    rw [List.drop_length, List.map_nil] at h9
    have hr2 : r2 = [] := h9.2.det .nil
    rw [hr2, List.append_nil] at h9
    have HRR := Aside0.mk h9.1
    clear h9 hr2 hjl hgg
    go_wp2
    go_ret
    have h7 := H7.out
    rw [← HRR.out] at h7
    obtain ⟨rfl, h7⟩ := h7
    exact ⟨_, _, rfl, h7, H8.out.2⟩
end
end Go.Proofs.Ytpkaliaaffgbdaa.QA
