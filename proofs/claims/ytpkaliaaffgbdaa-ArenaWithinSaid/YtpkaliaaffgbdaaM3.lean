/- The document of package arena: load, Load. slices.Backward at []int: the iterator; a range over it. -/
import Derived.Test.YtpkaliaaffgbdaaM2
import Derived.ArgAppend
namespace Go.Proofs.Ytpkaliaaffgbdaa.QA
open Go.RowKit Go.Proofs.YtpkaliaaffgbdaaW.PrintWords Go.Proofs.YtpkaliaaffgbdaaW.PrintLast Go.Proofs.YtpkaliaaffgbdaaW.PrintMore
attribute [local go_sem] max2_int min2_int max_two min_two max_three min_three max_four min_four   -- for this text's walks alone
set_option linter.unusedVariables false
set_option linter.unusedSimpArgs false
def reg63_9.T : Bool × List (List Nat × List Nat) := (true, [([], []), ([], []), ([], []), ([2], [2]), ([3], [3]), ([1, 4], [1, 4]), ([5], [5]), ([], []), ([7], [7]), ([8], [8]), ([9], [9]), ([], []), ([], []), ([12], [12]), ([13], [13]), ([11, 14], [11, 14]), ([15], [15]), ([10, 16], [10, 16]), ([17], [17]), ([18], [18]), ([19], [19]), ([], []), ([0, 6, 20, 21], [0, 6, 20, 21])])
def reg63_9.B : List Nat := [0, 0, 0, 4, 12, 30, 62, 0, 128, 384, 896, 0, 0, 4096, 12288, 30720, 63488, 130944, 262016, 524160, 1048448, 0, 4194303]
theorem reg63_9.tab : rtab .any (opsOf Try.f63 9) = reg63_9.T := by kernel_rfl
theorem reg63_9.bits : waitsOk reg63_9.T.2 reg63_9.B = true := by kernel_rfl

open Go
/-- load: trees behind the nodes: the nodes, the roots, those around. -/
def loadL : List S54 → List S79 → List Int → List Int → Option (List S79 × List Int)
 | [], xs, roots, _ => some (xs, roots)
 | x :: l, xs, roots, ar =>
  if 0 ≤ x.f0 ∧ x.f0.toNat ≤ ar.length ∧ xs.length < 900000 ∧ x.f4.length < 900000 ∧ ar.length < 900000 ∧ roots.length < 900000 then
   if x.f0 = 0 then loadL l (addN xs x) (roots ++ [(xs.length : Int)]) [(xs.length : Int)]
   else
    if 0 ≤ ar.getD (x.f0.toNat - 1) 0 ∧ ar.getD (x.f0.toNat - 1) 0 < (xs.length : Int) ∧ (rd_T79 (addN xs x) (ar.getD (x.f0.toNat - 1) 0)).f2.length < 900000 then
     loadL l (putN (addN xs x) (ar.getD (x.f0.toNat - 1) 0).toNat (rd_T79 (addN xs x) (ar.getD (x.f0.toNat - 1) 0)).f2.length xs.length) roots (ar.take x.f0.toNat ++ [(xs.length : Int)])
    else none
  else none
section
variable {W w : World} {ok okl : Nat → Prop} {g : Nat} {xs : List S79}
/-- What lies in memory between two rounds of load. -/
structure LoadInv (w W : World) (ok : Nat → Prop) (g : Nat) (xs : List S79) (vr va : Value) (roots ar : List Int) (ok1 : Nat → Prop) : Prop where
 doc : IsDoc W ok1 g xs
 new : ∀ k, ok1 k → ok k ∨ w.heap.size ≤ k
 lt : ∀ k, ok1 k → k < W.heap.size
 mod : Mod w W ok
 rts : Kd.R (Kd.int .i64) 3 W w.heap.size (fun k => ¬ ok1 k) vr roots
 rnd : Kd.R (Kd.int .i64) 3 W w.heap.size (fun k => ¬ ok1 k) va ar
 ne : ∀ k, vr.ownBlock = some k → va.ownBlock ≠ some k
theorem R1_same {W1 : World} {base : Nat} {ok ok' : Nat → Prop} {v : Value} {l : List Int} (h : Kd.R (Kd.int .i64) 3 W base ok v l) (hb : ∀ k, v.ownBlock = some k → k < W.heap.size → W1.heap[k]? = W.heap[k]?) (ho : ∀ k, v.ownBlock = some k → k < W.heap.size → ok k → ok' k) : Kd.R (Kd.int .i64) 3 W1 base ok' v l :=
 Kd.R_mono (Kd.R_step (Kd.R_tight rfl h) fun k hk hlt => hb k hk.symm hlt) fun k hk => ho k hk.symm (Kd.R_lt h k hk.symm) (h.1 k hk.symm)
theorem LoadInv.step {W0 W1 : World} {ys : List S79} {vr va : Value} {roots ar : List Int} {ok1 : Nat → Prop} (h : LoadInv w W ok g xs vr va roots ar ok1) (hb : Below W.heap.size W W0) (ht : To W0 W1 ok1 g ys) : ∃ ok2, LoadInv w W1 ok g ys vr va roots ar ok2 ∧ (∀ k, k < W0.heap.size → ¬ ok1 k → W1.heap[k]? = W0.heap[k]?) := by
 obtain ⟨ok2, hI, hg, hl, hm⟩ := ht
 have hs := hb.size
 have hsame : ∀ k, k < W.heap.size → ¬ ok1 k → W1.heap[k]? = W.heap[k]? := fun k hk hn => (hm.block k (by omega) hn).trans (hb.block k hk)
 have hn2 : ∀ k, k < W.heap.size → ¬ ok1 k → ¬ ok2 k := fun k hk hn h2 => (hg k h2).elim hn fun h => by omega
 refine ⟨ok2, ⟨hI, fun k hk => (hg k hk).elim (h.new k) fun h2 => .inr (by have := h.mod.size; omega), hl, ?_, ?_, ?_, h.ne⟩, fun k hk hn => hm.block k hk hn⟩
 ·exact (h.mod.step hb).trans hm fun k hk => h.new k hk
 ·exact R1_same h.rts (fun k hk hlt => hsame k hlt (h.rts.1 k hk)) fun k _ hlt hn => hn2 k hlt hn
 ·exact R1_same h.rnd (fun k hk hlt => hsame k hlt (h.rnd.1 k hk)) fun k _ hlt hn => hn2 k hlt hn
theorem LoadInv.rooted {W5 : World} {vr va v5 : Value} {roots ar roots' : List Int} {ok1 : Nat → Prop} (h : LoadInv w W ok g xs vr va roots ar ok1) (hg : W.grownBy W5 vr.ownBlock) (hR : Kd.R (Kd.int .i64) 3 W5 w.heap.size (fun k => ¬ ok1 k) v5 roots') (hat : v5.ownBlock = vr.ownBlock ∨ ∃ b, v5.ownBlock = some b ∧ W.heap.size ≤ b) : LoadInv w W5 ok g xs v5 va roots' ar ok1 := by
 refine ⟨h.doc.move fun k hk hlt => hg.block k hlt fun e => h.rts.1 k e.symm hk, h.new, fun k hk => Nat.lt_of_lt_of_le (h.lt k hk) hg.size, ?_, hR, R1_same h.rnd (fun k hk hlt => hg.block k hlt fun e => h.ne k e.symm hk) fun k _ _ hn => hn, fun k hk e => ?_⟩
 ·refine ⟨hg.os.trans h.mod.os, hg.tape.trans h.mod.tape, hg.output.trans h.mod.output, Nat.le_trans h.mod.size hg.size, fun k hk hn => (hg.block k (Nat.lt_of_lt_of_le hk h.mod.size) fun e => ?_).trans (h.mod.block k hk hn)⟩
  have := Kd.R_base h.rts k e.symm
  omega
 ·rcases hat with h2 | ⟨b, h2, hb⟩
  ·exact h.ne k (h2 ▸ hk) e
  ·have := Kd.R_lt h.rnd k e
   rw [hk] at h2
   injection h2 with h2
   omega
theorem LoadInv.around {W6 : World} {tmp : Obj} {vr va v6 : Value} {roots ar l : List Int} {ok1 : Nat → Prop} (h : LoadInv w W ok g xs vr va roots ar ok1) (hg : (W.alloc tmp).grownBy W6 none) (ho : W6.ownsRow (W.alloc tmp).heap.size 3 1 v6 l.length (l.map (Value.int .i64))) : LoadInv w W6 ok g xs vr v6 roots l ok1 := by
 have hsz : (W.alloc tmp).heap.size = W.heap.size + 1 := World.size_alloc _ _
 have hs : ∀ k, k < W.heap.size → W6.heap[k]? = W.heap[k]? := fun k hk => (hg.block k (by omega) (by simp)).trans (Below.heap_alloc W tmp k hk)
 have hs2 : W.heap.size ≤ W6.heap.size := by have := hg.size; omega
 have hms := h.mod.size
 refine ⟨h.doc.move fun k _ hlt => hs k hlt, h.new, fun k hk => Nat.lt_of_lt_of_le (h.lt k hk) hs2, ?_, R1_same h.rts (fun k _ hlt => hs k hlt) fun k _ _ hn => hn, ?_, fun k hk e => ?_⟩
 ·exact ⟨hg.os.trans h.mod.os, hg.tape.trans h.mod.tape, hg.output.trans h.mod.output, by omega, fun k hk hn => (hs k (by omega)).trans (h.mod.block k hk hn)⟩
 ·exact Kd.R_lower (Kd.R_of_own (h1 := fun _ => rfl) (ok := fun k => ¬ ok1 k) ho fun k hk h1 => by have := own_base ho k hk; have := h.lt k h1; omega) (by omega)
 ·have := own_base ho k e
  have := Kd.R_lt h.rts k hk
  omega
theorem int_cells {base n c : Nat} {ok : Nat → Prop} {A : Option Addr} {l : List Int} (h : Kd.R (Kd.int .i64) 3 W base ok (.slice A n c) l) (m : Nat) : ∀ b, A = some b → ∀ j u, ((l.take m).map (Value.int .i64))[j]? = some u → W.cell? (b.add j) = some u := by
 rintro b rfl j u hj
 rcases (Kd.own_of_R h).2 with ⟨hv, _⟩ | ⟨g, cap, cur, hv, hb, hh, hnc, hcm, hcs, ht⟩
 ·cases hv
 injection hv with hv _ _
 injection hv with hv
 subst hv
 rw [add_plain]
 rw [List.getElem?_map, List.getElem?_take] at hj
 split at hj
 ·have h1 : (cur.toList.take (l.length * 1))[j]? = (encs (Value.int .i64) l)[j]? := by rw [ht]
  obtain ⟨y, hy, rfl⟩ := Option.map_eq_some_iff.1 hj
  have hjl := (List.getElem?_eq_some_iff.1 hy).1
  rw [List.getElem?_take, if_pos (by omega), Array.getElem?_toList] at h1
  refine (blk_cell hh j).trans (h1.trans ?_)
  simp [encs, hy]
 ·cases hj
set_option maxHeartbeats 400000 in
set_option maxRecDepth 100000 in
theorem Doc_load (h : IsDoc w ok g xs) (l : List S54) (A : Option Addr) (c : Nat) (hF : Kd.F k54 w okl A l.length l) (hok : ∀ k, okl k → ¬ ok k) (hlc : l.length ≤ c) (r : List S79 × List Int) (hr : loadL l xs [] [] = some r) :
  Calls Try.prog 63 #[.pointer (some ⟨g, 0, none⟩), .slice A l.length c] w fun e w' => ∃ v va ar ok1, e = .returned v ∧ LoadInv w w' ok g r.1 v va r.2 ar ok1 := by
 have HF := Aside0.mk hF
 have HO := Aside0.mk hok
 have HLC := Aside0.mk hlc
 have H0 := Aside0.mk (show LoadInv w w ok g xs (.slice none 0 0) (.slice none 0 0) [] [] (fun k => ok k ∧ k < w.heap.size) from
  ⟨h.bound, fun k hk => .inl hk.1, fun k hk => hk.2, Mod.refl w ok, Kd.R_nil _ _ _ _ _, Kd.R_nil _ _ _ _ _, fun k hk => by cases hk⟩)
 have HR := Aside0.mk hr
 have hmax := Kd.F_max hF
 obtain ⟨i0, hti, hz0, hz1, hz2⟩ := info_parts info3
 clear h hF hok hlc hr
 go_enter Try.func63, Try.ntmps63
 go_wp2
 go_loopg [5, 6, 12] l.length (fun gg v5 v6 v12 W => ∃ (kk : Nat) (ys : List S79) (roots ar : List Int) (ok1 : Nat → Prop), kk ≤ l.length ∧ l.length - kk ≤ gg ∧ v12 = .int .i64 (kk : Int) ∧ Aside0 (LoadInv w W ok g ys v5 v6 roots ar ok1) ∧ Aside0 (loadL (l.drop kk) ys roots ar = some r))
 case atStart => exact ⟨0, xs, [], [], _, Nat.zero_le _, by omega, rfl, H0, HR⟩
 case round =>
  clear H0 HR
  obtain ⟨kk, ys, roots, ar, ok1, hkk, hgg, rfl, HI, HR⟩ := hrel
  obtain ⟨Ar, cr, rfl⟩ := Kd.R_slice HI.out.rts
  obtain ⟨Aa, ca, rfl⟩ := Kd.R_slice HI.out.rnd
  by_cases hlt : kk < l.length
  ·have hltz : (kk : Int) < (l.length : Int) := by omega
   have hd : l.drop kk = rd_T54 l kk :: l.drop (kk + 1) := by
    rw [List.drop_eq_getElem_cons hlt, rd_T54_at l kk hlt]
   have hr := HR.out
   rw [hd] at hr
   simp only [loadL] at hr
   obtain ⟨ad, A4, c4, e4, hx0, hx1, hx2, hx3, hx4, hl4, hi4⟩ := at_T54 (HF.out wr fun k hk hlt => HI.out.mod.block k hlt (HO.out k hk)) (kk : Int) (by omega) hltz
   subst e4
   generalize rd_T54 l (kk : Int) = x at hr hx0 hx1 hx2 hx3 hx4 hl4 hi4
   split at hr
   rotate_left
   ·cases hr
   rename_i hcond
   obtain ⟨n0, n1, n2, n3, n4, n5⟩ := hcond
   obtain ⟨f0, f1, f2, f3, f4⟩ := x
   dsimp only at hr hx0 hx1 hx2 hx3 hx4 hl4 hi4 n0 n1 n2 n3 n4 n5
   obtain ⟨D, rfl⟩ := Int.eq_ofNat_of_zero_le n0
   rw [Int.toNat_natCast] at n1 hr hx0 hx1 hx2 hx3 hx4
   have hlr := (Kd.R_reads' HI.out.rts).2.1
   have hla := (Kd.R_reads' HI.out.rnd).2.1
   have hDc : D ≤ ca := by omega
   have hb0 := below_alloc (Below.refl wr.heap.size wr) (.cells #[.int .i64 (D : Int), .int .i64 f1, .string f2, .string f3, .slice A4 f4.length c4] 54)
   have hadd := Doc_add (HI.out.doc.below hb0) ⟨(D : Int), f1, f2, f3, f4⟩ A4 c4 (Kd.C_alloc hi4 _) hl4 (show f4.length < 4398046511104 by omega) (show ys.length < 1000000 by omega)
   have hbx := blk_new wr (.cells #[.int .i64 (D : Int), .int .i64 f1, .string f2, .string f3, .slice A4 f4.length c4] 54)
   have hbn : ¬ ok1 wr.heap.size := fun h => Nat.lt_irrefl _ (HI.out.lt _ h)
   have HB0 := Aside0.mk hb0
   have HBX := Aside0.mk hbx
   have HBN := Aside0.mk hbn
   have HN := Aside0.mk (And.intro n1 (And.intro n2 (And.intro n3 (And.intro n4 n5))))
   clear hd hb0 hbx hbn hi4 n0 n1 n2 n3 n4 n5 HR
   by_cases c0 : (D : Int) = 0
   ·rw [if_pos c0] at hr
    have HR := Aside0.mk hr
    obtain rfl : D = 0 := by omega
    clear hr c0
    go_wp2_with (first | (go_at_call 46; refine hadd.mono ?_; rintro e W1 ⟨rfl, hT⟩; obtain ⟨ok2, hI2, hs2⟩ := HI.out.step HB0.out hT; have bx := (hs2 wr.heap.size (by simp) HBN.out).trans HBX.out; obtain ⟨q0, q1, q2, q3, q4, _⟩ := cells5 bx; have HI2 := Aside0.mk hI2; clear hI2 hs2 bx hT hadd) | ((with_reducible refine gate_builtin (b := .append) (xs := #[.tmp 28, .tmp 30]) rfl ?_); at_builtin; refine Kd.R_append (Kd.int .i64) (w0 := W1) w.heap.size rfl (.tmp 28) (.tmp 30) 32 3 (.int .i64 0) 8 rfl Try.underlying32 info3 rfl (by decide) (by decide) (.slice Ar roots.length cr) roots (ys.length : Int) [.int .i64 (ys.length : Int)] (fun k => ¬ ok2 k) (fun _ => False) rfl rfl ?aP (fun _ h => h.elim) ?aF HI2.out.rts (Below.refl _ _) HI2.out.mod.size ?aL ?_; (case aP => exact rfl); (case aF => exact fun k hk h => by have h1 := HI2.out.lt k h; omega); (case aL => have h1 := HN.out.2.2.2.2; omega); intro v5 W5 hR5 _ hg5 hat5; have HI3 := Aside0.mk (HI2.out.rooted hg5 hR5 hat5); clear hR5 hg5 hat5) | ((with_reducible refine gate_builtin (b := .append) (xs := #[.tmp 55, .tmp 57]) rfl ?_); at_builtin; refine wpList_append_grows _ rfl (.tmp 55) (.tmp 57) 32 rfl 3 i0 (.int .i64 0) 1 8 Try.underlying32 hti hz0 hz1 hz2 rfl (by decide) Aa 0 0 [] ?c1 (fun _ => ⟨rfl, rfl⟩) rfl ?c2 ⟨W5.heap.size, 0, none⟩ 1 1 [.int .i64 (ys.length : Int)] ?c3 rfl ?c4 ?c5 ?c6 ?c7 ?c8 ?_; (case c1 => rfl); (case c2 => exact (fun _ _ j u h => by simp at h)); (case c3 => rfl); (case c4 => exact cell_one_new _ _ _); (case c5 => simp [Value.oneCell']); (case c6 => omega); (case c7 => unfold maxLen; omega); (case c8 => omega); intro v6 W6 hown6 hg6; have HI4 := Aside0.mk (HI3.out.around (l := [(ys.length : Int)]) hg6 hown6); clear hown6 hg6))
    go_roundg (l.length - (kk + 1))
    case measure => omega
    case rel => exact ⟨kk + 1, _, _, _, _, by omega, by omega, by go_num, HI4, HR⟩
   ·rw [if_neg c0] at hr
    split at hr
    rotate_left
    ·cases hr
    rename_i hpc
    obtain ⟨p0, p1, p2⟩ := hpc
    obtain ⟨E, hDE⟩ : ∃ E, D = E + 1 := ⟨D - 1, by omega⟩
    rw [show D - 1 = E by omega] at p0 p1 p2 hr
    obtain ⟨p, hp⟩ := Int.eq_ofNat_of_zero_le p0
    rw [hp] at p1 p2 hr
    rw [Int.toNat_natCast] at hr
    have HR := Aside0.mk hr
    have c0b : ((D : Int) == 0) = false := beq_eq_false_iff_ne.2 c0
    have hw : wrap64 ((D : Int) - 1) = (E : Int) := by unfold wrap64; have h1 := HN.out.1; have h2 := HN.out.2.2.2.1; omega
    have hEz : (E : Int) < (D : Int) := by omega
    have HPP := Aside0.mk (And.intro hp (And.intro p1 (And.intro p2 hDE)))
    clear hr c0 p0 p1 p2 hp hDE
    go_wp2_with (first | (go_at_call 46; refine hadd.mono ?_; rintro e W1 ⟨rfl, hT⟩; obtain ⟨ok2, hI2, hs2⟩ := HI.out.step HB0.out hT; have bx := (hs2 wr.heap.size (by simp) HBN.out).trans HBX.out; obtain ⟨q0, q1, q2, q3, q4, _⟩ := cells5 bx; have HI2 := Aside0.mk hI2; clear hI2 hs2 bx hT hadd q1 q2 q3 q4))
    obtain ⟨e1, e2, e3, e4⟩ := HPP.out
    have hal := HN.out.1
    have hyl : (addN ys ⟨(D : Int), f1, f2, f3, f4⟩).length = ys.length + 1 := by simp [addN]
    have hpl : p < (addN ys ⟨(D : Int), f1, f2, f3, f4⟩).length := by omega
    obtain ⟨G, c9, _, _, A6, c6, hdb, hdl, ⟨_, _, _, _, _, _, h6⟩, _, _, _, _, _⟩ := HI2.out.doc.node p hpl
    obtain ⟨ada, ea, hra⟩ := Kd.at_int (Kd.R_reads' HI2.out.rnd).2.2 (E : Int) (by omega) (by omega)
    subst ea
    rw [show rd ar (E : Int) = (p : Int) by rw [← e1]; unfold rd; rw [Int.toNat_natCast], Int.toNat_natCast] at hra
    rw [nd_at p hpl] at e3 HR
    have hput := Doc_put (HI2.out.doc.below (below_drew1 (Below.refl W1.heap.size W1))) p (addN ys ⟨(D : Int), f1, f2, f3, f4⟩)[p].f2.length ys.length hpl (by omega) (Nat.le_refl _) (by omega)
    generalize hxs : addN ys ⟨(D : Int), f1, f2, f3, f4⟩ = xs1 at *
    generalize hkl : xs1[p].f2.length = kl at *
    have r0 : W1.drew.cell? ⟨g, 0, none⟩ = _ := doc_cell hdb
    have r1 : W1.drew.cell? ⟨wr.heap.size, 0, none⟩ = _ := q0
    have r2 : W1.drew.cell? (ada.add E) = _ := hra
    have r3 : W1.drew.cell? ⟨G, p * 7 + 6, none⟩ = _ := h6
    have hEc : E < D := by omega
    have hpz : (p : Int) < (xs1.length : Int) := by omega
    have HHD := Aside0.mk (And.intro e4 hal)
    clear hdb hdl h6 hra q0 e1 e2 e3 e4 hal
    have HXS := Aside0.mk (And.intro hxs (And.intro hkl hyl))
    clear hxs hkl hyl
    refine start_ (n := 23) (S := (fun w' => w'.cell? ⟨g, 0, none⟩ = some (.slice (some ⟨G, 0, none⟩) xs1.length c9) ∧ w'.cell? ⟨wr.heap.size, 0, none⟩ = some (.int .i64 (D : Int)) ∧ w'.cell? (ada.add E) = some (.int .i64 (p : Int)) ∧ w'.cell? ⟨G, p * 7 + 6, none⟩ = some (.slice A6 kl c6))) (ds := [22]) #[Z, Z, Z, Z, Z, Z, Z, Z, Z, Z, Z, Z, Z, Z, Z, Z, Z, Z, Z, Z, Z, Z, Z] (by kernel_rfl) rfl rfl ⟨r0, r1, r2, r3⟩ (fun hHeld => ?_); refine with_tabW reg63_9.tab reg63_9.bits (fun HT_ HW_ => ?_)
    refine pA 0 32 #[Y, Z, Z, Z, Z, Z, Z, Z, Z, Z, Z, Z, Z, Z, Z, Z, Z, Z, Z, Z, Z, Z, Z] HT_ ?_
    refine pA 1 33 #[Y, Y, Z, Z, Z, Z, Z, Z, Z, Z, Z, Z, Z, Z, Z, Z, Z, Z, Z, Z, Z, Z, Z] HT_ ?_
    refine pA 2 34 #[Y, Y, Y, Z, Z, Z, Z, Z, Z, Z, Z, Z, Z, Z, Z, Z, Z, Z, Z, Z, Z, Z, Z] HT_ ?_
    refine take_ (i := 3) (N := some 35) (v := ?_) (a' := ?_) #[Y, Y, Y, Y, Z, Z, Z, Z, Z, Z, Z, Z, Z, Z, Z, Z, Z, Z, Z, Z, Z, Z, Z] rfl rfl (take_ofW HT_.out HW_.out (by kernel_rfl)) (fun _ _ _ h => h) (Or.inl ⟨by rfl, ?_⟩) hHeld ?_ ?_
    rotate_left
    ·rintro w' hs
     (try obtain ⟨s0, s1⟩ := hs)
     (try obtain ⟨s1, s2⟩ := s1)
     (try obtain ⟨s2, s3⟩ := s2)
     (try obtain ⟨s3, s4⟩ := s3)
     (try obtain ⟨s4, s5⟩ := s4)
     (try obtain ⟨s5, s6⟩ := s5)
     go_simp
     with_reducible rfl
    rotate_left
    ·simp only [Act.put, List.setIfInBounds_toArray, List.set_cons_zero, List.set_cons_succ, i64_w, i32_w]
     rfl
    refine pA 4 36 #[Y, Y, Y, Y, Y, Z, Z, Z, Z, Z, Z, Z, Z, Z, Z, Z, Z, Z, Z, Z, Z, Z, Z] HT_ ?_
    refine pA 5 37 #[Y, Y, Y, Y, Y, Y, Z, Z, Z, Z, Z, Z, Z, Z, Z, Z, Z, Z, Z, Z, Z, Z, Z] HT_ ?_
    refine take_ (i := 6) (N := some 38) (v := ?_) (a' := ?_) #[Y, Y, Y, Y, Y, Y, Y, Z, Z, Z, Z, Z, Z, Z, Z, Z, Z, Z, Z, Z, Z, Z, Z] rfl rfl (take_ofW HT_.out HW_.out (by kernel_rfl)) (fun _ _ _ h => h) (Or.inl ⟨by rfl, ?_⟩) hHeld ?_ ?_
    rotate_left
    ·rintro w' hs
     (try obtain ⟨s0, s1⟩ := hs)
     (try obtain ⟨s1, s2⟩ := s1)
     (try obtain ⟨s2, s3⟩ := s2)
     (try obtain ⟨s3, s4⟩ := s3)
     (try obtain ⟨s4, s5⟩ := s4)
     (try obtain ⟨s5, s6⟩ := s5)
     go_simp
     with_reducible rfl
    rotate_left
    ·simp only [Act.put, List.setIfInBounds_toArray, List.set_cons_zero, List.set_cons_succ, i64_w, i32_w]
     rfl
    refine pA 7 39 #[Y, Y, Y, Y, Y, Y, Y, Y, Z, Z, Z, Z, Z, Z, Z, Z, Z, Z, Z, Z, Z, Z, Z] HT_ ?_
    refine pA 8 40 #[Y, Y, Y, Y, Y, Y, Y, Y, Y, Z, Z, Z, Z, Z, Z, Z, Z, Z, Z, Z, Z, Z, Z] HT_ ?_
    refine pA 9 41 #[Y, Y, Y, Y, Y, Y, Y, Y, Y, Y, Z, Z, Z, Z, Z, Z, Z, Z, Z, Z, Z, Z, Z] HT_ ?_
    refine take_ (i := 10) (N := some 42) (v := ?_) (a' := ?_) #[Y, Y, Y, Y, Y, Y, Y, Y, Y, Y, Y, Z, Z, Z, Z, Z, Z, Z, Z, Z, Z, Z, Z] rfl rfl (take_ofW HT_.out HW_.out (by kernel_rfl)) (fun _ _ _ h => h) (Or.inl ⟨by rfl, ?_⟩) hHeld ?_ ?_
    rotate_left
    ·rintro w' hs
     (try obtain ⟨s0, s1⟩ := hs)
     (try obtain ⟨s1, s2⟩ := s1)
     (try obtain ⟨s2, s3⟩ := s2)
     (try obtain ⟨s3, s4⟩ := s3)
     (try obtain ⟨s4, s5⟩ := s4)
     (try obtain ⟨s5, s6⟩ := s5)
     go_simp
     with_reducible rfl
    rotate_left
    ·simp only [Act.put, List.setIfInBounds_toArray, List.set_cons_zero, List.set_cons_succ, i64_w, i32_w]
     rfl
    refine pA 11 43 #[Y, Y, Y, Y, Y, Y, Y, Y, Y, Y, Y, Y, Z, Z, Z, Z, Z, Z, Z, Z, Z, Z, Z] HT_ ?_
    refine pA 12 44 #[Y, Y, Y, Y, Y, Y, Y, Y, Y, Y, Y, Y, Y, Z, Z, Z, Z, Z, Z, Z, Z, Z, Z] HT_ ?_
    refine take_ (i := 13) (N := some 45) (v := ?_) (a' := ?_) #[Y, Y, Y, Y, Y, Y, Y, Y, Y, Y, Y, Y, Y, Y, Z, Z, Z, Z, Z, Z, Z, Z, Z] rfl rfl (take_ofW HT_.out HW_.out (by kernel_rfl)) (fun _ _ _ h => h) (Or.inl ⟨by rfl, ?_⟩) hHeld ?_ ?_
    rotate_left
    ·rintro w' hs
     (try obtain ⟨s0, s1⟩ := hs)
     (try obtain ⟨s1, s2⟩ := s1)
     (try obtain ⟨s2, s3⟩ := s2)
     (try obtain ⟨s3, s4⟩ := s3)
     (try obtain ⟨s4, s5⟩ := s4)
     (try obtain ⟨s5, s6⟩ := s5)
     go_simp
     with_reducible rfl
    rotate_left
    ·simp only [Act.put, List.setIfInBounds_toArray, List.set_cons_zero, List.set_cons_succ, i64_w, i32_w]
     rfl
    refine pA 14 46 #[Y, Y, Y, Y, Y, Y, Y, Y, Y, Y, Y, Y, Y, Y, Y, Z, Z, Z, Z, Z, Z, Z, Z] HT_ ?_
    refine pA 15 47 #[Y, Y, Y, Y, Y, Y, Y, Y, Y, Y, Y, Y, Y, Y, Y, Y, Z, Z, Z, Z, Z, Z, Z] HT_ ?_
    refine take_ (i := 16) (N := some 48) (v := ?_) (a' := ?_) #[Y, Y, Y, Y, Y, Y, Y, Y, Y, Y, Y, Y, Y, Y, Y, Y, Y, Z, Z, Z, Z, Z, Z] rfl rfl (take_ofW HT_.out HW_.out (by kernel_rfl)) (fun _ _ _ h => h) (Or.inl ⟨by rfl, ?_⟩) hHeld ?_ ?_
    rotate_left
    ·rintro w' hs
     (try obtain ⟨s0, s1⟩ := hs)
     (try obtain ⟨s1, s2⟩ := s1)
     (try obtain ⟨s2, s3⟩ := s2)
     (try obtain ⟨s3, s4⟩ := s3)
     (try obtain ⟨s4, s5⟩ := s4)
     (try obtain ⟨s5, s6⟩ := s5)
     go_simp
     with_reducible rfl
    rotate_left
    ·simp only [Act.put, List.setIfInBounds_toArray, List.set_cons_zero, List.set_cons_succ, i64_w, i32_w]
     rfl
    refine pA 17 49 #[Y, Y, Y, Y, Y, Y, Y, Y, Y, Y, Y, Y, Y, Y, Y, Y, Y, Y, Z, Z, Z, Z, Z] HT_ ?_
    refine pA 18 50 #[Y, Y, Y, Y, Y, Y, Y, Y, Y, Y, Y, Y, Y, Y, Y, Y, Y, Y, Y, Z, Z, Z, Z] HT_ ?_
    refine take_ (i := 19) (N := some 51) (v := ?_) (a' := ?_) #[Y, Y, Y, Y, Y, Y, Y, Y, Y, Y, Y, Y, Y, Y, Y, Y, Y, Y, Y, Y, Z, Z, Z] rfl rfl (take_ofW HT_.out HW_.out (by kernel_rfl)) (fun _ _ _ h => h) (Or.inl ⟨by rfl, ?_⟩) hHeld ?_ ?_
    rotate_left
    ·rintro w' hs
     (try obtain ⟨s0, s1⟩ := hs)
     (try obtain ⟨s1, s2⟩ := s1)
     (try obtain ⟨s2, s3⟩ := s2)
     (try obtain ⟨s3, s4⟩ := s3)
     (try obtain ⟨s4, s5⟩ := s4)
     (try obtain ⟨s5, s6⟩ := s5)
     go_simp
     with_reducible rfl
    rotate_left
    ·simp only [Act.put, List.setIfInBounds_toArray, List.set_cons_zero, List.set_cons_succ, i64_w, i32_w]
     rfl
    refine pA 20 52 #[Y, Y, Y, Y, Y, Y, Y, Y, Y, Y, Y, Y, Y, Y, Y, Y, Y, Y, Y, Y, Y, Z, Z] HT_ ?_
    refine pA 21 53 #[Y, Y, Y, Y, Y, Y, Y, Y, Y, Y, Y, Y, Y, Y, Y, Y, Y, Y, Y, Y, Y, Y, Z] HT_ ?_
    refine last_ (i := 22) (N := some 54) #[Y, Y, Y, Y, Y, Y, Y, Y, Y, Y, Y, Y, Y, Y, Y, Y, Y, Y, Y, Y, Y, Y, Y] rfl rfl (one_of HT_.out (by kernel_rfl)) (by decide) (fun K hK => ?_)
    refine goes_ Try.func41 (by kernel_rfl) rfl #[.pointer (some ⟨g, 0, none⟩), .int .i64 (p : Int), .int .i64 (kl : Int), .int .i64 (ys.length : Int)] (by rfl) rfl rfl (by simp only [List.map_toArray, List.map_cons, List.map_nil]; rfl) ?_
    refine hput.mono ?_
    rintro e W3 ⟨rfl, hT⟩
    obtain ⟨ok3, hI3, _⟩ := HI2.out.step (below_drew1 (Below.refl W1.heap.size W1)) hT
    have HI3 := Aside0.mk hI3
    refine ⟨_, rfl, hK.out _ _ ?_⟩
    clear hK hI3 hT hput r0 r1 r2 r3 hHeld
    refine done_ (done_of HT_.out (by kernel_rfl)) ?_
    have hcut : (ar.take D).length = D := by rw [List.length_take]; have h1 := HHD.out.2; omega
    have HCUT := Aside0.mk (show ((ar.take D).map (Value.int .i64)).length = D * 1 by rw [List.length_map, hcut, Nat.mul_one])
    have hDm : D + 1 ≤ maxLen := by unfold maxLen; have h1 := HN.out.1; have h2 := HN.out.2.2.2.1; omega
    have hDb : (D + 1) * 8 ≤ 140737488355328 := by have h1 := HN.out.1; have h2 := HN.out.2.2.2.1; omega
    have HDM := Aside0.mk (And.intro hDm (And.intro hDb hcut))
    clear hDm hDb hcut
    go_wp2_with (first | ((with_reducible refine gate_builtin (b := .append) (xs := #[.tmp 55, .tmp 57]) rfl ?_); at_builtin; (refine wpList_append_grows _ rfl (.tmp 55) (.tmp 57) 32 rfl 3 i0 (.int .i64 0) 1 8 Try.underlying32 hti hz0 hz1 hz2 rfl (by decide) (some ada) D D ((ar.take D).map (Value.int .i64)) ?c1 (fun h => by cases h) HCUT.out ?c2 ⟨W3.heap.size, 0, none⟩ 1 1 [.int .i64 (ys.length : Int)] ?c3 rfl ?c4 ?c5 ?c6 HDM.out.1 HDM.out.2.1 ?_; (case c1 => rfl); (case c2 => exact int_cells (Kd.R_alloc HI3.out.rnd _) D); (case c3 => rfl); (case c4 => exact cell_one_new _ _ _); (case c5 => simp [Value.oneCell']); (case c6 => omega); intro v6 W6 hown6 hg6; rw [show D + 1 = (ar.take D ++ [(ys.length : Int)]).length by rw [List.length_append, HDM.out.2.2]; rfl, show (ar.take D).map (Value.int .i64) ++ [.int .i64 (ys.length : Int)] = (ar.take D ++ [(ys.length : Int)]).map (Value.int .i64) by simp] at hown6; have HI4 := Aside0.mk (HI3.out.around hg6 hown6); clear hown6 hg6)))
    go_roundg (l.length - (kk + 1))
    case measure => omega
    case rel => exact ⟨kk + 1, _, _, _, _, by omega, by omega, by go_num, HI4, HR⟩
  ·have hltz : ¬ (kk : Int) < (l.length : Int) := by omega
   obtain rfl : kk = l.length := by omega
   go_wp2
   go_ret
   have hr := HR.out
   rw [List.drop_length] at hr
   obtain rfl := Option.some.inj hr
   exact ⟨_, rfl, _, ar, ok1, HI.out⟩
end
end Go.Proofs.Ytpkaliaaffgbdaa.QA
namespace Go.Proofs.Ytpkaliaaffgbdaa.QA
open Go.RowKit Go.Proofs.YtpkaliaaffgbdaaW.PrintWords Go.Proofs.YtpkaliaaffgbdaaW.PrintLast Go.Proofs.YtpkaliaaffgbdaaW.PrintMore
attribute [local go_sem] max2_int min2_int max_two min_two max_three min_three max_four min_four   -- for this text's walks alone
set_option linter.unusedVariables false
set_option linter.unusedSimpArgs false

open Go Go.Shelf
attribute [local go_sem] Oper.semAt_some
/-- What has come when k rounds are over. -/
def backAt (ks : List Int) (j : Nat) : Int × Int := (((ks.length - 1 - j : Nat) : Int), (ks[ks.length - 1 - j]?).getD 0)
def uptoB (ks : List Int) (k : Nat) : List (Int × Int) := (List.range k).map (backAt ks)
theorem uptoB_succ (ks : List Int) (k : Nat) : uptoB ks (k + 1) = uptoB ks k ++ [backAt ks k] := by simp [uptoB, List.range_succ]
theorem uptoB_length (ks : List Int) (k : Nat) : (uptoB ks k).length = k := by simp [uptoB]
theorem uptoB_all (ks : List Int) : (uptoB ks ks.length).map (·.2) = ks.reverse := by
 apply List.ext_getElem
 ·simp [uptoB]
 ·intro i h1 h2
  have : i < ks.length := by simpa using h2
  simp [uptoB, backAt, List.getElem?_eq_getElem (show ks.length - 1 - i < ks.length by omega)]
/-- What a round must keep: all that lay below n₀, and the variable that the iterator reads. -/
def KpB (n₀ b : Nat) (W W' : World) : Prop := Below n₀ W W' ∧ W'.heap[b]? = W.heap[b]?
theorem KpB.trans {n₀ b : Nat} {A B C : World} (h : KpB n₀ b A B) (k : KpB n₀ b B C) : KpB n₀ b A C := ⟨h.1.trans k.1, k.2.trans h.2⟩
def IsBack (ks : List Int) (ys : List (Int × Int)) : Prop := ys = uptoB ks ks.length
def AnyPre (_ : List (Int × Int)) : Prop := True
theorem back_calls (A : Option Addr) (n c : Nat) (w : World) : Calls Try.prog 38 #[.slice A n c] w fun e w' => e = .returned (.func (.func 66) #[] #[.pointer (some ⟨w.heap.size, 0, none⟩)]) ∧ w' = w.alloc (.cells #[.slice A n c] 32) := by
 go_enter Try.func38, Try.ntmps38
 go_wp2
 go_ret
 exact ⟨rfl, rfl⟩
set_option maxRecDepth 100000 in
set_option maxHeartbeats 2000000 in
theorem back1_in (l B n₀ : Nat) (A : Option Addr) (c : Nat) (ks : List Int) (hc0 : ks.length ≤ c) (hm : ks.length < 1000000) (J Jx : List (Int × Int) → World → Prop) (w0 : World) (hr0 : Kd.C (Kd.int .i64) w0 A ks.length ks) (hn : w0.heap.size = n₀)
  (hY : ∀ pre x W, J pre W → pre.length < ks.length → YieldAt Fence.wide 5 Try.prog l #[.int .i64 x.1, .int .i64 x.2] W fun e W' =>
   (e = .returned (.bool true) ∧ J (pre ++ [x]) W' ∧ KpB n₀ B W W') ∨ (e = .returned (.bool false) ∧ Jx (pre ++ [x]) W'))
  (W : World) (hb : Below n₀ w0 W) (hB : W.heap[B]? = some (.cells #[.slice A ks.length c] 32 (0, 0))) (h0 : J [] W) :
  CallsIn Fence.wide 6 Try.prog 66 #[.func (.yield l) #[] #[], .pointer (some ⟨B, 0, none⟩)] W fun e W' => (∃ v, e = .returned v) ∧
   ((∃ ys, IsBack ks ys ∧ J ys W') ∨ (∃ pre, AnyPre pre ∧ Jx pre W')) := by
 have hF : Fence.wide.fn 66 := trivial
 have hro : Fence.wide.round = none := rfl
 have cl : W.cell? ⟨B, 0, none⟩ = some (.slice A ks.length c) := (blk_cell hB 0).trans rfl
 have HB := Aside0.mk hB
 have HW := Aside0.mk hb
 have HR := Aside0.mk hr0
 have hw1 : wrap64 ((ks.length : Int) - 1) = (ks.length : Int) - 1 := by unfold wrap64; omega
 clear hB hb hr0
 refine callsIn_of_wp Try.func66 rfl hF ?_ hro
 simp only [Try.ntmps66, List.size_toArray, List.length_cons, List.length_nil, Nat.reduceAdd, Nat.reduceSub, Array.replicate_succ, Array.replicate_zero, List.push_toArray, List.append_toArray, List.nil_append, List.cons_append]
 gi_wp2
 gi_loopw [3] (fun i wr => ∃ k : Nat, k ≤ ks.length ∧ i = .int .i64 ((ks.length : Int) - 1 - k) ∧ J (uptoB ks k) wr ∧ Aside0 (KpB n₀ B W wr))
  (fun i _ => (intOf i + 1).toNat)
 case atStart => exact ⟨0, Nat.zero_le _, by simp, h0, ⟨⟨Below.refl _ _, rfl⟩⟩⟩
 case round =>
  obtain ⟨k, hk, rfl, hJs, hnx⟩ := hrel
  by_cases hlt : k < ks.length
  ·obtain ⟨m, hme⟩ : ∃ m, m = ks.length - 1 - k := ⟨_, rfl⟩
   have hi : m < ks.length := by omega
   have hba : backAt ks k = ((m : Int), rd ks (m : Int)) := by
    unfold backAt rd
    rw [← hme, Int.toNat_natCast, List.getD_eq_getElem?_getD]
   have hYk := hY _ (backAt ks k) wr hJs (by rw [uptoB_length]; exact hlt)
   rw [← uptoB_succ, hba] at hYk
   obtain ⟨fn, tmps, assign, body, hy, hR⟩ := hYk
   obtain ⟨ad, e, hx⟩ := Kd.at_int HR.out (m : Int) (by omega) (by omega)
   subst e
   rw [Int.toNat_natCast] at hx
   have hlt0 := block_lt_of_cell hx
   have hx' := ((HW.out.trans hnx.out.1).cell (p := ad.add m) (by rw [← hn]; exact hlt0)).trans hx
   have e1 : ((ks.length : Int) - 1 - k) = (m : Int) := by omega
   have hcl := (World.cell?_of_block (a := ⟨B, 0, none⟩) hnx.out.2).trans cl
   have hz : (m : Int) < (ks.length : Int) := by omega
   have hw2 : wrap64 ((m : Int) - 1) = (m : Int) - 1 := by unfold wrap64; omega
   generalize rd ks (m : Int) = v at hy hx hx'
   rw [e1]
   dsimp only at hy
   have HM := Aside0.mk hme
   clear cl e1 hx hw1 hme hba
   gi_wp2
   refine hR.mono ?_
   rintro e W3 (⟨rfl, hJ3, hk3⟩ | ⟨rfl, hJx3⟩)
   ·gi_wp2
    go_roundw
    case rel => exact ⟨k + 1, by omega, by have := HM.out; congr 1; omega, hJ3, ⟨hnx.out.trans hk3⟩⟩
    case measure => have := HM.out; simp [intOf]
   ·gi_wp2
    refine bodyPost_ret (results_none rfl _ _ _) rfl ?_
    exact ⟨⟨_, rfl⟩, .inr ⟨_, trivial, hJx3⟩⟩
  ·obtain rfl : k = ks.length := by omega
   gi_wp2
   go_end0
   exact ⟨⟨_, rfl⟩, .inl ⟨_, rfl, hJs⟩⟩
end Go.Proofs.Ytpkaliaaffgbdaa.QA
