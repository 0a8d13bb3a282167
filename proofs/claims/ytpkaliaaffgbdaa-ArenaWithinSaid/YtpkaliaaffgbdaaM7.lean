/- The document's own answer (boltingref11) in memory: its words; New. The document's own answer (boltingref11): New, add. The document's own answer (boltingref11): Kids. -/
import Derived.Test.YtpkaliaaffgbdaaM6
import Derived.Test.YtpkaliaaffgbdaaQAx7
import Derived.Test.YtpkaliaaffgbdaaQAx9
import Derived.Test.YtpkaliaaffgbdaaQAx10
namespace Go.Proofs.Ytpkaliaaffgbdaa.QA
open Go.RowKit Go.Proofs.YtpkaliaaffgbdaaW.PrintWords Go.Proofs.YtpkaliaaffgbdaaW.PrintLast Go.Proofs.YtpkaliaaffgbdaaW.PrintMore
attribute [local go_sem] max2_int min2_int max_two min_two max_three min_three max_four min_four   -- for this text's walks alone
set_option linter.unusedVariables false
set_option linter.unusedSimpArgs false

open Go
abbrev kI : Kd Int := Kd.int .i64
/-- A document of the answer's at block g: its rows, who has each, its number there. -/
structure RefAt (W : World) (ok : Nat → Prop) (g : Nat) (vX vU vR : Value) (X : List S54) (U R : List Int) : Prop where
 blk : W.heap[g]? = some (.cells #[vX, vU, vR] 42 (0, 0))
 own : ok g
 rX : Kd.R k54 54 W 0 (fun k => ok k ∧ k ≠ g) vX X
 rU : Kd.R kI 3 W 0 (fun k => ok k ∧ k ≠ g) vU U
 rR : Kd.R kI 3 W 0 (fun k => ok k ∧ k ≠ g) vR R
 ne : ∀ k, vU.ownBlock = some k → vR.ownBlock ≠ some k
def IsRef (W : World) (ok : Nat → Prop) (g : Nat) (X : List S54) (U R : List Int) : Prop := ∃ vX vU vR, RefAt W ok g vX vU vR X U R
section
variable {W W1 W2 w : World} {ok ok' : Nat → Prop} {g : Nat} {vX vU vR v : Value} {X X' : List S54} {U U' R R' : List Int}
theorem RefAt.lt (h : RefAt W ok g vX vU vR X U R) : g < W.heap.size := blk_lt h.blk
theorem RefAt.mono (h : RefAt W ok g vX vU vR X U R) (ho : ∀ k, ok k → ok' k) : RefAt W ok' g vX vU vR X U R :=
 ⟨h.blk, ho g h.own, Kd.R_mono h.rX fun k hk => ⟨ho k hk.1, hk.2⟩, Kd.R_mono h.rU fun k hk => ⟨ho k hk.1, hk.2⟩, Kd.R_mono h.rR fun k hk => ⟨ho k hk.1, hk.2⟩, h.ne⟩
theorem RefAt.bound (h : RefAt W ok g vX vU vR X U R) : RefAt W (fun k => ok k ∧ k < W.heap.size) g vX vU vR X U R :=
 ⟨h.blk, ⟨h.own, h.lt⟩, Kd.R_mono (Kd.R_bound h.rX) fun k hk => ⟨⟨hk.1.1, hk.2.2.1⟩, hk.1.2⟩, Kd.R_mono (Kd.R_bound h.rU) fun k hk => ⟨⟨hk.1.1, hk.2.2.1⟩, hk.1.2⟩, Kd.R_mono (Kd.R_bound h.rR) fun k hk => ⟨⟨hk.1.1, hk.2.2.1⟩, hk.1.2⟩, h.ne⟩
theorem RefAt.move (h : RefAt W ok g vX vU vR X U R) (hm : ∀ k, ok k → k < W.heap.size → W1.heap[k]? = W.heap[k]?) : RefAt W1 ok g vX vU vR X U R :=
 ⟨(hm g h.own h.lt).trans h.blk, h.own, Kd.R_step h.rX fun k hk hl => hm k hk.1 hl, Kd.R_step h.rU fun k hk hl => hm k hk.1 hl, Kd.R_step h.rR fun k hk hl => hm k hk.1 hl, h.ne⟩
theorem RefAt.below (h : RefAt W ok g vX vU vR X U R) (hb : Below W.heap.size W W1) : RefAt W1 ok g vX vU vR X U R := h.move fun k _ hl => hb.block k hl
theorem RefAt.neX (h : RefAt W ok g vX vU vR X U R) : some g ≠ vX.ownBlock := Kd.R_away h.rX fun k hk => hk.2
theorem RefAt.neU (h : RefAt W ok g vX vU vR X U R) : some g ≠ vU.ownBlock := Kd.R_away h.rU fun k hk => hk.2
theorem RefAt.neR (h : RefAt W ok g vX vU vR X U R) : some g ≠ vR.ownBlock := Kd.R_away h.rR fun k hk => hk.2
theorem types54 : ∀ q, q ∈ 54 :: k54.E → q ≠ 3 := by
 intro q hq
 rcases List.mem_cons.1 hq with rfl | hq
 ·decide
 ·have : q ∈ [52] := hq
  rw [List.mem_singleton.1 this]
  decide
theorem types3 : ∀ q, q ∈ 3 :: kI.E → q ≠ 54 := by
 intro q hq
 rcases List.mem_cons.1 hq with rfl | hq
 ·decide
 ·cases hq
/-- d.X = v1, behind what only grew its row. -/
theorem RefAt.setX (h : RefAt W ok g vX vU vR X U R) (hg : W.grownBy W1 vX.ownBlock) (hR : Kd.R k54 54 W1 0 (fun k => ok' k ∧ k ≠ g) v X') (ho : ∀ k, ok k → ok' k) : RefAt (W1.setCell ⟨g, 0, none⟩ v) ok' g v vU vR X' U R where
 blk := blk_put (blk_grown h.blk hg h.neX) 0 _ rfl
 own := ho g h.own
 rX := Kd.R_far hR (p := ⟨g, 0, none⟩) (fun k hk => hk.2) _
 rU := Kd.R_far (Kd.R_mono (Kd.R_over h.rU h.rX types3 hg) fun k hk => ⟨ho k hk.1, hk.2⟩) (p := ⟨g, 0, none⟩) (fun k hk => hk.2) _
 rR := Kd.R_far (Kd.R_mono (Kd.R_over h.rR h.rX types3 hg) fun k hk => ⟨ho k hk.1, hk.2⟩) (p := ⟨g, 0, none⟩) (fun k hk => hk.2) _
 ne := h.ne
/-- d.Up = v1. -/
theorem RefAt.setU (h : RefAt W ok g vX vU vR X U R) (hg : W.grownBy W1 vU.ownBlock) (hR : Kd.R kI 3 W1 0 (fun k => ok' k ∧ k ≠ g) v U') (ho : ∀ k, ok k → ok' k) (hn : ∀ k, v.ownBlock = some k → vR.ownBlock ≠ some k) : RefAt (W1.setCell ⟨g, 1, none⟩ v) ok' g vX v vR X U' R where
 blk := blk_put (blk_grown h.blk hg h.neU) 1 _ rfl
 own := ho g h.own
 rX := Kd.R_far (Kd.R_mono (Kd.R_over h.rX h.rU types54 hg) fun k hk => ⟨ho k hk.1, hk.2⟩) (p := ⟨g, 1, none⟩) (fun k hk => hk.2) _
 rU := Kd.R_far hR (p := ⟨g, 1, none⟩) (fun k hk => hk.2) _
 rR := Kd.R_far (Kd.R_mono (Kd.R_grown (Kd.R_tight2 rfl h.rR) hg fun k hk e => h.ne k e.symm hk.1.symm) fun k hk => ⟨ho k hk.2.1, hk.2.2⟩) (p := ⟨g, 1, none⟩) (fun k hk => hk.2) _
 ne := hn
/-- d.Rank = v1. -/
theorem RefAt.setR (h : RefAt W ok g vX vU vR X U R) (hg : W.grownBy W1 vR.ownBlock) (hR : Kd.R kI 3 W1 0 (fun k => ok' k ∧ k ≠ g) v R') (ho : ∀ k, ok k → ok' k) (hn : ∀ k, vU.ownBlock = some k → v.ownBlock ≠ some k) : RefAt (W1.setCell ⟨g, 2, none⟩ v) ok' g vX vU v X U R' where
 blk := blk_put (blk_grown h.blk hg h.neR) 2 _ rfl
 own := ho g h.own
 rX := Kd.R_far (Kd.R_mono (Kd.R_over h.rX h.rR types54 hg) fun k hk => ⟨ho k hk.1, hk.2⟩) (p := ⟨g, 2, none⟩) (fun k hk => hk.2) _
 rU := Kd.R_far (Kd.R_mono (Kd.R_grown (Kd.R_tight2 rfl h.rU) hg fun k hk e => h.ne k hk.1.symm e.symm) fun k hk => ⟨ho k hk.2.1, hk.2.2⟩) (p := ⟨g, 2, none⟩) (fun k hk => hk.2) _
 rR := Kd.R_far hR (p := ⟨g, 2, none⟩) (fun k hk => hk.2) _
 ne := hn
theorem ref_cells {x0 x1 x2 : Value} {t : TypeId} (h : W.heap[g]? = some (.cells #[x0, x1, x2] t (0, 0))) : W.cell? ⟨g, 0, none⟩ = some x0 ∧ W.cell? ⟨g, 1, none⟩ = some x1 ∧ W.cell? ⟨g, 2, none⟩ = some x2 ∧ ∀ j, W.frozen? ⟨g, j, none⟩ = false :=
 ⟨(blk_cell h 0).trans rfl, (blk_cell h 1).trans rfl, (blk_cell h 2).trans rfl, fun j => blk_frozen h j⟩
/-- Along a call: what a document of the answer's is by now. -/
structure RSt (w W : World) (ok ok1 : Nat → Prop) (g : Nat) (vX vU vR : Value) (X : List S54) (U R : List Int) : Prop where
 at_ : RefAt W ok1 g vX vU vR X U R
 new : ∀ k, ok1 k → ok k ∨ w.heap.size ≤ k
 lt : ∀ k, ok1 k → k < W.heap.size
 mod : Mod w W ok
def ToRef (w W : World) (ok : Nat → Prop) (g : Nat) (X : List S54) (U R : List Int) : Prop := ∃ ok1 vX vU vR, RSt w W ok ok1 g vX vU vR X U R
theorem RSt.start (h : RefAt w ok g vX vU vR X U R) : RSt w w ok (fun k => ok k ∧ k < w.heap.size) g vX vU vR X U R := ⟨h.bound, fun _ hk => .inl hk.1, fun _ hk => hk.2, Mod.refl _ _⟩
variable {ok1 ok2 : Nat → Prop}
theorem RSt.quiet (h : RSt w W ok ok1 g vX vU vR X U R) (hb : Below W.heap.size W W1) : RSt w W1 ok ok1 g vX vU vR X U R := ⟨h.at_.below hb, h.new, fun k hk => Nat.lt_of_lt_of_le (h.lt k hk) hb.size, h.mod.step hb⟩
theorem RSt.size (h : RSt w W ok ok1 g vX vU vR X U R) : w.heap.size ≤ W.heap.size := h.mod.size
theorem RSt.to (h : RSt w W ok ok1 g vX vU vR X U R) : ToRef w W ok g X U R := ⟨ok1, vX, vU, vR, h⟩
/-- The blocks that it may have behind a step. -/
def okUp (ok1 okn : Nat → Prop) (W1 : World) (k : Nat) : Prop := (ok1 k ∨ okn k) ∧ k < W1.heap.size
theorem RSt.mod_set (h : RSt w W ok ok1 g vX vU vR X U R) {row : Option Nat} (hg : W.grownBy W1 row) (hr : ∀ k, row = some k → ok1 k) (j : Nat) (u : Value) : Mod w (W1.setCell ⟨g, j, none⟩ u) ok :=
 (h.mod.trans (Mod.of_grown (ok := ok1) hg fun k hk => .inl (hr k hk)) fun k hk => h.new k hk).set _ _ (h.new g h.at_.own)
theorem RSt.setX {okn : Nat → Prop} (h : RSt w W ok ok1 g vX vU vR X U R) (hg : W.grownBy W1 vX.ownBlock) (hR : Kd.R k54 54 W1 0 (fun k => (ok1 k ∨ okn k) ∧ k ≠ g) v X') (hn : ∀ k, okn k → w.heap.size ≤ k) : RSt w (W1.setCell ⟨g, 0, none⟩ v) ok (okUp ok1 okn W1) g v vU vR X' U R :=
 ⟨h.at_.setX hg (Kd.R_mono (Kd.R_bound hR) fun k hk => ⟨⟨hk.1.1, hk.2.2.1⟩, hk.1.2⟩) (fun k hk => ⟨.inl hk, Nat.lt_of_lt_of_le (h.lt k hk) hg.size⟩), fun k hk => hk.1.elim (h.new k) fun h1 => .inr (hn k h1), fun k hk => by simpa [World.setCell] using hk.2, h.mod_set hg (fun k hk => (h.at_.rX.1 k hk).1) 0 v⟩
theorem R_put_own {base : Nat} {ok : Nat → Prop} {l : List Int} (h : Kd.R kI 3 W base ok v l) (hat : ∀ k, v.ownBlock = some k → ok' k) : Kd.R kI 3 W base ok' v l := Kd.R_reok rfl h hat
theorem RSt.setU (h : RSt w W ok ok1 g vX vU vR X U R) (hg : W.grownBy W1 vU.ownBlock) {okv : Nat → Prop} (hR : Kd.R kI 3 W1 0 okv v U') (hat : ∀ k, v.ownBlock = some k → vU.ownBlock = some k ∨ (w.heap.size ≤ k ∧ k ≠ g ∧ vR.ownBlock ≠ some k)) : RSt w (W1.setCell ⟨g, 1, none⟩ v) ok (okUp ok1 (fun k => some k = v.ownBlock ∧ w.heap.size ≤ k) W1) g vX v vR X U' R := by
 refine ⟨h.at_.setU hg (R_put_own hR fun k hk => ?_) (fun k hk => ⟨.inl hk, Nat.lt_of_lt_of_le (h.lt k hk) hg.size⟩) fun k hk e => ?_, fun k hk => hk.1.elim (h.new k) fun h1 => .inr h1.2, fun k hk => by simpa [World.setCell] using hk.2, h.mod_set hg (fun k hk => (h.at_.rU.1 k hk).1) 1 v⟩
 ·have hl := Kd.R_lt hR k hk
  rcases hat k hk with h1 | ⟨h1, h2, _⟩
  ·exact ⟨⟨.inl (h.at_.rU.1 k h1).1, hl⟩, (h.at_.rU.1 k h1).2⟩
  ·exact ⟨⟨.inr ⟨hk.symm, h1⟩, hl⟩, h2⟩
 ·rcases hat k hk with h1 | ⟨_, _, h3⟩
  ·exact h.at_.ne k h1 e
  ·exact h3 e
theorem RSt.setR (h : RSt w W ok ok1 g vX vU vR X U R) (hg : W.grownBy W1 vR.ownBlock) {okv : Nat → Prop} (hR : Kd.R kI 3 W1 0 okv v R') (hat : ∀ k, v.ownBlock = some k → vR.ownBlock = some k ∨ (w.heap.size ≤ k ∧ k ≠ g ∧ vU.ownBlock ≠ some k)) : RSt w (W1.setCell ⟨g, 2, none⟩ v) ok (okUp ok1 (fun k => some k = v.ownBlock ∧ w.heap.size ≤ k) W1) g vX vU v X U R' := by
 refine ⟨h.at_.setR hg (R_put_own hR fun k hk => ?_) (fun k hk => ⟨.inl hk, Nat.lt_of_lt_of_le (h.lt k hk) hg.size⟩) fun k hk e => ?_, fun k hk => hk.1.elim (h.new k) fun h1 => .inr h1.2, fun k hk => by simpa [World.setCell] using hk.2, h.mod_set hg (fun k hk => (h.at_.rR.1 k hk).1) 2 v⟩
 ·have hl := Kd.R_lt hR k hk
  rcases hat k hk with h1 | ⟨h1, h2, _⟩
  ·exact ⟨⟨.inl (h.at_.rR.1 k h1).1, hl⟩, (h.at_.rR.1 k h1).2⟩
  ·exact ⟨⟨.inr ⟨hk.symm, h1⟩, hl⟩, h2⟩
 ·rcases hat k e with h1 | ⟨_, _, h3⟩
  ·exact h.at_.ne k hk h1
  ·exact h3 hk
/-- What an append hands over: the same row, or a new one. -/
theorem RSt.hatU (h : RSt w W ok ok1 g vX vU vR X U R) (hat : v.ownBlock = vU.ownBlock ∨ ∃ b, v.ownBlock = some b ∧ W.heap.size ≤ b) (k : Nat) (hk : v.ownBlock = some k) : vU.ownBlock = some k ∨ (w.heap.size ≤ k ∧ k ≠ g ∧ vR.ownBlock ≠ some k) := by
 rcases hat with h1 | ⟨b, h1, hb⟩
 ·exact .inl (h1 ▸ hk)
 ·rw [hk] at h1
  injection h1 with h1
  have := h.size
  have := h.lt g h.at_.own
  exact .inr ⟨by omega, by omega, fun e => by have := Kd.R_lt h.at_.rR k e; omega⟩
theorem RSt.hatR (h : RSt w W ok ok1 g vX vU vR X U R) (hat : v.ownBlock = vR.ownBlock ∨ ∃ b, v.ownBlock = some b ∧ W.heap.size ≤ b) (k : Nat) (hk : v.ownBlock = some k) : vR.ownBlock = some k ∨ (w.heap.size ≤ k ∧ k ≠ g ∧ vU.ownBlock ≠ some k) := by
 rcases hat with h1 | ⟨b, h1, hb⟩
 ·exact .inl (h1 ▸ hk)
 ·rw [hk] at h1
  injection h1 with h1
  have := h.size
  have := h.lt g h.at_.own
  exact .inr ⟨by omega, by omega, fun e => by have := Kd.R_lt h.at_.rU k e; omega⟩
/-- One cell of a row's is written. -/
theorem R54_set {base : Nat} {okn : Nat → Prop} {G n c : Nat} (h : Kd.R k54 54 W base ok (.slice (some ⟨G, 0, none⟩) n c) X) (i : Nat) (hi : i < X.length) (j : Nat) (hj : j < 5) (u : Value) (x' : S54) (hn : ∀ k, okn k → ok k ∧ k ≠ G)
  (hM : ∀ oki cs, cs.length = 5 → k54.M W base oki X[i] cs → k54.M W base (fun k => oki k ∨ okn k) x' (cs.take j ++ [u] ++ cs.drop (j + 1))) :
  Kd.R k54 54 (W.setCell ⟨G, i * 5 + j, none⟩ u) base ok (.slice (some ⟨G, 0, none⟩) n c) (X.set i x') ∧ W.grownBy (W.setCell ⟨G, i * 5 + j, none⟩ u) (some G) := by
 have hln := (Kd.R_reads' h).1
 obtain ⟨cs, hcl, hMi, hcc, _⟩ := Kd.R_elem h z54 (i : Int) (by omega) (by omega)
 rw [Int.toNat_natCast] at hcc
 rw [Int.toNat_natCast, List.getD_eq_getElem?_getD, List.getElem?_eq_getElem hi, Option.getD_some] at hMi
 have h3 := Kd.R_seg h (i : Int) (by omega) (by omega) hcl (by rw [Int.toNat_natCast]; exact hcc) (seg := [u]) (j := j) hj (x' := x') (okp := fun k => (ok k ∧ k ≠ G) ∨ okn k) (hM _ cs hcl hMi) fun k hk => hk.elim id (hn k)
 rw [Int.toNat_natCast] at h3
 exact h3
theorem R54_rows {base : Nat} {G n c : Nat} {okp : Nat → Prop} (h : Kd.R k54 54 W base ok (.slice (some ⟨G, 0, none⟩) n c) X) (ho : ∀ k, ok k → okp k) : ReadsRow (fun x cs => k54.M W base okp x cs) k54.sz W (some ⟨G, 0, none⟩) n X := by
 obtain ⟨hn, hnc, hC⟩ := Kd.R_reads' h
 refine ⟨hn.symm, hC.2.1 |> fun h => by omega, fun _ => ⟨_, rfl, fun j p hj => ?_⟩⟩
 obtain ⟨hjl, hjp⟩ := List.getElem?_eq_some_iff.1 hj
 obtain ⟨cs, hcl, hMi, hcc, _⟩ := Kd.R_elem h z54 (j : Int) (by omega) (by omega)
 rw [Int.toNat_natCast, List.getD_eq_getElem?_getD, hj, Option.getD_some] at hMi
 rw [Int.toNat_natCast] at hcc
 exact ⟨cs, hcl, k54.M_mono (fun k hk => ho k hk.1) hMi, fun i u hu => by rw [add_plain]; exact hcc i u hu⟩
theorem C54_one {b c : Nat} {x : S54} {A : Option Addr} (hb : W.heap[b]? = some (.cells #[.int .i64 x.f0, .int .i64 x.f1, .string x.f2, .string x.f3, .slice A x.f4.length c] 54 (0, 0))) (hc : x.f4.length ≤ c) (hC : Kd.C k52 W A x.f4.length x.f4) : Kd.C k54 W (some ⟨b, 0, none⟩) 1 [x] := by
 refine ⟨rfl, by omega, fun _ => ⟨_, rfl, fun j p hj => ?_⟩⟩
 match j, hj with
 | 0, hj =>
  obtain rfl : x = p := Option.some.inj hj
  refine ⟨_, rfl, k54_mk W x hc hC, fun i u hu => ?_⟩
  rw [add_plain]
  refine (blk_cell hb _).trans ?_
  rw [← hu]
  simp
end
/-- Rows that are moved. -/
def mv (d : Int) (x : S54) : S54 := ⟨wrap64 (x.f0 + d), x.f1, x.f2, x.f3, x.f4⟩
theorem moved_l0 (l : List S54) (d : Int) (hl : l.length < 1000000) (ha : ∀ x ∈ l, x.f4.length < 4398046511104) : ∀ (e i k : Nat) (acc : List S54), i + e = l.length → e < k → acc.length ≤ i → boltingref04_Moved.l0 k l d acc (i : Int) = some (acc ++ (l.drop i).map (mv d))
 | 0, i, k + 1, acc, h, _, _ => by
  simp only [boltingref04_Moved.l0]
  rw [if_neg (by omega), List.drop_of_length_le (by omega)]
  simp
 | e + 1, i, k + 1, acc, h, hk, hacc => by
  have hi : i < l.length := by omega
  have hx : rd_T54 l (i : Int) = l[i] := rd_T54_at l i hi
  simp only [boltingref04_Moved.l0]
  rw [if_pos (by omega), if_pos (by omega), Option.bind_some, hx, List.length_nil, Nat.zero_add, if_pos (ha _ (List.getElem_mem hi)), if_pos (by omega), wrap1 (by omega)]
  rw [moved_l0 l d hl ha e (i + 1) k _ (by omega) (by omega) (by rw [List.length_append]; simp; omega), List.drop_eq_getElem_cons hi, List.map_cons, List.append_assoc]
  rfl
theorem moved_is (l : List S54) (d : Int) (hl : l.length < 1000000) (ha : ∀ x ∈ l, x.f4.length < 4398046511104) : boltingref04_Moved.f (l.length + 1) l d = some (l.map (mv d)) := by
 have := moved_l0 l d hl ha l.length 0 (l.length + 1) [] (by omega) (by omega) (Nat.le_refl _)
 exact this
end Go.Proofs.Ytpkaliaaffgbdaa.QA
namespace Go.Proofs.Ytpkaliaaffgbdaa.QA
open Go.RowKit Go.Proofs.YtpkaliaaffgbdaaW.PrintWords Go.Proofs.YtpkaliaaffgbdaaW.PrintLast Go.Proofs.YtpkaliaaffgbdaaW.PrintMore
attribute [local go_sem] max2_int min2_int max_two min_two max_three min_three max_four min_four   -- for this text's walks alone
set_option linter.unusedVariables false
set_option linter.unusedSimpArgs false

open Go
section
variable {W w : World} {ok : Nat → Prop} {g : Nat} {vX vU vR : Value} {X : List S54} {U R : List Int}
set_option maxHeartbeats 2000000 in
set_option maxRecDepth 100000 in
theorem Ref_New (w : World) : Calls Try.prog 19 #[] w fun e w' => ∃ g, e = .returned (.pointer (some ⟨g, 0, none⟩)) ∧ IsRef w' (fun k => w.heap.size ≤ k) g [z54] [-1] [0] ∧ Below w.heap.size w w' := by
 go_enter Try.func19, Try.ntmps19
 go_wp2
 go_ret
 have b0 := blk_new w (.cells #[.int .i64 0, .int .i64 0, .string (⟨#[]⟩ : ByteArray), .string (⟨#[]⟩ : ByteArray), .slice none 0 0] 54)
 generalize hW0 : w.alloc (.cells #[.int .i64 0, .int .i64 0, .string (⟨#[]⟩ : ByteArray), .string (⟨#[]⟩ : ByteArray), .slice none 0 0] 54) = W0 at b0 ⊢
 have hB0 : Below w.heap.size w W0 := hW0 ▸ below_alloc (Below.refl _ _) _
 have hs0 : W0.heap.size = w.heap.size + 1 := by rw [← hW0]; exact World.size_alloc _ _
 have b1 := blk_new W0 (.cells #[.int .i64 (-1)] 3)
 generalize hW1 : W0.alloc (.cells #[.int .i64 (-1)] 3) = W1 at b1 ⊢
 have hB1 : Below w.heap.size w W1 := hW1 ▸ below_alloc hB0 _
 have hs1 : W1.heap.size = w.heap.size + 1 + 1 := by rw [← hW1, World.size_alloc, hs0]
 have b2 := blk_new W1 (.cells #[.int .i64 0] 3)
 generalize hW2 : W1.alloc (.cells #[.int .i64 0] 3) = W2 at b2 ⊢
 have hB2 : Below w.heap.size w W2 := hW2 ▸ below_alloc hB1 _
 have hs2 : W2.heap.size = w.heap.size + 1 + 1 + 1 := by rw [← hW2, World.size_alloc, hs1]
 have c0 := blk_alloc (blk_alloc b0 (.cells #[.int .i64 (-1)] 3)) (.cells #[.int .i64 0] 3)
 rw [hW1, hW2] at c0
 have c1 := blk_alloc b1 (.cells #[.int .i64 0] 3)
 rw [hW2, hs0] at c1
 have c2 := b2
 rw [hs1] at c2
 have r0 : Kd.R k54 54 W2 0 (fun k => k = w.heap.size) (.slice (some ⟨w.heap.size, 0, none⟩) 1 1) [z54] :=
  ⟨fun k hk => by injection hk with hk; exact hk.symm, _, ⟨rfl, .inr ⟨_, 1, _, rfl, Nat.zero_le _, c0, Nat.le_refl _, by decide, rfl, rfl⟩⟩, Reps.c5 (k54_mkM W2 0 _ z54 (Kd.R_nil _ _ _ _ _)) (Reps.none _ _)⟩
 have r1 := R_int_block (base := 0) (xs := [-1]) (cap := 1) (Nat.zero_le _) c1 (Nat.le_refl _) (by decide) rfl rfl
 have r2 := R_int_block (base := 0) (xs := [0]) (cap := 1) (Nat.zero_le _) c2 (Nat.le_refl _) (by decide) rfl rfl
 rw [← hs2]
 refine ⟨_, rfl, ⟨_, _, _, blk_new _ _, by omega, Kd.R_alloc (Kd.R_mono r0 fun k hk => ⟨by omega, by omega⟩) _, Kd.R_alloc (R_put_own r1 fun k hk => ?_) _, Kd.R_alloc (R_put_own r2 fun k hk => ?_) _, fun k hk e => ?_⟩, below_alloc hB2 _⟩
 ·have hk : w.heap.size + 1 = k := Option.some.inj hk
  exact ⟨by omega, by omega⟩
 ·have hk : w.heap.size + 1 + 1 = k := Option.some.inj hk
  exact ⟨by omega, by omega⟩
 ·have hk : w.heap.size + 1 = k := Option.some.inj hk
  have e : w.heap.size + 1 + 1 = k := Option.some.inj e
  omega
set_option maxHeartbeats 4000000 in
set_option maxRecDepth 100000 in
theorem Ref_add (h : RefAt w ok g vX vU vR X U R) (hx : X.length < 100000) (hu : U.length < 100000) (hr : R.length < 100000) (x : S54) (A : Option Addr) (c : Nat) (hC : Kd.C k52 w A x.f4.length x.f4) (hc : x.f4.length ≤ c) (hA : x.f4.length < 1000000) :
  Calls Try.prog 73 #[.pointer (some ⟨g, 0, none⟩), vrow x A c] w fun e w' => e = .returned (.int .i64 (X.length : Nat)) ∧ ToRef w w' ok g (X ++ [⟨0, x.f1, x.f2, x.f3, x.f4⟩]) (U ++ [-1]) (R ++ [0]) := by
 have HS := Aside0.mk (RSt.start h)
 have HN := Aside0.mk (And.intro hx (And.intro hu hr))
 have HC := Aside0.mk (And.intro hC (And.intro hc hA))
 clear h hx hu hr hC hc hA
 have hrow := fun o : Obj => C54_one (W := (w.alloc o).alloc (.cells #[.int .i64 x.f0, .int .i64 x.f1, .string x.f2, .string x.f3, .slice A x.f4.length c] 54)) (blk_new1 _ _ _) HC.out.2.1 (Kd.C_alloc (Kd.C_alloc HC.out.1 _) _)
 have hmv : boltingref04_Moved.f 2 [x] 0 = some [mv 0 x] := moved_is [x] 0 (by simp) fun y hy => by rw [List.mem_singleton.1 hy]; have := HC.out.2.2; omega
 go_enter Try.func73, Try.ntmps73
 go_upto_region 2 with (first | (go_at_call 65; refine (boltingref04_Moved.calls 2 _ 1 [x] 0 [mv 0 x] _ (hrow _) (Nat.le_refl _) hmv).mono ?_; rintro e w1 ⟨v, rfl, hS, hB⟩))
 obtain ⟨W0, hW0⟩ : ∃ W0, W0 = (w.alloc (.cells #[.int .i64 x.f0, .int .i64 x.f1, .string x.f2, .string x.f3, .slice A x.f4.length c] 54)).alloc (.cells #[.int .i64 x.f0, .int .i64 x.f1, .string x.f2, .string x.f3, .slice A x.f4.length c] 54) := ⟨_, rfl⟩
 rw [← hW0] at hS hB
 have hB0 : Below w.heap.size w W0 := by rw [hW0]; exact below_alloc (below_alloc (Below.refl _ _) _) _
 have hs0 : w.heap.size < W0.heap.size := by rw [hW0, World.size_alloc, World.size_alloc]; omega
 obtain ⟨gy, cy, rfl, hgy, hgl, cells, hcells⟩ := Kd.S_form hS (by simp)
 have hR := Kd.S_R hS
 have hset := R54_set (okn := fun _ => False) hR 0 (by simp) 0 (by omega) (.int .i64 0) ⟨0, x.f1, x.f2, x.f3, x.f4⟩ (fun _ h => h.elim) (fun oki cs _ hM => by
  obtain ⟨v4, rfl, h4⟩ := k54_openM hM
  exact k54.M_mono (fun k hk => .inl hk) (k54_mkM _ _ oki ⟨0, x.f1, x.f2, x.f3, x.f4⟩ h4))
 rw [show [mv 0 x].length = 1 from rfl] at hR hset ⊢
 rw [show [mv 0 x].set 0 (⟨0, x.f1, x.f2, x.f3, x.f4⟩ : S54) = [⟨0, x.f1, x.f2, x.f3, x.f4⟩] from rfl] at hset
 obtain ⟨hy, hgr⟩ := hset
 have hyf := blk_frozen hcells 0
 obtain ⟨ady, Ay, cy', ey, hy0, _, _, _, _, _, _⟩ := at_T54 (Kd.R_reads' hR).2.2 0 (by omega) (by simp)
 injection ey with ey
 subst ey
 rw [add_plain] at hy0
 have hy0 : w1.cell? ⟨gy, 0, none⟩ = _ := hy0
 have HB2 := Aside0.mk (below_set (g := gy) (j := 0) (v := .int .i64 0) hB hgy)
 have HY := Aside0.mk (And.intro hy hgy)
 have HB0 := Aside0.mk (And.intro hB0 hs0)
 clear hS hcells hR hB hy hgr hrow hmv hB0 hs0 hW0
 go_upto_region 3 with (fail)
 have HS2 := Aside0.mk ((HS.out.quiet HB0.out.1).quiet HB2.out)
 have HY2 : Aside0 (Kd.R k54 54 (w1.setCell ⟨gy, 0, none⟩ (.int .i64 0)) W0.heap.size (fun _ => True) (.slice (some ⟨gy, 0, none⟩) 1 cy) [⟨0, x.f1, x.f2, x.f3, x.f4⟩]) := ⟨HY.out.1⟩
 have HLT := Aside0.mk (fun k (hk : ok k ∧ k < w.heap.size) => show k < W0.heap.size from by have := HB0.out.2; omega)
 have HSZ := Aside0.mk HB2.out.size
 have HN0 := Aside0.mk (Nat.le_of_lt HB0.out.2)
 generalize w1.setCell ⟨gy, 0, none⟩ (.int .i64 0) = W2 at HS2 HY2 HSZ ⊢
 clear HY HB2 HB0 HS hyf hy0 hgl
 generalize W0.heap.size = n0 at HY2 HSZ HLT HN0 hgy
 obtain ⟨AX, cX, rfl⟩ := Kd.R_slice HS2.out.at_.rX
 have HRW := Aside0.mk (R54_rows (okp := fun k => n0 ≤ k) (Kd.R_lower (Kd.R_mono (Kd.R_bound HY2.out) (ok' := fun k => n0 ≤ k) fun k hk => hk.2.1) (Nat.zero_le _)) fun _ hk => hk)
 have hblk := HS2.out.at_.blk
 obtain ⟨q0, q1, q2, qf⟩ := ref_cells hblk
 clear hblk
 obtain ⟨ok1, HS2, HLT⟩ : ∃ ok1, Aside0 (RSt w W2 ok ok1 g (.slice AX X.length cX) vU vR X U R) ∧ Aside0 (∀ k, ok1 k → k < n0) := ⟨_, HS2, HLT⟩
 go_upto_region 4 with (first | ((with_reducible refine gate_builtin (b := .append) (xs := #[.tmp 16, .tmp 17]) rfl ?_); at_builtin; refine Kd.R_append_rows k54 (Rr := fun x cs => k54.M W2 0 (fun k => n0 ≤ k) x cs) (w0 := W2) 0 rfl (.tmp 16) (.tmp 17) 23 54 _ 72 rfl Try.underlying23 info54 rfl (by decide) (by decide) (.slice AX X.length cX) X [⟨0, x.f1, x.f2, x.f3, x.f4⟩] (some ⟨gy, 0, none⟩) 1 cy (fun k => (ok1 k ∨ n0 ≤ k) ∧ k ≠ g) (fun k => n0 ≤ k) rfl rfl ?aO ?aR (fun _ _ h => h) ?aP ?aF (Below.refl _ _) (Nat.zero_le _) ?aL ?_; (case aO => exact Kd.R_mono HS2.out.at_.rX fun k hk => ⟨.inl hk.1, hk.2⟩); (case aR => exact HRW.out); (case aP => exact fun k hk => ⟨⟨.inr hk, fun e => by have := HLT.out g HS2.out.at_.own; omega⟩, fun e => by have := HLT.out k (HS2.out.at_.rX.1 k e.symm).1; omega⟩); (case aF => exact fun k hk => ⟨.inr (Nat.le_trans HSZ.out hk), fun e => by have := HS2.out.lt g HS2.out.at_.own; omega⟩); (case aL => have := HN.out.1; omega); intro v1 w3 hR3 hB3 hg3 _; obtain ⟨A1, c1, rfl⟩ := Kd.R_slice hR3; have HS3 := Aside0.mk (HS2.out.setX (okn := fun k => n0 ≤ k) hg3 hR3 (fun k hk => Nat.le_trans HN0.out hk)); have hb3 := blk_grown HS2.out.at_.blk hg3 HS2.out.at_.neX; obtain ⟨r0, r1, r2, rf⟩ := ref_cells hb3; clear hR3 hB3 hg3 q0 q1 q2 qf hb3))
 have HX1 : Aside0 ((X ++ [(⟨0, x.f1, x.f2, x.f3, x.f4⟩ : S54)]).length = X.length + 1) := ⟨by simp⟩
 obtain ⟨X1, HXE⟩ : ∃ X1, Aside0 (X ++ [(⟨0, x.f1, x.f2, x.f3, x.f4⟩ : S54)] = X1) := ⟨_, ⟨rfl⟩⟩
 rw [HXE.out] at HS3 HX1
 try rw [HXE.out]
 generalize okUp ok1 (fun k => n0 ≤ k) w3 = ok3 at HS3
 rw [HX1.out] at HS3
 generalize w3.setCell ⟨g, 0, none⟩ (.slice A1 (X.length + 1) c1) = W4 at HS3 ⊢
 clear HS2 HLT HRW HY2 HSZ HN0 hgy r0 r1 r2 rf
 obtain ⟨AU, cU, rfl⟩ := Kd.R_slice HS3.out.at_.rU
 obtain ⟨q0, q1, q2, qf⟩ := ref_cells HS3.out.at_.blk
 go_upto_region 5 with (first | ((with_reducible refine gate_builtin (b := .append) (xs := #[.tmp 25, .tmp 26]) rfl ?_); at_builtin; refine Kd.R_append kI (w0 := W4) 0 rfl (.tmp 25) (.tmp 26) 32 3 (.int .i64 0) 8 rfl Try.underlying32 info3 rfl (by decide) (by decide) (.slice AU U.length cU) U (-1) [.int .i64 (-1)] (fun _ => True) (fun _ => False) rfl rfl ?aP (fun _ h => h.elim) (fun _ _ => trivial) (Kd.R_mono HS3.out.at_.rU fun _ _ => trivial) (Below.refl _ _) (Nat.zero_le _) ?aL ?_; (case aP => exact rfl); (case aL => have := HN.out.2.1; omega); intro v1 w5 hR5 _ hg5 hat5; obtain ⟨A5, c5, rfl⟩ := Kd.R_slice hR5; have HS5 := Aside0.mk (HS3.out.setU hg5 hR5 (HS3.out.hatU hat5)); obtain ⟨r0, r1, r2, rf⟩ := ref_cells (blk_grown HS3.out.at_.blk hg5 HS3.out.at_.neU); clear hR5 hg5 hat5 q0 q1 q2 qf))
 generalize okUp _ _ w5 = ok5 at HS5
 have e5 : (U ++ [(-1 : Int)]).length = U.length + 1 := by simp
 rw [e5] at HS5
 clear e5
 generalize w5.setCell ⟨g, 1, none⟩ (.slice A5 (U.length + 1) c5) = W6 at HS5 ⊢
 clear HS3 r0 r1 r2 rf
 obtain ⟨AR, cR, rfl⟩ := Kd.R_slice HS5.out.at_.rR
 obtain ⟨q0, q1, q2, qf⟩ := ref_cells HS5.out.at_.blk
 go_upto_region 6 with (first | ((with_reducible refine gate_builtin (b := .append) (xs := #[.tmp 34, .tmp 35]) rfl ?_); at_builtin; refine Kd.R_append kI (w0 := W6) 0 rfl (.tmp 34) (.tmp 35) 32 3 (.int .i64 0) 8 rfl Try.underlying32 info3 rfl (by decide) (by decide) (.slice AR R.length cR) R 0 [.int .i64 0] (fun _ => True) (fun _ => False) rfl rfl ?aP (fun _ h => h.elim) (fun _ _ => trivial) (Kd.R_mono HS5.out.at_.rR fun _ _ => trivial) (Below.refl _ _) (Nat.zero_le _) ?aL ?_; (case aP => exact rfl); (case aL => have := HN.out.2.2; omega); intro v1 w7 hR7 _ hg7 hat7; obtain ⟨A7, c7, rfl⟩ := Kd.R_slice hR7; have HS7 := Aside0.mk (HS5.out.setR hg7 hR7 (HS5.out.hatR hat7)); obtain ⟨r0, r1, r2, rf⟩ := ref_cells (blk_grown HS5.out.at_.blk hg7 HS5.out.at_.neR); clear hR7 hg7 hat7 q0 q1 q2 qf))
 generalize okUp _ _ w7 = ok7 at HS7
 have e7 : (R ++ [(0 : Int)]).length = R.length + 1 := by simp
 rw [e7] at HS7
 clear e7
 generalize w7.setCell ⟨g, 2, none⟩ (.slice A7 (R.length + 1) c7) = W8 at HS7 ⊢
 clear HS5 r0 r1 r2 rf
 obtain ⟨q0, q1, q2, qf⟩ := ref_cells HS7.out.at_.blk
 go_wp2
 go_ret
 have e : wrap64 (X.length : Int) = (X.length : Nat) := by unfold wrap64; have := HN.out.1; omega
 exact ⟨congrArg (fun z => Ending.returned (.int .i64 z)) e, by rw [HXE.out]; exact HS7.out.to⟩
end
end Go.Proofs.Ytpkaliaaffgbdaa.QA
namespace Go.Proofs.Ytpkaliaaffgbdaa.QA
open Go.RowKit Go.Proofs.YtpkaliaaffgbdaaW.PrintWords Go.Proofs.YtpkaliaaffgbdaaW.PrintLast Go.Proofs.YtpkaliaaffgbdaaW.PrintMore
attribute [local go_sem] max2_int min2_int max_two min_two max_three min_three max_four min_four   -- for this text's walks alone
set_option linter.unusedVariables false
set_option linter.unusedSimpArgs false

open Go
/-- Those that node n has, by their numbers. -/
structure KidsOf (U R : List Int) (n : Int) (ks : List Int) : Prop where
 mem : ∀ i : Nat, i < U.length → (rd U (i : Int) = n ↔ (i : Int) ∈ ks)
 nat : ∀ k ∈ ks, ∃ i : Nat, k = (i : Int) ∧ i < U.length
 ord : ks.Pairwise (fun a b => rd R a < rd R b)
 lo : ∀ k ∈ ks, 0 ≤ rd R k
/-- May node i be the next behind the number last? -/
def cand (U R : List Int) (n last : Int) (i : Nat) : Prop := rd U (i : Int) = n ∧ last < rd R (i : Int)
/-- The best of the first j nodes. -/
def Best (U R : List Int) (n last : Int) (j : Nat) (b : Int) : Prop :=
 (b = -1 ∧ ∀ i, i < j → ¬ cand U R n last i) ∨ ∃ m : Nat, b = (m : Int) ∧ m < j ∧ cand U R n last m ∧ ∀ i, i < j → cand U R n last i → rd R (m : Int) ≤ rd R (i : Int)
theorem best_zero (U R : List Int) (n last : Int) : Best U R n last 0 (-1) := .inl ⟨rfl, fun i h => absurd h (Nat.not_lt_zero i)⟩
section
variable {U R : List Int} {n last b : Int} {j : Nat}
theorem best_skip (h : Best U R n last j b) (hc : ¬ cand U R n last j) : Best U R n last (j + 1) b := by
 rcases h with ⟨h1, h2⟩ | ⟨m, h1, h2, h3, h4⟩
 ·exact .inl ⟨h1, fun i hi => by
   rcases Nat.lt_or_eq_of_le (Nat.le_of_lt_succ hi) with h5 | rfl
   ·exact h2 i h5
   ·exact hc⟩
 ·exact .inr ⟨m, h1, by omega, h3, fun i hi hci => by
   rcases Nat.lt_or_eq_of_le (Nat.le_of_lt_succ hi) with h5 | rfl
   ·exact h4 i h5 hci
   ·exact absurd hci hc⟩
theorem best_keep (h : Best U R n last j b) (hb : ¬ b < 0) (hle : ¬ rd R (j : Int) < rd R b) : Best U R n last (j + 1) b := by
 rcases h with ⟨h1, h2⟩ | ⟨m, rfl, h2, h3, h4⟩
 ·omega
 ·exact .inr ⟨m, rfl, by omega, h3, fun i hi hci => by
   rcases Nat.lt_or_eq_of_le (Nat.le_of_lt_succ hi) with h5 | rfl
   ·exact h4 i h5 hci
   ·omega⟩
theorem best_take (h : Best U R n last j b) (hc : cand U R n last j) (hb : b < 0 ∨ rd R (j : Int) < rd R b) : Best U R n last (j + 1) (j : Int) := by
 refine .inr ⟨j, rfl, by omega, hc, fun i hi hci => ?_⟩
 rcases Nat.lt_or_eq_of_le (Nat.le_of_lt_succ hi) with h5 | rfl
 ·rcases h with ⟨h1, h2⟩ | ⟨m, rfl, h2, h3, h4⟩
  ·exact absurd hci (h2 i h5)
  ·have := h4 i h5 hci
   rcases hb with hb | hb <;> omega
 ·exact Int.le_refl _
/-- The number of the last of the first m kids. -/
def lastR (R : List Int) (ks : List Int) : Nat → Int
 | 0 => -1
 | m + 1 => rd R (rd ks (m : Int))
theorem lastR_zero (R ks : List Int) : lastR R ks 0 = -1 := rfl
theorem lastR_succ (R ks : List Int) (m : Nat) : lastR R ks (m + 1) = rd R (rd ks (m : Int)) := rfl
theorem rd_at {ks : List Int} {m : Nat} (h : m < ks.length) : rd ks (m : Int) = ks[m] := by simp [rd, List.getElem?_eq_getElem h]
theorem cand_iff {ks : List Int} (h : KidsOf U R n ks) (m : Nat) (hm : m ≤ ks.length) (i : Nat) (hi : i < U.length) : cand U R n (lastR R ks m) i ↔ ∃ q : Nat, m ≤ q ∧ ∃ hq : q < ks.length, ks[q] = (i : Int) := by
 unfold cand
 rw [h.mem i hi]
 constructor
 ·rintro ⟨h1, h2⟩
  obtain ⟨q, hq, he⟩ := List.getElem_of_mem h1
  refine ⟨q, ?_, hq, he⟩
  rcases Nat.lt_or_ge q m with h3 | h3
  ·exfalso
   cases m with
   | zero => omega
   | succ m =>
    rw [lastR_succ, rd_at (by omega), ← he] at h2
    rcases Nat.lt_or_eq_of_le (Nat.le_of_lt_succ h3) with h4 | rfl
    ·have := List.pairwise_iff_getElem.1 h.ord q m hq (by omega) h4
     omega
    ·omega
  ·exact h3
 ·rintro ⟨q, hmq, hq, he⟩
  rw [← he]
  refine ⟨List.getElem_mem hq, ?_⟩
  cases m with
  | zero => have := h.lo _ (List.getElem_mem hq); rw [lastR_zero]; omega
  | succ m =>
   rw [lastR_succ, rd_at (by omega)]
   exact List.pairwise_iff_getElem.1 h.ord m q (by omega) hq (by omega)
/-- The best of all is the next kid. -/
theorem best_end {ks : List Int} (h : KidsOf U R n ks) (m : Nat) (hm : m ≤ ks.length) (hb : Best U R n (lastR R ks m) U.length b) : (m = ks.length ∧ b = -1) ∨ ∃ hm : m < ks.length, b = ks[m] := by
 rcases Nat.lt_or_eq_of_le hm with h1 | h1
 ·right
  refine ⟨h1, ?_⟩
  obtain ⟨i, hi, hil⟩ := h.nat _ (List.getElem_mem h1)
  have hci : cand U R n (lastR R ks m) i := (cand_iff h m hm i hil).2 ⟨m, Nat.le_refl _, h1, hi⟩
  rcases hb with ⟨_, h3⟩ | ⟨c, rfl, h3, h4, h5⟩
  ·exact absurd hci (h3 i hil)
  ·obtain ⟨q, hmq, hq, he⟩ := (cand_iff h m hm c h3).1 h4
   have h6 := h5 i hil hci
   rw [← he, ← hi] at h6
   rcases Nat.lt_or_eq_of_le hmq with h7 | rfl
   ·have := List.pairwise_iff_getElem.1 h.ord m q h1 hq h7
    omega
   ·exact he.symm
 ·left
  refine ⟨h1, ?_⟩
  rcases hb with ⟨h2, _⟩ | ⟨c, rfl, h3, h4, h5⟩
  ·exact h2
  ·obtain ⟨q, hmq, hq, _⟩ := (cand_iff h m hm c h3).1 h4
   omega
end
section
variable {W w : World} {ok : Nat → Prop} {g : Nat} {vX vU vR : Value} {X : List S54} {U R : List Int}
/-- The cells that the readers need. -/
theorem RefAt.reads (h : RefAt W ok g vX vU vR X U R) (hx : 0 < X.length) (hu : U.length = X.length) (hr : R.length = X.length) : ∃ GX cX GU cU GR cR, vX = .slice (some ⟨GX, 0, none⟩) X.length cX ∧ vU = .slice (some ⟨GU, 0, none⟩) X.length cU ∧ vR = .slice (some ⟨GR, 0, none⟩) X.length cR ∧ (X.length ≤ cX ∧ X.length ≤ cU ∧ X.length ≤ cR) ∧ (∀ i : Nat, i < X.length → W.cell? ⟨GU, i, none⟩ = some (.int .i64 (rd U (i : Int)))) ∧ (∀ i : Nat, i < X.length → W.cell? ⟨GR, i, none⟩ = some (.int .i64 (rd R (i : Int)))) := by
 obtain ⟨GX, cX, rfl, _, _, _, _⟩ := Kd.R_form h.rX hx
 obtain ⟨GU, cU, rfl, _, _, _, _⟩ := Kd.R_form h.rU (by omega)
 obtain ⟨GR, cR, rfl, _, _, _, _⟩ := Kd.R_form h.rR (by omega)
 have h1 := Kd.R_reads' h.rX
 have h2 := Kd.R_reads' h.rU
 have h3 := Kd.R_reads' h.rR
 refine ⟨GX, cX, GU, cU, GR, cR, rfl, by rw [hu], by rw [hr], ⟨h1.2.1, by omega, by omega⟩, fun i hi => ?_, fun i hi => ?_⟩
 ·obtain ⟨ad, e, hc⟩ := Kd.at_int h2.2.2 (i : Int) (by omega) (by omega)
  injection e with e
  subst e
  rwa [add_plain, Int.toNat_natCast] at hc
 ·obtain ⟨ad, e, hc⟩ := Kd.at_int h3.2.2 (i : Int) (by omega) (by omega)
  injection e with e
  subst e
  rwa [add_plain, Int.toNat_natCast] at hc
set_option maxHeartbeats 4000000 in
set_option maxRecDepth 100000 in
theorem Ref_Kids (h : RefAt w ok g vX vU vR X U R) (hx : 0 < X.length) (hu : U.length = X.length) (hr : R.length = X.length) (hl : X.length < 100000) (n : Int) (ks : List Int) (hk : 0 ≤ n → KidsOf U R n ks) (hk0 : n < 0 → ks = []) (hkl : ks.length < 1000000) :
  Calls Try.prog 59 #[.pointer (some ⟨g, 0, none⟩), .int .i64 n] w fun e w' => ∃ v, e = .returned v ∧ Kd.R kI 3 w' w.heap.size (fun _ => True) v ks ∧ Below w.heap.size w w' := by
 obtain ⟨GX, cX, GU, cU, GR, cR, rfl, rfl, rfl, ⟨l0, l1, l2⟩, hU, hR⟩ := h.reads hx hu hr
 obtain ⟨q0, q1, q2, _⟩ := ref_cells h.blk
 have hBU := fun i hi => block_lt_of_cell (hU i hi)
 have hlt := h.lt
 have HC := Aside0.mk (fun W (hb : Below w.heap.size w W) => (show W.cell? ⟨g, 0, none⟩ = some (.slice (some ⟨GX, 0, none⟩) X.length cX) ∧ W.cell? ⟨g, 1, none⟩ = some (.slice (some ⟨GU, 0, none⟩) X.length cU) ∧ W.cell? ⟨g, 2, none⟩ = some (.slice (some ⟨GR, 0, none⟩) X.length cR) ∧ (∀ i : Nat, i < X.length → W.cell? ⟨GU, i, none⟩ = some (.int .i64 (rd U (i : Int)))) ∧ (∀ i : Nat, i < X.length → W.cell? ⟨GR, i, none⟩ = some (.int .i64 (rd R (i : Int)))) from ⟨(hb.cell (p := ⟨g, 0, none⟩) hlt).trans q0, (hb.cell (p := ⟨g, 1, none⟩) hlt).trans q1, (hb.cell (p := ⟨g, 2, none⟩) hlt).trans q2, fun i hi => (hb.cell (block_lt_of_cell (hU i hi))).trans (hU i hi), fun i hi => (hb.cell (block_lt_of_cell (hR i hi))).trans (hR i hi)⟩))
 have HL := Aside0.mk (And.intro l0 (And.intro l1 l2))
 have HK := Aside0.mk (And.intro hk (And.intro hk0 hkl))
 have HUL := Aside0.mk (And.intro hu hr)
 have HX := Aside0.mk (And.intro hx hl)
 clear h l0 l1 l2 hU hR q0 q1 q2 hBU hlt hk hk0 hkl hu hr hx hl
 go_enter Try.func59, Try.ntmps59
 go_wp2
 have H0 : Aside0 (Kd.R kI 3 (w.alloc (.cells #[] 3)) w.heap.size (fun _ => True) (.slice (some ⟨w.heap.size, 0, none⟩) 0 0) [] ∧ Below w.heap.size w (w.alloc (.cells #[] 3))) := ⟨⟨R_int_block (xs := []) (cap := 0) (Nat.le_refl _) (blk_new _ _) (Nat.le_refl _) (by decide) rfl rfl, below_alloc (Below.refl _ _) _⟩⟩
 go_loopg [5, 6] ks.length (fun gg v5 v6 W => ∃ m : Nat, m ≤ ks.length ∧ ks.length - m ≤ gg ∧ v6 = .int .i64 (lastR R ks m) ∧ Aside0 (Kd.R kI 3 W w.heap.size (fun _ => True) v5 (ks.take m) ∧ Below w.heap.size w W))
 case atStart => exact ⟨0, Nat.zero_le _, by omega, rfl, H0⟩
 case round =>
  clear H0
  obtain ⟨m, hm, hgg, rfl, HO⟩ := hrel
  obtain ⟨Av, cv, rfl⟩ := Kd.R_slice HO.out.1
  have hkm : (ks.take m).length = m := by rw [List.length_take]; omega
  rw [hkm] at HO ⊢
  clear hkm
  go_wp2
  go_loopg [7, 8] X.length (fun gg v7 v8 W => ∃ (j : Nat) (b : Int), j ≤ X.length ∧ X.length - j ≤ gg ∧ v7 = .int .i64 b ∧ v8 = .int .i64 (j : Int) ∧ Aside0 ((0 ≤ n → Best U R n (lastR R ks m) j b) ∧ (n < 0 → b = -1)) ∧ Aside0 (Kd.R kI 3 W w.heap.size (fun _ => True) (.slice Av m cv) (ks.take m) ∧ Below w.heap.size w W))
  case atStart => exact ⟨0, -1, Nat.zero_le _, by omega, rfl, rfl, ⟨⟨fun _ => best_zero _ _ _ _, fun _ => rfl⟩⟩, HO⟩
  case round =>
   clear HO
   obtain ⟨j, b, hj, hgj, rfl, rfl, HB, HO⟩ := hrel
   obtain ⟨c0, c1, c2, cu, cr⟩ := HC.out wr HO.out.2
   have hxl := HX.out.2
   by_cases hin : j < X.length ∧ 0 ≤ n
   ·obtain ⟨hjl, hn0⟩ := hin
    have d1 : decide ((j : Int) < (X.length : Int)) = true := decide_eq_true (by omega)
    have d2 : decide (0 ≤ n) = true := decide_eq_true hn0
    have z1 : (j : Int) < (X.length : Int) := by omega
    have cuj := cu j hjl
    have crj := cr j hjl
    have hB := HB.out.1 hn0
    by_cases e1 : rd U (j : Int) = n
    rotate_left
    ·have d3 : (rd U (j : Int) == n) = false := beq_eq_false_iff_ne.2 e1
     clear cu cr
     go_wp2
     repeat (go_quiet (fail); try go_wp2)
     go_roundg (X.length - (j + 1))
     case measure => omega
     case rel => exact ⟨j + 1, b, by omega, by omega, rfl, by go_num, ⟨⟨fun _ => best_skip hB fun hc => e1 hc.1, fun h => by omega⟩⟩, ⟨⟨by (with_reducible repeat (first | apply Kd.R_drewN | apply Kd.R_drew)); exact HO.out.1, by repeat (first | (with_reducible exact HO.out.2) | apply pw_below_drewN | apply below_drew1)⟩⟩⟩
    have d3 : (rd U (j : Int) == n) = true := beq_iff_eq.2 e1
    by_cases e2 : lastR R ks m < rd R (j : Int)
    rotate_left
    ·have d4 : decide (lastR R ks m < rd R (j : Int)) = false := decide_eq_false e2
     clear cu cr
     go_wp2
     repeat (go_quiet (fail); try go_wp2)
     go_roundg (X.length - (j + 1))
     case measure => omega
     case rel => exact ⟨j + 1, b, by omega, by omega, rfl, by go_num, ⟨⟨fun _ => best_skip hB fun hc => by have := hc.2; omega, fun h => by omega⟩⟩, ⟨⟨by (with_reducible repeat (first | apply Kd.R_drewN | apply Kd.R_drew)); exact HO.out.1, by repeat (first | (with_reducible exact HO.out.2) | apply pw_below_drewN | apply below_drew1)⟩⟩⟩
    have d4 : decide (lastR R ks m < rd R (j : Int)) = true := decide_eq_true e2
    by_cases e3 : b < 0
    ·have d5 : decide (b < 0) = true := decide_eq_true e3
     clear cu cr
     go_wp2
     repeat (go_quiet (fail); try go_wp2)
     go_roundg (X.length - (j + 1))
     case measure => omega
     case rel => exact ⟨j + 1, (j : Int), by omega, by omega, rfl, by go_num, ⟨⟨fun _ => best_take hB ⟨e1, e2⟩ (.inl e3), fun h => by omega⟩⟩, ⟨⟨by (with_reducible repeat (first | apply Kd.R_drewN | apply Kd.R_drew)); exact HO.out.1, by repeat (first | (with_reducible exact HO.out.2) | apply pw_below_drewN | apply below_drew1)⟩⟩⟩
    have d5 : decide (b < 0) = false := decide_eq_false e3
    obtain ⟨mb, rfl⟩ := Int.eq_ofNat_of_zero_le (show 0 ≤ b by omega)
    have hmb : mb < j := by
     rcases hB with ⟨h1, _⟩ | ⟨m2, h1, h2, _⟩ <;> omega
    have crb := cr mb (by omega)
    have z2 : (mb : Int) < (X.length : Int) := by omega
    by_cases e4 : rd R (j : Int) < rd R (mb : Int)
    ·have d6 : decide (rd R (j : Int) < rd R (mb : Int)) = true := decide_eq_true e4
     clear cu cr
     go_wp2
     repeat (go_quiet (fail); try go_wp2)
     go_roundg (X.length - (j + 1))
     case measure => omega
     case rel => exact ⟨j + 1, (j : Int), by omega, by omega, rfl, by go_num, ⟨⟨fun _ => best_take hB ⟨e1, e2⟩ (.inr e4), fun h => by omega⟩⟩, ⟨⟨by (with_reducible repeat (first | apply Kd.R_drewN | apply Kd.R_drew)); exact HO.out.1, by repeat (first | (with_reducible exact HO.out.2) | apply pw_below_drewN | apply below_drew1)⟩⟩⟩
    ·have d6 : decide (rd R (j : Int) < rd R (mb : Int)) = false := decide_eq_false e4
     clear cu cr
     go_wp2
     repeat (go_quiet (fail); try go_wp2)
     go_roundg (X.length - (j + 1))
     case measure => omega
     case rel => exact ⟨j + 1, (mb : Int), by omega, by omega, rfl, by go_num, ⟨⟨fun _ => best_keep hB (by omega) (by omega), fun h => by omega⟩⟩, ⟨⟨by (with_reducible repeat (first | apply Kd.R_drewN | apply Kd.R_drew)); exact HO.out.1, by repeat (first | (with_reducible exact HO.out.2) | apply pw_below_drewN | apply below_drew1)⟩⟩⟩
   ·have hx : (¬ j < X.length) ∨ (j < X.length ∧ n < 0) := by omega
    have hE : (b = -1 ∧ ks.take m = ks) ∨ ∃ hm : m < ks.length, b = ks[m] ∧ ∃ i : Nat, ks[m] = (i : Int) ∧ i < X.length := by
     by_cases hn0 : 0 ≤ n
     ·obtain rfl : j = X.length := by omega
      have hB := HB.out.1 hn0
      have hKO := HK.out.1 hn0
      rw [← HUL.out.1] at hB
      rcases best_end hKO m hm hB with ⟨h1, h2⟩ | ⟨h1, h2⟩
      ·exact .inl ⟨h2, by rw [h1, List.take_length]⟩
      ·obtain ⟨i, h3, h4⟩ := hKO.nat _ (List.getElem_mem h1)
       exact .inr ⟨h1, h2, i, h3, by rw [← HUL.out.1]; exact h4⟩
     ·left
      refine ⟨HB.out.2 (by omega), ?_⟩
      rw [HK.out.2.1 (by omega), List.take_nil]
    have HX2 := Aside0.mk hx
    clear hin hx
    rcases hE with ⟨rfl, he⟩ | ⟨hml, rfl, i, hi, hil⟩
    ·have HE := Aside0.mk he
     clear he cu cr
     rcases HX2.out with hx | ⟨hx, hn0⟩
     ·have d1 : decide ((j : Int) < (X.length : Int)) = false := decide_eq_false (by omega)
      have z1 : ¬ (j : Int) < (X.length : Int) := by omega
      go_wp2
      repeat (go_quiet (fail); try go_wp2)
      go_ret
      rw [HE.out] at HO
      exact ⟨_, rfl, HO.out⟩
     ·have d1 : decide ((j : Int) < (X.length : Int)) = true := decide_eq_true (by omega)
      have d2 : decide (0 ≤ n) = false := decide_eq_false (by omega)
      have z1 : (j : Int) < (X.length : Int) := by omega
      go_wp2
      repeat (go_quiet (fail); try go_wp2)
      go_ret
      rw [HE.out] at HO
      exact ⟨_, rfl, HO.out⟩
    ·rw [hi]
     have cri := cr i hil
     have zi : (i : Int) < (X.length : Int) := by omega
     have HKL : Aside0 ((ks.take m).length < 1000000) := ⟨by rw [List.length_take]; have := HK.out.2.2; omega⟩
     have HLN : Aside0 ((ks.take m ++ [(i : Int)]).length = m + 1) := ⟨by rw [List.length_append, List.length_take, List.length_singleton]; omega⟩
     have HTK : Aside0 (ks.take m ++ [(i : Int)] = ks.take (m + 1)) := ⟨by rw [List.take_add_one, List.getElem?_eq_getElem hml, hi]; rfl⟩
     clear cu cr
     rcases HX2.out with hx | ⟨hx, hn0⟩
     ·have d1 : decide ((j : Int) < (X.length : Int)) = false := decide_eq_false (by omega)
      have z1 : ¬ (j : Int) < (X.length : Int) := by omega
      go_wp2_with (first | ((with_reducible refine gate_builtin (b := .append) (xs := #[.tmp 68, .tmp 70]) rfl ?_); at_builtin; refine Kd.R_append kI (w0 := w) w.heap.size rfl (.tmp 68) (.tmp 70) 32 3 (.int .i64 0) 8 rfl Try.underlying32 info3 rfl (by decide) (by decide) (.slice Av m cv) (ks.take m) (i : Int) [.int .i64 (i : Int)] (fun _ => True) (fun _ => False) rfl rfl ?aP (fun _ h => h.elim) (fun _ _ => trivial) HO.out.1 HO.out.2 (below_size HO.out.2) ?aL ?_; (case aP => exact rfl); (case aL => have := HKL.out; omega); intro v5 w5 hR5 hB5 _ _; obtain ⟨A5, c5, rfl⟩ := Kd.R_slice hR5; obtain ⟨p0, p1, p2, _, pr⟩ := HC.out w5 hB5; have pri := pr i hil; have HP := Aside0.mk (And.intro hR5 hB5); clear hR5 hB5 pr))
      go_roundg (ks.length - (m + 1))
      case measure => omega
      case rel => exact ⟨m + 1, by omega, by omega, by rw [lastR_succ, rd_at hml, hi], ⟨by have h_ := HP.out.1; rw [HLN.out] at h_; rw [← HTK.out]; exact h_, HP.out.2⟩⟩
     ·have d1 : decide ((j : Int) < (X.length : Int)) = true := decide_eq_true (by omega)
      have d2 : decide (0 ≤ n) = false := decide_eq_false (by omega)
      have z1 : (j : Int) < (X.length : Int) := by omega
      go_wp2_with (first | ((with_reducible refine gate_builtin (b := .append) (xs := #[.tmp 68, .tmp 70]) rfl ?_); at_builtin; refine Kd.R_append kI (w0 := w) w.heap.size rfl (.tmp 68) (.tmp 70) 32 3 (.int .i64 0) 8 rfl Try.underlying32 info3 rfl (by decide) (by decide) (.slice Av m cv) (ks.take m) (i : Int) [.int .i64 (i : Int)] (fun _ => True) (fun _ => False) rfl rfl ?aP (fun _ h => h.elim) (fun _ _ => trivial) HO.out.1 HO.out.2 (below_size HO.out.2) ?aL ?_; (case aP => exact rfl); (case aL => have := HKL.out; omega); intro v5 w5 hR5 hB5 _ _; obtain ⟨A5, c5, rfl⟩ := Kd.R_slice hR5; obtain ⟨p0, p1, p2, _, pr⟩ := HC.out w5 hB5; have pri := pr i hil; have HP := Aside0.mk (And.intro hR5 hB5); clear hR5 hB5 pr))
      go_roundg (ks.length - (m + 1))
      case measure => omega
      case rel => exact ⟨m + 1, by omega, by omega, by rw [lastR_succ, rd_at hml, hi], ⟨by have h_ := HP.out.1; rw [HLN.out] at h_; rw [← HTK.out]; exact h_, HP.out.2⟩⟩
end
end Go.Proofs.Ytpkaliaaffgbdaa.QA
