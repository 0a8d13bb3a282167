/- Which texts may be names: what the program answers, of every text. The document of package arena in memory: its words, and the functions that only read it. The document of package arena: New, row, Row, add, Make. -/
import Derived.Test.YtpkaliaaffgbdaaQAx4
namespace Go.Proofs.Ytpkaliaaffgbdaa.QA
open Go.RowKit Go.Proofs.YtpkaliaaffgbdaaW.PrintWords Go.Proofs.YtpkaliaaffgbdaaW.PrintLast Go.Proofs.YtpkaliaaffgbdaaW.PrintMore
attribute [local go_sem] max2_int min2_int max_two min_two max_three min_three max_four min_four   -- for this text's walks alone
set_option linter.unusedVariables false
set_option linter.unusedSimpArgs false

open Go
theorem wrap1 {i : Nat} (h : i < 4611686018427387904) : wrap64 ((i : Int) + 1) = ((i + 1 : Nat) : Int) := by
 unfold wrap64
 omega
theorem rdOf_at (l : List ByteArray) (i : Nat) (h : i < l.length) : rdOf ByteArray.empty l (i : Int) = l[i] := by
 simp [rdOf, List.getElem?_eq_getElem h]
def isIn (a : ByteArray) (l : List ByteArray) : Bool := l.any fun b => b.toList == a.toList
/-- What a byte of a name must be: no space, no great letter, no 0, none of some. -/
def okB (but : List UInt8) (c : UInt8) : Bool :=
 !(c == 32 || c == 9 || c == 10 || c == 12 || c == 13 || (decide (65 ≤ c.toNat) && decide (c.toNat ≤ 90)) || c == 0) && but.all fun b => !(c == b)
theorem bt_get (s : ByteArray) (i : Nat) (h : i < s.data.toList.length) : bt s (i : Int) = ((s.data.toList[i]).toNat : Int) := by
 have h' : i < s.size := by simpa using h
 rw [← bt_at s (i : Int) h']
 rfl
theorem size_len (s : ByteArray) : s.size = s.data.toList.length := by simp
theorem u8_eq (a b : UInt8) : ((a.toNat : Int) = (b.toNat : Int)) ↔ a = b := by
 rw [Int.ofNat_inj, UInt8.toNat_inj]
theorem u8_zero (c : UInt8) : ((c.toNat : Int) = 0) ↔ c = 0 := u8_eq c 0
theorem space_all : ∀ n : Nat, n < 256 → fold_Space.f (n : Int) = some (UInt8.ofNat n == 32 || UInt8.ofNat n == 9 || UInt8.ofNat n == 10 || UInt8.ofNat n == 12 || UInt8.ofNat n == 13) := by decide +kernel
theorem space_is (c : UInt8) : fold_Space.f (c.toNat : Int) = some (c == 32 || c == 9 || c == 10 || c == 12 || c == 13) := by
 have h := space_all c.toNat c.toNat_lt
 rw [UInt8.ofNat_toNat] at h
 exact h
theorem plain_l1 (s b : ByteArray) (hb : b.size < 100) (i : Nat) (hi : i < s.data.toList.length) (n : Int) (d : Nat) : ∀ (k j : Nat), j + d = b.data.toList.length → d < k →
  names_plain.l1 k s b (i : Int) n (i : Int) (b.size : Int) (j : Int) =
   if (b.data.toList.drop j).all (fun c => !(s.data.toList[i] == c)) then names_plain.l0 (k - d - 1) s b n (wrap64 ((i : Int) + 1)) else some false := by
 have hs := size_len s
 have hbs := size_len b
 induction d with
 | zero =>
  intro k j hj hk
  obtain ⟨k, rfl⟩ : ∃ m, k = m + 1 := ⟨k - 1, by omega⟩
  simp only [names_plain.l1]
  rw [if_neg (by omega), List.drop_of_length_le (by omega)]
  rfl
 | succ d ih =>
  intro k j hj hk
  obtain ⟨k, rfl⟩ : ∃ m, k = m + 1 := ⟨k - 1, by omega⟩
  simp only [names_plain.l1]
  rw [if_pos (by omega), if_pos (by omega), if_pos (by omega), if_pos (by omega), if_pos (by omega), wrap1 (by omega), ih k (j + 1) (by omega) (by omega), bt_get s i hi, bt_get b j (by omega), List.drop_eq_getElem_cons (show j < b.data.toList.length by omega), List.all_cons]
  rw [show k + 1 - (d + 1) - 1 = k - d - 1 by omega]
  by_cases h : s.data.toList[i] = b.data.toList[j]'(by omega)
  ·rw [if_pos (by rw [h]), beq_iff_eq.2 h]
   simp
  ·rw [if_neg (fun h' => h ((u8_eq _ _).1 h')), beq_eq_false_iff_ne.2 h]
   simp
theorem plain_l0 (s b : ByteArray) (hn : s.size ≤ 140737488351232) (hb : b.size ≤ 6) (d : Nat) : ∀ (k i : Nat), i + d = s.data.toList.length → d * 9 < k →
  names_plain.l0 k s b (s.size : Int) (i : Int) = some ((s.data.toList.drop i).all (okB b.data.toList) && s.toList != []) := by
 have hs := size_len s
 have hbs := size_len b
 induction d with
 | zero =>
  intro k i hi hk
  obtain ⟨k, rfl⟩ : ∃ m, k = m + 1 := ⟨k - 1, by omega⟩
  simp only [names_plain.l0]
  rw [if_neg (by omega), List.drop_of_length_le (by omega)]
  rfl
 | succ d ih =>
  intro k i hi hk
  obtain ⟨k, rfl⟩ : ∃ m, k = m + 1 := ⟨k - 1, by omega⟩
  have hi' : i < s.data.toList.length := by omega
  simp only [names_plain.l0]
  rw [if_pos (by omega), if_pos (by omega), if_pos (by omega), bt_get s i hi', space_is, List.drop_eq_getElem_cons hi', List.all_cons]
  simp only [Option.bind_some]
  obtain ⟨c, hc⟩ : ∃ c, s.data.toList[i] = c := ⟨_, rfl⟩
  obtain ⟨k, rfl⟩ : ∃ m, k = m + 1 := ⟨k - 1, by omega⟩
  have hl1 := plain_l1 s b (by omega) i hi' (s.size : Int) b.data.toList.length k 0 (by omega) (by omega)
  rw [wrap1 (by omega), ih _ (i + 1) (by omega) (by omega), List.drop_zero] at hl1
  have e0 := u8_zero c
  have hok : okB b.data.toList c = (!((c == 32 || c == 9 || c == 10 || c == 12 || c == 13) || (decide (65 ≤ c.toNat) && decide (c.toNat ≤ 90)) || c == 0) && b.data.toList.all fun b => !(c == b)) := by
   simp only [okB, Bool.or_assoc]
  rw [hc] at hl1 ⊢
  rw [hok]
  simp only [names_plain.j1]
  by_cases h1 : (c == 32 || c == 9 || c == 10 || c == 12 || c == 13) = true
  ·rw [if_pos h1, h1]
   simp
  ·rw [if_neg h1, Bool.eq_false_iff.2 h1]
   by_cases h2 : (c.toNat : Int) ≥ 65
   ·rw [if_pos h2]
    by_cases h3 : (c.toNat : Int) ≤ 90
    ·rw [if_pos h3]
     have : (decide (65 ≤ c.toNat) && decide (c.toNat ≤ 90)) = true := by simp; omega
     rw [this]
     simp
    ·rw [if_neg h3]
     have : (decide (65 ≤ c.toNat) && decide (c.toNat ≤ 90)) = false := by simp; omega
     rw [this]
     have h0 : ((c.toNat : Int) == 0) = false := by rw [beq_eq_false_iff_ne]; omega
     have h0' : (c == 0) = false := by rw [beq_eq_false_iff_ne]; intro e; subst e; simp at h2
     rw [h0, h0', if_neg (by decide)]
     rw [show ((0 : Int)) = ((0 : Nat) : Int) from rfl, hl1]
     cases h4 : b.data.toList.all (fun b => !(c == b)) <;> simp
   ·rw [if_neg h2]
    have : (decide (65 ≤ c.toNat) && decide (c.toNat ≤ 90)) = false := by simp; omega
    rw [this]
    by_cases h5 : c = 0
    ·have : ((c.toNat : Int) == 0) = true := by rw [beq_iff_eq]; exact e0.2 h5
     rw [this, h5]
     simp
    ·have h0 : ((c.toNat : Int) == 0) = false := by rw [beq_eq_false_iff_ne]; exact fun h => h5 (e0.1 h)
     rw [h0, beq_eq_false_iff_ne.2 h5, if_neg (by decide)]
     rw [show ((0 : Int)) = ((0 : Nat) : Int) from rfl, hl1]
     cases h4 : b.data.toList.all (fun b => !(c == b)) <;> simp
/-- A text that may be a name: its bytes are, and it has some. -/
def okS (but : List UInt8) (l : List UInt8) : Bool := l.all (okB but) && l != []
theorem plain_is (s b : ByteArray) (hn : s.size ≤ 140737488351232) (hb : b.size ≤ 6) (k : Nat) (hk : s.size * 9 < k) : names_plain.f k s b = some (okS b.data.toList s.data.toList) := by
 unfold names_plain.f
 have hs := size_len s
 rw [show ((0 : Int)) = ((0 : Nat) : Int) from rfl, plain_l0 s b hn hb s.data.toList.length k 0 (by omega) (by omega), List.drop_zero, ByteArray.toList_eq]
 rfl
def okAttr (l : List UInt8) : Bool := okS [47, 62, 34, 39, 60, 61] l
def okRight (l : List UInt8) : Bool := okS [47, 62] l && (decide (97 ≤ (l.headD 0).toNat) && decide ((l.headD 0).toNat ≤ 122))
theorem attr_is (s : ByteArray) (hn : s.size ≤ 140737488351232) (k : Nat) (hk : s.size * 9 < k) : names_Attr.f k s = some (okAttr s.data.toList) := by
 unfold names_Attr.f
 rw [plain_is s _ hn (by decide) k hk]
 rfl
theorem letter_is (c : UInt8) (h : okB [47, 62] c = true) : fold_Letter.f (c.toNat : Int) = some (decide (97 ≤ c.toNat) && decide (c.toNat ≤ 122)) := by
 unfold fold_Letter.f
 have hg : ¬ (65 ≤ c.toNat ∧ c.toNat ≤ 90) := by
  intro hg
  have : (decide (65 ≤ c.toNat) && decide (c.toNat ≤ 90)) = true := by simp; omega
  simp [okB, this] at h
 by_cases h1 : (c.toNat : Int) ≥ 97
 ·rw [if_pos h1]
  by_cases h2 : (c.toNat : Int) ≤ 122
  ·rw [if_pos h2]
   have : (decide (97 ≤ c.toNat) && decide (c.toNat ≤ 122)) = true := by simp; omega
   rw [this]
  ·rw [if_neg h2, if_pos (by omega)]
   have : (decide (97 ≤ c.toNat) && decide (c.toNat ≤ 122)) = false := by simp; omega
   rw [this, decide_eq_false (by omega)]
 ·rw [if_neg h1]
  have : (decide (97 ≤ c.toNat) && decide (c.toNat ≤ 122)) = false := by simp; omega
  rw [this]
  by_cases h2 : (c.toNat : Int) ≥ 65
  ·rw [if_pos h2, decide_eq_false (by omega)]
  ·rw [if_neg h2]
theorem right_is (s : ByteArray) (hn : s.size ≤ 140737488351232) (k : Nat) (hk : s.size * 9 < k) : names_Right.f k s = some (okRight s.data.toList) := by
 unfold names_Right.f
 have hs := size_len s
 rw [plain_is s _ hn (by decide) k hk]
 simp only [Option.bind_some]
 show (if okS [47, 62] s.data.toList = true then _ else _) = _
 unfold okRight
 cases h : okS [47, 62] s.data.toList with
 | false => simp
 | true =>
  rw [if_pos rfl]
  simp only [okS, Bool.and_eq_true] at h
  cases hl : s.data.toList with
  | nil => rw [hl] at h; simp at h
  | cons c l =>
   rw [hl] at h
   have hlen : 0 < s.data.toList.length := by rw [hl]; simp
   rw [if_pos (by omega), show ((0 : Int)) = ((0 : Nat) : Int) from rfl, bt_get s 0 hlen]
   have hc : s.data.toList[0] = c := by simp [hl]
   rw [hc, letter_is c (by have := h.1; simp at this; exact this.1)]
   rfl

end Go.Proofs.Ytpkaliaaffgbdaa.QA
namespace Go.Proofs.Ytpkaliaaffgbdaa.QA
open Go.RowKit Go.Proofs.YtpkaliaaffgbdaaW.PrintWords Go.Proofs.YtpkaliaaffgbdaaW.PrintLast Go.Proofs.YtpkaliaaffgbdaaW.PrintMore
attribute [local go_sem] max2_int min2_int max_two min_two max_three min_three max_four min_four   -- for this text's walks alone
set_option linter.unusedVariables false
set_option linter.unusedSimpArgs false

open Go
/-- Nothing else than blocks of S, and what is made, differs. -/
structure Mod (W W' : World) (S : Nat → Prop) : Prop where
 os : W'.os = W.os
 tape : W'.tape = W.tape
 output : W'.output = W.output
 size : W.heap.size ≤ W'.heap.size
 block : ∀ k, k < W.heap.size → ¬ S k → W'.heap[k]? = W.heap[k]?
section
variable {W W1 W2 w0 : World} {S S2 ok ok' ok2 : Nat → Prop} {g B : Nat} {xs ys : List S79}
theorem Mod.refl (W : World) (S : Nat → Prop) : Mod W W S := ⟨rfl, rfl, rfl, Nat.le_refl _, fun _ _ _ => rfl⟩
theorem Mod.trans (h : Mod W W1 S) (h2 : Mod W1 W2 S2) (hs : ∀ k, S2 k → S k ∨ W.heap.size ≤ k) : Mod W W2 S :=
 ⟨h2.os.trans h.os, h2.tape.trans h.tape, h2.output.trans h.output, Nat.le_trans h.size h2.size, fun k hk hn => (h2.block k (Nat.lt_of_lt_of_le hk h.size) fun h3 => (hs k h3).elim hn fun h4 => absurd hk (Nat.not_lt.2 h4)).trans (h.block k hk hn)⟩
theorem Mod.of_below (h : Below W.heap.size W W1) : Mod W W1 S := ⟨h.os, h.tape, h.output, h.size, fun k hk _ => h.block k hk⟩
theorem Mod.drewN (W : World) (S : Nat → Prop) (n : Nat) : Mod W (W.drewN n) S := Mod.of_below (pw_below_drewN (Below.refl _ _) n)
theorem Mod.mono (h : Mod W W1 S) (hs : ∀ k, S k → S2 k) : Mod W W1 S2 := ⟨h.os, h.tape, h.output, h.size, fun k hk hn => h.block k hk fun h2 => hn (hs k h2)⟩
theorem Mod.below (hm : Mod W W1 S) (h : Below B w0 W) (hBW : B ≤ W.heap.size) (hS : ∀ k, S k → B ≤ k) : Below B w0 W1 :=
 ⟨hm.os.trans h.os, hm.tape.trans h.tape, hm.output.trans h.output, Nat.le_trans h.size hm.size, fun k hk => (hm.block k (Nat.lt_of_lt_of_le hk hBW) fun h2 => absurd hk (Nat.not_lt.2 (hS k h2))).trans (h.block k hk)⟩
theorem Mod.kept (h : Mod W W1 S) : Kept W W1 S := ⟨h.size, h.block⟩
theorem Mod.set (h : Mod W W1 S) (p : Addr) (u : Value) (hp : S p.block ∨ W.heap.size ≤ p.block) : Mod W (W1.setCell p u) S :=
 ⟨h.os, h.tape, h.output, by simpa [World.setCell] using h.size, fun k hk hn => (Below.heap_setCell W1 p u k fun e => hp.elim (fun h2 => hn (e ▸ h2)) fun h2 => by omega).trans (h.block k hk hn)⟩
theorem Mod.step (h : Mod W W1 S) (hb : Below W1.heap.size W1 W2) : Mod W W2 S := h.trans (S2 := fun _ => False) (Mod.of_below hb) (fun _ h => h.elim)
theorem Mod.grown (h : Mod W W1 S) {row : Option Nat} (hb : Below B W1 W2) (hg : W1.grownBy W2 row) (hr : ∀ k, row = some k → S k ∨ W.heap.size ≤ k) : Mod W W2 S :=
 ⟨hb.os.trans h.os, hb.tape.trans h.tape, hb.output.trans h.output, Nat.le_trans h.size hg.size, fun k hk hn => (hg.block k (Nat.lt_of_lt_of_le hk h.size) fun e => (hr k e.symm).elim hn fun h2 => by omega).trans (h.block k hk hn)⟩
/-- A document at block g: its nodes, all that they lead to lies in blocks of ok. -/
def IsDoc (W : World) (ok : Nat → Prop) (g : Nat) (xs : List S79) : Prop :=
 ∃ v, W.heap[g]? = some (.cells #[v] 82 (0, 0)) ∧ ok g ∧ Kd.S k79 79 W 0 (fun k => ok k ∧ k ≠ g) v xs
theorem IsDoc.lt (h : IsDoc W ok g xs) : g < W.heap.size := by
 obtain ⟨v, hb, _, _⟩ := h
 exact blk_lt hb
theorem IsDoc.own (h : IsDoc W ok g xs) : ok g := h.choose_spec.2.1
theorem IsDoc.mono (h : IsDoc W ok g xs) (ho : ∀ k, ok k → ok' k) : IsDoc W ok' g xs := by
 obtain ⟨v, hb, hg, hS⟩ := h
 exact ⟨v, hb, ho g hg, Kd.S_mono hS fun k hk => ⟨ho k hk.1, hk.2⟩⟩
theorem IsDoc.bound (h : IsDoc W ok g xs) : IsDoc W (fun k => ok k ∧ k < W.heap.size) g xs := by
 obtain ⟨v, hb, hg, hS⟩ := h
 exact ⟨v, hb, ⟨hg, blk_lt hb⟩, Kd.S_mono (Kd.S_bound hS) fun k hk => ⟨⟨hk.1.1, hk.2.2.1⟩, hk.1.2⟩⟩
theorem IsDoc.move (h : IsDoc W ok g xs) (hm : ∀ k, ok k → k < W.heap.size → W1.heap[k]? = W.heap[k]?) : IsDoc W1 ok g xs := by
 obtain ⟨v, hb, hg, hS⟩ := h
 exact ⟨v, (hm g hg (blk_lt hb)).trans hb, hg, Kd.S_step hS fun k hk hl => hm k hk.1 hl⟩
theorem IsDoc.mod (h : IsDoc W ok g xs) (hm : Mod W W1 S) (hd : ∀ k, ok k → ¬ S k) : IsDoc W1 ok g xs := h.move fun k hk hl => hm.block k hl (hd k hk)
theorem IsDoc.below (h : IsDoc W ok g xs) (hb : Below W.heap.size W W1) : IsDoc W1 ok g xs := h.move fun k _ hl => hb.block k hl
theorem IsDoc.drewN (h : IsDoc W ok g xs) (n : Nat) : IsDoc (W.drewN n) ok g xs := h.below (pw_below_drewN (Below.refl _ _) n)
theorem IsDoc.reads (h : IsDoc W ok g xs) : ∃ A c, W.heap[g]? = some (.cells #[.slice A xs.length c] 82 (0, 0)) ∧ xs.length ≤ c ∧ Kd.C k79 W A xs.length xs := by
 obtain ⟨v, hb, hg, hS⟩ := h
 obtain ⟨A, c, rfl, hl, hC⟩ := Kd.R_reads (Kd.S_R hS)
 exact ⟨A, c, hb, hl, hC⟩
theorem doc_cell {v : Value} {t : TypeId} (h : W.heap[g]? = some (.cells #[v] t (0, 0))) : W.cell? ⟨g, 0, none⟩ = some v := (blk_cell h 0).trans rfl
/-- Node i: where it lies, what it holds. -/
theorem IsDoc.node (h : IsDoc W ok g xs) (i : Nat) (hi : i < xs.length) : ∃ G c A4 c4 A6 c6, W.heap[g]? = some (.cells #[.slice (some ⟨G, 0, none⟩) xs.length c] 82 (0, 0)) ∧ xs.length ≤ c ∧
  (W.cell? ⟨G, i * 7, none⟩ = some (.int .i64 xs[i].f0.f0) ∧ W.cell? ⟨G, i * 7 + 1, none⟩ = some (.int .i64 xs[i].f0.f1) ∧ W.cell? ⟨G, i * 7 + 2, none⟩ = some (.string xs[i].f0.f2) ∧ W.cell? ⟨G, i * 7 + 3, none⟩ = some (.string xs[i].f0.f3) ∧
  W.cell? ⟨G, i * 7 + 4, none⟩ = some (.slice A4 xs[i].f0.f4.length c4) ∧ W.cell? ⟨G, i * 7 + 5, none⟩ = some (.int .i64 xs[i].f1) ∧ W.cell? ⟨G, i * 7 + 6, none⟩ = some (.slice A6 xs[i].f2.length c6)) ∧
  (xs[i].f0.f4.length ≤ c4 ∧ k52.C W A4 xs[i].f0.f4.length xs[i].f0.f4) ∧ (xs[i].f2.length ≤ c6 ∧ (Kd.int .i64).C W A6 xs[i].f2.length xs[i].f2) ∧ (∀ j, W.frozen? ⟨G, i * 7 + j, none⟩ = false) ∧ ok G ∧ G ≠ g := by
 obtain ⟨v, hb, hg, hS⟩ := h
 have hR := Kd.S_R hS
 obtain ⟨G, c, rfl, _, _, _, _⟩ := Kd.R_form hR (by omega)
 obtain ⟨hn, hnc, hC⟩ := Kd.R_reads' hR
 obtain ⟨cs, _, _, _, hf⟩ := Kd.R_elem hR z79 (i : Int) (by omega) (by omega)
 obtain ⟨ad, A4, c4, A6, c6, e, h0, h1, h2, h3, h4, h5, h6, l4, g4, l6, g6⟩ := at_T79 hC (i : Int) (by omega) (by omega)
 cases e
 have e : rd_T79 xs (i : Int) = xs[i] := by simp [rd_T79, List.getElem?_eq_getElem hi]
 rw [e] at h0 h1 h2 h3 h4 h5 h6 l4 g4 l6 g6
 simp only [add_plain, Int.toNat_natCast] at h0 h1 h2 h3 h4 h5 h6 hf
 exact ⟨G, c, A4, c4, A6, c6, hb, hnc, ⟨h0, h1, h2, h3, h4, h5, h6⟩, ⟨l4, g4⟩, ⟨l6, g6⟩, hf, (hR.1 G rfl).1, (hR.1 G rfl).2⟩
/-- The document, changed: its blocks are those that it had, and new ones. -/
def To (W W1 : World) (ok : Nat → Prop) (g : Nat) (ys : List S79) : Prop :=
 ∃ ok', IsDoc W1 ok' g ys ∧ (∀ k, ok' k → ok k ∨ W.heap.size ≤ k) ∧ (∀ k, ok' k → k < W1.heap.size) ∧ Mod W W1 ok
theorem To.mk (h : IsDoc W1 ok' g ys) (hg : ∀ k, ok' k → ok k ∨ W.heap.size ≤ k) (hm : Mod W W1 ok) : To W W1 ok g ys :=
 ⟨_, h.bound, fun k hk => hg k hk.1, fun k hk => hk.2, hm⟩
theorem To.quiet (h : IsDoc W ok g xs) (hb : Below W.heap.size W W1) : To W W1 ok g xs := To.mk (h.below hb) (fun _ hk => .inl hk) (Mod.of_below hb)
/-- Behind what only makes. -/
theorem To.after (hb : Below W.heap.size W W1) (h : To W1 W2 ok g ys) : To W W2 ok g ys := by
 obtain ⟨ok1, hI, hg, hl, hm⟩ := h
 exact ⟨ok1, hI, fun k hk => (hg k hk).imp id (fun h => Nat.le_trans hb.size h), hl, (Mod.of_below hb).trans hm fun k hk => .inl hk⟩
theorem To.then_ (h : To W W1 ok g ys) (hb : Below W1.heap.size W1 W2) : To W W2 ok g ys := by
 obtain ⟨ok1, hI, hg, hl, hm⟩ := h
 exact ⟨ok1, hI.below hb, hg, fun k hk => Nat.lt_of_lt_of_le (hl k hk) hb.size, hm.step hb⟩
theorem To.trans (h : To W W1 ok g xs) (h2 : ∀ ok', IsDoc W1 ok' g xs → (∀ k, ok' k → ok k ∨ W.heap.size ≤ k) → To W1 W2 ok' g ys) : To W W2 ok g ys := by
 obtain ⟨ok1, hI, hg, hl, hm⟩ := h
 obtain ⟨ok2, hI2, hg2, hl2, hm2⟩ := h2 ok1 hI hg
 exact ⟨ok2, hI2, fun k hk => (hg2 k hk).elim (hg k) (fun h => .inr (Nat.le_trans hm.size h)), hl2, hm.trans hm2 hg⟩
end
/-! #### the readers -/
section
variable {W w : World} {ok : Nat → Prop} {g : Nat} {xs : List S79}
set_option maxHeartbeats 1000000 in
set_option maxRecDepth 100000 in
theorem Doc_is (h : IsDoc w ok g xs) (n : Int) : Calls Try.prog 36 #[.pointer (some ⟨g, 0, none⟩), .int .i64 n] w fun e w' => e = .returned (.bool (decide (0 ≤ n ∧ n < (xs.length : Int)))) ∧ Drawn0 w w' := by
 obtain ⟨A, c, hb, hl, hC⟩ := h.reads
 have hc := doc_cell hb
 clear hb hl hC h
 by_cases c0 : 0 ≤ n
 ·have c1 : decide (0 ≤ n) = true := decide_eq_true c0
  go_enter Try.func36, Try.ntmps36
  go_wp2
  go_ret
  exact ⟨by simp [c0], ⟨0, rfl⟩⟩
 ·have c1 : decide (0 ≤ n) = false := decide_eq_false c0
  go_enter Try.func36, Try.ntmps36
  go_wp2
  go_ret
  exact ⟨by simp [c0], ⟨0, rfl⟩⟩
set_option maxHeartbeats 1000000 in
set_option maxRecDepth 100000 in
theorem Doc_some (h : IsDoc w ok g xs) (n : Int) : Calls Try.prog 39 #[.pointer (some ⟨g, 0, none⟩), .int .i64 n] w fun e w' => e = .returned (.bool (decide (0 < n ∧ n < (xs.length : Int)))) ∧ Drawn0 w w' := by
 obtain ⟨A, c, hb, hl, hC⟩ := h.reads
 have hc := doc_cell hb
 clear hb hl hC h
 by_cases c0 : 0 < n
 ·have c1 : decide (0 < n) = true := decide_eq_true c0
  go_enter Try.func39, Try.ntmps39
  go_wp2
  go_ret
  exact ⟨by simp [c0], ⟨0, rfl⟩⟩
 ·have c1 : decide (0 < n) = false := decide_eq_false c0
  go_enter Try.func39, Try.ntmps39
  go_wp2
  go_ret
  exact ⟨by simp [c0], ⟨0, rfl⟩⟩
set_option maxHeartbeats 1000000 in
set_option maxRecDepth 100000 in
theorem Doc_Len (h : IsDoc w ok g xs) : Calls Try.prog 30 #[.pointer (some ⟨g, 0, none⟩)] w fun e w' => e = .returned (.int .i64 (xs.length : Nat)) ∧ Drawn0 w w' := by
 obtain ⟨A, c, hb, hl, hC⟩ := h.reads
 have hc := doc_cell hb
 clear hb hl hC h
 go_enter Try.func30, Try.ntmps30
 go_wp2
 go_ret
 exact ⟨rfl, ⟨0, rfl⟩⟩
/-- The node that a number means. -/
abbrev nd (xs : List S79) (n : Int) : S79 := rd_T79 xs n
theorem nd_at (i : Nat) (hi : i < xs.length) : rd_T79 xs (i : Int) = xs[i] := by simp [rd_T79, List.getElem?_eq_getElem hi]
set_option maxHeartbeats 1000000 in
set_option maxRecDepth 100000 in
theorem Doc_Parent (h : IsDoc w ok g xs) (n : Int) : Calls Try.prog 15 #[.pointer (some ⟨g, 0, none⟩), .int .i64 n] w fun e w' => e = .returned (.int .i64 (if 0 ≤ n ∧ n < (xs.length : Int) then (rd_T79 xs n).f1 else -1)) ∧ Drawn0 w w' := by
 have hI := Doc_is h n
 by_cases c0 : 0 ≤ n ∧ n < (xs.length : Int)
 ·rw [decide_eq_true c0] at hI
  obtain ⟨i, rfl⟩ := Int.eq_ofNat_of_zero_le c0.1
  have hi : i < xs.length := by omega
  obtain ⟨G, c, A4, c4, A6, c6, hb, hl, ⟨h0, h1, h2, h3, h4, h5, h6⟩, _, _, _, _⟩ := h.node i hi
  have hc := doc_cell hb
  have hz : (i : Int) < (xs.length : Int) := by omega
  rw [if_pos c0, nd_at i hi]
  clear hb hl h c0 h0 h1 h2 h3 h4 h6
  go_enter Try.func15, Try.ntmps15
  go_wp2_with (go_at_call 36; refine hI.mono ?_; rintro e w' ⟨rfl, ⟨m, rfl⟩⟩)
  go_ret
  exact ⟨rfl, ⟨_, rfl⟩⟩
 ·rw [decide_eq_false c0] at hI
  rw [if_neg c0]
  go_enter Try.func15, Try.ntmps15
  go_wp2_with (go_at_call 36; refine hI.mono ?_; rintro e w' ⟨rfl, ⟨m, rfl⟩⟩)
  go_ret
  exact ⟨rfl, ⟨_, rfl⟩⟩
set_option maxHeartbeats 1000000 in
set_option maxRecDepth 100000 in
theorem Doc_element (h : IsDoc w ok g xs) (n : Int) : Calls Try.prog 47 #[.pointer (some ⟨g, 0, none⟩), .int .i64 n] w fun e w' => e = .returned (.bool (decide (0 < n ∧ n < (xs.length : Int) ∧ (rd_T79 xs n).f0.f1 = 0))) ∧ Drawn0 w w' := by
 have hI := Doc_some h n
 by_cases c0 : 0 < n ∧ n < (xs.length : Int)
 ·rw [decide_eq_true c0] at hI
  obtain ⟨i, rfl⟩ := Int.eq_ofNat_of_zero_le (show 0 ≤ n by omega)
  have hi : i < xs.length := by omega
  obtain ⟨G, c, A4, c4, A6, c6, hb, hl, ⟨h0, h1, h2, h3, h4, h5, h6⟩, _, _, _, _⟩ := h.node i hi
  have hc := doc_cell hb
  have hz : (i : Int) < (xs.length : Int) := by omega
  have e : decide (0 < (i : Int) ∧ (i : Int) < (xs.length : Int) ∧ (rd_T79 xs (i : Int)).f0.f1 = 0) = decide (xs[i].f0.f1 = 0) := by rw [nd_at i hi]; exact decide_eq_decide.2 ⟨fun h => h.2.2, fun h => ⟨c0.1, c0.2, h⟩⟩
  rw [e]
  clear hb hl h c0 h0 h2 h3 h4 h5 h6 e
  go_enter Try.func47, Try.ntmps47
  go_wp2_with (go_at_call 39; refine hI.mono ?_; rintro e w' ⟨rfl, ⟨m, rfl⟩⟩)
  go_ret
  exact ⟨by rfl, ⟨_, rfl⟩⟩
 ·rw [decide_eq_false c0] at hI
  have e : decide (0 < n ∧ n < (xs.length : Int) ∧ (rd_T79 xs n).f0.f1 = 0) = false := decide_eq_false fun h => c0 ⟨h.1, h.2.1⟩
  rw [e]
  go_enter Try.func47, Try.ntmps47
  go_wp2_with (go_at_call 39; refine hI.mono ?_; rintro e w' ⟨rfl, ⟨m, rfl⟩⟩)
  go_ret
  exact ⟨rfl, ⟨_, rfl⟩⟩
/-- Whether node n stands in o's tree, k steps at most. -/
def withinL (xs : List S79) : Nat → Int → Int → Option Bool
 | 0, _, _ => none
 | k + 1, n, o => if n = o then some true else if n = -1 then some false else if 0 ≤ n ∧ n < (xs.length : Int) then withinL xs k (rd_T79 xs n).f1 o else none
def withinF (xs : List S79) (k : Nat) (n o : Int) : Option Bool := if (0 ≤ n ∧ n < (xs.length : Int)) ∧ (0 ≤ o ∧ o < (xs.length : Int)) then withinL xs k n o else some false
set_option maxHeartbeats 2000000 in
set_option maxRecDepth 100000 in
theorem Doc_Within (h : IsDoc w ok g xs) (k : Nat) (n o : Int) (r : Bool) (hr : withinF xs k n o = some r) : Calls Try.prog 28 #[.pointer (some ⟨g, 0, none⟩), .int .i64 n, .int .i64 o] w fun e w' => e = .returned (.bool r) ∧ Drawn0 w w' := by
 have hI := Doc_is h n
 unfold withinF at hr
 by_cases c0 : 0 ≤ n ∧ n < (xs.length : Int)
 ·rw [decide_eq_true c0] at hI
  have hJ := fun m => Doc_is (h.drewN m) o
  by_cases c1 : 0 ≤ o ∧ o < (xs.length : Int)
  ·rw [decide_eq_true c1] at hJ
   rw [if_pos ⟨c0, c1⟩] at hr
   have H' := Aside0.mk hr
   have HI := Aside0.mk h
   clear hr h c0 c1
   go_enter Try.func28, Try.ntmps28
   go_wp2_with (first | (go_at_call 36; refine hI.mono ?_; rintro e w' ⟨rfl, ⟨m, rfl⟩⟩; clear hI; have hI := hJ m))
   go_loopg [1] k (fun kq v1 w' => ∃ (x1 : Int), v1 = .int .i64 x1 ∧ Aside0 (withinL xs kq x1 o = some r) ∧ Drawn0 w w')
   case atStart => exact ⟨n, rfl, H', by repeat (first | exact Drawn0.refl _ | apply Drawn0.step)⟩
   case round =>
    clear H' hI hJ
    obtain ⟨x1, rfl, HA, ⟨m1, rfl⟩⟩ := hrel
    cases gk with
    | zero => exact absurd HA.out (by simp [withinL])
    | succ k1 =>
     have H := HA.out
     clear HA
     simp only [withinL] at H
     by_cases c4 : x1 = o
     ·rw [if_pos c4] at H
      obtain rfl := Option.some.inj H
      subst c4
      go_wp2
      repeat (go_quiet (fail); try go_wp2)
      go_ret
      exact ⟨by simp, by repeat (first | exact Drawn0.refl _ | apply Drawn0.step)⟩
     ·rw [if_neg c4] at H
      have c4b0 : (x1 == o) = false := beq_eq_false_iff_ne.2 c4
      have c4b1 : (x1 != o) = true := bne_iff_ne.2 c4
      by_cases c5 : x1 = -1
      ·rw [if_pos c5] at H
       obtain rfl := Option.some.inj H
       subst c5
       go_wp2
       repeat (go_quiet (fail); try go_wp2)
       go_ret
       exact ⟨by simp [c4], by repeat (first | exact Drawn0.refl _ | apply Drawn0.step)⟩
      ·rw [if_neg c5] at H
       have c5b0 : (x1 == -1) = false := beq_eq_false_iff_ne.2 c5
       have c5b1 : (x1 != -1) = true := bne_iff_ne.2 c5
       by_cases c6 : 0 ≤ x1 ∧ x1 < (xs.length : Int)
       ·rw [if_pos c6] at H
        obtain ⟨i, rfl⟩ := Int.eq_ofNat_of_zero_le c6.1
        have hi : i < xs.length := by omega
        obtain ⟨G, c, A4, c4', A6, c6', hb, hl, ⟨h0, h1, h2, h3, h4, h5, h6⟩, _, _, _, _⟩ := HI.out.node i hi
        have hc := doc_cell hb
        have hz : (i : Int) < (xs.length : Int) := by omega
        rw [nd_at i hi] at H
        have H' := Aside0.mk H
        clear hb hl c6 h0 h1 h2 h3 h4 h6 H c4 c5
        go_wp2
        repeat (go_quiet (fail); try go_wp2)
        go_roundg k1
        case measure => omega
        case rel => exact ⟨_, rfl, H', by repeat (first | exact Drawn0.refl _ | apply Drawn0.step)⟩
       ·rw [if_neg c6] at H
        cases H
  ·rw [decide_eq_false c1] at hJ
   rw [if_neg (fun h => c1 h.2)] at hr
   obtain rfl := Option.some.inj hr
   clear hr c0 c1
   go_enter Try.func28, Try.ntmps28
   go_wp2_with (first | (go_at_call 36; refine hI.mono ?_; rintro e w' ⟨rfl, ⟨m, rfl⟩⟩; clear hI; have hI := hJ m))
   go_ret
   exact ⟨rfl, by repeat (first | exact Drawn0.refl _ | apply Drawn0.step)⟩
 ·rw [decide_eq_false c0] at hI
  rw [if_neg (fun h => c0 h.1)] at hr
  obtain rfl := Option.some.inj hr
  clear hr c0
  go_enter Try.func28, Try.ntmps28
  go_wp2_with (first | (go_at_call 36; refine hI.mono ?_; rintro e w' ⟨rfl, ⟨m, rfl⟩⟩))
  go_ret
  exact ⟨rfl, by repeat (first | exact Drawn0.refl _ | apply Drawn0.step)⟩
end
end Go.Proofs.Ytpkaliaaffgbdaa.QA
namespace Go.Proofs.Ytpkaliaaffgbdaa.QA
open Go.RowKit Go.Proofs.YtpkaliaaffgbdaaW.PrintWords Go.Proofs.YtpkaliaaffgbdaaW.PrintLast Go.Proofs.YtpkaliaaffgbdaaW.PrintMore
attribute [local go_sem] max2_int min2_int max_two min_two max_three min_three max_four min_four   -- for this text's walks alone
set_option linter.unusedVariables false
set_option linter.unusedSimpArgs false
def reg46_2.T : Bool × List (List Nat × List Nat) := (true, [([], []), ([], []), ([1], [1]), ([2], [2]), ([3], [3]), ([], []), ([5], [5]), ([6], [6]), ([4, 7], [4, 7]), ([0, 0, 1, 2, 3, 4, 5, 6, 7, 8], [0]), ([9, 0, 1, 2, 3, 4, 5, 6, 7, 8], [9]), ([10, 8, 8, 0, 1, 2, 3, 4, 5, 6, 7, 8], [8, 10])])
def reg46_2.B : List Nat := [0, 0, 2, 6, 14, 0, 32, 96, 254, 511, 1023, 2047]
theorem reg46_2.tab : rtab .any (opsOf Try.f46 2) = reg46_2.T := by kernel_rfl
theorem reg46_2.bits : waitsOk reg46_2.T.2 reg46_2.B = true := by kernel_rfl

open Go
section
variable {W w : World} {ok : Nat → Prop} {g : Nat} {xs : List S79}
theorem cells5 {b : Nat} {t : TypeId} {x0 x1 x2 x3 x4 : Value} (h : W.heap[b]? = some (.cells #[x0, x1, x2, x3, x4] t (0, 0))) :
  W.cell? ⟨b, 0, none⟩ = some x0 ∧ W.cell? ⟨b, 1, none⟩ = some x1 ∧ W.cell? ⟨b, 2, none⟩ = some x2 ∧ W.cell? ⟨b, 3, none⟩ = some x3 ∧ W.cell? ⟨b, 4, none⟩ = some x4 ∧ ∀ j, W.frozen? ⟨b, j, none⟩ = false :=
 ⟨(blk_cell h 0).trans rfl, (blk_cell h 1).trans rfl, (blk_cell h 2).trans rfl, (blk_cell h 3).trans rfl, (blk_cell h 4).trans rfl, fun j => blk_frozen h j⟩
theorem blk_new1 (w : World) (o o1 : Obj) : ((w.alloc o).alloc o1).heap[w.heap.size + 1]? = some o1 := by
 have := blk_new (w.alloc o) o1
 rwa [World.size_alloc] at this
def newDoc : List S79 := [⟨z54, -1, []⟩]
theorem new_M (W : World) (base : Nat) (ok : Nat → Prop) : k79.M W base ok ⟨z54, -1, []⟩ [.int .i64 0, .int .i64 0, .string (⟨#[]⟩ : ByteArray), .string (⟨#[]⟩ : ByteArray), .slice none 0 0, .int .i64 (-1), .slice none 0 0] :=
 k79_mkM W base ok ⟨z54, -1, []⟩ (Kd.R_nil _ _ _ _ _) (Kd.R_nil _ _ _ _ _)
set_option maxHeartbeats 2000000 in
set_option maxRecDepth 100000 in
theorem Doc_New (w : World) : Calls Try.prog 18 #[] w fun e w' => ∃ g, e = .returned (.pointer (some ⟨g, 0, none⟩)) ∧ IsDoc w' (fun k => w.heap.size ≤ k) g newDoc ∧ Below w.heap.size w w' := by
 go_enter Try.func18, Try.ntmps18
 go_wp2_with (first | ((with_reducible refine gate_dst (N := 2) rfl ?_); refine Kd.S_lit k79 (w0 := w) w.heap.size 79 ?hg (N := 2) ?hd (xs := newDoc) (inner := [.int .i64 0, .int .i64 0, .string (⟨#[]⟩ : ByteArray), .string (⟨#[]⟩ : ByteArray), .slice none 0 0, .int .i64 (-1), .slice none 0 0]) (ok := fun k => w.heap.size ≤ k) (okp := fun _ => False) ?hr ?hp (fun _ h => h.elim) (Nat.le_refl _) (Below.refl _ _) (Nat.le_refl _) (by simp [newDoc]) ?_; (case hd => rfl); (case hg => rfl); (case hr => first | (go_simp; done) | (go_simp; rfl)); (case hp => exact Reps.c7 (new_M _ _ _) (Reps.none _ _)); intro v w1 hS hb hg_ hn_; obtain ⟨A, c, rfl⟩ := Kd.S_slice hS; have HS := Aside0.mk hS; have HB := Aside0.mk hb; clear hS hb hg_ hn_))
 go_ret
 exact ⟨_, rfl, ⟨_, blk_new _ _, below_size HB.out, Kd.S_alloc (Kd.S_elderB (Kd.S_lower HS.out (Nat.zero_le _)) w1.heap.size (Nat.le_refl _)) _⟩, below_alloc HB.out _⟩
set_option maxHeartbeats 2000000 in
set_option maxRecDepth 100000 in
theorem Doc_row (h : IsDoc w ok g xs) (i : Nat) (hi : i < xs.length) (hA : xs[i].f0.f4.length < 4398046511104) (depth : Int) : Calls Try.prog 37 #[.pointer (some ⟨g, 0, none⟩), .int .i64 i, .int .i64 depth] w fun e w' =>
  ∃ v4, e = .returned (.agg #[.int .i64 depth, .int .i64 xs[i].f0.f1, .string xs[i].f0.f2, .string xs[i].f0.f3, v4]) ∧ Kd.R k52 52 w' w.heap.size (fun _ => True) v4 xs[i].f0.f4 ∧ Below w.heap.size w w' := by
 obtain ⟨G, c, A4, c4, A6, c6, hb, hl, ⟨h0, h1, h2, h3, h4, h5, h6⟩, ⟨l4, g4⟩, _, _, _, _⟩ := h.node i hi
 have hc := doc_cell hb
 have hz : (i : Int) < (xs.length : Int) := by omega
 have hg := IsDoc.lt h
 have hG := block_lt_of_cell h0
 have hcall := fun w' (hb' : Below w.heap.size w w') => api_Attr_44.calls A4 c4 xs[i].f0.f4 xs[i].f0.f4 w' (Kd.C_below g4 hb') l4 (by unfold api_Attr_44.f; rw [if_pos hA])
 clear hb hl h g4 l4 h5 h6
 go_enter Try.func37, Try.ntmps37
 go_wp2_with (first | (go_at_call 44; refine (hcall _ (by repeat (first | exact Below.refl _ _ | apply below_alloc | apply pw_below_drewN | apply below_drew1))).mono ?_; rintro e w' ⟨v, rfl, hR, hB⟩; obtain ⟨A, c', rfl⟩ := Kd.R_slice hR; have b1 := (hB.block w.heap.size (by simp only [World.size_alloc]; omega)).trans (blk_alloc (blk_new _ _) _); have b2 := (hB.block (w.heap.size + 1) (by simp only [World.size_alloc]; omega)).trans (blk_new1 _ _ _); obtain ⟨q0, q1, q2, q3, q4, qf⟩ := cells5 b1; obtain ⟨r0, r1, r2, r3, r4, rf⟩ := cells5 b2; have B1 := Aside0.mk b1; have HR := Aside0.mk hR; have HB := Aside0.mk hB; clear hR hB hcall h0 h1 h2 h3 h4 b1 b2))
 refine bodyPost_ret (results_cell_row rfl _ _ w.heap.size 54 #[.int .i64 depth, .int .i64 xs[i].f0.f1, .string xs[i].f0.f2, .string xs[i].f0.f3, .slice A xs[i].f0.f4.length c'] (0, 0) _ rfl (blk_put (blk_put (blk_put (blk_put (blk_put (blk_far (blk_far B1.out (by simp) _) (by simp) _) 0 _ rfl) 1 _ rfl) 2 _ rfl) 3 _ rfl) 4 _ rfl) Try.underlying54 rfl (by kernel_rfl)) rfl ?_
 refine ⟨_, rfl, Kd.R_lower (Kd.R_mono (Kd.R_step (Kd.R_mono (Kd.R_bound HR.out) (ok' := fun k => w.heap.size + 2 ≤ k) fun k hk => by have := hk.2.1; simp only [World.size_alloc] at this; omega) fun k hk _ => ?_) fun _ _ => trivial) (by simp only [World.size_alloc]; omega), ?_⟩
 ·iterate 7 refine (Below.heap_setCell _ _ _ k (by simp only; omega)).trans ?_
  rfl
 ·iterate 7 refine below_set ?_ (by omega)
  exact Below.trans (below_alloc (below_alloc (Below.refl _ _) _) _) (HB.out.mono (by simp only [World.size_alloc]; omega))
/-- What add lays behind the nodes. -/
def addN (xs : List S79) (x : S54) : List S79 := xs ++ [⟨⟨0, x.f1, x.f2, x.f3, x.f4⟩, -1, []⟩]
theorem add_M {W : World} {base : Nat} {ok : Nat → Prop} {x : S54} {v4 : Value} (h : Kd.R k52 52 W base ok v4 x.f4) : k79.M W base ok ⟨⟨0, x.f1, x.f2, x.f3, x.f4⟩, -1, []⟩ [.int .i64 0, .int .i64 x.f1, .string x.f2, .string x.f3, v4, .int .i64 (-1), .slice none 0 0] :=
 k79_mkM W base ok ⟨⟨0, x.f1, x.f2, x.f3, x.f4⟩, -1, []⟩ h (Kd.R_nil _ _ _ _ _)
set_option maxHeartbeats 4000000 in
set_option maxRecDepth 100000 in
theorem Doc_add (h : IsDoc w ok g xs) (x : S54) (A : Option Addr) (c : Nat) (hC : Kd.C k52 w A x.f4.length x.f4) (hc : x.f4.length ≤ c) (hA : x.f4.length < 4398046511104) (hn : xs.length < 1000000) :
  Calls Try.prog 46 #[.pointer (some ⟨g, 0, none⟩), vrow x A c] w fun e w' => e = .returned (.int .i64 (xs.length : Nat)) ∧ To w w' ok g (addN xs x) := by
 have hg := IsDoc.lt h
 have hcall := fun w' (hb' : Below w.heap.size w w') => api_Attr_44.calls A c x.f4 x.f4 w' (Kd.C_below hC hb') hc (by unfold api_Attr_44.f; rw [if_pos hA])
 have HI := Aside0.mk h.bound
 have HN := Aside0.mk hn
 clear hA hC hc h hn
 go_enter Try.func46, Try.ntmps46
 go_wp2_with (first | (go_at_call 44; refine (hcall _ (by repeat (first | exact Below.refl _ _ | apply below_alloc | apply pw_below_drewN | apply below_drew1))).mono ?_; rintro e w' ⟨v, rfl, hR, hB⟩; obtain ⟨A4, c4, rfl⟩ := Kd.R_slice hR; have b1 := (hB.block w.heap.size (by simp only [World.size_alloc]; omega)).trans (blk_new _ _); obtain ⟨q0, q1, q2, q3, q4, qf⟩ := cells5 b1; have B1 := Aside0.mk b1; have HR := Aside0.mk hR; have HB := Aside0.mk hB; clear hR hB hcall b1))
 obtain ⟨W2, hW2⟩ : ∃ W2, W2 = (w'.setCell { block := w.heap.size, off := 0 } (Value.int IntKind.i64 0)).setCell { block := w.heap.size, off := 4 } (Value.slice A4 x.f4.length c4) := ⟨_, rfl⟩
 have hB2 : Below w.heap.size w W2 := by
  rw [hW2]
  exact below_set (below_set (Below.trans (below_alloc (Below.refl _ _) _) (HB.out.mono (by simp only [World.size_alloc]; omega))) (Nat.le_refl _)) (Nat.le_refl _)
 have b2 : W2.heap[w.heap.size]? = some (.cells #[.int .i64 0, .int .i64 x.f1, .string x.f2, .string x.f3, .slice A4 x.f4.length c4] 54 (0, 0)) := by
  rw [hW2]
  exact blk_put (blk_put B1.out 0 _ rfl) 4 _ rfl
 have hR2 : Kd.R k52 52 W2 0 (fun k => w.heap.size + 1 ≤ k) (.slice A4 x.f4.length c4) x.f4 := by
  refine Kd.R_lower (Kd.R_step (Kd.R_mono (Kd.R_bound HR.out) (ok' := fun k => w.heap.size + 1 ≤ k) fun k hk => by have := hk.2.1; simpa only [World.size_alloc] using this) fun k hk _ => ?_) (Nat.zero_le _)
  rw [hW2]
  iterate 2 refine (Below.heap_setCell _ _ _ k (by simp only; omega)).trans ?_
  rfl
 rw [← hW2]
 clear hW2 q0 q1 q2 q3 q4 qf HR HB B1 w'
 obtain ⟨v, hb, hgo, hS⟩ := HI.out.below hB2
 have hnb : ∀ k, some k = (Value.slice A4 x.f4.length c4).ownBlock → w.heap.size + 1 ≤ k := fun k hk => hR2.1 k hk.symm
 have hRt := Kd.R_tight rfl hR2
 obtain ⟨A', c', rfl⟩ := Kd.S_slice hS
 have hc := doc_cell hb
 obtain ⟨q0, q1, q2, q3, q4, qf⟩ := cells5 b2
 have hgW := blk_lt hb
 have HS := Aside0.mk (Kd.S_drew hS)
 have HR := Aside0.mk (Kd.R_drew hRt)
 have HB := Aside0.mk (below_drew hB2)
 have HD := Aside0.mk (show W2.drew.heap[g]? = _ from hb)
 have HNB := Aside0.mk hnb
 have HBL := Aside0.mk (show w.heap.size < W2.drew.heap.size from blk_lt b2)
 clear hS hR2 hB2 hb b2 hnb HI
 refine start_ (n := 12) (S := (fun w' => w'.cell? ⟨g, 0, none⟩ = some (.slice A' xs.length c') ∧ w'.cell? ⟨w.heap.size, 0, none⟩ = some (.int .i64 0) ∧ w'.cell? ⟨w.heap.size, 1, none⟩ = some (.int .i64 x.f1) ∧ w'.cell? ⟨w.heap.size, 2, none⟩ = some (.string x.f2) ∧ w'.cell? ⟨w.heap.size, 3, none⟩ = some (.string x.f3) ∧ w'.cell? ⟨w.heap.size, 4, none⟩ = some (.slice A4 x.f4.length c4))) (ds := [8, 11]) #[Z, Z, Z, Z, Z, Z, Z, Z, Z, Z, Z, Z] (by kernel_rfl) rfl rfl ⟨hc, q0, q1, q2, q3, q4⟩ (fun hHeld => ?_); refine with_tabW reg46_2.tab reg46_2.bits (fun HT_ HW_ => ?_)
 generalize W2.drew = W3 at HS HR HB HD HBL hHeld ⊢; clear hc q0 q1 q2 q3 q4 qf
 refine pA 0 10 #[Y, Z, Z, Z, Z, Z, Z, Z, Z, Z, Z, Z] HT_ ?_
 refine pA 1 11 #[Y, Y, Z, Z, Z, Z, Z, Z, Z, Z, Z, Z] HT_ ?_
 refine pA 2 12 #[Y, Y, Y, Z, Z, Z, Z, Z, Z, Z, Z, Z] HT_ ?_
 refine pA 3 13 #[Y, Y, Y, Y, Z, Z, Z, Z, Z, Z, Z, Z] HT_ ?_
 refine take_ (i := 4) (N := some 14) (v := ?_) (a' := ?_) #[Y, Y, Y, Y, Y, Z, Z, Z, Z, Z, Z, Z] rfl rfl (take_ofW HT_.out HW_.out (by kernel_rfl)) (fun _ _ _ h => h) (Or.inl ⟨by rfl, ?_⟩) hHeld ?_ ?_
 rotate_left
 ·rintro w' hs
  (try obtain ⟨s0, s1⟩ := hs)
  (try obtain ⟨s1, s2⟩ := s1)
  (try obtain ⟨s2, s3⟩ := s2)
  (try obtain ⟨s3, s4⟩ := s3)
  (try obtain ⟨s4, s5⟩ := s4)
  (try obtain ⟨s5, s6⟩ := s5)
  go_simp
  with_reducible rfl
 rotate_left
 ·simp only [Act.put, List.setIfInBounds_toArray, List.set_cons_zero, List.set_cons_succ, i64_w, i32_w]
  rfl
 refine take_ (i := 5) (N := some 15) (v := ?_) (a' := ?_) #[Y, Y, Y, Y, Y, Y, Z, Z, Z, Z, Z, Z] rfl rfl (take_ofW HT_.out HW_.out (by kernel_rfl)) (fun _ _ _ h => h) (Or.inl ⟨by rfl, ?_⟩) hHeld ?_ ?_
 rotate_left
 ·rintro w' hs
  (try obtain ⟨s0, s1⟩ := hs)
  (try obtain ⟨s1, s2⟩ := s1)
  (try obtain ⟨s2, s3⟩ := s2)
  (try obtain ⟨s3, s4⟩ := s3)
  (try obtain ⟨s4, s5⟩ := s4)
  (try obtain ⟨s5, s6⟩ := s5)
  go_simp
  with_reducible rfl
 rotate_left
 ·simp only [Act.put, List.setIfInBounds_toArray, List.set_cons_zero, List.set_cons_succ, i64_w, i32_w]
  rfl
 refine pA 6 16 #[Y, Y, Y, Y, Y, Y, Y, Z, Z, Z, Z, Z] HT_ ?_
 refine one_ (i := 7) (N := some 17) #[Y, Y, Y, Y, Y, Y, Y, Y, Z, Z, Z, Z] rfl rfl (one_of HT_.out (by kernel_rfl)) (by decide) (fun K hK => ?_)
 refine value_ (v := .slice (some ⟨W3.heap.size, 0, none⟩) 1 1) (w1 := W3.alloc (.cells #[.int .i64 0, .int .i64 x.f1, .string x.f2, .string x.f3, .slice A4 x.f4.length c4, .int .i64 (-1), .slice none 0 0] 79)) (by rfl) rfl (by first | (go_simp; done) | (go_simp; rfl)) ?_
 refine hK.out _ _ ?_ (fun hHeld => ?_)
 ·obtain ⟨s0, s1, s2, s3, s4, s5⟩ := hHeld
  exact ⟨Lib.cell?_alloc_some _ s0, Lib.cell?_alloc_some _ s1, Lib.cell?_alloc_some _ s2, Lib.cell?_alloc_some _ s3, Lib.cell?_alloc_some _ s4, Lib.cell?_alloc_some _ s5⟩
 clear hK K
 refine last_ (i := 8) (N := some 18) #[Y, Y, Y, Y, Y, Y, Y, Y, Y, Z, Z, Z] rfl rfl (one_of HT_.out (by kernel_rfl)) (by decide) (fun K hK => ?_)
 refine Kd.S_append_step k79 (w0 := W3) 0 rfl (.tmp 14) (.tmp 17) 80 79 _ 104 rfl Try.underlying80 info79 rfl (by decide) (by decide) (.slice A' xs.length c') xs ⟨⟨0, x.f1, x.f2, x.f3, x.f4⟩, -1, []⟩ [.int .i64 0, .int .i64 x.f1, .string x.f2, .string x.f3, .slice A4 x.f4.length c4, .int .i64 (-1), .slice none 0 0] (fun k => (ok k ∨ w.heap.size ≤ k) ∧ k ≠ g) (fun k => some k = (Value.slice A4 x.f4.length c4).ownBlock) rfl rfl ?_ ?_ ?_ ?_ ?_ ?_ ?_ ?_
 ·exact add_M HR.out
 ·intro k hk
  have h1 := HNB.out k hk
  exact ⟨⟨.inr (by omega), by omega⟩, fun h2 => by have := ((Kd.S_R HS.out).1 k h2.symm).1.2; omega⟩
 ·intro k hk
  have := HBL.out
  exact ⟨.inr (by omega), by omega⟩
 ·exact Kd.S_mono HS.out fun k hk => ⟨⟨.inl hk.1.1, hk.2⟩, fun h2 => by have := HNB.out k h2; have := hk.1.2; omega⟩
 ·exact Below.refl _ _
 ·exact Nat.zero_le _
 ·have := HN.out
  omega
 intro v1 w1 hS1 hB1 hG1 _
 obtain ⟨A1, c1, rfl⟩ := Kd.S_slice hS1
 have hb1 := blk_grown HD.out hG1 (Kd.S_away HS.out (fun k hk => hk.2))
 have hc1 := doc_cell hb1
 have hf1 := blk_frozen hb1 0
 have e1 : (addN xs x).length = xs.length + 1 := by simp [addN]
 change Kd.S k79 79 w1 0 _ (.slice A1 (addN xs x).length c1) (addN xs x) at hS1
 rw [e1] at hS1
 clear e1
 have HS1 := Aside0.mk hS1
 have HM := Aside0.mk ((Mod.of_below (S := ok) HB.out).grown hB1 hG1 (fun k hk => .inl ((Kd.S_R HS.out).1 k hk).1.1))
 have HD1 := Aside0.mk hb1
 clear hS1 hB1 hG1 hb1
 refine hK.out _ _ ?_
 clear hK K
 refine pA 9 19 #[Y, Y, Y, Y, Y, Y, Y, Y, Y, Y, Z, Z] HT_ ?_
 refine pA 10 20 #[Y, Y, Y, Y, Y, Y, Y, Y, Y, Y, Y, Z] HT_ ?_
 refine last_ (i := 11) (N := none) #[Y, Y, Y, Y, Y, Y, Y, Y, Y, Y, Y, Y] rfl rfl (one_of HT_.out (by kernel_rfl)) (by decide) (fun K hK => ?_)
 refine skip_ (w1 := ?_) (by rfl) rfl ?_ ?_
 rotate_left
 ·go_simp
  rfl
 refine hK.out _ _ ?_
 clear hK K
 refine done_ (done_of HT_.out (by kernel_rfl)) ?_
 go_wp2
 go_ret
 refine ⟨?_, To.mk (ok' := fun k => ok k ∨ w.heap.size ≤ k) ⟨_, blk_put HD1.out 0 _ rfl, .inl hgo.1, Kd.S_far HS1.out (p := ⟨g, 0, none⟩) (fun k hk => hk.2) _⟩ (fun _ h => h) (HM.out.set _ _ (.inl hgo.1))⟩
 have e : wrap64 (xs.length : Int) = xs.length := by have := HN.out; unfold wrap64; omega
 show Ending.returned (.int .i64 (wrap64 (xs.length : Int))) = _
 rw [e]
/-- What Make answers: a number, an error, and the nodes behind it. -/
def makeR (xs : List S79) (m : Bool) (kind : Int) (name data : ByteArray) : Int × Int × List S79 :=
 if m = false then (0, 1, xs) else if 4096 ≤ xs.length then (0, 2, xs) else (xs.length, 0, addN xs ⟨0, kind, name, data, []⟩)
set_option maxHeartbeats 2000000 in
set_option maxRecDepth 100000 in
theorem Doc_Make (h : IsDoc w ok g xs) (kind : Int) (name data : ByteArray) (k : Nat) (m : Bool) (hm : arena_may.f k kind name data = some m) :
  Calls Try.prog 21 #[.pointer (some ⟨g, 0, none⟩), .int .i64 kind, .string name, .string data] w fun e w' => e = .returned (.tuple #[.int .i64 (makeR xs m kind name data).1, .int .i64 (makeR xs m kind name data).2.1]) ∧ To w w' ok g (makeR xs m kind name data).2.2 := by
 have hcall := arena_may.calls k kind name data m w hm
 unfold makeR
 cases m with
 | false =>
  rw [if_pos rfl]
  have HI := Aside0.mk h
  clear h hm
  go_enter Try.func21, Try.ntmps21
  go_wp2_with (first | (go_at_call 45; refine hcall.mono ?_; rintro e w' ⟨rfl, ⟨m, rfl⟩⟩))
  go_ret2
  exact ⟨rfl, To.quiet HI.out (pw_below_drewN (Below.refl _ _) _)⟩
 | true =>
  rw [if_neg (by decide)]
  obtain ⟨A, c, hb, hl, hC⟩ := h.reads
  have hc := doc_cell hb
  by_cases c0 : 4096 ≤ xs.length
  ·rw [if_pos c0]
   have hz : (4096 : Int) ≤ (xs.length : Int) := by omega
   have hz2 : decide ((4096 : Int) ≤ (xs.length : Int)) = true := decide_eq_true hz
   have HI := Aside0.mk h
   clear h hm hb hC hl
   go_enter Try.func21, Try.ntmps21
   go_wp2_with (first | (go_at_call 45; refine hcall.mono ?_; rintro e w' ⟨rfl, ⟨m, rfl⟩⟩))
   go_ret2
   exact ⟨rfl, To.quiet HI.out (pw_below_drewN (Below.refl _ _) _)⟩
  ·rw [if_neg c0]
   have hz2 : decide ((4096 : Int) ≤ (xs.length : Int)) = false := decide_eq_false (by omega)
   have hadd := fun n => Doc_add (h.drewN n) ⟨0, kind, name, data, []⟩ none 0 (Kd.C_nil _ _) (Nat.le_refl _) (show (0 : Nat) < 4398046511104 by decide) (by omega)
   have HI := Aside0.mk h
   clear h hm hb hC hl c0
   go_enter Try.func21, Try.ntmps21
   go_wp2_with (first | (go_at_call 45; refine hcall.mono ?_; rintro e w' ⟨rfl, ⟨m, rfl⟩⟩) | (go_at_call 46; refine (hadd _).mono ?_; rintro e w' ⟨rfl, hT⟩; have HT := Aside0.mk hT; clear hT))
   go_ret2
   exact ⟨rfl, To.after (pw_below_drewN (Below.refl _ _) _) HT.out⟩
set_option maxHeartbeats 2000000 in
set_option maxRecDepth 100000 in
theorem Doc_Row (h : IsDoc w ok g xs) (i : Nat) (hi : i < xs.length) (hA : xs[i].f0.f4.length < 4398046511104) : Calls Try.prog 25 #[.pointer (some ⟨g, 0, none⟩), .int .i64 i] w fun e w' =>
  ∃ v4, e = .returned (.tuple #[.agg #[.int .i64 0, .int .i64 xs[i].f0.f1, .string xs[i].f0.f2, .string xs[i].f0.f3, v4], .int .i64 0]) ∧ Kd.R k52 52 w' w.heap.size (fun _ => True) v4 xs[i].f0.f4 ∧ Below w.heap.size w w' := by
 have hrow := fun w' (hb' : Below w.heap.size w w') => Doc_row (h.below hb') i hi hA 0
 have his := fun w' (hb' : Below w.heap.size w w') => Doc_is (h.below hb') (i : Int)
 rw [decide_eq_true (show 0 ≤ (i : Int) ∧ (i : Int) < (xs.length : Int) by omega)] at his
 clear h hA
 go_enter Try.func25, Try.ntmps25
 go_wp2_with (first | (go_at_call 36; refine (his _ (by repeat (first | exact Below.refl _ _ | apply below_alloc | apply pw_below_drewN | apply below_drew1))).mono ?_; rintro e w' ⟨rfl, ⟨m, rfl⟩⟩) | (go_at_call 37; refine (hrow _ (by repeat (first | exact Below.refl _ _ | apply below_alloc | apply pw_below_drewN | apply below_drew1))).mono ?_; rintro e w' ⟨v, rfl, hR, hB⟩; obtain ⟨A, c', rfl⟩ := Kd.R_slice hR; have b1 := (hB.block w.heap.size (by simp)).trans (blk_drewN (blk_new _ _) _); obtain ⟨q0, q1, q2, q3, q4, qf⟩ := cells5 b1; have B1 := Aside0.mk b1; have HR := Aside0.mk hR; have HB := Aside0.mk hB; clear hR hB b1))
 refine bodyPost_ret (results_ct rfl _ _ w.heap.size 54 #[.int .i64 0, .int .i64 xs[i].f0.f1, .string xs[i].f0.f2, .string xs[i].f0.f3, .slice A xs[i].f0.f4.length c'] (0, 0) _ rfl (blk_put (blk_put (blk_put (blk_put (blk_put B1.out 0 _ rfl) 1 _ rfl) 2 _ rfl) 3 _ rfl) 4 _ rfl) Try.underlying54 rfl (by kernel_rfl)) rfl ?_
 have e : w.heap.size + 1 ≤ ((w.alloc (Obj.cells #[Value.int IntKind.i64 0, Value.int IntKind.i64 0, Value.string { data := #[] }, Value.string { data := #[] }, Value.slice none 0 0] 54)).drewN m).heap.size := by simp
 refine ⟨_, rfl, Kd.R_lower (Kd.R_mono (Kd.R_step (Kd.R_mono (Kd.R_bound HR.out) (ok' := fun k => w.heap.size + 1 ≤ k) fun k hk => Nat.le_trans e hk.2.1) fun k hk _ => ?_) fun _ _ => trivial) (by omega), ?_⟩
 ·iterate 5 refine (Below.heap_setCell _ _ _ k (by simp only; omega)).trans ?_
  rfl
 ·iterate 5 refine below_set ?_ (by omega)
  exact Below.trans (pw_below_drewN (below_alloc (Below.refl _ _) _) _) (HB.out.mono (by omega))
set_option maxHeartbeats 2000000 in
set_option maxRecDepth 100000 in
theorem Doc_Row_no (h : IsDoc w ok g xs) (n : Int) (hn : ¬ (0 ≤ n ∧ n < (xs.length : Int))) : Calls Try.prog 25 #[.pointer (some ⟨g, 0, none⟩), .int .i64 n] w fun e w' =>
  e = .returned (.tuple #[.agg #[.int .i64 0, .int .i64 0, .string (⟨#[]⟩ : ByteArray), .string (⟨#[]⟩ : ByteArray), .slice none 0 0], .int .i64 110]) ∧ Below w.heap.size w w' := by
 have his := fun w' (hb' : Below w.heap.size w w') => Doc_is (h.below hb') n
 rw [decide_eq_false hn] at his
 clear h hn
 go_enter Try.func25, Try.ntmps25
 go_wp2_with (first | (go_at_call 36; refine (his _ (by repeat (first | exact Below.refl _ _ | apply below_alloc | apply pw_below_drewN | apply below_drew1))).mono ?_; rintro e w' ⟨rfl, ⟨m, rfl⟩⟩))
 refine bodyPost_ret (results_ct rfl _ _ w.heap.size 54 #[.int .i64 0, .int .i64 0, .string (⟨#[]⟩ : ByteArray), .string (⟨#[]⟩ : ByteArray), .slice none 0 0] (0, 0) _ rfl (blk_put (blk_put (blk_put (blk_put (blk_put (blk_drewN (blk_new _ _) _) 0 _ rfl) 1 _ rfl) 2 _ rfl) 3 _ rfl) 4 _ rfl) Try.underlying54 rfl (by kernel_rfl)) rfl ?_
 refine ⟨rfl, ?_⟩
 iterate 5 refine below_set ?_ (by omega)
 exact pw_below_drewN (below_alloc (Below.refl _ _) _) _
end
end Go.Proofs.Ytpkaliaaffgbdaa.QA
