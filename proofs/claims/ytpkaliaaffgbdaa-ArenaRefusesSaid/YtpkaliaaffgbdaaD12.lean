/- Which texts may be names: what the program answers, of every text. -/
import Derived.Test.YtpkaliaaffgbdaaQAx4
namespace Go.Proofs.Ytpkaliaaffgbdaa.QA
open Go.RowKit Go.Proofs.YtpkaliaaffgbdaaW.PrintWords Go.Proofs.YtpkaliaaffgbdaaW.PrintLast Go.Proofs.YtpkaliaaffgbdaaW.PrintMore
attribute [local go_sem] max2_int min2_int max_two min_two max_three min_three max_four min_four   -- for this text's walks alone
set_option linter.unusedVariables false
set_option linter.unusedSimpArgs false

open Go
theorem wrap1 {i : Nat} (h : i < 4611686018427387904) : wrap64 ((i : Int) + 1) = ((i + 1 : Nat) : Int) := by
  unfold wrap64
  omega
theorem rdOf_at (l : List ByteArray) (i : Nat) (h : i < l.length) : rdOf ByteArray.empty l (i : Int) = l[i] := by
  simp [rdOf, List.getElem?_eq_getElem h]
def isIn (a : ByteArray) (l : List ByteArray) : Bool := l.any fun b => b.toList == a.toList
/-- What a byte of a name must be: no space, no great letter, no 0, none of some. -/
def okB (but : List UInt8) (c : UInt8) : Bool :=
  !(c == 32 || c == 9 || c == 10 || c == 12 || c == 13 || (decide (65 ≤ c.toNat) && decide (c.toNat ≤ 90)) || c == 0) && but.all fun b => !(c == b)
theorem bt_get (s : ByteArray) (i : Nat) (h : i < s.data.toList.length) : bt s (i : Int) = ((s.data.toList[i]).toNat : Int) := by
  have h' : i < s.size := by simpa using h
  rw [← bt_at s (i : Int) h']
  rfl
theorem size_len (s : ByteArray) : s.size = s.data.toList.length := by simp
theorem u8_eq (a b : UInt8) : ((a.toNat : Int) = (b.toNat : Int)) ↔ a = b := by
  rw [Int.ofNat_inj, UInt8.toNat_inj]
theorem u8_zero (c : UInt8) : ((c.toNat : Int) = 0) ↔ c = 0 := u8_eq c 0
theorem space_all : ∀ n : Nat, n < 256 → fold_Space.f (n : Int) = some (UInt8.ofNat n == 32 || UInt8.ofNat n == 9 || UInt8.ofNat n == 10 || UInt8.ofNat n == 12 || UInt8.ofNat n == 13) := by decide +kernel
theorem space_is (c : UInt8) : fold_Space.f (c.toNat : Int) = some (c == 32 || c == 9 || c == 10 || c == 12 || c == 13) := by
  have h := space_all c.toNat c.toNat_lt
  rw [UInt8.ofNat_toNat] at h
  exact h
theorem plain_l1 (s b : ByteArray) (hb : b.size < 100) (i : Nat) (hi : i < s.data.toList.length) (n : Int) (d : Nat) : ∀ (k j : Nat), j + d = b.data.toList.length → d < k →
    names_plain.l1 k s b (i : Int) n (i : Int) (b.size : Int) (j : Int) =
      if (b.data.toList.drop j).all (fun c => !(s.data.toList[i] == c)) then names_plain.l0 (k - d - 1) s b n (wrap64 ((i : Int) + 1)) else some false := by
  have hs := size_len s
  have hbs := size_len b
  induction d with
  | zero =>
    intro k j hj hk
    obtain ⟨k, rfl⟩ : ∃ m, k = m + 1 := ⟨k - 1, by omega⟩
    simp only [names_plain.l1]
    rw [if_neg (by omega), List.drop_of_length_le (by omega)]
    rfl
  | succ d ih =>
    intro k j hj hk
    obtain ⟨k, rfl⟩ : ∃ m, k = m + 1 := ⟨k - 1, by omega⟩
    simp only [names_plain.l1]
    rw [if_pos (by omega), if_pos (by omega), if_pos (by omega), if_pos (by omega), if_pos (by omega), wrap1 (by omega), ih k (j + 1) (by omega) (by omega), bt_get s i hi, bt_get b j (by omega), List.drop_eq_getElem_cons (show j < b.data.toList.length by omega), List.all_cons]
    rw [show k + 1 - (d + 1) - 1 = k - d - 1 by omega]
    by_cases h : s.data.toList[i] = b.data.toList[j]'(by omega)
    · rw [if_pos (by rw [h]), beq_iff_eq.2 h]
      simp
    · rw [if_neg (fun h' => h ((u8_eq _ _).1 h')), beq_eq_false_iff_ne.2 h]
      simp
theorem plain_l0 (s b : ByteArray) (hn : s.size ≤ 140737488351232) (hb : b.size ≤ 6) (d : Nat) : ∀ (k i : Nat), i + d = s.data.toList.length → d * 9 < k →
    names_plain.l0 k s b (s.size : Int) (i : Int) = some ((s.data.toList.drop i).all (okB b.data.toList) && s.toList != []) := by
  have hs := size_len s
  have hbs := size_len b
  induction d with
  | zero =>
    intro k i hi hk
    obtain ⟨k, rfl⟩ : ∃ m, k = m + 1 := ⟨k - 1, by omega⟩
    simp only [names_plain.l0]
    rw [if_neg (by omega), List.drop_of_length_le (by omega)]
    rfl
  | succ d ih =>
    intro k i hi hk
    obtain ⟨k, rfl⟩ : ∃ m, k = m + 1 := ⟨k - 1, by omega⟩
    have hi' : i < s.data.toList.length := by omega
    simp only [names_plain.l0]
    rw [if_pos (by omega), if_pos (by omega), if_pos (by omega), bt_get s i hi', space_is, List.drop_eq_getElem_cons hi', List.all_cons]
    simp only [Option.bind_some]
    obtain ⟨c, hc⟩ : ∃ c, s.data.toList[i] = c := ⟨_, rfl⟩
    obtain ⟨k, rfl⟩ : ∃ m, k = m + 1 := ⟨k - 1, by omega⟩
    have hl1 := plain_l1 s b (by omega) i hi' (s.size : Int) b.data.toList.length k 0 (by omega) (by omega)
    rw [wrap1 (by omega), ih _ (i + 1) (by omega) (by omega), List.drop_zero] at hl1
    have e0 := u8_zero c
    have hok : okB b.data.toList c = (!((c == 32 || c == 9 || c == 10 || c == 12 || c == 13) || (decide (65 ≤ c.toNat) && decide (c.toNat ≤ 90)) || c == 0) && b.data.toList.all fun b => !(c == b)) := by
      simp only [okB, Bool.or_assoc]
    rw [hc] at hl1 ⊢
    rw [hok]
    simp only [names_plain.j1]
    by_cases h1 : (c == 32 || c == 9 || c == 10 || c == 12 || c == 13) = true
    · rw [if_pos h1, h1]
      simp
    · rw [if_neg h1, Bool.eq_false_iff.2 h1]
      by_cases h2 : (c.toNat : Int) ≥ 65
      · rw [if_pos h2]
        by_cases h3 : (c.toNat : Int) ≤ 90
        · rw [if_pos h3]
          have : (decide (65 ≤ c.toNat) && decide (c.toNat ≤ 90)) = true := by simp; omega
          rw [this]
          simp
        · rw [if_neg h3]
          have : (decide (65 ≤ c.toNat) && decide (c.toNat ≤ 90)) = false := by simp; omega
          rw [this]
          have h0 : ((c.toNat : Int) == 0) = false := by rw [beq_eq_false_iff_ne]; omega
          have h0' : (c == 0) = false := by rw [beq_eq_false_iff_ne]; intro e; subst e; simp at h2
          rw [h0, h0', if_neg (by decide)]
          rw [show ((0 : Int)) = ((0 : Nat) : Int) from rfl, hl1]
          cases h4 : b.data.toList.all (fun b => !(c == b)) <;> simp
      · rw [if_neg h2]
        have : (decide (65 ≤ c.toNat) && decide (c.toNat ≤ 90)) = false := by simp; omega
        rw [this]
        by_cases h5 : c = 0
        · have : ((c.toNat : Int) == 0) = true := by rw [beq_iff_eq]; exact e0.2 h5
          rw [this, h5]
          simp
        · have h0 : ((c.toNat : Int) == 0) = false := by rw [beq_eq_false_iff_ne]; exact fun h => h5 (e0.1 h)
          rw [h0, beq_eq_false_iff_ne.2 h5, if_neg (by decide)]
          rw [show ((0 : Int)) = ((0 : Nat) : Int) from rfl, hl1]
          cases h4 : b.data.toList.all (fun b => !(c == b)) <;> simp
/-- A text that may be a name: its bytes are, and it has some. -/
def okS (but : List UInt8) (l : List UInt8) : Bool := l.all (okB but) && l != []
theorem plain_is (s b : ByteArray) (hn : s.size ≤ 140737488351232) (hb : b.size ≤ 6) (k : Nat) (hk : s.size * 9 < k) : names_plain.f k s b = some (okS b.data.toList s.data.toList) := by
  unfold names_plain.f
  have hs := size_len s
  rw [show ((0 : Int)) = ((0 : Nat) : Int) from rfl, plain_l0 s b hn hb s.data.toList.length k 0 (by omega) (by omega), List.drop_zero, ByteArray.toList_eq]
  rfl
def okAttr (l : List UInt8) : Bool := okS [47, 62, 34, 39, 60, 61] l
def okRight (l : List UInt8) : Bool := okS [47, 62] l && (decide (97 ≤ (l.headD 0).toNat) && decide ((l.headD 0).toNat ≤ 122))
theorem attr_is (s : ByteArray) (hn : s.size ≤ 140737488351232) (k : Nat) (hk : s.size * 9 < k) : names_Attr.f k s = some (okAttr s.data.toList) := by
  unfold names_Attr.f
  rw [plain_is s _ hn (by decide) k hk]
  rfl
theorem letter_is (c : UInt8) (h : okB [47, 62] c = true) : fold_Letter.f (c.toNat : Int) = some (decide (97 ≤ c.toNat) && decide (c.toNat ≤ 122)) := by
  unfold fold_Letter.f
  have hg : ¬ (65 ≤ c.toNat ∧ c.toNat ≤ 90) := by
    intro hg
    have : (decide (65 ≤ c.toNat) && decide (c.toNat ≤ 90)) = true := by simp; omega
    simp [okB, this] at h
  by_cases h1 : (c.toNat : Int) ≥ 97
  · rw [if_pos h1]
    by_cases h2 : (c.toNat : Int) ≤ 122
    · rw [if_pos h2]
      have : (decide (97 ≤ c.toNat) && decide (c.toNat ≤ 122)) = true := by simp; omega
      rw [this]
    · rw [if_neg h2, if_pos (by omega)]
      have : (decide (97 ≤ c.toNat) && decide (c.toNat ≤ 122)) = false := by simp; omega
      rw [this, decide_eq_false (by omega)]
  · rw [if_neg h1]
    have : (decide (97 ≤ c.toNat) && decide (c.toNat ≤ 122)) = false := by simp; omega
    rw [this]
    by_cases h2 : (c.toNat : Int) ≥ 65
    · rw [if_pos h2, decide_eq_false (by omega)]
    · rw [if_neg h2]
theorem right_is (s : ByteArray) (hn : s.size ≤ 140737488351232) (k : Nat) (hk : s.size * 9 < k) : names_Right.f k s = some (okRight s.data.toList) := by
  unfold names_Right.f
  have hs := size_len s
  rw [plain_is s _ hn (by decide) k hk]
  simp only [Option.bind_some]
  show (if okS [47, 62] s.data.toList = true then _ else _) = _
  unfold okRight
  cases h : okS [47, 62] s.data.toList with
  | false => simp
  | true =>
    rw [if_pos rfl]
    simp only [okS, Bool.and_eq_true] at h
    cases hl : s.data.toList with
    | nil => rw [hl] at h; simp at h
    | cons c l =>
      rw [hl] at h
      have hlen : 0 < s.data.toList.length := by rw [hl]; simp
      rw [if_pos (by omega), show ((0 : Int)) = ((0 : Nat) : Int) from rfl, bt_get s 0 hlen]
      have hc : s.data.toList[0] = c := by simp [hl]
      rw [hc, letter_is c (by have := h.1; simp at this; exact this.1)]
      rfl

end Go.Proofs.Ytpkaliaaffgbdaa.QA
