/- An element that closes some closes none that ends its search; a name with a great letter stands in no list: for every text. -/
import Derived.Test.YtacffcdjgjiemaaQAx9
namespace Go.Proofs.Ytacffcdjgjiemaa.Pure
open Go.RowKit Go.Proofs.Ytacffcdjgjiemaa.QA Go.Proofs.YtacffcdjgjiemaaW.PrintWords Go.Proofs.YtacffcdjgjiemaaW.PrintLast Go.Proofs.YtacffcdjgjiemaaW.PrintMore

/-! Plain facts about the printed functions: no Go, no memory. -/
theorem wrap1 {i : Nat} (h : i < 4611686018427387904) : wrap64 ((i : Int) + 1) = ((i + 1 : Nat) : Int) := by
  unfold wrap64
  omega
theorem rdOf_at (l : List ByteArray) (i : Nat) (h : i < l.length) : rdOf ByteArray.empty l (i : Int) = l[i] := by
  simp [rdOf, List.getElem?_eq_getElem h]
def isIn (a : ByteArray) (l : List ByteArray) : Bool := l.any fun b => b.toList == a.toList
theorem isIn_cons (a b : ByteArray) (l : List ByteArray) : isIn a (b :: l) = (b.toList == a.toList || isIn a l) := rfl
theorem among_l0 (a : ByteArray) (l : List ByteArray) (hl : l.length < 4611686018427387904) (d : Nat) : ∀ (k i : Nat), i + d = l.length → d < k →
    names_among.l0 k a l (l.length : Int) (i : Int) = some (isIn a (l.drop i)) := by
  induction d with
  | zero =>
    intro k i hi hk
    obtain ⟨k, rfl⟩ : ∃ m, k = m + 1 := ⟨k - 1, by omega⟩
    simp only [names_among.l0]
    rw [if_neg (by omega), List.drop_of_length_le (by omega)]
    rfl
  | succ d ih =>
    intro k i hi hk
    obtain ⟨k, rfl⟩ : ∃ m, k = m + 1 := ⟨k - 1, by omega⟩
    simp only [names_among.l0]
    rw [if_pos (by omega), if_pos (by omega), if_pos (by omega), wrap1 (by omega), ih k (i + 1) (by omega) (by omega), rdOf_at l i (by omega), List.drop_eq_getElem_cons (show i < l.length by omega), isIn_cons]
    by_cases h : (l[i]'(by omega)).toList = a.toList
    · rw [if_pos h, h]
      simp
    · rw [if_neg h, beq_eq_false_iff_ne.2 h, Bool.false_or]
theorem among_is (a : ByteArray) (l : List ByteArray) (hl : l.length ≤ 60) (k : Nat) (hk : 100 ≤ k) : names_among.f k a l = some (isIn a l) := by
  unfold names_among.f
  exact among_l0 a l (by omega) l.length k 0 (by omega) (by omega)

theorem fixed_100 : boltinglaw05_fixed.f 100 = some true := by decide +kernel
theorem fixed_is (k : Nat) (hk : 100 ≤ k) : boltinglaw05_fixed.f k = some true := at_rounds boltinglaw05_fixed.mono hk fixed_100

/-- What a byte of a name must be: no space, no great letter, no 0, none of some. -/
def okB (but : List UInt8) (c : UInt8) : Bool :=
  !(c == 32 || c == 9 || c == 10 || c == 12 || c == 13 || (decide (65 ≤ c.toNat) && decide (c.toNat ≤ 90)) || c == 0) && but.all fun b => !(c == b)
theorem bt_get (s : ByteArray) (i : Nat) (h : i < s.data.toList.length) : bt s (i : Int) = ((s.data.toList[i]).toNat : Int) := by
  have h' : i < s.size := by simpa using h
  rw [← bt_at s (i : Int) h']
  rfl
theorem size_len (s : ByteArray) : s.size = s.data.toList.length := by simp
theorem u8_eq (a b : UInt8) : ((a.toNat : Int) = (b.toNat : Int)) ↔ a = b := by
  rw [Int.ofNat_inj, UInt8.toNat_inj]
theorem u8_zero (c : UInt8) : ((c.toNat : Int) = 0) ↔ c = 0 := u8_eq c 0
theorem space_all : ∀ n : Nat, n < 256 → fold_Space.f (n : Int) = some (UInt8.ofNat n == 32 || UInt8.ofNat n == 9 || UInt8.ofNat n == 10 || UInt8.ofNat n == 12 || UInt8.ofNat n == 13) := by decide +kernel
theorem space_is (c : UInt8) : fold_Space.f (c.toNat : Int) = some (c == 32 || c == 9 || c == 10 || c == 12 || c == 13) := by
  have h := space_all c.toNat c.toNat_lt
  rw [UInt8.ofNat_toNat] at h
  exact h
theorem plain_l1 (s b : ByteArray) (hb : b.size < 100) (i : Nat) (hi : i < s.data.toList.length) (n : Int) (d : Nat) : ∀ (k j : Nat), j + d = b.data.toList.length → d < k →
    names_plain.l1 k s b (i : Int) n (i : Int) (b.size : Int) (j : Int) =
      if (b.data.toList.drop j).all (fun c => !(s.data.toList[i] == c)) then names_plain.l0 (k - d - 1) s b n (wrap64 ((i : Int) + 1)) else some false := by
  have hs := size_len s
  have hbs := size_len b
  induction d with
  | zero =>
    intro k j hj hk
    obtain ⟨k, rfl⟩ : ∃ m, k = m + 1 := ⟨k - 1, by omega⟩
    simp only [names_plain.l1]
    rw [if_neg (by omega), List.drop_of_length_le (by omega)]
    rfl
  | succ d ih =>
    intro k j hj hk
    obtain ⟨k, rfl⟩ : ∃ m, k = m + 1 := ⟨k - 1, by omega⟩
    simp only [names_plain.l1]
    rw [if_pos (by omega), if_pos (by omega), if_pos (by omega), if_pos (by omega), if_pos (by omega), wrap1 (by omega), ih k (j + 1) (by omega) (by omega), bt_get s i hi, bt_get b j (by omega), List.drop_eq_getElem_cons (show j < b.data.toList.length by omega), List.all_cons]
    rw [show k + 1 - (d + 1) - 1 = k - d - 1 by omega]
    by_cases h : s.data.toList[i] = b.data.toList[j]'(by omega)
    · rw [if_pos (by rw [h]), beq_iff_eq.2 h]
      simp
    · rw [if_neg (fun h' => h ((u8_eq _ _).1 h')), beq_eq_false_iff_ne.2 h]
      simp
theorem plain_l0 (s b : ByteArray) (hn : s.size ≤ 140737488351232) (hb : b.size ≤ 6) (d : Nat) : ∀ (k i : Nat), i + d = s.data.toList.length → d * 9 < k →
    names_plain.l0 k s b (s.size : Int) (i : Int) = some ((s.data.toList.drop i).all (okB b.data.toList) && s.toList != []) := by
  have hs := size_len s
  have hbs := size_len b
  induction d with
  | zero =>
    intro k i hi hk
    obtain ⟨k, rfl⟩ : ∃ m, k = m + 1 := ⟨k - 1, by omega⟩
    simp only [names_plain.l0]
    rw [if_neg (by omega), List.drop_of_length_le (by omega)]
    rfl
  | succ d ih =>
    intro k i hi hk
    obtain ⟨k, rfl⟩ : ∃ m, k = m + 1 := ⟨k - 1, by omega⟩
    have hi' : i < s.data.toList.length := by omega
    simp only [names_plain.l0]
    rw [if_pos (by omega), if_pos (by omega), if_pos (by omega), bt_get s i hi', space_is, List.drop_eq_getElem_cons hi', List.all_cons]
    simp only [Option.bind_some]
    obtain ⟨c, hc⟩ : ∃ c, s.data.toList[i] = c := ⟨_, rfl⟩
    obtain ⟨k, rfl⟩ : ∃ m, k = m + 1 := ⟨k - 1, by omega⟩
    have hl1 := plain_l1 s b (by omega) i hi' (s.size : Int) b.data.toList.length k 0 (by omega) (by omega)
    rw [wrap1 (by omega), ih _ (i + 1) (by omega) (by omega), List.drop_zero] at hl1
    have e0 := u8_zero c
    have hok : okB b.data.toList c = (!((c == 32 || c == 9 || c == 10 || c == 12 || c == 13) || (decide (65 ≤ c.toNat) && decide (c.toNat ≤ 90)) || c == 0) && b.data.toList.all fun b => !(c == b)) := by
      simp only [okB, Bool.or_assoc]
    rw [hc] at hl1 ⊢
    rw [hok]
    simp only [names_plain.j1]
    by_cases h1 : (c == 32 || c == 9 || c == 10 || c == 12 || c == 13) = true
    · rw [if_pos h1, h1]
      simp
    · rw [if_neg h1, Bool.eq_false_iff.2 h1]
      by_cases h2 : (c.toNat : Int) ≥ 65
      · rw [if_pos h2]
        by_cases h3 : (c.toNat : Int) ≤ 90
        · rw [if_pos h3]
          have : (decide (65 ≤ c.toNat) && decide (c.toNat ≤ 90)) = true := by simp; omega
          rw [this]
          simp
        · rw [if_neg h3]
          have : (decide (65 ≤ c.toNat) && decide (c.toNat ≤ 90)) = false := by simp; omega
          rw [this]
          have h0 : ((c.toNat : Int) == 0) = false := by rw [beq_eq_false_iff_ne]; omega
          have h0' : (c == 0) = false := by rw [beq_eq_false_iff_ne]; intro e; subst e; simp at h2
          rw [h0, h0', if_neg (by decide)]
          rw [show ((0 : Int)) = ((0 : Nat) : Int) from rfl, hl1]
          cases h4 : b.data.toList.all (fun b => !(c == b)) <;> simp
      · rw [if_neg h2]
        have : (decide (65 ≤ c.toNat) && decide (c.toNat ≤ 90)) = false := by simp; omega
        rw [this]
        by_cases h5 : c = 0
        · have : ((c.toNat : Int) == 0) = true := by rw [beq_iff_eq]; exact e0.2 h5
          rw [this, h5]
          simp
        · have h0 : ((c.toNat : Int) == 0) = false := by rw [beq_eq_false_iff_ne]; exact fun h => h5 (e0.1 h)
          rw [h0, beq_eq_false_iff_ne.2 h5, if_neg (by decide)]
          rw [show ((0 : Int)) = ((0 : Nat) : Int) from rfl, hl1]
          cases h4 : b.data.toList.all (fun b => !(c == b)) <;> simp
/-- A text that may be a name: its bytes are, and it has some. -/
def okS (but : List UInt8) (l : List UInt8) : Bool := l.all (okB but) && l != []
theorem plain_is (s b : ByteArray) (hn : s.size ≤ 140737488351232) (hb : b.size ≤ 6) (k : Nat) (hk : s.size * 9 < k) : names_plain.f k s b = some (okS b.data.toList s.data.toList) := by
  unfold names_plain.f
  have hs := size_len s
  rw [show ((0 : Int)) = ((0 : Nat) : Int) from rfl, plain_l0 s b hn hb s.data.toList.length k 0 (by omega) (by omega), List.drop_zero, ByteArray.toList_eq]
  rfl
def okAttr (l : List UInt8) : Bool := okS [47, 62, 34, 39, 60, 61] l
def okRight (l : List UInt8) : Bool := okS [47, 62] l && (decide (97 ≤ (l.headD 0).toNat) && decide ((l.headD 0).toNat ≤ 122))
theorem attr_is (s : ByteArray) (hn : s.size ≤ 140737488351232) (k : Nat) (hk : s.size * 9 < k) : names_Attr.f k s = some (okAttr s.data.toList) := by
  unfold names_Attr.f
  rw [plain_is s _ hn (by decide) k hk]
  rfl
theorem letter_is (c : UInt8) (h : okB [47, 62] c = true) : fold_Letter.f (c.toNat : Int) = some (decide (97 ≤ c.toNat) && decide (c.toNat ≤ 122)) := by
  unfold fold_Letter.f
  have hg : ¬ (65 ≤ c.toNat ∧ c.toNat ≤ 90) := by
    intro hg
    have : (decide (65 ≤ c.toNat) && decide (c.toNat ≤ 90)) = true := by simp; omega
    simp [okB, this] at h
  by_cases h1 : (c.toNat : Int) ≥ 97
  · rw [if_pos h1]
    by_cases h2 : (c.toNat : Int) ≤ 122
    · rw [if_pos h2]
      have : (decide (97 ≤ c.toNat) && decide (c.toNat ≤ 122)) = true := by simp; omega
      rw [this]
    · rw [if_neg h2, if_pos (by omega)]
      have : (decide (97 ≤ c.toNat) && decide (c.toNat ≤ 122)) = false := by simp; omega
      rw [this, decide_eq_false (by omega)]
  · rw [if_neg h1]
    have : (decide (97 ≤ c.toNat) && decide (c.toNat ≤ 122)) = false := by simp; omega
    rw [this]
    by_cases h2 : (c.toNat : Int) ≥ 65
    · rw [if_pos h2, decide_eq_false (by omega)]
    · rw [if_neg h2]
theorem right_is (s : ByteArray) (hn : s.size ≤ 140737488351232) (k : Nat) (hk : s.size * 9 < k) : names_Right.f k s = some (okRight s.data.toList) := by
  unfold names_Right.f
  have hs := size_len s
  rw [plain_is s _ hn (by decide) k hk]
  simp only [Option.bind_some]
  show (if okS [47, 62] s.data.toList = true then _ else _) = _
  unfold okRight
  cases h : okS [47, 62] s.data.toList with
  | false => simp
  | true =>
    rw [if_pos rfl]
    simp only [okS, Bool.and_eq_true] at h
    cases hl : s.data.toList with
    | nil => rw [hl] at h; simp at h
    | cons c l =>
      rw [hl] at h
      have hlen : 0 < s.data.toList.length := by rw [hl]; simp
      rw [if_pos (by omega), show ((0 : Int)) = ((0 : Nat) : Int) from rfl, bt_get s 0 hlen]
      have hc : s.data.toList[0] = c := by simp [hl]
      rw [hc, letter_is c (by have := h.1; simp at this; exact this.1)]
      rfl

/-- Every name that some list has. -/
def known : List ByteArray := [(⟨#[97, 114, 101, 97]⟩ : ByteArray), (⟨#[98, 97, 115, 101]⟩ : ByteArray), (⟨#[98, 114]⟩ : ByteArray), (⟨#[99, 111, 108]⟩ : ByteArray), (⟨#[101, 109, 98, 101, 100]⟩ : ByteArray), (⟨#[104, 114]⟩ : ByteArray), (⟨#[105, 109, 103]⟩ : ByteArray), (⟨#[105, 110, 112, 117, 116]⟩ : ByteArray), (⟨#[108, 105, 110, 107]⟩ : ByteArray), (⟨#[109, 101, 116, 97]⟩ : ByteArray), (⟨#[112, 97, 114, 97, 109]⟩ : ByteArray), (⟨#[115, 111, 117, 114, 99, 101]⟩ : ByteArray), (⟨#[116, 114, 97, 99, 107]⟩ : ByteArray), (⟨#[119, 98, 114]⟩ : ByteArray), (⟨#[105, 102, 114, 97, 109, 101]⟩ : ByteArray), (⟨#[110, 111, 101, 109, 98, 101, 100]⟩ : ByteArray), (⟨#[110, 111, 102, 114, 97, 109, 101, 115]⟩ : ByteArray), (⟨#[115, 99, 114, 105, 112, 116]⟩ : ByteArray), (⟨#[115, 116, 121, 108, 101]⟩ : ByteArray), (⟨#[120, 109, 112]⟩ : ByteArray), (⟨#[116, 101, 120, 116, 97, 114, 101, 97]⟩ : ByteArray), (⟨#[116, 105, 116, 108, 101]⟩ : ByteArray), (⟨#[97, 100, 100, 114, 101, 115, 115]⟩ : ByteArray), (⟨#[97, 114, 116, 105, 99, 108, 101]⟩ : ByteArray), (⟨#[97, 115, 105, 100, 101]⟩ : ByteArray), (⟨#[98, 108, 111, 99, 107, 113, 117, 111, 116, 101]⟩ : ByteArray), (⟨#[99, 101, 110, 116, 101, 114]⟩ : ByteArray), (⟨#[100, 100]⟩ : ByteArray), (⟨#[100, 101, 116, 97, 105, 108, 115]⟩ : ByteArray), (⟨#[100, 105, 97, 108, 111, 103]⟩ : ByteArray), (⟨#[100, 105, 114]⟩ : ByteArray), (⟨#[100, 105, 118]⟩ : ByteArray), (⟨#[100, 108]⟩ : ByteArray), (⟨#[100, 116]⟩ : ByteArray), (⟨#[102, 105, 101, 108, 100, 115, 101, 116]⟩ : ByteArray), (⟨#[102, 105, 103, 99, 97, 112, 116, 105, 111, 110]⟩ : ByteArray), (⟨#[102, 105, 103, 117, 114, 101]⟩ : ByteArray), (⟨#[102, 111, 111, 116, 101, 114]⟩ : ByteArray), (⟨#[102, 111, 114, 109]⟩ : ByteArray), (⟨#[104, 49]⟩ : ByteArray), (⟨#[104, 50]⟩ : ByteArray), (⟨#[104, 51]⟩ : ByteArray), (⟨#[104, 52]⟩ : ByteArray), (⟨#[104, 53]⟩ : ByteArray), (⟨#[104, 54]⟩ : ByteArray), (⟨#[104, 101, 97, 100, 101, 114]⟩ : ByteArray), (⟨#[104, 103, 114, 111, 117, 112]⟩ : ByteArray), (⟨#[108, 105]⟩ : ByteArray), (⟨#[109, 97, 105, 110]⟩ : ByteArray), (⟨#[109, 101, 110, 117]⟩ : ByteArray), (⟨#[110, 97, 118]⟩ : ByteArray), (⟨#[111, 108]⟩ : ByteArray), (⟨#[112]⟩ : ByteArray), (⟨#[112, 114, 101]⟩ : ByteArray), (⟨#[115, 101, 99, 116, 105, 111, 110]⟩ : ByteArray), (⟨#[115, 117, 109, 109, 97, 114, 121]⟩ : ByteArray), (⟨#[116, 97, 98, 108, 101]⟩ : ByteArray), (⟨#[117, 108]⟩ : ByteArray), (⟨#[98, 111, 100, 121]⟩ : ByteArray), (⟨#[102, 114, 97, 109, 101, 115, 101, 116]⟩ : ByteArray), (⟨#[104, 101, 97, 100]⟩ : ByteArray), (⟨#[104, 116, 109, 108]⟩ : ByteArray), (⟨#[111, 112, 116, 105, 111, 110]⟩ : ByteArray), (⟨#[111, 112, 116, 103, 114, 111, 117, 112]⟩ : ByteArray), (⟨#[116, 114]⟩ : ByteArray), (⟨#[116, 100]⟩ : ByteArray), (⟨#[116, 104]⟩ : ByteArray), (⟨#[116, 98, 111, 100, 121]⟩ : ByteArray), (⟨#[116, 102, 111, 111, 116]⟩ : ByteArray), (⟨#[116, 104, 101, 97, 100]⟩ : ByteArray)]
theorem ext_toList {a b : ByteArray} (h : b.toList = a.toList) : a = b := by
  rw [ByteArray.toList_eq, ByteArray.toList_eq] at h
  cases a with | mk x => cases b with | mk y =>
    congr 1
    exact (Array.toList_inj.1 h).symm
theorem known_or (a : ByteArray) : a ∈ known ∨ isIn a known = false := by
  cases h : isIn a known with
  | false => exact .inr rfl
  | true =>
    obtain ⟨b, hb, e⟩ := List.any_eq_true.1 h
    exact .inl (ext_toList (beq_iff_eq.1 e) ▸ hb)
theorem not_in {a : ByteArray} (h : isIn a known = false) (l : List ByteArray) (hl : (l.all fun b => isIn b known) = true) : isIn a l = false := by
  cases h2 : isIn a l with
  | false => rfl
  | true =>
    obtain ⟨b, hb, e⟩ := List.any_eq_true.1 h2
    have := List.all_eq_true.1 hl b hb
    rw [← ext_toList (beq_iff_eq.1 e), h] at this
    exact this.symm
theorem not_is {a : ByteArray} (h : isIn a known = false) (l : List UInt8) (hl : isIn ⟨l.toArray⟩ known = true) : a.toList ≠ l := by
  intro e
  have : a = (⟨l.toArray⟩ : ByteArray) := ext_toList (by rw [e, ByteArray.toList_eq])
  rw [this, hl] at h
  exact absurd h (by decide)

theorem void_is (a : ByteArray) (h : isIn a known = false) (k : Nat) (hk : 100 ≤ k) : names_Void.f k a = some false := by
  unfold names_Void.f
  rw [among_is a _ (by decide) k hk, not_in h _ (by decide +kernel)]; rfl
theorem raw_is (a : ByteArray) (h : isIn a known = false) (k : Nat) (hk : 100 ≤ k) : names_Raw.f k a = some false := by
  unfold names_Raw.f
  rw [among_is a _ (by decide) k hk, not_in h _ (by decide +kernel)]; rfl
theorem soft_is (a : ByteArray) (h : isIn a known = false) (k : Nat) (hk : 100 ≤ k) : names_Soft.f k a = some false := by
  unfold names_Soft.f
  rw [among_is a _ (by decide) k hk, not_in h _ (by decide +kernel)]; rfl
theorem block_is (a : ByteArray) (h : isIn a known = false) (k : Nat) (hk : 100 ≤ k) : names_Block.f k a = some false := by
  unfold names_Block.f
  rw [among_is a _ (by decide) k hk, not_in h _ (by decide +kernel)]; rfl
theorem gone_is (a : ByteArray) (h : isIn a known = false) (k : Nat) (hk : 100 ≤ k) : names_Gone.f k a = some false := by
  unfold names_Gone.f
  rw [among_is a _ (by decide) k hk, not_in h _ (by decide +kernel)]; rfl
theorem table_is (a : ByteArray) (h : isIn a known = false) (k : Nat) (hk : 100 ≤ k) : names_table.f k a = some false := by
  unfold names_table.f
  rw [among_is a _ (by decide) k hk, not_in h _ (by decide +kernel)]; rfl
theorem closes_is (a : ByteArray) (h : isIn a known = false) (k : Nat) (hk : 101 ≤ k) : names_Closes.f k a = some [] := by
  unfold names_Closes.f
  obtain ⟨k, rfl⟩ : ∃ m, k = m + 1 := ⟨k - 1, by omega⟩
  simp only [names_Closes.j0]
  rw [if_neg (not_is h _ (by decide +kernel)), beq_eq_false_iff_ne.2 (not_is h _ (by decide +kernel)), if_neg (by decide),
    if_neg (not_is h _ (by decide +kernel)), if_neg (not_is h _ (by decide +kernel)), if_neg (not_is h _ (by decide +kernel)), if_neg (not_is h _ (by decide +kernel)), if_neg (not_is h _ (by decide +kernel)), if_neg (not_is h _ (by decide +kernel)),
    table_is a h k (by omega), block_is a h k (by omega)]
  rfl
def walls0 : List ByteArray := [(⟨#[98, 117, 116, 116, 111, 110]⟩ : ByteArray), (⟨#[99, 97, 112, 116, 105, 111, 110]⟩ : ByteArray), (⟨#[116, 97, 98, 108, 101]⟩ : ByteArray), (⟨#[116, 100]⟩ : ByteArray), (⟨#[116, 101, 109, 112, 108, 97, 116, 101]⟩ : ByteArray), (⟨#[116, 104]⟩ : ByteArray)]
theorem walls_is (a : ByteArray) (h : isIn a known = false) (k : Nat) (hk : 101 ≤ k) : names_Walls.f k a = some walls0 := by
  unfold names_Walls.f
  rw [if_neg (not_is h _ (by decide +kernel)), among_is a _ (by decide) k (by omega), not_in h _ (by decide +kernel), among_is a _ (by decide) k (by omega), not_in h _ (by decide +kernel), table_is a h k (by omega)]
  rfl

theorem self_known : (known.all fun b => boltinglaw05_NamesSelf.f 300 b == some true) = true := by decide +kernel
theorem okB_great (but : List UInt8) (c : UInt8) (h1 : 65 ≤ c.toNat) (h2 : c.toNat ≤ 90) : okB but c = false := by
  have : (decide (65 ≤ c.toNat) && decide (c.toNat ≤ 90)) = true := by simp; omega
  simp [okB, this]
theorem okS_great (but l : List UInt8) (i : Nat) (hi : i < l.length) (h1 : 65 ≤ l[i].toNat) (h2 : l[i].toNat ≤ 90) : okS but l = false := by
  cases h : okS but l with
  | false => rfl
  | true =>
    simp only [okS, Bool.and_eq_true] at h
    have := List.all_eq_true.1 h.1 l[i] (List.getElem_mem hi)
    rw [okB_great but _ h1 h2] at this
    exact this.symm
theorem has_w : boltingref02_Has.f 100 walls0 (⟨#[116, 101, 109, 112, 108, 97, 116, 101]⟩ : ByteArray) = some true := by decide +kernel
theorem self_l1 (a : ByteArray) (ha : a.size ≤ 140737488351232) (h : isIn a known = false) (d : Nat) : ∀ (k i : Nat), i + d = a.data.toList.length → a.size * 9 + 200 + d < k →
    boltinglaw05_NamesSelf.l1 k a walls0 (i : Int) = some true := by
  have hs := size_len a
  induction d with
  | zero =>
    intro k i hi hk
    obtain ⟨k, rfl⟩ : ∃ m, k = m + 1 := ⟨k - 1, by omega⟩
    simp only [boltinglaw05_NamesSelf.l1]
    rw [if_neg (by omega), at_rounds (boltingref02_Has.mono _ _) (show 100 ≤ k by omega) has_w, fixed_is k (by omega)]
    rfl
  | succ d ih =>
    intro k i hi hk
    obtain ⟨k, rfl⟩ : ∃ m, k = m + 1 := ⟨k - 1, by omega⟩
    simp only [boltinglaw05_NamesSelf.l1]
    have hi' : i < a.data.toList.length := by omega
    rw [if_pos (by omega), if_pos (by omega), bt_get a i hi', wrap1 (by omega), ih k (i + 1) (by omega) (by omega)]
    by_cases h1 : ((a.data.toList[i]).toNat : Int) ≥ 65
    · rw [if_pos h1]
      by_cases h2 : ((a.data.toList[i]).toNat : Int) ≤ 90
      · rw [if_pos h2, void_is a h k (by omega), raw_is a h k (by omega), soft_is a h k (by omega), block_is a h k (by omega), gone_is a h k (by omega), right_is a ha k (by omega), attr_is a ha k (by omega)]
        have e1 : okRight a.data.toList = false := by unfold okRight; rw [okS_great _ _ i hi' (by omega) (by omega)]; rfl
        have e2 : okAttr a.data.toList = false := okS_great _ _ i hi' (by omega) (by omega)
        rw [e1, e2]
        rfl
      · rw [if_neg h2]
    · rw [if_neg h1]
theorem NamesSelf : boltinglaw05_NamesSelf.Pure := by
  intro a ha
  rcases known_or a with h | h
  · exact ⟨300, beq_iff_eq.1 (List.all_eq_true.1 self_known a h)⟩
  · refine ⟨a.size * 10 + 300, ?_⟩
    unfold boltinglaw05_NamesSelf.f
    rw [closes_is a h _ (by omega), walls_is a h _ (by omega)]
    simp only [Option.bind_some]
    obtain ⟨k, hk⟩ : ∃ m, a.size * 10 + 300 = m + 1 := ⟨a.size * 10 + 299, by omega⟩
    rw [hk]
    simp only [boltinglaw05_NamesSelf.l0]
    rw [if_neg (by decide)]
    have hs := size_len a
    exact self_l1 a ha h a.data.toList.length k 0 (by omega) (by omega)

end Go.Proofs.Ytacffcdjgjiemaa.Pure
