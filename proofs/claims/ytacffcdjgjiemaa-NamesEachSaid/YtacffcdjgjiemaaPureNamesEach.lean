/- An attribute's name is one just if each of its bytes is; an element's, if it begins with a letter, just if each byte may stand in one: for every text, cut to 200 bytes. -/
import Derived.Test.YtacffcdjgjiemaaQAx10
namespace Go.Proofs.Ytacffcdjgjiemaa.Pure
open Go.RowKit Go.Proofs.Ytacffcdjgjiemaa.QA Go.Proofs.YtacffcdjgjiemaaW.PrintWords Go.Proofs.YtacffcdjgjiemaaW.PrintLast Go.Proofs.YtacffcdjgjiemaaW.PrintMore

/-! Plain facts about the printed functions: no Go, no memory. -/
theorem wrap1 {i : Nat} (h : i < 4611686018427387904) : wrap64 ((i : Int) + 1) = ((i + 1 : Nat) : Int) := by
  unfold wrap64
  omega
theorem rdOf_at (l : List ByteArray) (i : Nat) (h : i < l.length) : rdOf ByteArray.empty l (i : Int) = l[i] := by
  simp [rdOf, List.getElem?_eq_getElem h]
def isIn (a : ByteArray) (l : List ByteArray) : Bool := l.any fun b => b.toList == a.toList
theorem isIn_cons (a b : ByteArray) (l : List ByteArray) : isIn a (b :: l) = (b.toList == a.toList || isIn a l) := rfl
theorem among_l0 (a : ByteArray) (l : List ByteArray) (hl : l.length < 4611686018427387904) (d : Nat) : ∀ (k i : Nat), i + d = l.length → d < k →
    names_among.l0 k a l (l.length : Int) (i : Int) = some (isIn a (l.drop i)) := by
  induction d with
  | zero =>
    intro k i hi hk
    obtain ⟨k, rfl⟩ : ∃ m, k = m + 1 := ⟨k - 1, by omega⟩
    simp only [names_among.l0]
    rw [if_neg (by omega), List.drop_of_length_le (by omega)]
    rfl
  | succ d ih =>
    intro k i hi hk
    obtain ⟨k, rfl⟩ : ∃ m, k = m + 1 := ⟨k - 1, by omega⟩
    simp only [names_among.l0]
    rw [if_pos (by omega), if_pos (by omega), if_pos (by omega), wrap1 (by omega), ih k (i + 1) (by omega) (by omega), rdOf_at l i (by omega), List.drop_eq_getElem_cons (show i < l.length by omega), isIn_cons]
    by_cases h : (l[i]'(by omega)).toList = a.toList
    · rw [if_pos h, h]
      simp
    · rw [if_neg h, beq_eq_false_iff_ne.2 h, Bool.false_or]
theorem among_is (a : ByteArray) (l : List ByteArray) (hl : l.length ≤ 60) (k : Nat) (hk : 100 ≤ k) : names_among.f k a l = some (isIn a l) := by
  unfold names_among.f
  exact among_l0 a l (by omega) l.length k 0 (by omega) (by omega)

theorem fixed_100 : boltinglaw05_fixed.f 100 = some true := by decide +kernel
theorem fixed_is (k : Nat) (hk : 100 ≤ k) : boltinglaw05_fixed.f k = some true := at_rounds boltinglaw05_fixed.mono hk fixed_100

/-- What a byte of a name must be: no space, no great letter, no 0, none of some. -/
def okB (but : List UInt8) (c : UInt8) : Bool :=
  !(c == 32 || c == 9 || c == 10 || c == 12 || c == 13 || (decide (65 ≤ c.toNat) && decide (c.toNat ≤ 90)) || c == 0) && but.all fun b => !(c == b)
theorem bt_get (s : ByteArray) (i : Nat) (h : i < s.data.toList.length) : bt s (i : Int) = ((s.data.toList[i]).toNat : Int) := by
  have h' : i < s.size := by simpa using h
  rw [← bt_at s (i : Int) h']
  rfl
theorem size_len (s : ByteArray) : s.size = s.data.toList.length := by simp
theorem u8_eq (a b : UInt8) : ((a.toNat : Int) = (b.toNat : Int)) ↔ a = b := by
  rw [Int.ofNat_inj, UInt8.toNat_inj]
theorem u8_zero (c : UInt8) : ((c.toNat : Int) = 0) ↔ c = 0 := u8_eq c 0
theorem space_all : ∀ n : Nat, n < 256 → fold_Space.f (n : Int) = some (UInt8.ofNat n == 32 || UInt8.ofNat n == 9 || UInt8.ofNat n == 10 || UInt8.ofNat n == 12 || UInt8.ofNat n == 13) := by decide +kernel
theorem space_is (c : UInt8) : fold_Space.f (c.toNat : Int) = some (c == 32 || c == 9 || c == 10 || c == 12 || c == 13) := by
  have h := space_all c.toNat c.toNat_lt
  rw [UInt8.ofNat_toNat] at h
  exact h
theorem plain_l1 (s b : ByteArray) (hb : b.size < 100) (i : Nat) (hi : i < s.data.toList.length) (n : Int) (d : Nat) : ∀ (k j : Nat), j + d = b.data.toList.length → d < k →
    names_plain.l1 k s b (i : Int) n (i : Int) (b.size : Int) (j : Int) =
      if (b.data.toList.drop j).all (fun c => !(s.data.toList[i] == c)) then names_plain.l0 (k - d - 1) s b n (wrap64 ((i : Int) + 1)) else some false := by
  have hs := size_len s
  have hbs := size_len b
  induction d with
  | zero =>
    intro k j hj hk
    obtain ⟨k, rfl⟩ : ∃ m, k = m + 1 := ⟨k - 1, by omega⟩
    simp only [names_plain.l1]
    rw [if_neg (by omega), List.drop_of_length_le (by omega)]
    rfl
  | succ d ih =>
    intro k j hj hk
    obtain ⟨k, rfl⟩ : ∃ m, k = m + 1 := ⟨k - 1, by omega⟩
    simp only [names_plain.l1]
    rw [if_pos (by omega), if_pos (by omega), if_pos (by omega), if_pos (by omega), if_pos (by omega), wrap1 (by omega), ih k (j + 1) (by omega) (by omega), bt_get s i hi, bt_get b j (by omega), List.drop_eq_getElem_cons (show j < b.data.toList.length by omega), List.all_cons]
    rw [show k + 1 - (d + 1) - 1 = k - d - 1 by omega]
    by_cases h : s.data.toList[i] = b.data.toList[j]'(by omega)
    · rw [if_pos (by rw [h]), beq_iff_eq.2 h]
      simp
    · rw [if_neg (fun h' => h ((u8_eq _ _).1 h')), beq_eq_false_iff_ne.2 h]
      simp
theorem plain_l0 (s b : ByteArray) (hn : s.size ≤ 140737488351232) (hb : b.size ≤ 6) (d : Nat) : ∀ (k i : Nat), i + d = s.data.toList.length → d * 9 < k →
    names_plain.l0 k s b (s.size : Int) (i : Int) = some ((s.data.toList.drop i).all (okB b.data.toList) && s.toList != []) := by
  have hs := size_len s
  have hbs := size_len b
  induction d with
  | zero =>
    intro k i hi hk
    obtain ⟨k, rfl⟩ : ∃ m, k = m + 1 := ⟨k - 1, by omega⟩
    simp only [names_plain.l0]
    rw [if_neg (by omega), List.drop_of_length_le (by omega)]
    rfl
  | succ d ih =>
    intro k i hi hk
    obtain ⟨k, rfl⟩ : ∃ m, k = m + 1 := ⟨k - 1, by omega⟩
    have hi' : i < s.data.toList.length := by omega
    simp only [names_plain.l0]
    rw [if_pos (by omega), if_pos (by omega), if_pos (by omega), bt_get s i hi', space_is, List.drop_eq_getElem_cons hi', List.all_cons]
    simp only [Option.bind_some]
    obtain ⟨c, hc⟩ : ∃ c, s.data.toList[i] = c := ⟨_, rfl⟩
    obtain ⟨k, rfl⟩ : ∃ m, k = m + 1 := ⟨k - 1, by omega⟩
    have hl1 := plain_l1 s b (by omega) i hi' (s.size : Int) b.data.toList.length k 0 (by omega) (by omega)
    rw [wrap1 (by omega), ih _ (i + 1) (by omega) (by omega), List.drop_zero] at hl1
    have e0 := u8_zero c
    have hok : okB b.data.toList c = (!((c == 32 || c == 9 || c == 10 || c == 12 || c == 13) || (decide (65 ≤ c.toNat) && decide (c.toNat ≤ 90)) || c == 0) && b.data.toList.all fun b => !(c == b)) := by
      simp only [okB, Bool.or_assoc]
    rw [hc] at hl1 ⊢
    rw [hok]
    simp only [names_plain.j1]
    by_cases h1 : (c == 32 || c == 9 || c == 10 || c == 12 || c == 13) = true
    · rw [if_pos h1, h1]
      simp
    · rw [if_neg h1, Bool.eq_false_iff.2 h1]
      by_cases h2 : (c.toNat : Int) ≥ 65
      · rw [if_pos h2]
        by_cases h3 : (c.toNat : Int) ≤ 90
        · rw [if_pos h3]
          have : (decide (65 ≤ c.toNat) && decide (c.toNat ≤ 90)) = true := by simp; omega
          rw [this]
          simp
        · rw [if_neg h3]
          have : (decide (65 ≤ c.toNat) && decide (c.toNat ≤ 90)) = false := by simp; omega
          rw [this]
          have h0 : ((c.toNat : Int) == 0) = false := by rw [beq_eq_false_iff_ne]; omega
          have h0' : (c == 0) = false := by rw [beq_eq_false_iff_ne]; intro e; subst e; simp at h2
          rw [h0, h0', if_neg (by decide)]
          rw [show ((0 : Int)) = ((0 : Nat) : Int) from rfl, hl1]
          cases h4 : b.data.toList.all (fun b => !(c == b)) <;> simp
      · rw [if_neg h2]
        have : (decide (65 ≤ c.toNat) && decide (c.toNat ≤ 90)) = false := by simp; omega
        rw [this]
        by_cases h5 : c = 0
        · have : ((c.toNat : Int) == 0) = true := by rw [beq_iff_eq]; exact e0.2 h5
          rw [this, h5]
          simp
        · have h0 : ((c.toNat : Int) == 0) = false := by rw [beq_eq_false_iff_ne]; exact fun h => h5 (e0.1 h)
          rw [h0, beq_eq_false_iff_ne.2 h5, if_neg (by decide)]
          rw [show ((0 : Int)) = ((0 : Nat) : Int) from rfl, hl1]
          cases h4 : b.data.toList.all (fun b => !(c == b)) <;> simp
/-- A text that may be a name: its bytes are, and it has some. -/
def okS (but : List UInt8) (l : List UInt8) : Bool := l.all (okB but) && l != []
theorem plain_is (s b : ByteArray) (hn : s.size ≤ 140737488351232) (hb : b.size ≤ 6) (k : Nat) (hk : s.size * 9 < k) : names_plain.f k s b = some (okS b.data.toList s.data.toList) := by
  unfold names_plain.f
  have hs := size_len s
  rw [show ((0 : Int)) = ((0 : Nat) : Int) from rfl, plain_l0 s b hn hb s.data.toList.length k 0 (by omega) (by omega), List.drop_zero, ByteArray.toList_eq]
  rfl
def okAttr (l : List UInt8) : Bool := okS [47, 62, 34, 39, 60, 61] l
def okRight (l : List UInt8) : Bool := okS [47, 62] l && (decide (97 ≤ (l.headD 0).toNat) && decide ((l.headD 0).toNat ≤ 122))
theorem attr_is (s : ByteArray) (hn : s.size ≤ 140737488351232) (k : Nat) (hk : s.size * 9 < k) : names_Attr.f k s = some (okAttr s.data.toList) := by
  unfold names_Attr.f
  rw [plain_is s _ hn (by decide) k hk]
  rfl
theorem letter_is (c : UInt8) (h : okB [47, 62] c = true) : fold_Letter.f (c.toNat : Int) = some (decide (97 ≤ c.toNat) && decide (c.toNat ≤ 122)) := by
  unfold fold_Letter.f
  have hg : ¬ (65 ≤ c.toNat ∧ c.toNat ≤ 90) := by
    intro hg
    have : (decide (65 ≤ c.toNat) && decide (c.toNat ≤ 90)) = true := by simp; omega
    simp [okB, this] at h
  by_cases h1 : (c.toNat : Int) ≥ 97
  · rw [if_pos h1]
    by_cases h2 : (c.toNat : Int) ≤ 122
    · rw [if_pos h2]
      have : (decide (97 ≤ c.toNat) && decide (c.toNat ≤ 122)) = true := by simp; omega
      rw [this]
    · rw [if_neg h2, if_pos (by omega)]
      have : (decide (97 ≤ c.toNat) && decide (c.toNat ≤ 122)) = false := by simp; omega
      rw [this, decide_eq_false (by omega)]
  · rw [if_neg h1]
    have : (decide (97 ≤ c.toNat) && decide (c.toNat ≤ 122)) = false := by simp; omega
    rw [this]
    by_cases h2 : (c.toNat : Int) ≥ 65
    · rw [if_pos h2, decide_eq_false (by omega)]
    · rw [if_neg h2]
theorem right_is (s : ByteArray) (hn : s.size ≤ 140737488351232) (k : Nat) (hk : s.size * 9 < k) : names_Right.f k s = some (okRight s.data.toList) := by
  unfold names_Right.f
  have hs := size_len s
  rw [plain_is s _ hn (by decide) k hk]
  simp only [Option.bind_some]
  show (if okS [47, 62] s.data.toList = true then _ else _) = _
  unfold okRight
  cases h : okS [47, 62] s.data.toList with
  | false => simp
  | true =>
    rw [if_pos rfl]
    simp only [okS, Bool.and_eq_true] at h
    cases hl : s.data.toList with
    | nil => rw [hl] at h; simp at h
    | cons c l =>
      rw [hl] at h
      have hlen : 0 < s.data.toList.length := by rw [hl]; simp
      rw [if_pos (by omega), show ((0 : Int)) = ((0 : Nat) : Int) from rfl, bt_get s 0 hlen]
      have hc : s.data.toList[0] = c := by simp [hl]
      rw [hc, letter_is c (by have := h.1; simp at this; exact this.1)]
      rfl

theorem ext_list (s : ByteArray) (a b : Nat) : (s.extract a b).data.toList = (s.data.toList.drop a).take (b - a) := by
  rw [ByteArray.data_extract, Array.toList_extract, List.extract_eq_take_drop]
theorem app_list (a b : ByteArray) : (a ++ b).data.toList = a.data.toList ++ b.data.toList := by
  rw [ByteArray.data_append, Array.toList_append]
theorem mn_cut (s : ByteArray) : ∃ s' : ByteArray, s'.size ≤ 200 ∧ s' = s.extract 0 ((mn (s.size : Int) 200) : Int).toNat ∧ 0 ≤ mn (s.size : Int) 200 ∧ mn (s.size : Int) 200 ≤ (s.size : Int) := by
  refine ⟨_, ?_, rfl, ?_, ?_⟩
  · rw [ByteArray.size_extract]; unfold mn; split <;> omega
  · unfold mn; split <;> omega
  · unfold mn; split <;> omega

theorem each_l0 (s : ByteArray) (hn : s.size ≤ 200) (d : Nat) : ∀ (k i : Nat) (x3 x4 : Bool), i + d = s.data.toList.length → d + 2000 < k →
    boltinglaw05_NamesEach.l0 k s x3 x4 (i : Int) = some ((okAttr s.data.toList == (x3 && (s.data.toList.drop i).all (okB [47, 62, 34, 39, 60, 61]))) && (okRight s.data.toList == (x4 && (s.data.toList.drop i).all (okB [47, 62])))) := by
  have hs := size_len s
  induction d with
  | zero =>
    intro k i x3 x4 hi hk
    obtain ⟨k, rfl⟩ : ∃ m, k = m + 1 := ⟨k - 1, by omega⟩
    simp only [boltinglaw05_NamesEach.l0]
    rw [if_neg (by omega), List.drop_of_length_le (by omega), attr_is s (by omega) k (by omega), right_is s (by omega) k (by omega), fixed_is k (by omega)]
    simp only [Option.bind_some, List.all_nil, Bool.and_true]
    cases h1 : (okAttr s.data.toList == x3) <;> cases h2 : (okRight s.data.toList == x4) <;> simp
  | succ d ih =>
    intro k i x3 x4 hi hk
    obtain ⟨k, rfl⟩ : ∃ m, k = m + 1 := ⟨k - 1, by omega⟩
    have hi' : i < s.data.toList.length := by omega
    obtain ⟨c, hc⟩ : ∃ c, s.data.toList[i] = c := ⟨_, rfl⟩
    have he : (s.extract i (i + 1)).data.toList = [c] := by
      rw [ext_list, List.drop_eq_getElem_cons hi', hc, Nat.add_sub_cancel_left]; rfl
    have hsz : (s.extract i (i + 1)).size = 1 := by rw [size_len, he]; rfl
    have hA : names_Attr.f k (s.extract i (i + 1)) = some (okB [47, 62, 34, 39, 60, 61] c) := by
      rw [attr_is _ (by omega) k (by omega), he]; simp [okAttr, okS]
    have hsz2 : ((⟨#[97]⟩ : ByteArray) ++ s.extract i (i + 1)).size = 2 := by rw [size_len, app_list, he]; rfl
    have hR : names_Right.f k ((⟨#[97]⟩ : ByteArray) ++ s.extract i (i + 1)) = some (okB [47, 62] c) := by
      rw [right_is _ (by omega) k (by omega), app_list, he]
      show some (okRight [97, c]) = _
      have h97 : okB [47, 62] 97 = true := by decide
      simp [okRight, okS, h97]
    have ht : ((i : Int)).toNat = i := by omega
    have hw : (wrap64 ((i : Int) + 1)).toNat = i + 1 := by rw [wrap1 (by omega)]; omega
    have hw0 : wrap64 ((i : Int) + 1) = ((i + 1 : Nat) : Int) := wrap1 (by omega)
    simp only [boltinglaw05_NamesEach.l0]
    rw [if_pos (by omega), ht, hw, hA, hR, hsz, if_pos (show (0 : Int) ≤ (i : Int) by omega), if_pos (show (i : Int) ≤ wrap64 ((i : Int) + 1) by rw [hw0]; omega), if_pos (show wrap64 ((i : Int) + 1) ≤ (s.size : Int) by rw [hw0]; omega), if_pos (show 1 + 1 ≤ 9223372036854775807 by omega), hw0]
    simp only [Option.bind_some]
    rw [ih k (i + 1) _ _ (by omega) (by omega), ih k (i + 1) _ _ (by omega) (by omega), ih k (i + 1) _ _ (by omega) (by omega), ih k (i + 1) _ _ (by omega) (by omega)]
    rw [List.drop_eq_getElem_cons hi', hc, List.all_cons, List.all_cons]
    have q0 : (0 : Int) ≤ ((i : Nat) : Int) := by omega
    have q3 : 1 + 1 ≤ 9223372036854775807 := by omega
    have q1 : ((i : Nat) : Int) ≤ ((i + 1 : Nat) : Int) := by omega
    have q2 : ((i + 1 : Nat) : Int) ≤ (s.size : Int) := by omega
    cases x3 <;> cases x4 <;> simp only [q0, q1, q2, q3, if_true, Bool.false_eq_true, if_false, Bool.true_and, Bool.false_and]
theorem each_f (s : ByteArray) (hn : s.size ≤ 200) (x3 x4 : Bool) (h3 : x3 = (s.data.toList != [])) (h4 : x4 = (decide (0 < s.data.toList.length) && (decide (97 ≤ (s.data.toList.headD 0).toNat) && decide ((s.data.toList.headD 0).toNat ≤ 122)))) :
    boltinglaw05_NamesEach.j0 3000 s x3 x4 = some true := by
  have hs := size_len s
  show boltinglaw05_NamesEach.l0 2999 s x3 x4 0 = _
  rw [show ((0 : Int)) = ((0 : Nat) : Int) from rfl, each_l0 s hn s.data.toList.length 2999 0 x3 x4 (by omega) (by omega), List.drop_zero, h3, h4]
  unfold okAttr okRight okS
  cases s.data.toList with
  | nil => simp
  | cons c l =>
    have hne : (c :: l != ([] : List UInt8)) = true := rfl
    simp [Bool.and_comm, hne]
theorem NamesEach : boltinglaw05_NamesEach.Pure := by
  intro a ha
  refine ⟨3000, ?_⟩
  unfold boltinglaw05_NamesEach.f
  obtain ⟨s, hn, hs, h0, h1⟩ := mn_cut a
  rw [if_pos h0, if_pos h1, ← hs]
  have hl := size_len s
  rw [ByteArray.toList_eq]
  by_cases hz : s.data.toList = []
  · rw [if_pos hz]
    refine each_f s hn _ _ rfl ?_
    rw [hz]; rfl
  · rw [if_neg hz]
    have hp : 0 < s.data.toList.length := List.length_pos_iff.2 hz
    have hb : bt s 0 = ((s.data.toList.headD 0).toNat : Int) := by
      rw [show ((0 : Int)) = ((0 : Nat) : Int) from rfl, bt_get s 0 hp]
      have hg : ∀ (l : List UInt8) (h : 0 < l.length), l[0] = l.headD 0 := by intro l h; cases l with | nil => simp at h | cons c l => rfl
      rw [hg]
    rw [if_pos (by omega), hb]
    by_cases h : ((s.data.toList.headD 0).toNat : Int) ≥ 97
    · rw [if_pos h]
      refine each_f s hn _ _ rfl ?_
      rw [decide_eq_true hp, decide_eq_true (show 97 ≤ (s.data.toList.headD 0).toNat by omega), Bool.true_and, Bool.true_and, Bool.eq_iff_iff, decide_eq_true_iff, decide_eq_true_iff]
      omega
    · rw [if_neg h]
      refine each_f s hn _ _ rfl ?_
      rw [decide_eq_false (show ¬ 97 ≤ (s.data.toList.headD 0).toNat by omega), Bool.false_and, Bool.and_false]

end Go.Proofs.Ytacffcdjgjiemaa.Pure
