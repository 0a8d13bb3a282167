/- Two texts that may be attributes' names make one together; cut, the first part of a name is one, if it is not empty: for all texts, each cut to 200 bytes. -/
import Derived.Test.YtacffcdjgjiemaaQAx8
namespace Go.Proofs.Ytacffcdjgjiemaa.Pure
open Go.RowKit Go.Proofs.Ytacffcdjgjiemaa.QA Go.Proofs.YtacffcdjgjiemaaW.PrintWords Go.Proofs.YtacffcdjgjiemaaW.PrintLast Go.Proofs.YtacffcdjgjiemaaW.PrintMore

/-! Plain facts about the printed functions: no Go, no memory. -/
theorem wrap1 {i : Nat} (h : i < 4611686018427387904) : wrap64 ((i : Int) + 1) = ((i + 1 : Nat) : Int) := by
  unfold wrap64
  omega
theorem rdOf_at (l : List ByteArray) (i : Nat) (h : i < l.length) : rdOf ByteArray.empty l (i : Int) = l[i] := by
  simp [rdOf, List.getElem?_eq_getElem h]
def isIn (a : ByteArray) (l : List ByteArray) : Bool := l.any fun b => b.toList == a.toList
theorem isIn_cons (a b : ByteArray) (l : List ByteArray) : isIn a (b :: l) = (b.toList == a.toList || isIn a l) := rfl
theorem among_l0 (a : ByteArray) (l : List ByteArray) (hl : l.length < 4611686018427387904) (d : Nat) : ∀ (k i : Nat), i + d = l.length → d < k →
    names_among.l0 k a l (l.length : Int) (i : Int) = some (isIn a (l.drop i)) := by
  induction d with
  | zero =>
    intro k i hi hk
    obtain ⟨k, rfl⟩ : ∃ m, k = m + 1 := ⟨k - 1, by omega⟩
    simp only [names_among.l0]
    rw [if_neg (by omega), List.drop_of_length_le (by omega)]
    rfl
  | succ d ih =>
    intro k i hi hk
    obtain ⟨k, rfl⟩ : ∃ m, k = m + 1 := ⟨k - 1, by omega⟩
    simp only [names_among.l0]
    rw [if_pos (by omega), if_pos (by omega), if_pos (by omega), wrap1 (by omega), ih k (i + 1) (by omega) (by omega), rdOf_at l i (by omega), List.drop_eq_getElem_cons (show i < l.length by omega), isIn_cons]
    by_cases h : (l[i]'(by omega)).toList = a.toList
    · rw [if_pos h, h]
      simp
    · rw [if_neg h, beq_eq_false_iff_ne.2 h, Bool.false_or]
theorem among_is (a : ByteArray) (l : List ByteArray) (hl : l.length ≤ 60) (k : Nat) (hk : 100 ≤ k) : names_among.f k a l = some (isIn a l) := by
  unfold names_among.f
  exact among_l0 a l (by omega) l.length k 0 (by omega) (by omega)

theorem fixed_100 : boltinglaw05_fixed.f 100 = some true := by decide +kernel
theorem fixed_is (k : Nat) (hk : 100 ≤ k) : boltinglaw05_fixed.f k = some true := at_rounds boltinglaw05_fixed.mono hk fixed_100

/-- What a byte of a name must be: no space, no great letter, no 0, none of some. -/
def okB (but : List UInt8) (c : UInt8) : Bool :=
  !(c == 32 || c == 9 || c == 10 || c == 12 || c == 13 || (decide (65 ≤ c.toNat) && decide (c.toNat ≤ 90)) || c == 0) && but.all fun b => !(c == b)
theorem bt_get (s : ByteArray) (i : Nat) (h : i < s.data.toList.length) : bt s (i : Int) = ((s.data.toList[i]).toNat : Int) := by
  have h' : i < s.size := by simpa using h
  rw [← bt_at s (i : Int) h']
  rfl
theorem size_len (s : ByteArray) : s.size = s.data.toList.length := by simp
theorem u8_eq (a b : UInt8) : ((a.toNat : Int) = (b.toNat : Int)) ↔ a = b := by
  rw [Int.ofNat_inj, UInt8.toNat_inj]
theorem u8_zero (c : UInt8) : ((c.toNat : Int) = 0) ↔ c = 0 := u8_eq c 0
theorem space_all : ∀ n : Nat, n < 256 → fold_Space.f (n : Int) = some (UInt8.ofNat n == 32 || UInt8.ofNat n == 9 || UInt8.ofNat n == 10 || UInt8.ofNat n == 12 || UInt8.ofNat n == 13) := by decide +kernel
theorem space_is (c : UInt8) : fold_Space.f (c.toNat : Int) = some (c == 32 || c == 9 || c == 10 || c == 12 || c == 13) := by
  have h := space_all c.toNat c.toNat_lt
  rw [UInt8.ofNat_toNat] at h
  exact h
theorem plain_l1 (s b : ByteArray) (hb : b.size < 100) (i : Nat) (hi : i < s.data.toList.length) (n : Int) (d : Nat) : ∀ (k j : Nat), j + d = b.data.toList.length → d < k →
    names_plain.l1 k s b (i : Int) n (i : Int) (b.size : Int) (j : Int) =
      if (b.data.toList.drop j).all (fun c => !(s.data.toList[i] == c)) then names_plain.l0 (k - d - 1) s b n (wrap64 ((i : Int) + 1)) else some false := by
  have hs := size_len s
  have hbs := size_len b
  induction d with
  | zero =>
    intro k j hj hk
    obtain ⟨k, rfl⟩ : ∃ m, k = m + 1 := ⟨k - 1, by omega⟩
    simp only [names_plain.l1]
    rw [if_neg (by omega), List.drop_of_length_le (by omega)]
    rfl
  | succ d ih =>
    intro k j hj hk
    obtain ⟨k, rfl⟩ : ∃ m, k = m + 1 := ⟨k - 1, by omega⟩
    simp only [names_plain.l1]
    rw [if_pos (by omega), if_pos (by omega), if_pos (by omega), if_pos (by omega), if_pos (by omega), wrap1 (by omega), ih k (j + 1) (by omega) (by omega), bt_get s i hi, bt_get b j (by omega), List.drop_eq_getElem_cons (show j < b.data.toList.length by omega), List.all_cons]
    rw [show k + 1 - (d + 1) - 1 = k - d - 1 by omega]
    by_cases h : s.data.toList[i] = b.data.toList[j]'(by omega)
    · rw [if_pos (by rw [h]), beq_iff_eq.2 h]
      simp
    · rw [if_neg (fun h' => h ((u8_eq _ _).1 h')), beq_eq_false_iff_ne.2 h]
      simp
theorem plain_l0 (s b : ByteArray) (hn : s.size ≤ 140737488351232) (hb : b.size ≤ 6) (d : Nat) : ∀ (k i : Nat), i + d = s.data.toList.length → d * 9 < k →
    names_plain.l0 k s b (s.size : Int) (i : Int) = some ((s.data.toList.drop i).all (okB b.data.toList) && s.toList != []) := by
  have hs := size_len s
  have hbs := size_len b
  induction d with
  | zero =>
    intro k i hi hk
    obtain ⟨k, rfl⟩ : ∃ m, k = m + 1 := ⟨k - 1, by omega⟩
    simp only [names_plain.l0]
    rw [if_neg (by omega), List.drop_of_length_le (by omega)]
    rfl
  | succ d ih =>
    intro k i hi hk
    obtain ⟨k, rfl⟩ : ∃ m, k = m + 1 := ⟨k - 1, by omega⟩
    have hi' : i < s.data.toList.length := by omega
    simp only [names_plain.l0]
    rw [if_pos (by omega), if_pos (by omega), if_pos (by omega), bt_get s i hi', space_is, List.drop_eq_getElem_cons hi', List.all_cons]
    simp only [Option.bind_some]
    obtain ⟨c, hc⟩ : ∃ c, s.data.toList[i] = c := ⟨_, rfl⟩
    obtain ⟨k, rfl⟩ : ∃ m, k = m + 1 := ⟨k - 1, by omega⟩
    have hl1 := plain_l1 s b (by omega) i hi' (s.size : Int) b.data.toList.length k 0 (by omega) (by omega)
    rw [wrap1 (by omega), ih _ (i + 1) (by omega) (by omega), List.drop_zero] at hl1
    have e0 := u8_zero c
    have hok : okB b.data.toList c = (!((c == 32 || c == 9 || c == 10 || c == 12 || c == 13) || (decide (65 ≤ c.toNat) && decide (c.toNat ≤ 90)) || c == 0) && b.data.toList.all fun b => !(c == b)) := by
      simp only [okB, Bool.or_assoc]
    rw [hc] at hl1 ⊢
    rw [hok]
    simp only [names_plain.j1]
    by_cases h1 : (c == 32 || c == 9 || c == 10 || c == 12 || c == 13) = true
    · rw [if_pos h1, h1]
      simp
    · rw [if_neg h1, Bool.eq_false_iff.2 h1]
      by_cases h2 : (c.toNat : Int) ≥ 65
      · rw [if_pos h2]
        by_cases h3 : (c.toNat : Int) ≤ 90
        · rw [if_pos h3]
          have : (decide (65 ≤ c.toNat) && decide (c.toNat ≤ 90)) = true := by simp; omega
          rw [this]
          simp
        · rw [if_neg h3]
          have : (decide (65 ≤ c.toNat) && decide (c.toNat ≤ 90)) = false := by simp; omega
          rw [this]
          have h0 : ((c.toNat : Int) == 0) = false := by rw [beq_eq_false_iff_ne]; omega
          have h0' : (c == 0) = false := by rw [beq_eq_false_iff_ne]; intro e; subst e; simp at h2
          rw [h0, h0', if_neg (by decide)]
          rw [show ((0 : Int)) = ((0 : Nat) : Int) from rfl, hl1]
          cases h4 : b.data.toList.all (fun b => !(c == b)) <;> simp
      · rw [if_neg h2]
        have : (decide (65 ≤ c.toNat) && decide (c.toNat ≤ 90)) = false := by simp; omega
        rw [this]
        by_cases h5 : c = 0
        · have : ((c.toNat : Int) == 0) = true := by rw [beq_iff_eq]; exact e0.2 h5
          rw [this, h5]
          simp
        · have h0 : ((c.toNat : Int) == 0) = false := by rw [beq_eq_false_iff_ne]; exact fun h => h5 (e0.1 h)
          rw [h0, beq_eq_false_iff_ne.2 h5, if_neg (by decide)]
          rw [show ((0 : Int)) = ((0 : Nat) : Int) from rfl, hl1]
          cases h4 : b.data.toList.all (fun b => !(c == b)) <;> simp
/-- A text that may be a name: its bytes are, and it has some. -/
def okS (but : List UInt8) (l : List UInt8) : Bool := l.all (okB but) && l != []
theorem plain_is (s b : ByteArray) (hn : s.size ≤ 140737488351232) (hb : b.size ≤ 6) (k : Nat) (hk : s.size * 9 < k) : names_plain.f k s b = some (okS b.data.toList s.data.toList) := by
  unfold names_plain.f
  have hs := size_len s
  rw [show ((0 : Int)) = ((0 : Nat) : Int) from rfl, plain_l0 s b hn hb s.data.toList.length k 0 (by omega) (by omega), List.drop_zero, ByteArray.toList_eq]
  rfl
def okAttr (l : List UInt8) : Bool := okS [47, 62, 34, 39, 60, 61] l
def okRight (l : List UInt8) : Bool := okS [47, 62] l && (decide (97 ≤ (l.headD 0).toNat) && decide ((l.headD 0).toNat ≤ 122))
theorem attr_is (s : ByteArray) (hn : s.size ≤ 140737488351232) (k : Nat) (hk : s.size * 9 < k) : names_Attr.f k s = some (okAttr s.data.toList) := by
  unfold names_Attr.f
  rw [plain_is s _ hn (by decide) k hk]
  rfl
theorem letter_is (c : UInt8) (h : okB [47, 62] c = true) : fold_Letter.f (c.toNat : Int) = some (decide (97 ≤ c.toNat) && decide (c.toNat ≤ 122)) := by
  unfold fold_Letter.f
  have hg : ¬ (65 ≤ c.toNat ∧ c.toNat ≤ 90) := by
    intro hg
    have : (decide (65 ≤ c.toNat) && decide (c.toNat ≤ 90)) = true := by simp; omega
    simp [okB, this] at h
  by_cases h1 : (c.toNat : Int) ≥ 97
  · rw [if_pos h1]
    by_cases h2 : (c.toNat : Int) ≤ 122
    · rw [if_pos h2]
      have : (decide (97 ≤ c.toNat) && decide (c.toNat ≤ 122)) = true := by simp; omega
      rw [this]
    · rw [if_neg h2, if_pos (by omega)]
      have : (decide (97 ≤ c.toNat) && decide (c.toNat ≤ 122)) = false := by simp; omega
      rw [this, decide_eq_false (by omega)]
  · rw [if_neg h1]
    have : (decide (97 ≤ c.toNat) && decide (c.toNat ≤ 122)) = false := by simp; omega
    rw [this]
    by_cases h2 : (c.toNat : Int) ≥ 65
    · rw [if_pos h2, decide_eq_false (by omega)]
    · rw [if_neg h2]
theorem right_is (s : ByteArray) (hn : s.size ≤ 140737488351232) (k : Nat) (hk : s.size * 9 < k) : names_Right.f k s = some (okRight s.data.toList) := by
  unfold names_Right.f
  have hs := size_len s
  rw [plain_is s _ hn (by decide) k hk]
  simp only [Option.bind_some]
  show (if okS [47, 62] s.data.toList = true then _ else _) = _
  unfold okRight
  cases h : okS [47, 62] s.data.toList with
  | false => simp
  | true =>
    rw [if_pos rfl]
    simp only [okS, Bool.and_eq_true] at h
    cases hl : s.data.toList with
    | nil => rw [hl] at h; simp at h
    | cons c l =>
      rw [hl] at h
      have hlen : 0 < s.data.toList.length := by rw [hl]; simp
      rw [if_pos (by omega), show ((0 : Int)) = ((0 : Nat) : Int) from rfl, bt_get s 0 hlen]
      have hc : s.data.toList[0] = c := by simp [hl]
      rw [hc, letter_is c (by have := h.1; simp at this; exact this.1)]
      rfl

theorem ext_list (s : ByteArray) (a b : Nat) : (s.extract a b).data.toList = (s.data.toList.drop a).take (b - a) := by
  rw [ByteArray.data_extract, Array.toList_extract, List.extract_eq_take_drop]
theorem app_list (a b : ByteArray) : (a ++ b).data.toList = a.data.toList ++ b.data.toList := by
  rw [ByteArray.data_append, Array.toList_append]
theorem mn_cut (s : ByteArray) : ∃ s' : ByteArray, s'.size ≤ 200 ∧ s' = s.extract 0 ((mn (s.size : Int) 200) : Int).toNat ∧ 0 ≤ mn (s.size : Int) 200 ∧ mn (s.size : Int) 200 ≤ (s.size : Int) := by
  refine ⟨_, ?_, rfl, ?_, ?_⟩
  · rw [ByteArray.size_extract]; unfold mn; split <;> omega
  · unfold mn; split <;> omega
  · unfold mn; split <;> omega

theorem okB_of6 (c : UInt8) (h : okB [47, 62, 34, 39, 60, 61] c = true) : okB [47, 62] c = true := by
  simp [okB] at h ⊢
  simp_all
theorem wrap_small (n : Nat) (h : n < 9223372036854775808) : IntKind.i64.wrap (n : Int) = (n : Int) := by
  have e : (n : Int) % 2 ^ 64 = n := Int.emod_eq_of_lt (by omega) (by omega)
  simp only [IntKind.wrap, IntKind.bits, IntKind.signed, e]
  rw [if_neg]
  simp
  omega
theorem low_bits (x : Int) : 0 ≤ Go.bits .and .i64 x 65535 ∧ Go.bits .and .i64 x 65535 ≤ 65535 := by
  have hle : (BitVec.ofInt 64 x &&& BitVec.ofInt 64 65535).toNat ≤ 65535 := by
    rw [BitVec.toNat_and]
    exact Nat.le_trans Nat.and_le_right (by decide)
  have : Go.bits .and .i64 x 65535 = ((BitVec.ofInt 64 x &&& BitVec.ofInt 64 65535).toNat : Int) := by
    show IntKind.i64.wrap ((BitVec.ofInt 64 x &&& BitVec.ofInt 64 65535).toNat : Int) = _
    exact wrap_small _ (by omega)
  rw [this]
  omega
theorem attr_app (a b : List UInt8) (ha : okAttr a = true) (hb : okAttr b = true) : okAttr (a ++ b) = true := by
  simp [okAttr, okS] at *
  grind
theorem right_app (a b : List UInt8) (ha : okRight a = true) (hb : okAttr b = true) : okRight (a ++ b) = true := by
  cases a with
  | nil => simp [okRight, okS] at ha
  | cons c l =>
    simp only [okAttr, okS, Bool.and_eq_true, List.all_eq_true] at hb
    simp only [okRight, okS, List.headD_cons, List.cons_append, Bool.and_eq_true, List.all_eq_true] at ha ⊢
    refine ⟨⟨fun x hx => ?_, by simp⟩, ha.2⟩
    rcases List.mem_cons.1 hx with h | h
    · exact ha.1.1 x (h ▸ List.mem_cons_self)
    · rcases List.mem_append.1 h with h | h
      · exact ha.1.1 x (List.mem_cons_of_mem _ h)
      · exact okB_of6 x (hb.1 x h)
theorem attr_take (a : List UInt8) (n : Nat) (hn : n ≠ 0) (ha : okAttr a = true) : okAttr (a.take n) = true := by
  obtain ⟨n, rfl⟩ : ∃ m, n = m + 1 := ⟨n - 1, by omega⟩
  cases a with
  | nil => simp [okAttr, okS] at ha
  | cons c l =>
    simp only [okAttr, okS, Bool.and_eq_true, List.all_eq_true, List.take_succ_cons] at ha ⊢
    refine ⟨fun x hx => ?_, by simp⟩
    rcases List.mem_cons.1 hx with h | h
    · exact ha.1 x (h ▸ List.mem_cons_self)
    · exact ha.1 x (List.mem_cons_of_mem _ (List.mem_of_mem_take h))
theorem right_take (a : List UInt8) (n : Nat) (hn : n ≠ 0) (ha : okRight a = true) : okRight (a.take n) = true := by
  obtain ⟨n, rfl⟩ : ∃ m, n = m + 1 := ⟨n - 1, by omega⟩
  cases a with
  | nil => simp [okRight, okS] at ha
  | cons c l =>
    simp only [okRight, okS, Bool.and_eq_true, List.all_eq_true, List.take_succ_cons, List.headD_cons] at ha ⊢
    refine ⟨⟨fun x hx => ?_, by simp⟩, ha.2⟩
    rcases List.mem_cons.1 hx with h | h
    · exact ha.1.1 x (h ▸ List.mem_cons_self)
    · exact ha.1.1 x (List.mem_cons_of_mem _ (List.mem_of_mem_take h))
theorem join_j0 (s : ByteArray) (hn : s.size ≤ 200) (c : Int) (h0 : 0 ≤ c) (h1 : c ≤ (s.size : Int)) (k : Nat) (hk : 4000 ≤ k) : boltinglaw05_NamesJoin.j0 (k + 1) s c false = some true := by
  have hcut : (s.extract 0 c.toNat).data.toList = s.data.toList.take c.toNat := by rw [ext_list, List.drop_zero, Nat.sub_zero]
  have hsz : (s.extract 0 c.toNat).size ≤ 200 := by rw [ByteArray.size_extract]; omega
  simp only [boltinglaw05_NamesJoin.j0]
  rw [right_is s (by omega) k (by omega), attr_is s (by omega) k (by omega), right_is _ (by omega) k (by omega), attr_is _ (by omega) k (by omega), fixed_is k (by omega), hcut, if_pos h0, if_pos h1]
  simp only [Option.bind_some]
  by_cases hc : c = 0
  · rw [if_pos hc]
    cases okRight s.data.toList <;> cases okAttr s.data.toList <;> simp [hc]
  · have hr := right_take s.data.toList c.toNat (by omega)
    have ha := attr_take s.data.toList c.toNat (by omega)
    rw [if_neg hc]
    cases h : okRight s.data.toList <;> cases h' : okAttr s.data.toList <;> simp [h, h'] at hr ha <;> simp [hr, ha, hc, h0, h1]
theorem NamesJoin : boltinglaw05_NamesJoin.Pure := by
  intro a b x ha hb hx
  refine ⟨4001, ?_⟩
  unfold boltinglaw05_NamesJoin.f
  obtain ⟨s, hn, hs, h0, h1⟩ := mn_cut a
  obtain ⟨t, hm, ht, g0, g1⟩ := mn_cut b
  rw [if_pos h0, if_pos h1, if_pos g0, if_pos g1, ← hs, ← ht]
  have hw : wrap64 ((s.size : Int) + 1) = ((s.size + 1 : Nat) : Int) := wrap1 (by omega)
  rw [hw, if_neg (by omega)]
  obtain ⟨l0, l1⟩ := low_bits x
  obtain ⟨y, hy⟩ : ∃ y : Nat, Go.bits .and .i64 x 65535 = (y : Int) := ⟨(Go.bits .and .i64 x 65535).toNat, by omega⟩
  have hc : Int.tmod (Go.bits .and .i64 x 65535) ((s.size + 1 : Nat) : Int) = ((y % (s.size + 1) : Nat) : Int) := by rw [hy]; rfl
  have hlt : y % (s.size + 1) < s.size + 1 := Nat.mod_lt _ (by omega)
  have hj := join_j0 s hn ((y % (s.size + 1) : Nat) : Int) (by omega) (by omega) 4000 (by omega)
  have hst : (s ++ t).size ≤ 400 := by rw [ByteArray.size_append]; omega
  rw [hc, attr_is s (by omega) _ (by omega), attr_is t (by omega) _ (by omega), right_is s (by omega) _ (by omega), attr_is (s ++ t) (by omega) _ (by omega), right_is (s ++ t) (by omega) _ (by omega), app_list, if_pos (show s.size + t.size ≤ 9223372036854775807 by omega)]
  simp only [Option.bind_some]
  obtain ⟨cc, hcc⟩ : ∃ cc : Int, ((y % (s.size + 1) : Nat) : Int) = cc := ⟨_, rfl⟩
  rw [hcc] at hj ⊢
  have hst2 : s.size + t.size ≤ 9223372036854775807 := by omega
  have haa := attr_app s.data.toList t.data.toList
  have hra := right_app s.data.toList t.data.toList
  cases h1 : okAttr s.data.toList <;> cases h2 : okAttr t.data.toList <;> cases h3 : okRight s.data.toList <;> simp [h1, h2, h3] at haa hra <;> simp [haa, hra, hj, hst2]

end Go.Proofs.Ytacffcdjgjiemaa.Pure
