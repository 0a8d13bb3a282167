/- No name is two of void, raw, soft and gone; each name in a list, closed, or ending a search may be an element's: for every text. -/
import Derived.Test.YtacffcdjgjiemaaQAx7
namespace Go.Proofs.Ytacffcdjgjiemaa.Pure
open Go.RowKit Go.Proofs.Ytacffcdjgjiemaa.QA Go.Proofs.YtacffcdjgjiemaaW.PrintWords Go.Proofs.YtacffcdjgjiemaaW.PrintLast Go.Proofs.YtacffcdjgjiemaaW.PrintMore

/-! Plain facts about the printed functions: no Go, no memory. -/
theorem wrap1 {i : Nat} (h : i < 4611686018427387904) : wrap64 ((i : Int) + 1) = ((i + 1 : Nat) : Int) := by
  unfold wrap64
  omega
theorem rdOf_at (l : List ByteArray) (i : Nat) (h : i < l.length) : rdOf ByteArray.empty l (i : Int) = l[i] := by
  simp [rdOf, List.getElem?_eq_getElem h]
def isIn (a : ByteArray) (l : List ByteArray) : Bool := l.any fun b => b.toList == a.toList
theorem isIn_cons (a b : ByteArray) (l : List ByteArray) : isIn a (b :: l) = (b.toList == a.toList || isIn a l) := rfl
theorem among_l0 (a : ByteArray) (l : List ByteArray) (hl : l.length < 4611686018427387904) (d : Nat) : ∀ (k i : Nat), i + d = l.length → d < k →
    names_among.l0 k a l (l.length : Int) (i : Int) = some (isIn a (l.drop i)) := by
  induction d with
  | zero =>
    intro k i hi hk
    obtain ⟨k, rfl⟩ : ∃ m, k = m + 1 := ⟨k - 1, by omega⟩
    simp only [names_among.l0]
    rw [if_neg (by omega), List.drop_of_length_le (by omega)]
    rfl
  | succ d ih =>
    intro k i hi hk
    obtain ⟨k, rfl⟩ : ∃ m, k = m + 1 := ⟨k - 1, by omega⟩
    simp only [names_among.l0]
    rw [if_pos (by omega), if_pos (by omega), if_pos (by omega), wrap1 (by omega), ih k (i + 1) (by omega) (by omega), rdOf_at l i (by omega), List.drop_eq_getElem_cons (show i < l.length by omega), isIn_cons]
    by_cases h : (l[i]'(by omega)).toList = a.toList
    · rw [if_pos h, h]
      simp
    · rw [if_neg h, beq_eq_false_iff_ne.2 h, Bool.false_or]
theorem among_is (a : ByteArray) (l : List ByteArray) (hl : l.length ≤ 60) (k : Nat) (hk : 100 ≤ k) : names_among.f k a l = some (isIn a l) := by
  unfold names_among.f
  exact among_l0 a l (by omega) l.length k 0 (by omega) (by omega)

theorem fixed_100 : boltinglaw05_fixed.f 100 = some true := by decide +kernel
theorem fixed_is (k : Nat) (hk : 100 ≤ k) : boltinglaw05_fixed.f k = some true := at_rounds boltinglaw05_fixed.mono hk fixed_100

/-- Every name that some list has. -/
def known : List ByteArray := [(⟨#[97, 114, 101, 97]⟩ : ByteArray), (⟨#[98, 97, 115, 101]⟩ : ByteArray), (⟨#[98, 114]⟩ : ByteArray), (⟨#[99, 111, 108]⟩ : ByteArray), (⟨#[101, 109, 98, 101, 100]⟩ : ByteArray), (⟨#[104, 114]⟩ : ByteArray), (⟨#[105, 109, 103]⟩ : ByteArray), (⟨#[105, 110, 112, 117, 116]⟩ : ByteArray), (⟨#[108, 105, 110, 107]⟩ : ByteArray), (⟨#[109, 101, 116, 97]⟩ : ByteArray), (⟨#[112, 97, 114, 97, 109]⟩ : ByteArray), (⟨#[115, 111, 117, 114, 99, 101]⟩ : ByteArray), (⟨#[116, 114, 97, 99, 107]⟩ : ByteArray), (⟨#[119, 98, 114]⟩ : ByteArray), (⟨#[105, 102, 114, 97, 109, 101]⟩ : ByteArray), (⟨#[110, 111, 101, 109, 98, 101, 100]⟩ : ByteArray), (⟨#[110, 111, 102, 114, 97, 109, 101, 115]⟩ : ByteArray), (⟨#[115, 99, 114, 105, 112, 116]⟩ : ByteArray), (⟨#[115, 116, 121, 108, 101]⟩ : ByteArray), (⟨#[120, 109, 112]⟩ : ByteArray), (⟨#[116, 101, 120, 116, 97, 114, 101, 97]⟩ : ByteArray), (⟨#[116, 105, 116, 108, 101]⟩ : ByteArray), (⟨#[97, 100, 100, 114, 101, 115, 115]⟩ : ByteArray), (⟨#[97, 114, 116, 105, 99, 108, 101]⟩ : ByteArray), (⟨#[97, 115, 105, 100, 101]⟩ : ByteArray), (⟨#[98, 108, 111, 99, 107, 113, 117, 111, 116, 101]⟩ : ByteArray), (⟨#[99, 101, 110, 116, 101, 114]⟩ : ByteArray), (⟨#[100, 100]⟩ : ByteArray), (⟨#[100, 101, 116, 97, 105, 108, 115]⟩ : ByteArray), (⟨#[100, 105, 97, 108, 111, 103]⟩ : ByteArray), (⟨#[100, 105, 114]⟩ : ByteArray), (⟨#[100, 105, 118]⟩ : ByteArray), (⟨#[100, 108]⟩ : ByteArray), (⟨#[100, 116]⟩ : ByteArray), (⟨#[102, 105, 101, 108, 100, 115, 101, 116]⟩ : ByteArray), (⟨#[102, 105, 103, 99, 97, 112, 116, 105, 111, 110]⟩ : ByteArray), (⟨#[102, 105, 103, 117, 114, 101]⟩ : ByteArray), (⟨#[102, 111, 111, 116, 101, 114]⟩ : ByteArray), (⟨#[102, 111, 114, 109]⟩ : ByteArray), (⟨#[104, 49]⟩ : ByteArray), (⟨#[104, 50]⟩ : ByteArray), (⟨#[104, 51]⟩ : ByteArray), (⟨#[104, 52]⟩ : ByteArray), (⟨#[104, 53]⟩ : ByteArray), (⟨#[104, 54]⟩ : ByteArray), (⟨#[104, 101, 97, 100, 101, 114]⟩ : ByteArray), (⟨#[104, 103, 114, 111, 117, 112]⟩ : ByteArray), (⟨#[108, 105]⟩ : ByteArray), (⟨#[109, 97, 105, 110]⟩ : ByteArray), (⟨#[109, 101, 110, 117]⟩ : ByteArray), (⟨#[110, 97, 118]⟩ : ByteArray), (⟨#[111, 108]⟩ : ByteArray), (⟨#[112]⟩ : ByteArray), (⟨#[112, 114, 101]⟩ : ByteArray), (⟨#[115, 101, 99, 116, 105, 111, 110]⟩ : ByteArray), (⟨#[115, 117, 109, 109, 97, 114, 121]⟩ : ByteArray), (⟨#[116, 97, 98, 108, 101]⟩ : ByteArray), (⟨#[117, 108]⟩ : ByteArray), (⟨#[98, 111, 100, 121]⟩ : ByteArray), (⟨#[102, 114, 97, 109, 101, 115, 101, 116]⟩ : ByteArray), (⟨#[104, 101, 97, 100]⟩ : ByteArray), (⟨#[104, 116, 109, 108]⟩ : ByteArray), (⟨#[111, 112, 116, 105, 111, 110]⟩ : ByteArray), (⟨#[111, 112, 116, 103, 114, 111, 117, 112]⟩ : ByteArray), (⟨#[116, 114]⟩ : ByteArray), (⟨#[116, 100]⟩ : ByteArray), (⟨#[116, 104]⟩ : ByteArray), (⟨#[116, 98, 111, 100, 121]⟩ : ByteArray), (⟨#[116, 102, 111, 111, 116]⟩ : ByteArray), (⟨#[116, 104, 101, 97, 100]⟩ : ByteArray)]
theorem ext_toList {a b : ByteArray} (h : b.toList = a.toList) : a = b := by
  rw [ByteArray.toList_eq, ByteArray.toList_eq] at h
  cases a with | mk x => cases b with | mk y =>
    congr 1
    exact (Array.toList_inj.1 h).symm
theorem known_or (a : ByteArray) : a ∈ known ∨ isIn a known = false := by
  cases h : isIn a known with
  | false => exact .inr rfl
  | true =>
    obtain ⟨b, hb, e⟩ := List.any_eq_true.1 h
    exact .inl (ext_toList (beq_iff_eq.1 e) ▸ hb)
theorem not_in {a : ByteArray} (h : isIn a known = false) (l : List ByteArray) (hl : (l.all fun b => isIn b known) = true) : isIn a l = false := by
  cases h2 : isIn a l with
  | false => rfl
  | true =>
    obtain ⟨b, hb, e⟩ := List.any_eq_true.1 h2
    have := List.all_eq_true.1 hl b hb
    rw [← ext_toList (beq_iff_eq.1 e), h] at this
    exact this.symm
theorem not_is {a : ByteArray} (h : isIn a known = false) (l : List UInt8) (hl : isIn ⟨l.toArray⟩ known = true) : a.toList ≠ l := by
  intro e
  have : a = (⟨l.toArray⟩ : ByteArray) := ext_toList (by rw [e, ByteArray.toList_eq])
  rw [this, hl] at h
  exact absurd h (by decide)

theorem void_is (a : ByteArray) (h : isIn a known = false) (k : Nat) (hk : 100 ≤ k) : names_Void.f k a = some false := by
  unfold names_Void.f
  rw [among_is a _ (by decide) k hk, not_in h _ (by decide +kernel)]; rfl
theorem raw_is (a : ByteArray) (h : isIn a known = false) (k : Nat) (hk : 100 ≤ k) : names_Raw.f k a = some false := by
  unfold names_Raw.f
  rw [among_is a _ (by decide) k hk, not_in h _ (by decide +kernel)]; rfl
theorem soft_is (a : ByteArray) (h : isIn a known = false) (k : Nat) (hk : 100 ≤ k) : names_Soft.f k a = some false := by
  unfold names_Soft.f
  rw [among_is a _ (by decide) k hk, not_in h _ (by decide +kernel)]; rfl
theorem block_is (a : ByteArray) (h : isIn a known = false) (k : Nat) (hk : 100 ≤ k) : names_Block.f k a = some false := by
  unfold names_Block.f
  rw [among_is a _ (by decide) k hk, not_in h _ (by decide +kernel)]; rfl
theorem gone_is (a : ByteArray) (h : isIn a known = false) (k : Nat) (hk : 100 ≤ k) : names_Gone.f k a = some false := by
  unfold names_Gone.f
  rw [among_is a _ (by decide) k hk, not_in h _ (by decide +kernel)]; rfl
theorem table_is (a : ByteArray) (h : isIn a known = false) (k : Nat) (hk : 100 ≤ k) : names_table.f k a = some false := by
  unfold names_table.f
  rw [among_is a _ (by decide) k hk, not_in h _ (by decide +kernel)]; rfl
theorem closes_is (a : ByteArray) (h : isIn a known = false) (k : Nat) (hk : 101 ≤ k) : names_Closes.f k a = some [] := by
  unfold names_Closes.f
  obtain ⟨k, rfl⟩ : ∃ m, k = m + 1 := ⟨k - 1, by omega⟩
  simp only [names_Closes.j0]
  rw [if_neg (not_is h _ (by decide +kernel)), beq_eq_false_iff_ne.2 (not_is h _ (by decide +kernel)), if_neg (by decide),
    if_neg (not_is h _ (by decide +kernel)), if_neg (not_is h _ (by decide +kernel)), if_neg (not_is h _ (by decide +kernel)), if_neg (not_is h _ (by decide +kernel)), if_neg (not_is h _ (by decide +kernel)), if_neg (not_is h _ (by decide +kernel)),
    table_is a h k (by omega), block_is a h k (by omega)]
  rfl
def walls0 : List ByteArray := [(⟨#[98, 117, 116, 116, 111, 110]⟩ : ByteArray), (⟨#[99, 97, 112, 116, 105, 111, 110]⟩ : ByteArray), (⟨#[116, 97, 98, 108, 101]⟩ : ByteArray), (⟨#[116, 100]⟩ : ByteArray), (⟨#[116, 101, 109, 112, 108, 97, 116, 101]⟩ : ByteArray), (⟨#[116, 104]⟩ : ByteArray)]
theorem walls_is (a : ByteArray) (h : isIn a known = false) (k : Nat) (hk : 101 ≤ k) : names_Walls.f k a = some walls0 := by
  unfold names_Walls.f
  rw [if_neg (not_is h _ (by decide +kernel)), among_is a _ (by decide) k (by omega), not_in h _ (by decide +kernel), among_is a _ (by decide) k (by omega), not_in h _ (by decide +kernel), table_is a h k (by omega)]
  rfl

theorem apart_known : (known.all fun b => boltinglaw05_NamesApart.f 300 b == some true) = true := by decide +kernel
theorem apart_l0 (a : ByteArray) (h : isIn a known = false) (d : Nat) : ∀ (k i : Nat), i + d = 6 → d < k → 102 ≤ k - d → boltinglaw05_NamesApart.l0 k a 0 walls0 (i : Int) = some true := by
  induction d with
  | zero =>
    intro k i hi hk hk2
    obtain ⟨k, rfl⟩ : ∃ m, k = m + 1 := ⟨k - 1, by omega⟩
    simp only [boltinglaw05_NamesApart.l0]
    have hl : (walls0.length : Int) = 6 := rfl
    rw [if_neg (by omega), if_pos (by omega), if_pos trivial, block_is a h k (by omega), fixed_is k (by omega)]
    rfl
  | succ d ih =>
    intro k i hi hk hk2
    obtain ⟨k, rfl⟩ : ∃ m, k = m + 1 := ⟨k - 1, by omega⟩
    simp only [boltinglaw05_NamesApart.l0]
    have hl : (walls0.length : Int) = 6 := rfl
    have hl' : walls0.length = 6 := rfl
    have hr : ∀ j, j < 6 → names_Right.f 100 (rdOf ByteArray.empty walls0 (j : Nat)) = some true := by decide +kernel
    rw [if_pos (by omega), if_pos (by omega), at_rounds (names_Right.mono _) (show 100 ≤ k by omega) (hr i (by omega)), wrap1 (by omega), ih k (i + 1) (by omega) (by omega) (by omega)]
    rfl
theorem apart_other (a : ByteArray) (h : isIn a known = false) (k : Nat) (hk : 120 ≤ k) : boltinglaw05_NamesApart.f (k + 5) a = some true := by
  unfold boltinglaw05_NamesApart.f
  rw [void_is a h _ (by omega)]
  simp only [Option.bind_some, Bool.false_eq_true, if_false]
  simp only [boltinglaw05_NamesApart.j0]
  rw [raw_is a h _ (by omega)]
  simp only [Option.bind_some, Bool.false_eq_true, if_false]
  simp only [boltinglaw05_NamesApart.j1]
  rw [soft_is a h _ (by omega)]
  simp only [Option.bind_some, Bool.false_eq_true, if_false]
  simp only [boltinglaw05_NamesApart.j2]
  rw [gone_is a h _ (by omega)]
  simp only [Option.bind_some, Bool.false_eq_true, if_false]
  simp only [boltinglaw05_NamesApart.j3]
  rw [closes_is a h _ (by omega), walls_is a h _ (by omega)]
  simp only [Option.bind_some, List.append_nil, List.nil_append]
  rw [if_pos (by decide), if_pos (by decide)]
  exact apart_l0 a h 6 _ 0 (by omega) (by omega) (by omega)
theorem NamesApart : boltinglaw05_NamesApart.Pure := by
  intro a _
  rcases known_or a with h | h
  · exact ⟨300, beq_iff_eq.1 (List.all_eq_true.1 apart_known a h)⟩
  · exact ⟨200 + 5, apart_other a h 200 (by omega)⟩

end Go.Proofs.Ytacffcdjgjiemaa.Pure
