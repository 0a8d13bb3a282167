/- What an element of any name closes, and what ends the search for it, is told alike by the program and by the document's answer, and is the caller's own: for every text. -/
import Derived.Test.YtacffcdjgjiemaaQAx5
namespace Go.Proofs.Ytacffcdjgjiemaa.Pure
open Go.RowKit Go.Proofs.Ytacffcdjgjiemaa.QA Go.Proofs.YtacffcdjgjiemaaW.PrintWords Go.Proofs.YtacffcdjgjiemaaW.PrintLast Go.Proofs.YtacffcdjgjiemaaW.PrintMore

/-! Plain facts about the printed functions: no Go, no memory. -/
theorem wrap1 {i : Nat} (h : i < 4611686018427387904) : wrap64 ((i : Int) + 1) = ((i + 1 : Nat) : Int) := by
  unfold wrap64
  omega
theorem rdOf_at (l : List ByteArray) (i : Nat) (h : i < l.length) : rdOf ByteArray.empty l (i : Int) = l[i] := by
  simp [rdOf, List.getElem?_eq_getElem h]
def isIn (a : ByteArray) (l : List ByteArray) : Bool := l.any fun b => b.toList == a.toList
theorem isIn_cons (a b : ByteArray) (l : List ByteArray) : isIn a (b :: l) = (b.toList == a.toList || isIn a l) := rfl
theorem among_l0 (a : ByteArray) (l : List ByteArray) (hl : l.length < 4611686018427387904) (d : Nat) : ∀ (k i : Nat), i + d = l.length → d < k →
    names_among.l0 k a l (l.length : Int) (i : Int) = some (isIn a (l.drop i)) := by
  induction d with
  | zero =>
    intro k i hi hk
    obtain ⟨k, rfl⟩ : ∃ m, k = m + 1 := ⟨k - 1, by omega⟩
    simp only [names_among.l0]
    rw [if_neg (by omega), List.drop_of_length_le (by omega)]
    rfl
  | succ d ih =>
    intro k i hi hk
    obtain ⟨k, rfl⟩ : ∃ m, k = m + 1 := ⟨k - 1, by omega⟩
    simp only [names_among.l0]
    rw [if_pos (by omega), if_pos (by omega), if_pos (by omega), wrap1 (by omega), ih k (i + 1) (by omega) (by omega), rdOf_at l i (by omega), List.drop_eq_getElem_cons (show i < l.length by omega), isIn_cons]
    by_cases h : (l[i]'(by omega)).toList = a.toList
    · rw [if_pos h, h]
      simp
    · rw [if_neg h, beq_eq_false_iff_ne.2 h, Bool.false_or]
theorem among_is (a : ByteArray) (l : List ByteArray) (hl : l.length ≤ 60) (k : Nat) (hk : 100 ≤ k) : names_among.f k a l = some (isIn a l) := by
  unfold names_among.f
  exact among_l0 a l (by omega) l.length k 0 (by omega) (by omega)

theorem has_l0 (a : ByteArray) (l : List ByteArray) (hl : l.length < 4611686018427387904) (d : Nat) : ∀ (k i : Nat), i + d = l.length → d < k →
    boltingref02_Has.l0 k l a (i : Int) = some (isIn a (l.drop i)) := by
  induction d with
  | zero =>
    intro k i hi hk
    obtain ⟨k, rfl⟩ : ∃ m, k = m + 1 := ⟨k - 1, by omega⟩
    simp only [boltingref02_Has.l0]
    rw [if_neg (by omega), List.drop_of_length_le (by omega)]
    rfl
  | succ d ih =>
    intro k i hi hk
    obtain ⟨k, rfl⟩ : ∃ m, k = m + 1 := ⟨k - 1, by omega⟩
    simp only [boltingref02_Has.l0]
    rw [if_pos (by omega), if_pos (by omega), wrap1 (by omega), ih k (i + 1) (by omega) (by omega), rdOf_at l i (by omega), List.drop_eq_getElem_cons (show i < l.length by omega), isIn_cons]
    by_cases h : (l[i]'(by omega)).toList = a.toList
    · rw [if_pos h, h]
      simp
    · rw [if_neg h, beq_eq_false_iff_ne.2 h, Bool.false_or]
theorem has_is (a : ByteArray) (l : List ByteArray) (hl : l.length ≤ 60) (k : Nat) (hk : 100 ≤ k) : boltingref02_Has.f k l a = some (isIn a l) := by
  unfold boltingref02_Has.f
  exact has_l0 a l (by omega) l.length k 0 (by omega) (by omega)

theorem fixed_100 : boltinglaw05_fixed.f 100 = some true := by decide +kernel
theorem fixed_is (k : Nat) (hk : 100 ≤ k) : boltinglaw05_fixed.f k = some true := at_rounds boltinglaw05_fixed.mono hk fixed_100

/-- Every name that some list has. -/
def known : List ByteArray := [(⟨#[97, 114, 101, 97]⟩ : ByteArray), (⟨#[98, 97, 115, 101]⟩ : ByteArray), (⟨#[98, 114]⟩ : ByteArray), (⟨#[99, 111, 108]⟩ : ByteArray), (⟨#[101, 109, 98, 101, 100]⟩ : ByteArray), (⟨#[104, 114]⟩ : ByteArray), (⟨#[105, 109, 103]⟩ : ByteArray), (⟨#[105, 110, 112, 117, 116]⟩ : ByteArray), (⟨#[108, 105, 110, 107]⟩ : ByteArray), (⟨#[109, 101, 116, 97]⟩ : ByteArray), (⟨#[112, 97, 114, 97, 109]⟩ : ByteArray), (⟨#[115, 111, 117, 114, 99, 101]⟩ : ByteArray), (⟨#[116, 114, 97, 99, 107]⟩ : ByteArray), (⟨#[119, 98, 114]⟩ : ByteArray), (⟨#[105, 102, 114, 97, 109, 101]⟩ : ByteArray), (⟨#[110, 111, 101, 109, 98, 101, 100]⟩ : ByteArray), (⟨#[110, 111, 102, 114, 97, 109, 101, 115]⟩ : ByteArray), (⟨#[115, 99, 114, 105, 112, 116]⟩ : ByteArray), (⟨#[115, 116, 121, 108, 101]⟩ : ByteArray), (⟨#[120, 109, 112]⟩ : ByteArray), (⟨#[116, 101, 120, 116, 97, 114, 101, 97]⟩ : ByteArray), (⟨#[116, 105, 116, 108, 101]⟩ : ByteArray), (⟨#[97, 100, 100, 114, 101, 115, 115]⟩ : ByteArray), (⟨#[97, 114, 116, 105, 99, 108, 101]⟩ : ByteArray), (⟨#[97, 115, 105, 100, 101]⟩ : ByteArray), (⟨#[98, 108, 111, 99, 107, 113, 117, 111, 116, 101]⟩ : ByteArray), (⟨#[99, 101, 110, 116, 101, 114]⟩ : ByteArray), (⟨#[100, 100]⟩ : ByteArray), (⟨#[100, 101, 116, 97, 105, 108, 115]⟩ : ByteArray), (⟨#[100, 105, 97, 108, 111, 103]⟩ : ByteArray), (⟨#[100, 105, 114]⟩ : ByteArray), (⟨#[100, 105, 118]⟩ : ByteArray), (⟨#[100, 108]⟩ : ByteArray), (⟨#[100, 116]⟩ : ByteArray), (⟨#[102, 105, 101, 108, 100, 115, 101, 116]⟩ : ByteArray), (⟨#[102, 105, 103, 99, 97, 112, 116, 105, 111, 110]⟩ : ByteArray), (⟨#[102, 105, 103, 117, 114, 101]⟩ : ByteArray), (⟨#[102, 111, 111, 116, 101, 114]⟩ : ByteArray), (⟨#[102, 111, 114, 109]⟩ : ByteArray), (⟨#[104, 49]⟩ : ByteArray), (⟨#[104, 50]⟩ : ByteArray), (⟨#[104, 51]⟩ : ByteArray), (⟨#[104, 52]⟩ : ByteArray), (⟨#[104, 53]⟩ : ByteArray), (⟨#[104, 54]⟩ : ByteArray), (⟨#[104, 101, 97, 100, 101, 114]⟩ : ByteArray), (⟨#[104, 103, 114, 111, 117, 112]⟩ : ByteArray), (⟨#[108, 105]⟩ : ByteArray), (⟨#[109, 97, 105, 110]⟩ : ByteArray), (⟨#[109, 101, 110, 117]⟩ : ByteArray), (⟨#[110, 97, 118]⟩ : ByteArray), (⟨#[111, 108]⟩ : ByteArray), (⟨#[112]⟩ : ByteArray), (⟨#[112, 114, 101]⟩ : ByteArray), (⟨#[115, 101, 99, 116, 105, 111, 110]⟩ : ByteArray), (⟨#[115, 117, 109, 109, 97, 114, 121]⟩ : ByteArray), (⟨#[116, 97, 98, 108, 101]⟩ : ByteArray), (⟨#[117, 108]⟩ : ByteArray), (⟨#[98, 111, 100, 121]⟩ : ByteArray), (⟨#[102, 114, 97, 109, 101, 115, 101, 116]⟩ : ByteArray), (⟨#[104, 101, 97, 100]⟩ : ByteArray), (⟨#[104, 116, 109, 108]⟩ : ByteArray), (⟨#[111, 112, 116, 105, 111, 110]⟩ : ByteArray), (⟨#[111, 112, 116, 103, 114, 111, 117, 112]⟩ : ByteArray), (⟨#[116, 114]⟩ : ByteArray), (⟨#[116, 100]⟩ : ByteArray), (⟨#[116, 104]⟩ : ByteArray), (⟨#[116, 98, 111, 100, 121]⟩ : ByteArray), (⟨#[116, 102, 111, 111, 116]⟩ : ByteArray), (⟨#[116, 104, 101, 97, 100]⟩ : ByteArray)]
theorem ext_toList {a b : ByteArray} (h : b.toList = a.toList) : a = b := by
  rw [ByteArray.toList_eq, ByteArray.toList_eq] at h
  cases a with | mk x => cases b with | mk y =>
    congr 1
    exact (Array.toList_inj.1 h).symm
theorem known_or (a : ByteArray) : a ∈ known ∨ isIn a known = false := by
  cases h : isIn a known with
  | false => exact .inr rfl
  | true =>
    obtain ⟨b, hb, e⟩ := List.any_eq_true.1 h
    exact .inl (ext_toList (beq_iff_eq.1 e) ▸ hb)
theorem not_in {a : ByteArray} (h : isIn a known = false) (l : List ByteArray) (hl : (l.all fun b => isIn b known) = true) : isIn a l = false := by
  cases h2 : isIn a l with
  | false => rfl
  | true =>
    obtain ⟨b, hb, e⟩ := List.any_eq_true.1 h2
    have := List.all_eq_true.1 hl b hb
    rw [← ext_toList (beq_iff_eq.1 e), h] at this
    exact this.symm
theorem not_is {a : ByteArray} (h : isIn a known = false) (l : List UInt8) (hl : isIn ⟨l.toArray⟩ known = true) : a.toList ≠ l := by
  intro e
  have : a = (⟨l.toArray⟩ : ByteArray) := ext_toList (by rw [e, ByteArray.toList_eq])
  rw [this, hl] at h
  exact absurd h (by decide)

theorem void_is (a : ByteArray) (h : isIn a known = false) (k : Nat) (hk : 100 ≤ k) : names_Void.f k a = some false := by
  unfold names_Void.f
  rw [among_is a _ (by decide) k hk, not_in h _ (by decide +kernel)]; rfl
theorem raw_is (a : ByteArray) (h : isIn a known = false) (k : Nat) (hk : 100 ≤ k) : names_Raw.f k a = some false := by
  unfold names_Raw.f
  rw [among_is a _ (by decide) k hk, not_in h _ (by decide +kernel)]; rfl
theorem soft_is (a : ByteArray) (h : isIn a known = false) (k : Nat) (hk : 100 ≤ k) : names_Soft.f k a = some false := by
  unfold names_Soft.f
  rw [among_is a _ (by decide) k hk, not_in h _ (by decide +kernel)]; rfl
theorem block_is (a : ByteArray) (h : isIn a known = false) (k : Nat) (hk : 100 ≤ k) : names_Block.f k a = some false := by
  unfold names_Block.f
  rw [among_is a _ (by decide) k hk, not_in h _ (by decide +kernel)]; rfl
theorem gone_is (a : ByteArray) (h : isIn a known = false) (k : Nat) (hk : 100 ≤ k) : names_Gone.f k a = some false := by
  unfold names_Gone.f
  rw [among_is a _ (by decide) k hk, not_in h _ (by decide +kernel)]; rfl
theorem table_is (a : ByteArray) (h : isIn a known = false) (k : Nat) (hk : 100 ≤ k) : names_table.f k a = some false := by
  unfold names_table.f
  rw [among_is a _ (by decide) k hk, not_in h _ (by decide +kernel)]; rfl
theorem closes_is (a : ByteArray) (h : isIn a known = false) (k : Nat) (hk : 101 ≤ k) : names_Closes.f k a = some [] := by
  unfold names_Closes.f
  obtain ⟨k, rfl⟩ : ∃ m, k = m + 1 := ⟨k - 1, by omega⟩
  simp only [names_Closes.j0]
  rw [if_neg (not_is h _ (by decide +kernel)), beq_eq_false_iff_ne.2 (not_is h _ (by decide +kernel)), if_neg (by decide),
    if_neg (not_is h _ (by decide +kernel)), if_neg (not_is h _ (by decide +kernel)), if_neg (not_is h _ (by decide +kernel)), if_neg (not_is h _ (by decide +kernel)), if_neg (not_is h _ (by decide +kernel)), if_neg (not_is h _ (by decide +kernel)),
    table_is a h k (by omega), block_is a h k (by omega)]
  rfl
def walls0 : List ByteArray := [(⟨#[98, 117, 116, 116, 111, 110]⟩ : ByteArray), (⟨#[99, 97, 112, 116, 105, 111, 110]⟩ : ByteArray), (⟨#[116, 97, 98, 108, 101]⟩ : ByteArray), (⟨#[116, 100]⟩ : ByteArray), (⟨#[116, 101, 109, 112, 108, 97, 116, 101]⟩ : ByteArray), (⟨#[116, 104]⟩ : ByteArray)]
theorem walls_is (a : ByteArray) (h : isIn a known = false) (k : Nat) (hk : 101 ≤ k) : names_Walls.f k a = some walls0 := by
  unfold names_Walls.f
  rw [if_neg (not_is h _ (by decide +kernel)), among_is a _ (by decide) k (by omega), not_in h _ (by decide +kernel), among_is a _ (by decide) k (by omega), not_in h _ (by decide +kernel), table_is a h k (by omega)]
  rfl

theorem closes_known : (known.all fun b => boltinglaw05_NamesCloses.f 300 b == some true) = true := by decide +kernel
theorem rcloses_is (a : ByteArray) (h : isIn a known = false) (k : Nat) (hk : 110 ≤ k) : boltingref05_Closes.f k a = some [] := by
  unfold boltingref05_Closes.f
  obtain ⟨k, rfl⟩ : ∃ m, k = m + 3 := ⟨k - 3, by omega⟩
  simp only [boltingref05_Closes.j0, boltingref05_Closes.j1, boltingref05_Closes.j2, boltingref05_Table.f, boltingref05_Block.f]
  rw [if_neg (not_is h _ (by decide +kernel)), beq_eq_false_iff_ne.2 (not_is h _ (by decide +kernel)), if_neg (by decide),
    if_neg (not_is h _ (by decide +kernel)), beq_eq_false_iff_ne.2 (not_is h _ (by decide +kernel)), if_neg (by decide),
    if_neg (not_is h _ (by decide +kernel)), if_neg (not_is h _ (by decide +kernel)), if_neg (not_is h _ (by decide +kernel)), beq_eq_false_iff_ne.2 (not_is h _ (by decide +kernel)), if_neg (by decide)]
  simp only [Option.bind_some]
  rw [has_is a _ (by decide) _ (by omega), not_in h _ (by decide +kernel)]
  simp only [Option.bind_some, Bool.false_eq_true, if_false]
  rw [has_is a _ (by decide) _ (by omega), not_in h _ (by decide +kernel)]
  rfl
theorem rwalls_is (a : ByteArray) (h : isIn a known = false) (k : Nat) (hk : 110 ≤ k) : boltingref05_Walls.f k a = some walls0 := by
  unfold boltingref05_Walls.f
  obtain ⟨k, rfl⟩ : ∃ m, k = m + 3 := ⟨k - 3, by omega⟩
  simp only [boltingref05_Walls.j0, boltingref05_Walls.j1, boltingref05_Table.f]
  rw [if_neg (not_is h _ (by decide +kernel)), if_neg (not_is h _ (by decide +kernel)), beq_eq_false_iff_ne.2 (not_is h _ (by decide +kernel)), if_neg (by decide),
    if_neg (not_is h _ (by decide +kernel)), beq_eq_false_iff_ne.2 (not_is h _ (by decide +kernel)), if_neg (by decide)]
  simp only [Option.bind_some]
  rw [has_is a _ (by decide) _ (by omega), not_in h _ (by decide +kernel)]
  rfl
theorem closes_l2 (a : ByteArray) (t : Int) (n : Nat) (hn : n < 1000) (d : Nat) : ∀ (k i : Nat) (l : List ByteArray), l.length = n → i + d = n → d < k →
    boltinglaw05_NamesCloses.l2 k a t l (i : Int) = boltinglaw05_NamesCloses.l0 (k - d - 1) a (wrap64 (t + 1)) := by
  induction d with
  | zero =>
    intro k i l hl hi hk
    obtain ⟨k, rfl⟩ : ∃ m, k = m + 1 := ⟨k - 1, by omega⟩
    simp only [boltinglaw05_NamesCloses.l2]
    rw [if_neg (by omega)]
    rfl
  | succ d ih =>
    intro k i l hl hi hk
    obtain ⟨k, rfl⟩ : ∃ m, k = m + 1 := ⟨k - 1, by omega⟩
    simp only [boltinglaw05_NamesCloses.l2]
    rw [if_pos (by omega), if_pos (by omega), wrap1 (by omega), ih k (i + 1) _ (by simp [hl]) (by omega) (by omega)]
    rw [show k + 1 - (d + 1) - 1 = k - d - 1 by omega]
theorem eq0 : boltingref02_Equal.f 100 ([] : List ByteArray) [] = some true := by decide +kernel
theorem eqw : boltingref02_Equal.f 100 walls0 walls0 = some true := by decide +kernel
theorem is0 : boltingref02_Is.f 100 ([] : List ByteArray) = some true := by decide +kernel
theorem isw : boltingref02_Is.f 100 walls0 = some true := by decide +kernel
theorem closes_turn (a : ByteArray) (h : isIn a known = false) (k : Nat) (hk : 130 ≤ k) (t : Int) (ht : t < 2) : boltinglaw05_NamesCloses.l0 k a t = boltinglaw05_NamesCloses.l0 (k - 10) a (wrap64 (t + 1)) := by
  obtain ⟨k, rfl⟩ : ∃ m, k = m + 1 := ⟨k - 1, by omega⟩
  conv => lhs; simp only [boltinglaw05_NamesCloses.l0]
  rw [if_pos ht, closes_is a h k (by omega), walls_is a h k (by omega), rcloses_is a h k (by omega), rwalls_is a h k (by omega)]
  simp only [Option.bind_some]
  rw [at_rounds (boltingref02_Equal.mono _ _) (show 100 ≤ k by omega) eq0, at_rounds (boltingref02_Equal.mono _ _) (show 100 ≤ k by omega) eqw, at_rounds (boltingref02_Is.mono _) (show 100 ≤ k by omega) is0, at_rounds (boltingref02_Is.mono _) (show 100 ≤ k by omega) isw]
  simp only [Option.bind_some, if_true, Bool.not_true]
  obtain ⟨k, rfl⟩ : ∃ m, k = m + 2 := ⟨k - 2, by omega⟩
  simp only [boltinglaw05_NamesCloses.j1, boltinglaw05_NamesCloses.l1]
  rw [if_neg (by decide), if_neg (by decide), show ((0 : Int)) = ((0 : Nat) : Int) from rfl, closes_l2 a t 6 (by omega) 6 k 0 walls0 rfl (by omega) (by omega)]
  rw [show k + 2 + 1 - 10 = k - 6 - 1 by omega]
theorem NamesCloses : boltinglaw05_NamesCloses.Pure := by
  intro a _
  rcases known_or a with h | h
  · exact ⟨300, beq_iff_eq.1 (List.all_eq_true.1 closes_known a h)⟩
  · refine ⟨300, ?_⟩
    unfold boltinglaw05_NamesCloses.f
    rw [closes_turn a h 300 (by omega) 0 (by omega), show wrap64 (0 + 1) = 1 from by decide +kernel, closes_turn a h 290 (by omega) 1 (by omega), show wrap64 (1 + 1) = 2 from by decide +kernel]
    simp only [boltinglaw05_NamesCloses.l0]
    rw [if_neg (by omega), fixed_is _ (by omega)]
    rfl

end Go.Proofs.Ytacffcdjgjiemaa.Pure
