/- Which of the lists any name stands in is told alike by the program and by the document's answer: for every text. -/
import Derived.Test.YtacffcdjgjiemaaQAx3
namespace Go.Proofs.Ytacffcdjgjiemaa.Pure
open Go.RowKit Go.Proofs.Ytacffcdjgjiemaa.QA Go.Proofs.YtacffcdjgjiemaaW.PrintWords Go.Proofs.YtacffcdjgjiemaaW.PrintLast Go.Proofs.YtacffcdjgjiemaaW.PrintMore

/-! Plain facts about the printed functions: no Go, no memory. -/
theorem wrap1 {i : Nat} (h : i < 4611686018427387904) : wrap64 ((i : Int) + 1) = ((i + 1 : Nat) : Int) := by
  unfold wrap64
  omega
theorem rdOf_at (l : List ByteArray) (i : Nat) (h : i < l.length) : rdOf ByteArray.empty l (i : Int) = l[i] := by
  simp [rdOf, List.getElem?_eq_getElem h]
def isIn (a : ByteArray) (l : List ByteArray) : Bool := l.any fun b => b.toList == a.toList
theorem isIn_cons (a b : ByteArray) (l : List ByteArray) : isIn a (b :: l) = (b.toList == a.toList || isIn a l) := rfl
theorem among_l0 (a : ByteArray) (l : List ByteArray) (hl : l.length < 4611686018427387904) (d : Nat) : ∀ (k i : Nat), i + d = l.length → d < k →
    names_among.l0 k a l (l.length : Int) (i : Int) = some (isIn a (l.drop i)) := by
  induction d with
  | zero =>
    intro k i hi hk
    obtain ⟨k, rfl⟩ : ∃ m, k = m + 1 := ⟨k - 1, by omega⟩
    simp only [names_among.l0]
    rw [if_neg (by omega), List.drop_of_length_le (by omega)]
    rfl
  | succ d ih =>
    intro k i hi hk
    obtain ⟨k, rfl⟩ : ∃ m, k = m + 1 := ⟨k - 1, by omega⟩
    simp only [names_among.l0]
    rw [if_pos (by omega), if_pos (by omega), if_pos (by omega), wrap1 (by omega), ih k (i + 1) (by omega) (by omega), rdOf_at l i (by omega), List.drop_eq_getElem_cons (show i < l.length by omega), isIn_cons]
    by_cases h : (l[i]'(by omega)).toList = a.toList
    · rw [if_pos h, h]
      simp
    · rw [if_neg h, beq_eq_false_iff_ne.2 h, Bool.false_or]
theorem among_is (a : ByteArray) (l : List ByteArray) (hl : l.length ≤ 60) (k : Nat) (hk : 100 ≤ k) : names_among.f k a l = some (isIn a l) := by
  unfold names_among.f
  exact among_l0 a l (by omega) l.length k 0 (by omega) (by omega)

theorem has_l0 (a : ByteArray) (l : List ByteArray) (hl : l.length < 4611686018427387904) (d : Nat) : ∀ (k i : Nat), i + d = l.length → d < k →
    boltingref02_Has.l0 k l a (i : Int) = some (isIn a (l.drop i)) := by
  induction d with
  | zero =>
    intro k i hi hk
    obtain ⟨k, rfl⟩ : ∃ m, k = m + 1 := ⟨k - 1, by omega⟩
    simp only [boltingref02_Has.l0]
    rw [if_neg (by omega), List.drop_of_length_le (by omega)]
    rfl
  | succ d ih =>
    intro k i hi hk
    obtain ⟨k, rfl⟩ : ∃ m, k = m + 1 := ⟨k - 1, by omega⟩
    simp only [boltingref02_Has.l0]
    rw [if_pos (by omega), if_pos (by omega), wrap1 (by omega), ih k (i + 1) (by omega) (by omega), rdOf_at l i (by omega), List.drop_eq_getElem_cons (show i < l.length by omega), isIn_cons]
    by_cases h : (l[i]'(by omega)).toList = a.toList
    · rw [if_pos h, h]
      simp
    · rw [if_neg h, beq_eq_false_iff_ne.2 h, Bool.false_or]
theorem has_is (a : ByteArray) (l : List ByteArray) (hl : l.length ≤ 60) (k : Nat) (hk : 100 ≤ k) : boltingref02_Has.f k l a = some (isIn a l) := by
  unfold boltingref02_Has.f
  exact has_l0 a l (by omega) l.length k 0 (by omega) (by omega)

theorem fixed_100 : boltinglaw05_fixed.f 100 = some true := by decide +kernel
theorem fixed_is (k : Nat) (hk : 100 ≤ k) : boltinglaw05_fixed.f k = some true := at_rounds boltinglaw05_fixed.mono hk fixed_100

theorem NamesKinds : boltinglaw05_NamesKinds.Pure := by
  intro a _
  refine ⟨100, ?_⟩
  unfold boltinglaw05_NamesKinds.f names_Void.f names_Raw.f names_Soft.f names_Block.f names_Gone.f boltingref05_Void.f boltingref05_Raw.f boltingref05_Soft.f boltingref05_Block.f boltingref05_Gone.f
  rw [fixed_is 100 (by omega)]
  rw [among_is a _ (by decide) 100 (by omega), among_is a _ (by decide) 100 (by omega), among_is a _ (by decide) 100 (by omega), among_is a _ (by decide) 100 (by omega), among_is a _ (by decide) 100 (by omega)]
  simp only [Option.bind_some, if_true]
  rw [has_is a _ (by decide) 100 (by omega)]
  simp only [Option.bind_some, beq_self_eq_true, if_true]
  rw [has_is a _ (by decide) 100 (by omega)]
  simp only [Option.bind_some, beq_self_eq_true, if_true]
  rw [has_is a _ (by decide) 100 (by omega)]
  simp only [Option.bind_some, beq_self_eq_true, if_true]
  rw [has_is a _ (by decide) 100 (by omega)]
  simp only [Option.bind_some, beq_self_eq_true, if_true]
  rw [has_is a _ (by decide) 100 (by omega)]
  simp only [Option.bind_some, beq_self_eq_true]

end Go.Proofs.Ytacffcdjgjiemaa.Pure
