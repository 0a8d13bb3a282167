/- What any right rows are with trees at any place, without a node's tree, and a node's tree alone, is told alike by the program and by the document's answer, and what was handed in stays: for all rows, cut to 60 rows of 8 attributes, every node and place. -/
import Derived.Test.YtllggaogjcknoaaQAx4
import Derived.Test.YtllggaogjcknoaaQAx5
import Derived.Test.YtllggaogjcknoaaQAx6
import Derived.Test.YtllggaogjcknoaaQAx7
import Derived.Test.YtllggaogjcknoaaQAx9
import Derived.Test.YtllggaogjcknoaaQAx12
import Derived.Test.YtllggaogjcknoaaQAx20
import Derived.Test.YtllggaogjcknoaaQAx21
import Derived.Test.YtllggaogjcknoaaQAOpen
set_option linter.unusedVariables false
set_option linter.unusedSimpArgs false
namespace Go.Proofs.Ytllggaogjcknoaa.Pure
open Go.RowKit Go.Proofs.Ytllggaogjcknoaa.QA Go.Proofs.YtllggaogjcknoaaW.PrintWords Go.Proofs.YtllggaogjcknoaaW.PrintLast Go.Proofs.YtllggaogjcknoaaW.PrintMore

/-- The names behind place i differ from all ahead of them. -/
def NoTwo (l : List S46) (i : Nat) : Prop := ∀ a b : Nat, a < b → i ≤ b → b < l.length → (rd_T46 l (a : Int)).f0.toList ≠ (rd_T46 l (b : Int)).f0.toList
def NoneLike (l : List S46) (i j : Nat) : Prop := ∀ a : Nat, j ≤ a → a < i → (rd_T46 l (a : Int)).f0.toList ≠ (rd_T46 l (i : Int)).f0.toList
theorem noTwo_step {l : List S46} {i : Nat} (h : i < l.length) : NoTwo l i ↔ NoneLike l i 0 ∧ NoTwo l (i + 1) := by
  constructor
  · intro H
    exact ⟨fun a _ hai => H a i hai (Nat.le_refl _) h, fun a b hab hib hb => H a b hab (by omega) hb⟩
  · rintro ⟨H1, H2⟩ a b hab hib hb
    by_cases e : b = i
    · subst e; exact H1 a (Nat.zero_le _) hab
    · exact H2 a b hab (by omega) hb
theorem noneLike_step {l : List S46} {i j : Nat} (h : j < i) : NoneLike l i j ↔ ((rd_T46 l (j : Int)).f0.toList ≠ (rd_T46 l (i : Int)).f0.toList ∧ NoneLike l i (j + 1)) := by
  constructor
  · intro H
    exact ⟨H j (Nat.le_refl _) h, fun a ha hai => H a (by omega) hai⟩
  · rintro ⟨H1, H2⟩ a ha hai
    by_cases e : a = j
    · subst e; exact H1
    · exact H2 a (by omega) hai
theorem rd46_take (l : List S46) (i j : Nat) (h : j < i) : rd_T46 (l.take i) (j : Int) = rd_T46 l (j : Int) := by
  simp [rd_T46, List.getElem?_take, h]
open Classical in
theorem row_l1 (l : List S46) (hm : l.length < 9223372036854775807) (a0 a1 : Int) (a2 a3 : ByteArray) (i : Nat) (hi : i < l.length) (K : Nat) (v : Bool)
    (hnext : ∀ k, K < k → rows_row.l0 k l (l.length : Int) ((i + 1 : Nat) : Int) a0 a1 a2 a3 l = some v) : ∀ e j k, j + e = i → K + e + 1 < k →
    rows_row.l1 k l (l.length : Int) (i : Int) (l.take i) ((l.take i).length : Int) (j : Int) a0 a1 a2 a3 l (rd_T46 l (i : Int)).f0 (rd_T46 l (i : Int)).f1 = some (decide (NoneLike l i j) && v) := by
  have hti : (l.take i).length = i := by rw [List.length_take]; omega
  intro e
  induction e with
  | zero =>
    intro j k hj hk
    obtain ⟨k, rfl⟩ : ∃ m, k = m + 1 := ⟨k - 1, by omega⟩
    simp only [rows_row.l1]
    rw [hti, if_neg (by omega), up1 (by omega), hnext k (by omega)]
    have : NoneLike l i j := fun a ha hai => by omega
    simp [this]
  | succ e ih =>
    intro j k hj hk
    obtain ⟨k, rfl⟩ : ∃ m, k = m + 1 := ⟨k - 1, by omega⟩
    simp only [rows_row.l1]
    rw [if_pos (by rw [hti]; omega), if_pos (by omega), if_pos (by rw [hti]; omega), rd46_take l i j (by omega)]
    have hs := noneLike_step (l := l) (i := i) (j := j) (by omega)
    by_cases hq : (rd_T46 l (i : Int)).f0.toList = (rd_T46 l (j : Int)).f0.toList
    · rw [if_pos hq]
      have : ¬ NoneLike l i j := fun h => (hs.1 h).1 hq.symm
      simp [this]
    · rw [if_neg hq, up1 (by omega), ih (j + 1) k (by omega) (by omega)]
      have : decide (NoneLike l i j) = decide (NoneLike l i (j + 1)) := by
        apply decide_eq_decide.2
        exact ⟨fun h => (hs.1 h).2, fun h => hs.2 ⟨fun e => hq e.symm, h⟩⟩
      rw [this]
open Classical in
theorem row_l0 (l : List S46) (hm : l.length < 9223372036854775807) (a0 a1 : Int) (a2 a3 : ByteArray) : ∀ d i k, i + d = l.length → d * (l.length + 3) < k →
    rows_row.l0 k l (l.length : Int) (i : Int) a0 a1 a2 a3 l = some (decide (NoTwo l i)) := by
  intro d
  induction d with
  | zero =>
    intro i k hi hk
    obtain ⟨k, rfl⟩ : ∃ m, k = m + 1 := ⟨k - 1, by omega⟩
    simp only [rows_row.l0]
    rw [if_neg (by omega)]
    have : NoTwo l i := fun a b hab hib hb => by omega
    simp [this]
  | succ d ih =>
    intro i k hi hk
    obtain ⟨k, rfl⟩ : ∃ m, k = m + 1 := ⟨k - 1, by omega⟩
    rw [Nat.succ_mul] at hk
    simp only [rows_row.l0]
    rw [if_pos (by omega), if_pos (by omega), if_pos (by omega), if_pos (by omega)]
    simp only [Option.bind_some, Int.toNat_natCast]
    have h1 := row_l1 l hm a0 a1 a2 a3 i (by omega) (d * (l.length + 3)) (decide (NoTwo l (i + 1))) (fun k hk => ih (i + 1) k (by omega) hk) i 0 k (by omega) (by omega)
    rw [Int.natCast_zero] at h1
    rw [h1]
    congr 1
    rw [← Bool.decide_and]
    exact decide_eq_decide.2 (noTwo_step (by omega)).symm
/-- May a row be, by itself? -/
def RowOk (x : S43) : Prop := if x.f1 = 1 ∨ x.f1 = 2 then x.f2.toList = [] ∧ x.f4.length = 0 else x.f1 = 0 ∧ x.f2.toList ≠ [] ∧ x.f3.toList = [] ∧ NoTwo x.f4 0
theorem len_eq0 {α : Type} (l : List α) : ((l.length : Int) == 0) = decide (l = []) := by
  cases l with
  | nil => rfl
  | cons x l => simp; omega
open Classical in
theorem row_is (x : S43) (hm : x.f4.length < 9223372036854775807) (k : Nat) (hk : x.f4.length * (x.f4.length + 3) + 4 < k) : rows_row.f k x.f0 x.f1 x.f2 x.f3 x.f4 = some (decide (RowOk x)) := by
  obtain ⟨k, rfl⟩ : ∃ m, k = m + 1 := ⟨k - 1, by omega⟩
  obtain ⟨k, rfl⟩ : ∃ m, k = m + 1 := ⟨k - 1, by omega⟩
  have h0 := row_l0 x.f4 hm x.f0 x.f1 x.f2 x.f3 x.f4.length 0 k (by omega) (by omega)
  rw [Int.natCast_zero] at h0
  unfold rows_row.f RowOk
  by_cases h1 : x.f1 = 1
  · simp only [h1, rows_row.j0, true_or, if_true]
    by_cases h2 : x.f2.toList = []
    · simp [h2, len_eq0]
    · simp [h2]
  · by_cases h2 : x.f1 = 2
    · simp only [h2, rows_row.j0, or_true, if_true, beq_self_eq_true]
      by_cases h3 : x.f2.toList = []
      · simp [h3, len_eq0]
      · simp [h3]
    · have hb : (x.f1 == 2) = false := beq_eq_false_iff_ne.2 h2
      simp only [h1, h2, hb, rows_row.j0, rows_row.j1, or_self, if_false, Bool.false_eq_true]
      by_cases h3 : x.f1 = 0
      · by_cases h4 : x.f2.toList = []
        · simp [h3, h4]
        · by_cases h5 : x.f3.toList = []
          · simp [h3, h4, h5] at h0 ⊢
            exact h0
          · simp [h3, h4, h5]
      · simp [h3]

/-- The deepest that the row behind x may be. -/
def nxt (x : S43) : Int := if x.f1 = 0 then x.f0 + 1 else x.f0
/-- Rows that are right, where the first may be at depth d. -/
def RightL : Int → List S43 → Prop
  | _, [] => True
  | d, x :: l => (0 ≤ x.f0 ∧ x.f0 ≤ d ∧ RowOk x) ∧ RightL (nxt x) l
/-- No more rows and attributes than the statements let in. -/
def Few (l : List S43) : Prop := l.length ≤ 1000000 ∧ ∀ x ∈ l, x.f4.length ≤ 8
theorem few_fuel {n : Nat} (h : n ≤ 8) : n * (n + 3) ≤ 88 := by
  have : n * (n + 3) ≤ 8 * 11 := Nat.mul_le_mul h (by omega)
  omega
theorem upI {a : Int} (h0 : -9223372036854775808 ≤ a) (h : a < 9223372036854775807) : wrap64 (a + 1) = a + 1 := by
  unfold wrap64; omega
theorem dn1 {i : Nat} (h : i < 9223372036854775807) : wrap64 (((i + 1 : Nat) : Int) - 1) = (i : Int) := by
  unfold wrap64; omega
open Classical in
theorem right_l0 (l : List S43) (hF : Few l) : ∀ e i k (d : Int), i + e = l.length → 0 ≤ d → d ≤ i → 3 * e + 200 < k →
    rows_right.l0 k d l (l.length : Int) (i : Int) = some (decide (RightL d (l.drop i))) := by
  have hn := hF.1
  intro e
  induction e with
  | zero =>
    intro i k d hi h0 h1 hk
    obtain ⟨k, rfl⟩ : ∃ m, k = m + 1 := ⟨k - 1, by omega⟩
    simp only [rows_right.l0]
    rw [if_neg (by omega), List.drop_of_length_le (by omega)]
    exact congrArg some (decide_eq_true (show RightL d [] from trivial)).symm
  | succ e ih =>
    intro i k d hi h0 h1 hk
    obtain ⟨k, rfl⟩ : ∃ m, k = m + 2 := ⟨k - 2, by omega⟩
    have hil : i < l.length := by omega
    have hx8 := hF.2 l[i] (List.getElem_mem hil)
    simp only [rows_right.l0]
    rw [if_pos (by omega), if_pos (by omega), if_pos (by omega), rd_T43_at l i hil, List.drop_eq_getElem_cons hil]
    obtain ⟨x, hx⟩ : ∃ x, l[i] = x := ⟨_, rfl⟩
    rw [hx] at hx8 ⊢
    have hf := few_fuel hx8
    by_cases c0 : x.f0 < 0
    · rw [if_pos c0]
      have : ¬ RightL d (x :: l.drop (i + 1)) := fun h => by have := h.1.1; omega
      simp [rows_right.j1, this]
    · rw [if_neg c0]
      by_cases c1 : x.f0 > d
      · rw [if_pos c1]
        have : ¬ RightL d (x :: l.drop (i + 1)) := fun h => by have := h.1.2.1; omega
        simp [rows_right.j1, this]
      · rw [if_neg c1, row_is x (by omega) (k + 1) (by omega)]
        simp only [Option.bind_some, rows_right.j1]
        by_cases c2 : RowOk x
        · have he : RightL d (x :: l.drop (i + 1)) ↔ RightL (nxt x) (l.drop (i + 1)) := ⟨fun h => h.2, fun h => ⟨⟨by omega, by omega, c2⟩, h⟩⟩
          rw [decide_eq_true c2, if_neg (by decide), up1 (by omega), decide_eq_decide.2 he]
          by_cases c3 : x.f1 = 0
          · have hnx : nxt x = x.f0 + 1 := by simp [nxt, c3]
            rw [if_pos c3, upI (by omega) (by omega), ← hnx]
            exact ih (i + 1) k _ (by omega) (by omega) (by omega) (by omega)
          · have hnx : nxt x = x.f0 := by simp [nxt, c3]
            rw [if_neg c3, ← hnx]
            exact ih (i + 1) k _ (by omega) (by omega) (by omega) (by omega)
        · have : ¬ RightL d (x :: l.drop (i + 1)) := fun h => c2 h.1.2.2
          rw [decide_eq_false c2, if_pos (by decide), decide_eq_false this]
open Classical in
theorem right_is (l : List S43) (hF : Few l) (k : Nat) (hk : 3 * l.length + 200 < k) : rows_right.f k l = some (decide (RightL 0 l)) := by
  have := right_l0 l hF l.length 0 k 0 (by omega) (by omega) (by omega) hk
  rw [Int.natCast_zero, List.drop_zero] at this
  exact this
/-- What the check of rows answers. -/
def bigL (l : List S43) : Bool := l.any bigB || decide ((l.length : Int) > 4096)
open Classical in
noncomputable def chkV (l : List S43) : Int := if bigL l = true then 2 else if RightL 0 l then 0 else 40
theorem big_is (l : List S43) : rows_big.f l = some (bigL l) := by
  unfold rows_big.f bigL
  rw [Bool.or_comm]
open Classical in
theorem check_is (l : List S43) (hF : Few l) (k : Nat) (hk : 3 * l.length + 200 < k) : rows_Check.f k l = some (chkV l) := by
  unfold rows_Check.f chkV
  rw [big_is, right_is l hF k hk]
  simp only [Option.bind_some]
  by_cases c : bigL l = true
  · rw [if_pos c, if_pos c]
  · rw [if_neg c, if_neg c]
    by_cases c1 : RightL 0 l
    · rw [if_pos c1, decide_eq_true c1]; rfl
    · rw [if_neg c1, decide_eq_false c1]; rfl

/-! The document's answers. -/
def refFin (a1 : Int) (a2 a3 : ByteArray) : Bool := if a1 = 0 then (if a2.toList = ([] : List UInt8) then false else a3.toList == ([] : List UInt8)) else false
open Classical in
theorem refrow_l1 (l : List S46) (hm : l.length < 9223372036854775807) (a0 a1 : Int) (a2 a3 : ByteArray) (i : Nat) (hi : i < l.length) (K : Nat) (v : Bool)
    (hnext : ∀ k, K < k → boltingref04_Row.l0 k ((i + 1 : Nat) : Int) a0 a1 a2 a3 l = some v) : ∀ e j k, j + e = i → K + e + 1 < k →
    boltingref04_Row.l1 k (i : Int) (j : Int) a0 a1 a2 a3 l = some (decide (NoneLike l i j) && v) := by
  intro e
  induction e with
  | zero =>
    intro j k hj hk
    obtain ⟨k, rfl⟩ : ∃ m, k = m + 1 := ⟨k - 1, by omega⟩
    simp only [boltingref04_Row.l1]
    rw [if_neg (by omega), up1 (by omega), hnext k (by omega)]
    have : NoneLike l i j := fun a ha hai => by omega
    simp [this]
  | succ e ih =>
    intro j k hj hk
    obtain ⟨k, rfl⟩ : ∃ m, k = m + 1 := ⟨k - 1, by omega⟩
    simp only [boltingref04_Row.l1]
    rw [if_pos (by omega), if_pos (by omega), if_pos (by omega), if_pos (by omega), if_pos (by omega)]
    have hs := noneLike_step (l := l) (i := i) (j := j) (by omega)
    by_cases hq : (rd_T46 l (i : Int)).f0.toList = (rd_T46 l (j : Int)).f0.toList
    · rw [if_pos hq]
      have : ¬ NoneLike l i j := fun h => (hs.1 h).1 hq.symm
      simp [this]
    · rw [if_neg hq, up1 (by omega), ih (j + 1) k (by omega) (by omega)]
      have : decide (NoneLike l i j) = decide (NoneLike l i (j + 1)) := by
        apply decide_eq_decide.2
        exact ⟨fun h => (hs.1 h).2, fun h => hs.2 ⟨fun e => hq e.symm, h⟩⟩
      rw [this]
open Classical in
theorem refrow_l0 (l : List S46) (hm : l.length < 9223372036854775807) (a0 a1 : Int) (a2 a3 : ByteArray) : ∀ d i k, i + d = l.length → d * (l.length + 3) < k →
    boltingref04_Row.l0 k (i : Int) a0 a1 a2 a3 l = some (decide (NoTwo l i) && refFin a1 a2 a3) := by
  intro d
  induction d with
  | zero =>
    intro i k hi hk
    obtain ⟨k, rfl⟩ : ∃ m, k = m + 1 := ⟨k - 1, by omega⟩
    simp only [boltingref04_Row.l0]
    rw [if_neg (by omega)]
    have : NoTwo l i := fun a b hab hib hb => by omega
    simp only [this, decide_true, Bool.true_and, refFin]
    split <;> (try rfl)
    split <;> rfl
  | succ d ih =>
    intro i k hi hk
    obtain ⟨k, rfl⟩ : ∃ m, k = m + 1 := ⟨k - 1, by omega⟩
    rw [Nat.succ_mul] at hk
    simp only [boltingref04_Row.l0]
    rw [if_pos (by omega)]
    have h1 := refrow_l1 l hm a0 a1 a2 a3 i (by omega) (d * (l.length + 3)) (decide (NoTwo l (i + 1)) && refFin a1 a2 a3) (fun k hk => ih (i + 1) k (by omega) hk) i 0 k (by omega) (by omega)
    rw [Int.natCast_zero] at h1
    rw [h1, ← Bool.and_assoc]
    congr 2
    rw [← Bool.decide_and]
    exact decide_eq_decide.2 (noTwo_step (by omega)).symm
open Classical in
theorem refrow_is (x : S43) (hm : x.f4.length < 9223372036854775807) (k : Nat) (hk : x.f4.length * (x.f4.length + 3) + 4 < k) : boltingref04_Row.f k x.f0 x.f1 x.f2 x.f3 x.f4 = some (decide (RowOk x)) := by
  obtain ⟨k, rfl⟩ : ∃ m, k = m + 1 := ⟨k - 1, by omega⟩
  have h0 := refrow_l0 x.f4 hm x.f0 x.f1 x.f2 x.f3 x.f4.length 0 k (by omega) (by omega)
  rw [Int.natCast_zero] at h0
  unfold boltingref04_Row.f RowOk
  by_cases h1 : x.f1 = 1
  · simp only [h1, boltingref04_Row.j0, true_or, if_true]
    by_cases h2 : x.f2.toList = []
    · simp [h2, len_eq0]
    · simp [h2]
  · by_cases h2 : x.f1 = 2
    · simp only [h2, boltingref04_Row.j0, or_true, if_true, beq_self_eq_true]
      by_cases h3 : x.f2.toList = []
      · simp [h3, len_eq0]
      · simp [h3]
    · have hb : (x.f1 == 2) = false := beq_eq_false_iff_ne.2 h2
      simp only [h1, h2, hb, boltingref04_Row.j0, or_self, if_false, Bool.false_eq_true]
      rw [h0]
      by_cases h3 : x.f1 = 0
      · by_cases h4 : x.f2.toList = []
        · simp [h3, h4, refFin]
        · by_cases h5 : x.f3.toList = []
          · simp [h3, h4, h5, refFin]
          · simp [h3, h4, h5, refFin]
      · simp [h3, refFin]
open Classical in
theorem refright_l0 (l : List S43) (hF : Few l) : ∀ e i k (d : Int), i + e = l.length → (if h : 0 < i ∧ i ≤ l.length then d = nxt (l[i - 1]'(by omega)) ∧ 0 ≤ (l[i - 1]'(by omega)).f0 ∧ (l[i - 1]'(by omega)).f0 + 1 ≤ i else d = 0) → 3 * e + 200 < k →
    boltingref04_Right.l0 k l (i : Int) = some (decide (RightL d (l.drop i))) := by
  have hn := hF.1
  intro e
  induction e with
  | zero =>
    intro i k d hi h0 hk
    obtain ⟨k, rfl⟩ : ∃ m, k = m + 1 := ⟨k - 1, by omega⟩
    simp only [boltingref04_Right.l0]
    rw [if_neg (by omega), List.drop_of_length_le (by omega)]
    exact congrArg some (decide_eq_true (show RightL d [] from trivial)).symm
  | succ e ih =>
    intro i k d hi h0 hk
    obtain ⟨k, rfl⟩ : ∃ m, k = m + 2 := ⟨k - 2, by omega⟩
    have hil : i < l.length := by omega
    have hx8 := hF.2 l[i] (List.getElem_mem hil)
    have hnext : ∀ (hh : 0 ≤ l[i].f0 ∧ l[i].f0 ≤ i), boltingref04_Right.l0 k l ((i + 1 : Nat) : Int) = some (decide (RightL (nxt l[i]) (l.drop (i + 1)))) := by
      intro hh
      refine ih (i + 1) k _ (by omega) ?_ (by omega)
      rw [dif_pos ⟨by omega, by omega⟩]
      exact ⟨rfl, hh.1, by have := hh.2; simp only [Nat.add_sub_cancel]; omega⟩
    simp only [boltingref04_Right.l0]
    rw [if_pos (by omega), if_pos (by omega), rd_T43_at l i hil, List.drop_eq_getElem_cons hil]
    obtain ⟨x, hx⟩ : ∃ x, l[i] = x := ⟨_, rfl⟩
    rw [hx] at hx8 hnext ⊢
    have hf := few_fuel hx8
    rw [refrow_is x (by omega) (k + 1) (by omega)]
    simp only [Option.bind_some]
    by_cases c2 : RowOk x
    · rw [decide_eq_true c2, if_pos rfl]
      by_cases c0 : x.f0 < 0
      · rw [if_pos c0]
        have : ¬ RightL d (x :: l.drop (i + 1)) := fun h => by have := h.1.1; omega
        simp [boltingref04_Right.j1, this]
      · rw [if_neg c0]
        by_cases ci : i = 0
        · subst ci
          rw [dif_neg (by omega)] at h0
          subst h0
          rw [if_pos (by omega)]
          by_cases c1 : x.f0 = 0
          · have he : RightL 0 (x :: l.drop (0 + 1)) ↔ RightL (nxt x) (l.drop (0 + 1)) := ⟨fun h => h.2, fun h => ⟨⟨by omega, by omega, c2⟩, h⟩⟩
            have hb : (x.f0 != 0) = false := bne_eq_false_iff_eq.2 c1
            rw [hb]
            simp only [boltingref04_Right.j1]
            rw [if_neg (by decide), if_neg (by omega), up1 (by omega), decide_eq_decide.2 he]
            exact hnext ⟨by omega, by omega⟩
          · have : ¬ RightL 0 (x :: l.drop (0 + 1)) := fun h => by have := h.1.2.1; omega
            have hb : (x.f0 != 0) = true := bne_iff_ne.2 c1
            rw [hb]
            simp only [boltingref04_Right.j1, if_true]
            exact congrArg some (decide_eq_false this).symm
        · obtain ⟨i, rfl⟩ : ∃ j, i = j + 1 := ⟨i - 1, by omega⟩
          rw [dif_pos ⟨by omega, by omega⟩] at h0
          simp only [Nat.add_sub_cancel] at h0
          obtain ⟨y, hy⟩ : ∃ y, l[i]'(by omega) = y := ⟨_, rfl⟩
          rw [hy] at h0
          obtain ⟨hd, y0, y1⟩ := h0
          rw [if_neg (by omega)]
          simp only [boltingref04_Right.j1]
          rw [if_neg (by decide), if_pos (by omega), dn1 (by omega), if_pos (by omega), if_pos (by omega), rd_T43_at l i (by omega), hy, upI (by omega) (by omega)]
          by_cases c3 : x.f0 > y.f0 + 1
          · rw [if_pos c3]
            have : ¬ RightL d (x :: l.drop (i + 1 + 1)) := fun h => by have := h.1.2.1; unfold nxt at hd; split at hd <;> omega
            simp [this]
          · rw [if_neg c3]
            by_cases c4 : x.f0 = y.f0 + 1
            · rw [if_pos c4]
              by_cases c5 : y.f1 = 0
              · have he : RightL d (x :: l.drop (i + 1 + 1)) ↔ RightL (nxt x) (l.drop (i + 1 + 1)) := ⟨fun h => h.2, fun h => ⟨⟨by omega, by simp only [nxt, c5, if_true] at hd; omega, c2⟩, h⟩⟩
                rw [if_pos c5, up1 (by omega), decide_eq_decide.2 he]
                exact hnext ⟨by omega, by omega⟩
              · have : ¬ RightL d (x :: l.drop (i + 1 + 1)) := fun h => by have := h.1.2.1; simp only [nxt, c5, if_false] at hd; omega
                rw [if_neg c5]
                simp [this]
            · have he : RightL d (x :: l.drop (i + 1 + 1)) ↔ RightL (nxt x) (l.drop (i + 1 + 1)) := ⟨fun h => h.2, fun h => ⟨⟨by omega, by unfold nxt at hd; split at hd <;> omega, c2⟩, h⟩⟩
              rw [if_neg c4, up1 (by omega), decide_eq_decide.2 he]
              exact hnext ⟨by omega, by omega⟩
    · have : ¬ RightL d (x :: l.drop (i + 1)) := fun h => c2 h.1.2.2
      rw [decide_eq_false c2, if_neg (by decide)]
      simp [boltingref04_Right.j1, this]
open Classical in
theorem refright_is (l : List S43) (hF : Few l) (k : Nat) (hk : 3 * l.length + 200 < k) : boltingref04_Right.f k l = some (decide (RightL 0 l)) := by
  have := refright_l0 l hF l.length 0 k 0 (by omega) (by rw [dif_neg (by omega)]) hk
  rw [Int.natCast_zero, List.drop_zero] at this
  exact this
theorem refbig_l0 (l : List S43) (hn : l.length ≤ 1000000) : ∀ e i k, i + e = l.length → e < k →
    boltingref04_Big.l0 k l (i : Int) = some ((l.drop i).any bigB || decide ((l.length : Int) > 4096)) := by
  intro e
  induction e with
  | zero =>
    intro i k hi hk
    obtain ⟨k, rfl⟩ : ∃ m, k = m + 1 := ⟨k - 1, by omega⟩
    simp only [boltingref04_Big.l0]
    rw [if_neg (by omega), List.drop_of_length_le (by omega)]
    simp
  | succ e ih =>
    intro i k hi hk
    obtain ⟨k, rfl⟩ : ∃ m, k = m + 1 := ⟨k - 1, by omega⟩
    simp only [boltingref04_Big.l0]
    rw [if_pos (by omega), if_pos (by omega), rd_T43_at l i (by omega), List.drop_eq_getElem_cons (show i < l.length by omega), List.any_cons]
    by_cases c : (l[i]'(by omega)).f0 ≥ 60
    · rw [if_pos c]
      have : bigB (l[i]'(by omega)) = true := decide_eq_true c
      rw [this]; rfl
    · rw [if_neg c, up1 (by omega), ih (i + 1) k (by omega) (by omega)]
      have : bigB (l[i]'(by omega)) = false := decide_eq_false c
      rw [this, Bool.false_or]
open Classical in
theorem refcheck_is (l : List S43) (hF : Few l) (k : Nat) (hk : 3 * l.length + 200 < k) : boltingref04_Check.f k l = some (chkV l) := by
  unfold boltingref04_Check.f chkV
  have hb : boltingref04_Big.f k l = some (bigL l) := by
    have := refbig_l0 l hF.1 l.length 0 k (by omega) (by omega)
    rw [Int.natCast_zero, List.drop_zero] at this
    exact this
  rw [hb, refright_is l hF k hk]
  simp only [Option.bind_some]
  by_cases c : bigL l = true
  · rw [if_pos c, if_pos c]
  · rw [if_neg c, if_neg c]
    by_cases c1 : RightL 0 l
    · rw [if_pos c1, decide_eq_true c1]; rfl
    · rw [if_neg c1, decide_eq_false c1]; rfl

/-! Rows so much deeper; no more than a statement can hold; the fixed calls. -/
def mvx (by_ : Int) (x : S43) : S43 := ⟨wrap64 (x.f0 + by_), x.f1, x.f2, x.f3, x.f4⟩
theorem moved_l0 (l : List S43) (hF : Few l) (by_ : Int) : ∀ e i k (out : List S43), i + e = l.length → out.length = i → e < k →
    rows_moved.l0 k by_ out l (l.length : Int) (i : Int) = some (out ++ (l.drop i).map (mvx by_)) := by
  have hn := hF.1
  intro e
  induction e with
  | zero =>
    intro i k out hi ho hk
    obtain ⟨k, rfl⟩ : ∃ m, k = m + 1 := ⟨k - 1, by omega⟩
    simp only [rows_moved.l0]
    rw [if_neg (by omega), List.drop_of_length_le (by omega)]
    simp
  | succ e ih =>
    intro i k out hi ho hk
    obtain ⟨k, rfl⟩ : ∃ m, k = m + 1 := ⟨k - 1, by omega⟩
    have hil : i < l.length := by omega
    have hx8 := hF.2 l[i] (List.getElem_mem hil)
    have hcl : api_Attr.f (l[i]).f4 = some (l[i]).f4 := by unfold api_Attr.f; rw [if_pos (by omega)]
    simp only [rows_moved.l0]
    rw [if_pos (by omega), if_pos (by omega), if_pos (by omega), rd_T43_at l i hil, hcl]
    simp only [Option.bind_some]
    rw [if_pos (by omega), up1 (by omega), ih (i + 1) k _ (by omega) (by simp; omega) (by omega), List.drop_eq_getElem_cons hil, List.map_cons, List.append_assoc]
    rfl
theorem moved_is (l : List S43) (hF : Few l) (by_ : Int) (k : Nat) (hk : l.length < k) : rows_moved.f k l by_ = some (l.map (mvx by_)) := by
  have := moved_l0 l hF by_ l.length 0 k [] (by omega) rfl hk
  rw [Int.natCast_zero, List.drop_zero, List.nil_append] at this
  exact this
/-- A row's depth is an int. -/
def DepthIn (x : S43) : Prop := -9223372036854775808 ≤ x.f0 ∧ x.f0 < 9223372036854775808
theorem mvx_zero (x : S43) (h : DepthIn x) : mvx 0 x = x := by
  obtain ⟨h0, h1⟩ := h
  have : wrap64 (x.f0 + 0) = x.f0 := by unfold wrap64; omega
  unfold mvx
  rw [this]
theorem map_mvx0 (l : List S43) (h : ∀ x ∈ l, DepthIn x) : l.map (mvx 0) = l := by
  induction l with
  | nil => rfl
  | cons x l ih =>
    rw [List.map_cons, mvx_zero x (h x List.mem_cons_self), ih fun y hy => h y (List.mem_cons_of_mem _ hy)]
/-- The rows that a statement takes. -/
def bndx (x : S43) : S43 := ⟨x.f0, x.f1, x.f2, x.f3, x.f4.take 8⟩
def bnd (l : List S43) : List S43 := (l.take 60).map bndx
theorem bnd_few (l : List S43) : Few (bnd l) := by
  refine ⟨by simp [bnd]; omega, fun x hx => ?_⟩
  obtain ⟨y, _, rfl⟩ := List.mem_map.1 hx
  simp [bndx]; omega
theorem bnd_len (l : List S43) : (bnd l).length ≤ 60 := by simp [bnd]; omega
theorem bnd_in (l : List S43) (h : ∀ x ∈ l, RowIn x) : ∀ x ∈ bnd l, DepthIn x := by
  intro x hx
  obtain ⟨y, hy, rfl⟩ := List.mem_map.1 hx
  exact (h y (List.mem_of_mem_take hy)).1
theorem take_mn (l : List S46) : l.take ((mn (l.length : Int) 8) : Int).toNat = l.take 8 := by
  unfold mn
  split
  · rfl
  · rw [List.take_of_length_le (by omega), List.take_of_length_le (by omega)]
theorem bound_l0 (l : List S43) : ∀ e i k (out : List S43), i + e = 60 → out.length = min i l.length → i ≤ l.length → e + 1 < k →
    boltinglaw04_bound.l0 k l out (i : Int) = some (out ++ ((l.take 60).drop i).map bndx) := by
  intro e
  induction e with
  | zero =>
    intro i k out hi ho hil hk
    obtain ⟨k, rfl⟩ : ∃ m, k = m + 1 := ⟨k - 1, by omega⟩
    have : (l.take 60).drop i = [] := List.drop_of_length_le (by simp; omega)
    simp only [boltinglaw04_bound.l0]
    rw [this, if_neg (show ¬ ((i : Int) < 60) by omega)]
    split <;> simp
  | succ e ih =>
    intro i k out hi ho hil hk
    obtain ⟨k, rfl⟩ : ∃ m, k = m + 1 := ⟨k - 1, by omega⟩
    simp only [boltinglaw04_bound.l0]
    by_cases hc : i < l.length
    · have h0 : 0 ≤ mn (((l[i]).f4).length : Int) 8 := by unfold mn; split <;> omega
      have h1 : mn (((l[i]).f4).length : Int) 8 ≤ (((l[i]).f4).length : Int) := by unfold mn; split <;> omega
      rw [if_pos (by omega), if_pos (by omega), if_pos (by omega), rd_T43_at l i hc, if_pos h0, if_pos h1, if_pos (by omega), up1 (by omega), take_mn, ih (i + 1) k _ (by omega) (by simp; omega) (by omega) (by omega)]
      rw [List.drop_eq_getElem_cons (show i < (l.take 60).length by simp; omega), List.getElem_take]
      simp [bndx]
    · have : (l.take 60).drop i = [] := List.drop_of_length_le (by simp; omega)
      rw [this, if_neg (by omega)]
      simp
theorem bound_is (l : List S43) (k : Nat) (hk : 62 ≤ k) : boltinglaw04_bound.f k l = some (bnd l) := by
  have := bound_l0 l 60 0 k [] (by omega) (by simp) (by omega) (by omega)
  rw [Int.natCast_zero, List.drop_zero, List.nil_append] at this
  exact this

theorem refmoved_l0 (l : List S43) (hF : Few l) (by_ : Int) : ∀ e i k (out : List S43), i + e = l.length → out.length = i → e < k →
    boltingref04_Moved.l0 k l by_ out (i : Int) = some (out ++ (l.drop i).map (mvx by_)) := by
  have hn := hF.1
  intro e
  induction e with
  | zero =>
    intro i k out hi ho hk
    obtain ⟨k, rfl⟩ : ∃ m, k = m + 1 := ⟨k - 1, by omega⟩
    simp only [boltingref04_Moved.l0]
    rw [if_neg (by omega), List.drop_of_length_le (by omega)]
    simp
  | succ e ih =>
    intro i k out hi ho hk
    obtain ⟨k, rfl⟩ : ∃ m, k = m + 1 := ⟨k - 1, by omega⟩
    have hil : i < l.length := by omega
    have hx8 := hF.2 l[i] (List.getElem_mem hil)
    simp only [boltingref04_Moved.l0]
    rw [if_pos (by omega), if_pos (by omega), rd_T43_at l i hil]
    simp only [Option.bind_some]
    rw [if_pos (by simp only [List.length_nil]; omega), if_pos (by omega), up1 (by omega), ih (i + 1) k _ (by omega) (by simp; omega) (by omega), List.drop_eq_getElem_cons hil, List.map_cons, List.append_assoc]
    rfl
theorem refmoved_is (l : List S43) (hF : Few l) (by_ : Int) (k : Nat) (hk : l.length < k) : boltingref04_Moved.f k l by_ = some (l.map (mvx by_)) := by
  have := refmoved_l0 l hF by_ l.length 0 k [] (by omega) rfl hk
  rw [Int.natCast_zero, List.drop_zero, List.nil_append] at this
  exact this

theorem fixed_100 : boltinglaw04_fixed.f 100 = some true := by decide +kernel
theorem fixed_is (k : Nat) (hk : 100 ≤ k) : boltinglaw04_fixed.f k = some true := at_rounds boltinglaw04_fixed.mono hk fixed_100

/-! Ends, parents, kids. -/
/-- A row's depth. -/
def dp (l : List S43) (i : Nat) : Int := (rd_T43 l (i : Int)).f0
theorem dp_at (l : List S43) (i : Nat) (h : i < l.length) : dp l i = l[i].f0 := by unfold dp; rw [rd_T43_at l i h]
theorem right_nth : ∀ (l : List S43) (d : Int), RightL d l → ∀ i (h : i < l.length), 0 ≤ l[i].f0 ∧ (i = 0 → l[i].f0 ≤ d) ∧ RowOk l[i] ∧ ∀ (h' : i + 1 < l.length), l[i + 1].f0 ≤ nxt l[i]
  | [], _, _, i, h => by simp at h
  | x :: l, d, H, i, h => by
    cases i with
    | zero =>
      refine ⟨H.1.1, fun _ => H.1.2.1, H.1.2.2, fun h' => ?_⟩
      have h2 : 0 < l.length := by simp at h'; omega
      exact (right_nth l _ H.2 0 h2).2.1 rfl
    | succ i =>
      have h2 : i < l.length := by simp at h; omega
      have ih := right_nth l _ H.2 i h2
      refine ⟨ih.1, fun e => by omega, ih.2.2.1, fun h' => ?_⟩
      exact ih.2.2.2 (by simp at h'; omega)
theorem nxt_le (x : S43) : nxt x ≤ x.f0 + 1 := by unfold nxt; split <;> omega
theorem right_dp {l : List S43} (H : RightL 0 l) : (∀ i, i < l.length → 0 ≤ dp l i) ∧ (0 < l.length → dp l 0 = 0) ∧ ∀ i, i + 1 < l.length → dp l (i + 1) ≤ dp l i + 1 := by
  refine ⟨fun i h => ?_, fun h => ?_, fun i h => ?_⟩
  · rw [dp_at l i h]; exact (right_nth l 0 H i h).1
  · rw [dp_at l 0 h]
    have := right_nth l 0 H 0 h
    have := this.2.1 rfl
    have := (right_nth l 0 H 0 h).1
    omega
  · rw [dp_at l _ h, dp_at l i (by omega)]
    have h1 := (right_nth l 0 H i (by omega)).2.2.2 h
    have := nxt_le (l[i]'(by omega))
    omega
theorem takeWhile_all {α : Type} (p : α → Bool) : ∀ (l : List α) (i : Nat) (h : i < l.length), i < (l.takeWhile p).length → p l[i] = true
  | [], i, h, _ => by simp at h
  | x :: l, i, h, h2 => by
    rw [List.takeWhile_cons] at h2
    by_cases hp : p x = true
    · rw [if_pos hp] at h2
      cases i with
      | zero => exact hp
      | succ i => exact takeWhile_all p l i (by simp at h; omega) (by simp at h2; omega)
    · rw [if_neg hp] at h2; simp at h2
theorem takeWhile_stop {α : Type} (p : α → Bool) : ∀ (l : List α) (h : (l.takeWhile p).length < l.length), p (l[(l.takeWhile p).length]'h) = false
  | [], h => by simp at h
  | x :: l, h => by
    by_cases hp : p x = true
    · have e : (x :: l).takeWhile p = x :: l.takeWhile p := by rw [List.takeWhile_cons, if_pos hp]
      have ih := takeWhile_stop p l (by rw [e] at h; simp at h; omega)
      simp only [e, List.length_cons, List.getElem_cons_succ]
      exact ih
    · have e : (x :: l).takeWhile p = [] := by rw [List.takeWhile_cons, if_neg hp]
      simp only [e, List.length_nil, List.getElem_cons_zero]
      exact Bool.eq_false_iff.2 hp
theorem endN_in (l : List S43) (i j : Nat) (hij : i < j) (hj : j < endN l i) (hjl : j < l.length) : dp l i < dp l j := by
  unfold endN at hj
  have h1 : j - (i + 1) < (l.drop (i + 1)).length := by simp; omega
  have := takeWhile_all (fun x => decide (x.f0 > (rd_T43 l (i : Int)).f0)) (l.drop (i + 1)) (j - (i + 1)) h1 (by omega)
  rw [List.getElem_drop] at this
  have e : i + 1 + (j - (i + 1)) = j := by omega
  simp only [e] at this
  have := of_decide_eq_true this
  rw [dp_at l j hjl]
  exact this
theorem endN_out (l : List S43) (i : Nat) (h : endN l i < l.length) : dp l (endN l i) ≤ dp l i := by
  have h1 : ((l.drop (i + 1)).takeWhile fun x => decide (x.f0 > (rd_T43 l (i : Int)).f0)).length < (l.drop (i + 1)).length := by
    unfold endN at h; simp only [List.length_drop]; omega
  have := takeWhile_stop (fun x => decide (x.f0 > (rd_T43 l (i : Int)).f0)) (l.drop (i + 1)) h1
  rw [List.getElem_drop] at this
  have := of_decide_eq_false this
  rw [dp_at l _ h]
  unfold dp
  have e : (l[endN l i]'h).f0 = (l[i + 1 + ((l.drop (i + 1)).takeWhile fun x => decide (x.f0 > (rd_T43 l (i : Int)).f0)).length]'(by unfold endN at h; exact h)).f0 := rfl
  rw [e]
  omega
theorem end_is (l : List S43) (hn : l.length ≤ 1000000) (i : Nat) (hi : i < l.length) (k : Nat) (hk : l.length < k) : rows_End.f k l (i : Int) = some ((endN l i : Nat) : Int) := by
  unfold rows_End.f rows_is.f
  rw [if_pos (by omega)]
  simp only [Option.bind_some]
  rw [if_pos (by simpa using hi), up1 (by omega), rows_End.is_l l (by omega) i hi (l.length - (i + 1)) _ (i + 1) (by omega) (by omega)]
  rfl
/-- The node that has node k: looked for from j - 1 down. -/
def parI (l : List S43) (k : Nat) : Nat → Int
  | 0 => -1
  | j + 1 => if dp l j < dp l k then (j : Int) else parI l k j
def par (l : List S43) (k : Nat) : Int := parI l k k
theorem parI_lt (l : List S43) (k : Nat) : ∀ j, -1 ≤ parI l k j ∧ parI l k j < (j : Int)
  | 0 => ⟨by simp [parI], by simp [parI]⟩
  | j + 1 => by
    have := parI_lt l k j
    unfold parI
    split <;> omega
theorem parI_eq (l : List S43) (k q : Nat) (hq : dp l q < dp l k) : ∀ j, q < j → (∀ m, q < m → m < j → dp l k ≤ dp l m) → parI l k j = (q : Int)
  | 0, h, _ => by omega
  | j + 1, h, H => by
    unfold parI
    by_cases e : j = q
    · subst e; rw [if_pos hq]
    · have := H j (by omega) (by omega)
      rw [if_neg (by omega)]
      exact parI_eq l k q hq j (by omega) (fun m h1 h2 => H m h1 (by omega))
theorem parI_none (l : List S43) (k : Nat) : ∀ j, (∀ m, m < j → dp l k ≤ dp l m) → parI l k j = -1
  | 0, _ => rfl
  | j + 1, H => by
    unfold parI
    have := H j (by omega)
    rw [if_neg (by omega)]
    exact parI_none l k j (fun m h => H m (by omega))
theorem parI_ge (l : List S43) (k q : Nat) (hq : dp l q < dp l k) : ∀ j, q < j → (q : Int) ≤ parI l k j
  | 0, h => by omega
  | j + 1, h => by
    unfold parI
    by_cases e : dp l j < dp l k
    · rw [if_pos e]; omega
    · rw [if_neg e]
      by_cases e2 : j = q
      · subst e2; exact absurd hq e
      · exact parI_ge l k q hq j (by omega)
theorem parI_spec (l : List S43) (k q : Nat) : ∀ j, parI l k j = (q : Int) → q < j ∧ dp l q < dp l k ∧ ∀ m, q < m → m < j → dp l k ≤ dp l m
  | 0, h => by unfold parI at h; omega
  | j + 1, h => by
    unfold parI at h
    by_cases e : dp l j < dp l k
    · rw [if_pos e] at h
      have : j = q := by omega
      subst this
      exact ⟨by omega, e, fun m h1 h2 => by omega⟩
    · rw [if_neg e] at h
      have ih := parI_spec l k q j h
      refine ⟨by omega, ih.2.1, fun m h1 h2 => ?_⟩
      by_cases e2 : m = j
      · subst e2; omega
      · exact ih.2.2 m h1 (by omega)
theorem parent_l0 (l : List S43) (hn : l.length ≤ 1000000) (i : Nat) (hi : i < l.length) : ∀ j k, j ≤ l.length → j < k → rows_Parent.l0 k l (i : Int) ((j : Int) - 1) = some (parI l i j)
  | 0, k, hj, hk => by
    obtain ⟨k, rfl⟩ : ∃ m, k = m + 1 := ⟨k - 1, by omega⟩
    simp only [rows_Parent.l0]
    rw [if_neg (by omega)]
    rfl
  | j + 1, k, hj, hk => by
    obtain ⟨k, rfl⟩ : ∃ m, k = m + 1 := ⟨k - 1, by omega⟩
    have e : ((j + 1 : Nat) : Int) - 1 = (j : Int) := by omega
    have e2 : wrap64 ((j : Int) - 1) = (j : Int) - 1 := by unfold wrap64; omega
    simp only [rows_Parent.l0]
    rw [e, if_pos (by omega), if_pos (by omega), if_pos (by omega), if_pos (by omega), if_pos (by omega), e2, parent_l0 l hn i hi j k (by omega) (by omega)]
    unfold parI dp
    by_cases c : (rd_T43 l (j : Int)).f0 < (rd_T43 l (i : Int)).f0
    · rw [if_pos c, if_pos c]
    · rw [if_neg c, if_neg c]; cases j <;> rfl
theorem parent_is (l : List S43) (hn : l.length ≤ 1000000) (i : Nat) (hi : i < l.length) (k : Nat) (hk : l.length < k) : rows_Parent.f k l (i : Int) = some (par l i) := by
  unfold rows_Parent.f rows_is.f
  rw [if_pos (by omega)]
  simp only [Option.bind_some]
  have e2 : wrap64 ((i : Int) - 1) = (i : Int) - 1 := by unfold wrap64; omega
  rw [if_pos (by simpa using hi), e2, parent_l0 l hn i hi i k (by omega) (by omega)]
  rfl
theorem kids_is (l : List S43) (hn : l.length ≤ 1000000) (i : Int) : rows_Kids.f l i = some (intsOf (kidsOf l i)) := by
  unfold rows_Kids.f
  rw [if_pos (by omega)]
theorem ints_len (l : List Nat) : (intsOf l).length = l.length := by simp [intsOf]
theorem rd_ints (l : List Nat) (j : Nat) (h : j < l.length) : rd (intsOf l) (j : Int) = (l[j] : Int) := by
  simp [rd, intsOf, h]
theorem chk_right {l : List S43} (h : chkV l = 0) : RightL 0 l := by
  unfold chkV at h
  split at h
  · cases h
  · split at h
    · assumption
    · cases h
/-- Where a node's kids stand: behind it, below its end. -/
structure Span (l : List S43) (i : Int) (dI : Int) (fr en : Nat) : Prop where
  le : en ≤ l.length
  frl : fr ≤ en
  below : ∀ j, fr ≤ j → j < en → dI < dp l j
  out : en < l.length → dp l en ≤ dI
  par : (i = -1 ∧ dI = -1 ∧ fr = 0 ∧ en = l.length) ∨ ∃ q : Nat, i = (q : Int) ∧ fr = q + 1 ∧ dp l q = dI ∧ q < l.length
theorem span_root (l : List S43) (H : RightL 0 l) : Span l (-1) (-1) 0 l.length :=
  ⟨Nat.le_refl _, Nat.zero_le _, fun j _ h => by have := (right_dp H).1 j h; omega, fun h => by omega, .inl ⟨rfl, rfl, rfl, rfl⟩⟩
theorem span_node (l : List S43) (q : Nat) (hq : q < l.length) : Span l (q : Int) (dp l q) (q + 1) (endN l q) :=
  ⟨endN_le l q hq, endN_lt l q, fun j h1 h2 => endN_in l q j (by omega) h2 (by have := endN_le l q hq; omega), fun h => endN_out l q h, .inr ⟨q, rfl, rfl, rfl, hq⟩⟩
theorem span_first {l : List S43} (H : RightL 0 l) {i dI : Int} {fr en : Nat} (S : Span l i dI fr en) (h : fr < en) : dp l fr = dI + 1 := by
  have hle := S.le
  have hb := S.below fr (Nat.le_refl _) h
  rcases S.par with ⟨_, rfl, rfl, _⟩ | ⟨q, _, rfl, rfl, hq⟩
  · have := (right_dp H).2.1 (by omega); omega
  · have := (right_dp H).2.2 q (by omega); omega
theorem span_end {l : List S43} {i dI : Int} {fr en : Nat} (S : Span l i dI fr en) {k : Nat} (hk : k < en) (hfk : fr ≤ k) : endN l k ≤ en := by
  rcases Nat.lt_or_ge en (endN l k) with h | h
  · have hle := S.le
    have hkl := endN_le l k (by omega)
    have h1 := endN_in l k en hk h (by omega)
    have h2 := S.out (by omega)
    have h3 := S.below k hfk hk
    omega
  · exact h
theorem span_next {l : List S43} {i dI : Int} {fr en : Nat} (S : Span l i dI fr en) {k : Nat} (hk : k < en) (hfk : fr ≤ k) (hd : dp l k = dI + 1) (he : endN l k < en) : dp l (endN l k) = dI + 1 := by
  have hle := S.le
  have h1 := S.below (endN l k) (by have := endN_lt l k; omega) he
  have h2 := endN_out l k (by omega)
  omega
theorem span_par {l : List S43} {i dI : Int} {fr en : Nat} (S : Span l i dI fr en) {k : Nat} (hk : k < en) (hfk : fr ≤ k) (hd : dp l k = dI + 1) : par l k = i := by
  unfold par
  rcases S.par with ⟨rfl, rfl, rfl, _⟩ | ⟨q, rfl, rfl, rfl, hq⟩
  · exact parI_none l k k fun m hm => by have := S.below m (by omega) (by omega); omega
  · exact parI_eq l k q (by omega) k (by omega) fun m h1 h2 => by have := S.below m (by omega) (by omega); omega
/-- How many nodes of a stretch have i as their parent. -/
def cnt (l : List S43) (i : Int) (a n : Nat) : Nat := (List.range' a n).countP fun k => par l k == i
theorem cnt_add (l : List S43) (i : Int) (a m n : Nat) : cnt l i a (m + n) = cnt l i a m + cnt l i (a + m) n := by
  unfold cnt
  rw [← List.countP_append, List.range'_append_1]
theorem cnt_zero (l : List S43) (i : Int) (a n : Nat) (h : ∀ k, a ≤ k → k < a + n → par l k ≠ i) : cnt l i a n = 0 := by
  unfold cnt
  rw [List.countP_eq_zero]
  intro k hk
  rw [List.mem_range'_1] at hk
  simpa using h k hk.1 hk.2
theorem cnt_one (l : List S43) (i : Int) (a : Nat) (h : par l a = i) : cnt l i a 1 = 1 := by
  unfold cnt
  simp [List.range'_one, h]
theorem span_cnt {l : List S43} {i dI : Int} {fr en : Nat} (S : Span l i dI fr en) {k : Nat} (hk : k < en) (hfk : fr ≤ k) (hd : dp l k = dI + 1) : cnt l i k (endN l k - k) = 1 := by
  have hlt := endN_lt l k
  have hle := S.le
  have hel := endN_le l k (by omega)
  have hik : i < (k : Int) := by
    rcases S.par with ⟨rfl, _, _⟩ | ⟨q, rfl, rfl, _, _⟩ <;> omega
  rw [show endN l k - k = 1 + (endN l k - k - 1) by omega, cnt_add, cnt_one l i k (span_par S hk hfk hd), cnt_zero]
  intro m h1 h2 he
  have h3 := endN_in l k m (by omega) (by omega) (by omega)
  have h4 := parI_ge l m k h3 m (by omega)
  unfold par at he
  omega
theorem span_all {l : List S43} {i dI : Int} {fr en : Nat} (S : Span l i dI fr en) : cnt l i 0 l.length = cnt l i fr (en - fr) := by
  have hle := S.le
  have hfr := S.frl
  rw [show l.length = fr + ((en - fr) + (l.length - en)) by omega, cnt_add, cnt_add, cnt_zero l i 0 fr, cnt_zero l i _ (l.length - en)]
  · simp
  · intro k h1 h2 he
    rcases S.par with ⟨_, _, _, ht⟩ | ⟨q, rfl, rfl, rfl, hq⟩
    · omega
    · obtain ⟨p1, p2, p3⟩ := parI_spec l k q k he
      have h0 := S.out (by omega)
      by_cases e : k = en
      · subst e; omega
      · have := p3 en (by omega) (by omega); omega
  · intro k h1 h2 he
    rcases S.par with ⟨_, _, hf, _⟩ | ⟨q, rfl, rfl, rfl, hq⟩
    · omega
    · have := (parI_lt l k k).2
      unfold par at he
      omega

/-! Parts of right rows. -/
def lastN (d : Int) : List S43 → Int
  | [] => d
  | x :: l => lastN (nxt x) l
theorem right_append : ∀ (a b : List S43) (d : Int), RightL d (a ++ b) ↔ RightL d a ∧ RightL (lastN d a) b
  | [], b, d => by simp [RightL, lastN]
  | x :: a, b, d => by
    simp only [List.cons_append, RightL, lastN, right_append a b (nxt x)]
    constructor
    · rintro ⟨h1, h2, h3⟩; exact ⟨⟨h1, h2⟩, h3⟩
    · rintro ⟨⟨h1, h2⟩, h3⟩; exact ⟨h1, h2, h3⟩
theorem lastN_append : ∀ (a b : List S43) (d : Int), lastN d (a ++ b) = lastN (lastN d a) b
  | [], b, d => rfl
  | x :: a, b, d => lastN_append a b (nxt x)
theorem right_concat (A : List S43) (x : S43) (d : Int) : RightL d (A ++ [x]) ↔ RightL d A ∧ 0 ≤ x.f0 ∧ x.f0 ≤ lastN d A ∧ RowOk x := by
  rw [right_append]
  simp [RightL]
theorem lastN_concat (A : List S43) (x : S43) (d : Int) : lastN d (A ++ [x]) = nxt x := by rw [lastN_append]; rfl
theorem lastN_ne : ∀ (a : List S43) (d e : Int), a ≠ [] → lastN d a = lastN e a
  | [], _, _, h => absurd rfl h
  | _ :: _, _, _, _ => rfl
theorem right_mono {l : List S43} {d e : Int} (h : RightL d l) (hde : ∀ x ∈ l.head?, x.f0 ≤ e) : RightL e l := by
  cases l with
  | nil => trivial
  | cons x l => exact ⟨⟨h.1.1, hde x rfl, h.1.2.2⟩, h.2⟩
theorem right_le {l : List S43} {d e : Int} (h : RightL d l) (hde : d ≤ e) : RightL e l := by
  cases l with
  | nil => trivial
  | cons x l => exact ⟨⟨h.1.1, by have := h.1.2.1; omega, h.1.2.2⟩, h.2⟩
theorem nxt_ge (x : S43) : x.f0 ≤ nxt x := by unfold nxt; split <;> omega
/-- The last row's next depth is at least what all are. -/
theorem lastN_ge : ∀ (l : List S43) (d c : Int), c ≤ d → (∀ x ∈ l, c ≤ x.f0) → c ≤ lastN d l
  | [], d, c, h, _ => h
  | x :: l, d, c, _, hx => by
    have h1 := hx x List.mem_cons_self
    have h2 := nxt_ge x
    exact lastN_ge l (nxt x) c (by omega) fun y hy => hx y (List.mem_cons_of_mem _ hy)
theorem lastN_ge' (l : List S43) (d c : Int) (hl : l ≠ []) (hx : ∀ x ∈ l, c ≤ x.f0) : c ≤ lastN d l := by
  rw [lastN_ne l d c hl]
  exact lastN_ge l c c (Int.le_refl _) hx
theorem right_bound : ∀ (l : List S43) (d : Int), RightL d l → ∀ x ∈ l, x.f0 ≤ d + l.length
  | [], _, _, x, h => by cases h
  | y :: l, d, H, x, h => by
    have h1 := H.1.2.1
    have h2 := nxt_le y
    rcases List.mem_cons.1 h with rfl | h
    · simp only [List.length_cons]; omega
    · have := right_bound l _ H.2 x h
      simp only [List.length_cons]; omega
/-- A row so much deeper. -/
def sh (c : Int) (x : S43) : S43 := ⟨x.f0 + c, x.f1, x.f2, x.f3, x.f4⟩
theorem mvx_sh (c : Int) (x : S43) (h : -9223372036854775808 ≤ x.f0 + c ∧ x.f0 + c < 9223372036854775808) : mvx c x = sh c x := by
  unfold mvx sh
  rw [show wrap64 (x.f0 + c) = x.f0 + c by unfold wrap64; omega]
theorem map_mvx_sh (c : Int) (l : List S43) (h : ∀ x ∈ l, -9223372036854775808 ≤ x.f0 + c ∧ x.f0 + c < 9223372036854775808) : l.map (mvx c) = l.map (sh c) := List.map_congr_left fun x hx => mvx_sh c x (h x hx)
theorem sh_zero (x : S43) : sh 0 x = x := by unfold sh; simp
theorem sh_sh (a b : Int) (x : S43) : sh a (sh b x) = sh (b + a) x := by unfold sh; simp [Int.add_assoc]
theorem nxt_sh (c : Int) (x : S43) : nxt (sh c x) = nxt x + c := by
  show (if x.f1 = 0 then x.f0 + c + 1 else x.f0 + c) = (if x.f1 = 0 then x.f0 + 1 else x.f0) + c
  split <;> omega
theorem ok_sh (c : Int) (x : S43) : RowOk (sh c x) ↔ RowOk x := Iff.rfl
theorem right_sh : ∀ (l : List S43) (d c : Int), RightL d l → (∀ x ∈ l, 0 ≤ x.f0 + c) → RightL (d + c) (l.map (sh c))
  | [], _, _, _, _ => trivial
  | x :: l, d, c, h, hx => by
    have h0 := hx x List.mem_cons_self
    have h1 := h.1.2.1
    refine ⟨⟨?_, ?_, (ok_sh c x).2 h.1.2.2⟩, ?_⟩
    · show 0 ≤ x.f0 + c; exact h0
    · show x.f0 + c ≤ d + c; omega
    · rw [nxt_sh]
      exact right_sh l (nxt x) c h.2 fun y hy => hx y (List.mem_cons_of_mem _ hy)
theorem right_mem {l : List S43} {d : Int} (h : RightL d l) : ∀ x ∈ l, 0 ≤ x.f0 := by
  intro x hx
  obtain ⟨i, hi, rfl⟩ := List.getElem_of_mem hx
  exact (right_nth l d h i hi).1
theorem big_no {l : List S43} (h : bigL l = false) : ∀ x ∈ l, x.f0 < 60 := by
  intro x hx
  unfold bigL at h
  rw [Bool.or_eq_false_iff] at h
  have h1 := List.any_eq_false.1 h.1 x hx
  have h2 : ¬ bigB x = true := by simpa using h1
  unfold bigB at h2
  rw [decide_eq_true_iff] at h2
  omega
theorem big_mk {l : List S43} (hl : l.length ≤ 4096) (h : ∀ x ∈ l, x.f0 < 60) : bigL l = false := by
  unfold bigL
  rw [Bool.or_eq_false_iff]
  refine ⟨List.any_eq_false.2 fun x hx => ?_, decide_eq_false (by omega)⟩
  have := h x hx
  unfold bigB
  rw [decide_eq_true_iff]
  omega
theorem chk_big {l : List S43} (h : chkV l = 0) : bigL l = false := by
  cases hb : bigL l with
  | false => rfl
  | true => unfold chkV at h; rw [if_pos hb] at h; cases h
theorem chk_ok {l : List S43} (h : bigL l = false) (h2 : RightL 0 l) : chkV l = 0 := by
  unfold chkV
  rw [if_neg (by rw [h]; decide), if_pos h2]
/-- A node's tree. -/
def treeOf (l : List S43) (n : Nat) : List S43 := (l.drop n).take (endN l n - n)
theorem parts (l : List S43) (n : Nat) (h : n < l.length) : l = l.take n ++ (treeOf l n ++ l.drop (endN l n)) := by
  have h1 := endN_lt l n
  unfold treeOf
  rw [show l.drop (endN l n) = (l.drop n).drop (endN l n - n) by rw [List.drop_drop]; congr 1; omega, List.take_append_drop, List.take_append_drop]
theorem tree_cons (l : List S43) (n : Nat) (h : n < l.length) : treeOf l n = l[n] :: ((l.drop (n + 1)).take (endN l n - n - 1)) := by
  have h1 := endN_lt l n
  unfold treeOf
  rw [List.drop_eq_getElem_cons h, show endN l n - n = (endN l n - n - 1) + 1 by omega, List.take_succ_cons]
  simp
theorem tree_len (l : List S43) (n : Nat) (h : n < l.length) : (treeOf l n).length = endN l n - n := by
  have h1 := endN_le l n h
  unfold treeOf
  rw [List.length_take, List.length_drop]
  omega
theorem tree_take (l : List S43) (n : Nat) : (l.take (endN l n)).drop n = treeOf l n := by
  unfold treeOf
  rw [List.drop_take]
theorem tree_rest (l : List S43) (n : Nat) (h : n < l.length) : ∀ x ∈ (l.drop (n + 1)).take (endN l n - n - 1), dp l n < x.f0 := by
  intro x hx
  obtain ⟨i, hi, rfl⟩ := List.getElem_of_mem hx
  have hi2 := hi
  rw [List.length_take, List.length_drop] at hi2
  have h1 := endN_le l n h
  rw [List.getElem_take, List.getElem_drop, ← dp_at l (n + 1 + i) (by omega)]
  exact endN_in l n (n + 1 + i) (by omega) (by omega) (by omega)
/-- Where the tree of the first row ends: the rows behind it that are deeper. -/
theorem endN_cons (x : S43) (S B : List S43) (hS : ∀ y ∈ S, x.f0 < y.f0) (hB : ∀ y ∈ B.head?, y.f0 ≤ x.f0) (A : List S43) : endN (A ++ (x :: (S ++ B))) A.length = A.length + 1 + S.length := by
  unfold endN
  have h0 : (rd_T43 (A ++ (x :: (S ++ B))) (A.length : Int)).f0 = x.f0 := by
    rw [rd_T43_at _ A.length (by simp)]
    simp
  rw [h0, show (A ++ (x :: (S ++ B))).drop (A.length + 1) = S ++ B by rw [← List.drop_drop, List.drop_left]; rfl]
  have h1 : (S ++ B).takeWhile (fun y => decide (y.f0 > x.f0)) = S := by
    rw [List.takeWhile_append_of_pos fun y hy => decide_eq_true (hS y hy)]
    cases B with
    | nil => simp
    | cons y B =>
      have := hB y rfl
      rw [List.takeWhile_cons, if_neg (by rw [decide_eq_true_iff]; omega), List.append_nil]
  rw [h1]
theorem take_spec (l : List S43) (hF : Few l) (hR : RightL 0 l) (hb : bigL l = false) (n : Nat) (h : n < l.length) (k : Nat) (hk : 2 * l.length + 10 < k) :
    rows_Take.f k l (n : Int) = some ((treeOf l n).map (sh (-(dp l n))), 0) := by
  have hn := hF.1
  have h1 := endN_lt l n
  have h2 := endN_le l n h
  have hd := (right_nth l 0 hR n h).1
  have hdb := big_no hb l[n] (List.getElem_mem h)
  have hdp : dp l n = l[n].f0 := dp_at l n h
  have hneg : wrap64 (-(dp l n)) = -(dp l n) := by unfold wrap64; omega
  have hFt : Few (treeOf l n) := ⟨by rw [tree_len l n h]; omega, fun x hx => hF.2 x (List.mem_of_mem_drop (List.mem_of_mem_take hx))⟩
  unfold rows_Take.f rows_is.f
  rw [if_pos (by omega)]
  simp only [Option.bind_some]
  rw [if_pos (by simpa using h), end_is l hn n h k (by omega)]
  simp only [Option.bind_some]
  rw [if_pos (by omega), if_pos (by omega), if_pos (by omega), if_pos (by omega), Int.toNat_natCast, Int.toNat_natCast, tree_take, show (rd_T43 l (n : Int)).f0 = dp l n from rfl, hneg,
    moved_is _ hFt _ k (by rw [tree_len l n h]; omega)]
  simp only [Option.bind_some]
  rw [map_mvx_sh]
  intro x hx
  have hm : x ∈ l := List.mem_of_mem_drop (List.mem_of_mem_take hx)
  have := right_mem hR x hm
  have := big_no hb x hm
  omega
theorem drop_spec (l : List S43) (hF : Few l) (hd : ∀ x ∈ l, DepthIn x) (n : Nat) (h : n < l.length) (k : Nat) (hk : 2 * l.length + 10 < k) :
    rows_Drop.f k l (n : Int) = some (l.take n ++ l.drop (endN l n), 0) := by
  have hn := hF.1
  have h1 := endN_lt l n
  have h2 := endN_le l n h
  have hFa : Few (l.take n) := ⟨by rw [List.length_take]; omega, fun x hx => hF.2 x (List.mem_of_mem_take hx)⟩
  have hFb : Few (l.drop (endN l n)) := ⟨by rw [List.length_drop]; omega, fun x hx => hF.2 x (List.mem_of_mem_drop hx)⟩
  unfold rows_Drop.f rows_is.f
  rw [if_pos (by omega)]
  simp only [Option.bind_some]
  rw [if_pos (by simpa using h), if_pos (by omega), if_pos (by omega), Int.toNat_natCast, moved_is _ hFa 0 k (by rw [List.length_take]; omega), end_is l hn n h k (by omega), map_mvx0 _ fun x hx => hd x (List.mem_of_mem_take hx)]
  simp only [Option.bind_some]
  rw [if_pos (by omega), if_pos (by omega), Int.toNat_natCast, moved_is _ hFb 0 k (by rw [List.length_drop]; omega), map_mvx0 _ fun x hx => hd x (List.mem_of_mem_drop hx)]
  simp only [Option.bind_some]
  rw [if_pos (by rw [List.length_take, List.length_drop]; omega)]
/-- A node's tree, taken. -/
theorem tree_right (l : List S43) (hR : RightL 0 l) (n : Nat) (h : n < l.length) : RightL 0 ((treeOf l n).map (sh (-(dp l n)))) := by
  have hp := parts l n h
  have h1 : RightL 0 (l.take n ++ (treeOf l n ++ l.drop (endN l n))) := hp ▸ hR
  have h2 := ((right_append _ _ _).1 ((right_append _ _ _).1 h1).2).1
  have hdp : dp l n = l[n].f0 := dp_at l n h
  rw [tree_cons l n h] at h2 ⊢
  have hrest := tree_rest l n h
  have h3 : RightL (dp l n) (l[n] :: ((l.drop (n + 1)).take (endN l n - n - 1))) := right_mono h2 fun x hx => by cases hx; omega
  have h4 := right_sh _ (dp l n) (-(dp l n)) h3 fun x hx => by
    rcases List.mem_cons.1 hx with rfl | hx
    · omega
    · have := hrest x hx; omega
  rwa [show dp l n + -(dp l n) = 0 by omega] at h4
theorem tree_big (l : List S43) (hR : RightL 0 l) (hb : bigL l = false) (hl : l.length ≤ 4096) (n : Nat) (h : n < l.length) : bigL ((treeOf l n).map (sh (-(dp l n)))) = false := by
  refine big_mk ?_ fun x hx => ?_
  · rw [List.length_map, tree_len l n h]; have := endN_le l n h; omega
  · obtain ⟨y, hy, rfl⟩ := List.mem_map.1 hx
    have hm : y ∈ l := List.mem_of_mem_drop (List.mem_of_mem_take hy)
    have := big_no hb y hm
    have := (right_nth l 0 hR n h).1
    have hdp : dp l n = l[n].f0 := dp_at l n h
    show y.f0 + -(dp l n) < 60
    omega
theorem drop_right (l : List S43) (hR : RightL 0 l) (n : Nat) (h : n < l.length) : RightL 0 (l.take n ++ l.drop (endN l n)) := by
  have hp := parts l n h
  have h1 : RightL 0 (l.take n ++ (treeOf l n ++ l.drop (endN l n))) := hp ▸ hR
  have h2 := (right_append _ _ _).1 h1
  have h3 := (right_append _ _ _).1 h2.2
  refine (right_append _ _ _).2 ⟨h2.1, right_mono h3.2 fun x hx => ?_⟩
  have hx2 : endN l n < l.length ∧ x.f0 = dp l (endN l n) := by
    rcases Nat.lt_or_ge (endN l n) l.length with h' | h'
    · rw [List.head?_drop, List.getElem?_eq_getElem h'] at hx
      cases hx
      exact ⟨h', (dp_at l _ h').symm⟩
    · rw [List.drop_of_length_le h'] at hx; cases hx
  have h4 := endN_out l n hx2.1
  have h5 := h3.1
  rw [tree_cons l n h] at h5
  have h6 := h5.1.2.1
  have hdp : dp l n = l[n].f0 := dp_at l n h
  omega
theorem tree_one (l : List S43) (n : Nat) (h : n < l.length) (hd0 : 0 ≤ dp l n) : (kidsOf ((treeOf l n).map (sh (-(dp l n)))) (-1)).length = 1 ∧ endN ((treeOf l n).map (sh (-(dp l n)))) 0 = (treeOf l n).length := by
  have hdp : dp l n = l[n].f0 := dp_at l n h
  obtain ⟨S, hS⟩ : ∃ S, (l.drop (n + 1)).take (endN l n - n - 1) = S := ⟨_, rfl⟩
  have hrest := tree_rest l n h
  rw [hS] at hrest
  have ht : (treeOf l n).map (sh (-(dp l n))) = sh (-(dp l n)) l[n] :: S.map (sh (-(dp l n))) := by rw [tree_cons l n h, hS]; rfl
  have hlen : (treeOf l n).length = S.length + 1 := by rw [tree_cons l n h, hS]; rfl
  have he : endN ((treeOf l n).map (sh (-(dp l n)))) 0 = (treeOf l n).length := by
    have := endN_cons (sh (-(dp l n)) l[n]) (S.map (sh (-(dp l n)))) [] (fun y hy => by
      obtain ⟨z, hz, rfl⟩ := List.mem_map.1 hy
      have := hrest z hz
      show l[n].f0 + -(dp l n) < z.f0 + -(dp l n)
      omega) (fun y hy => by cases hy) []
    rw [List.append_nil, List.nil_append] at this
    rw [ht, hlen]
    rw [List.length_nil, List.length_map] at this
    omega
  refine ⟨?_, he⟩
  unfold kidsOf
  rw [if_pos rfl]
  obtain ⟨m, hm⟩ : ∃ m, ((treeOf l n).map (sh (-(dp l n)))).length = m + 1 := ⟨S.length, by rw [List.length_map, hlen]⟩
  rw [hm, kidsN, if_pos (by omega), he]
  have : (treeOf l n).length = m + 1 := by rw [List.length_map] at hm; exact hm
  rw [this]
  cases m with
  | zero => rfl
  | succ m => rw [kidsN, if_neg (by omega)]; rfl

/-! What was put at a place is taken there. -/
theorem dp_left (A B : List S43) (j : Nat) (h : j < A.length) : dp (A ++ B) j = A[j].f0 := by
  rw [dp_at _ j (by simp; omega), List.getElem_append_left h]
theorem dp_right (A B : List S43) (j : Nat) (h : j < B.length) : dp (A ++ B) (A.length + j) = B[j].f0 := by
  rw [dp_at _ _ (by simp; omega), List.getElem_append_right (by omega)]
  simp
theorem endN_char (p : List S43) (q e : Nat) (hqe : q < e) (hel : e ≤ p.length) (hin : ∀ j, q < j → j < e → dp p q < dp p j) (hout : e < p.length → dp p e ≤ dp p q) : endN p q = e := by
  have hql : q < p.length := by omega
  have h1 := endN_lt p q
  have h2 := endN_le p q hql
  rcases Nat.lt_trichotomy (endN p q) e with h | h | h
  · have := endN_out p q (by omega)
    have := hin (endN p q) h1 h
    omega
  · exact h
  · have := endN_in p q e hqe h (by omega)
    have := hout (by omega)
    omega
/-- The place behind a trees. -/
def stepN (l : List S43) : Nat → Nat → Nat
  | 0, q => q
  | a + 1, q => stepN l a (endN l q)
theorem stepN_ge (l : List S43) : ∀ a q, q + a ≤ stepN l a q
  | 0, q => Nat.le_refl _
  | a + 1, q => by
    have := stepN_ge l a (endN l q)
    have := endN_lt l q
    show q + (a + 1) ≤ stepN l a (endN l q)
    omega
theorem stepN_more (l : List S43) : ∀ a q, stepN l (a + 1) q = endN l (stepN l a q)
  | 0, _ => rfl
  | a + 1, q => stepN_more l a (endN l q)
theorem kids_get (l : List S43) (e K : Nat) : ∀ a n q, stepN l a q = K → K < e → e ≤ q + n → (kidsN l n q e)[a]? = some K
  | a, 0, q, h1, h2, h3 => by have := stepN_ge l a q; omega
  | 0, n + 1, q, h1, h2, h3 => by
    have h1' : q = K := h1
    unfold kidsN
    rw [if_pos (by omega), h1']
    rfl
  | a + 1, n + 1, q, h1, h2, h3 => by
    have h4 := stepN_ge l (a + 1) q
    have h5 := endN_lt l q
    unfold kidsN
    rw [if_pos (by omega), List.getElem?_cons_succ]
    exact kids_get l e K a n (endN l q) h1 h2 (by omega)
theorem kids_got (l : List S43) (e K : Nat) : ∀ a n q, (kidsN l n q e)[a]? = some K → stepN l a q = K ∧ K < e
  | a, 0, q, h => by simp [kidsN] at h
  | 0, n + 1, q, h => by
    unfold kidsN at h
    by_cases c : q < e
    · rw [if_pos c] at h
      cases h
      exact ⟨rfl, c⟩
    · rw [if_neg c] at h; cases h
  | a + 1, n + 1, q, h => by
    unfold kidsN at h
    by_cases c : q < e
    · rw [if_pos c, List.getElem?_cons_succ] at h
      exact kids_got l e K a n (endN l q) h
    · rw [if_neg c] at h; cases h
theorem kids_all (l : List S43) (e : Nat) : ∀ n q, e ≤ q + n → e ≤ stepN l (kidsN l n q e).length q
  | 0, q, h => by show e ≤ q; omega
  | n + 1, q, h => by
    have h5 := endN_lt l q
    unfold kidsN
    by_cases c : q < e
    · rw [if_pos c]
      exact kids_all l e n (endN l q) (by omega)
    · rw [if_neg c]
      show e ≤ q
      omega
theorem step_in {l : List S43} {i dI : Int} {fr en : Nat} (S : Span l i dI fr en) : ∀ a n q, fr ≤ q → q ≤ en → (q < en → dp l q = dI + 1) → a ≤ (kidsN l n q en).length → stepN l a q ≤ en ∧ (stepN l a q < en → dp l (stepN l a q) = dI + 1)
  | 0, _, q, _, h2, h3, _ => ⟨h2, h3⟩
  | a + 1, 0, q, _, _, _, h => by simp [kidsN] at h
  | a + 1, n + 1, q, h1, h2, h3, h => by
    unfold kidsN at h
    by_cases c : q < en
    · rw [if_pos c] at h
      have h5 := endN_lt l q
      exact step_in S a n (endN l q) (by omega) (span_end S c h1) (fun h' => span_next S c h1 (h3 c) h') (by simp at h; omega)
    · rw [if_neg c] at h; simp at h
/-- The kids of a span's node. -/
def kidsIn (l : List S43) (fr en : Nat) : List Nat := kidsN l l.length fr en
/-- A place of a span: behind a trees. -/
structure Site (l : List S43) (i dI : Int) (fr en a K : Nat) : Prop where
  span : Span l i dI fr en
  first : fr < en → dp l fr = dI + 1
  kind : i = -1 ∨ ∃ (q : Nat) (h : q < l.length), i = (q : Int) ∧ l[q].f1 = 0
  step : stepN l a fr = K
  le : K ≤ en
  at_ : K < en → dp l K = dI + 1
  nonneg : 0 ≤ dI + 1
theorem site_mk {l : List S43} (hR : RightL 0 l) {i dI : Int} {fr en a K : Nat} (S : Span l i dI fr en) (hk : i = -1 ∨ ∃ (q : Nat) (h : q < l.length), i = (q : Int) ∧ l[q].f1 = 0) (h : (kidsIn l fr en ++ [en])[a]? = some K) : Site l i dI fr en a K := by
  have hle := S.le
  have hfr := S.frl
  have hf := fun h => span_first hR S h
  have hK : stepN l a fr = K ∧ a ≤ (kidsIn l fr en).length := by
    by_cases c : a < (kidsIn l fr en).length
    · rw [List.getElem?_append_left c] at h
      exact ⟨(kids_got l en K a _ fr h).1, by omega⟩
    · rw [List.getElem?_append_right (by omega)] at h
      have ha : a - (kidsIn l fr en).length = 0 := by
        rcases Nat.eq_zero_or_pos (a - (kidsIn l fr en).length) with e | e
        · exact e
        · rw [List.getElem?_eq_none (by simp; omega)] at h; cases h
      rw [ha] at h
      cases h
      have e : a = (kidsIn l fr en).length := by omega
      have h1 := kids_all l en l.length fr (by omega)
      have h2 := step_in S (kidsIn l fr en).length l.length fr (Nat.le_refl _) hfr hf (Nat.le_refl _)
      have h1' : en ≤ stepN l (kidsIn l fr en).length fr := h1
      refine ⟨?_, by omega⟩
      rw [e]
      omega
  have h3 := step_in S a l.length fr (Nat.le_refl _) hfr hf hK.2
  rw [hK.1] at h3
  refine ⟨S, hf, hk, hK.1, h3.1, h3.2, ?_⟩
  rcases S.par with ⟨_, e, _⟩ | ⟨q, _, _, e, hq⟩
  · omega
  · have := (right_dp hR).1 q hq; omega
/-- The rows with further ones at a place. -/
def putL (l R : List S43) (K : Nat) : List S43 := l.take K ++ (R ++ l.drop K)
theorem site_fr {l : List S43} {i dI : Int} {fr en a K : Nat} (T : Site l i dI fr en a K) : fr ≤ K := by
  have := stepN_ge l a fr
  have := T.step
  omega
theorem site_last {l : List S43} (hR : RightL 0 l) {i dI : Int} {fr en a K : Nat} (T : Site l i dI fr en a K) : dI + 1 ≤ lastN 0 (l.take K) := by
  have hle := T.span.le
  have hK := T.le
  have hfr := site_fr T
  rcases T.span.par with ⟨_, e, _⟩ | ⟨q, e1, e2, e3, hq⟩
  · rw [e]
    exact lastN_ge _ 0 _ (by omega) fun x hx => by have := right_mem hR x (List.mem_of_mem_take hx); omega
  · have hsplit : l.take K = l.take (q + 1) ++ (l.take K).drop (q + 1) := by
      have h1 : (l.take K).take (q + 1) = l.take (q + 1) := by rw [List.take_take]; congr 1; omega
      rw [← h1, List.take_append_drop]
    have hkind : l[q].f1 = 0 := by
      rcases T.kind with e | ⟨q', h', e, hk⟩
      · omega
      · have : q' = q := by omega
        subst this
        exact hk
    rw [hsplit, lastN_append, List.take_succ_eq_append_getElem hq, lastN_concat]
    have hn : nxt l[q] = dI + 1 := by unfold nxt; rw [if_pos hkind, ← e3, dp_at l q hq]
    rw [hn]
    refine lastN_ge _ _ _ (Int.le_refl _) fun x hx => ?_
    obtain ⟨j, hj, rfl⟩ := List.getElem_of_mem hx
    have hj2 := hj
    rw [List.length_drop, List.length_take] at hj2
    rw [List.getElem_drop, List.getElem_take, ← dp_at l (q + 1 + j) (by omega)]
    have := T.span.below (q + 1 + j) (by omega) (by omega)
    omega
theorem site_next {l : List S43} {i dI : Int} {fr en a K : Nat} (T : Site l i dI fr en a K) (h : K < l.length) : dp l K ≤ dI + 1 := by
  have hK := T.le
  rcases Nat.lt_or_ge K en with c | c
  · have := T.at_ c; omega
  · have e : K = en := by omega
    have := T.span.out (by omega)
    rw [e]; omega
theorem put_right {l sub : List S43} (hR : RightL 0 l) (hS : RightL 0 sub) {i dI : Int} {fr en a K : Nat} (T : Site l i dI fr en a K) : RightL 0 (putL l (sub.map (sh (dI + 1))) K) := by
  have h0 : RightL 0 (l.take K ++ l.drop K) := by rw [List.take_append_drop]; exact hR
  have h1 := (right_append _ _ _).1 h0
  have hl := site_last hR T
  have hn := T.nonneg
  have hD : RightL (dI + 1) (sub.map (sh (dI + 1))) := by
    have := right_sh sub 0 (dI + 1) hS fun x hx => by have := right_mem hS x hx; omega
    rwa [Int.zero_add] at this
  refine (right_append _ _ _).2 ⟨h1.1, (right_append _ _ _).2 ⟨right_le hD hl, ?_⟩⟩
  by_cases c : sub = []
  · subst c; exact h1.2
  · refine right_mono h1.2 fun x hx => ?_
    have hx2 : K < l.length ∧ x.f0 = dp l K := by
      rcases Nat.lt_or_ge K l.length with h' | h'
      · rw [List.head?_drop, List.getElem?_eq_getElem h'] at hx
        cases hx
        exact ⟨h', (dp_at l _ h').symm⟩
      · rw [List.drop_of_length_le h'] at hx; cases hx
    have h2 := site_next T hx2.1
    have h3 := lastN_ge' (sub.map (sh (dI + 1))) (lastN 0 (l.take K)) (dI + 1) (by simpa using c) fun y hy => by
      obtain ⟨z, hz, rfl⟩ := List.mem_map.1 hy
      have := right_mem hS z hz
      show dI + 1 ≤ z.f0 + (dI + 1)
      omega
    omega
theorem dp_put_lt (l R : List S43) (K j : Nat) (hK : K ≤ l.length) (h : j < K) : dp (putL l R K) j = dp l j := by
  unfold putL
  rw [dp_left _ _ j (by rw [List.length_take]; omega), List.getElem_take, dp_at l j (by omega)]
theorem dp_put_mid (l R : List S43) (K j : Nat) (hK : K ≤ l.length) (h : j < R.length) : dp (putL l R K) (K + j) = R[j].f0 := by
  unfold putL
  have hl : (l.take K).length = K := by rw [List.length_take]; omega
  have := dp_right (l.take K) (R ++ l.drop K) j (by simp; omega)
  rw [hl] at this
  rw [this, List.getElem_append_left h]
theorem dp_put_ge (l R : List S43) (K j : Nat) (hK : K ≤ l.length) (h : K + j < l.length) : dp (putL l R K) (K + R.length + j) = dp l (K + j) := by
  unfold putL
  have hl : (l.take K).length = K := by rw [List.length_take]; omega
  have := dp_right (l.take K) (R ++ l.drop K) (R.length + j) (by simp; omega)
  rw [hl, ← Nat.add_assoc] at this
  rw [this, List.getElem_append_right (by omega), List.getElem_drop, dp_at l (K + j) h]
  congr 2
  omega
theorem put_len (l R : List S43) (K : Nat) (hK : K ≤ l.length) : (putL l R K).length = l.length + R.length := by
  unfold putL
  rw [List.length_append, List.length_append, List.length_take, List.length_drop]
  omega
/-- The kids ahead of the place are as they were. -/
theorem put_step {l R : List S43} {i dI : Int} {fr en K : Nat} (S : Span l i dI fr en) (hKe : K ≤ en) (hR0 : 0 < R.length) (hRd : R[0].f0 = dI + 1) : ∀ a q, fr ≤ q → (q < en → dp l q = dI + 1) → stepN l a q = K → stepN (putL l R K) a q = K
  | 0, _, _, _, h => h
  | a + 1, q, h1, h2, h3 => by
    have hle := S.le
    have h4 := stepN_ge l a (endN l q)
    have h5 := endN_lt l q
    have h3' : stepN l a (endN l q) = K := h3
    have hqe : q < en := by omega
    have hd := h2 hqe
    have he : endN (putL l R K) q = endN l q := by
      refine endN_char _ q _ h5 (by rw [put_len l R K (by omega)]; omega) (fun j a1 a2 => ?_) (fun hlt => ?_)
      · rw [dp_put_lt l R K q (by omega) (by omega), dp_put_lt l R K j (by omega) (by omega)]
        exact endN_in l q j a1 a2 (by omega)
      · rw [dp_put_lt l R K q (by omega) (by omega)]
        rcases Nat.lt_or_ge (endN l q) K with c | c
        · rw [dp_put_lt l R K _ (by omega) c]
          exact endN_out l q (by omega)
        · have e : endN l q = K + 0 := by omega
          rw [e, dp_put_mid l R K 0 (by omega) hR0, hRd, hd]
          exact Int.le_refl _
    show stepN (putL l R K) a (endN (putL l R K) q) = K
    rw [he]
    exact put_step S hKe hR0 hRd a (endN l q) (by omega) (fun h' => span_next S hqe h1 hd h') h3'
theorem put_kid {l R : List S43} {i dI : Int} {fr en a K : Nat} (T : Site l i dI fr en a K) (hR0 : 0 < R.length) (hRd : R[0].f0 = dI + 1) : (kidsOf (putL l R K) i)[a]? = some K := by
  have hle := T.span.le
  have hK := T.le
  have hfr := site_fr T
  have hlen := put_len l R K (by omega)
  have hst := put_step T.span hK hR0 hRd a fr (Nat.le_refl _) T.first T.step
  unfold kidsOf
  rcases T.span.par with ⟨e1, e2, e3, _⟩ | ⟨q, e1, e2, e3, hq⟩
  · rw [if_pos e1]
    rw [e3] at hst
    exact kids_get _ _ K a _ 0 hst (by omega) (by omega)
  · rw [if_neg (by omega), if_pos ⟨by omega, by omega⟩, e1, Int.toNat_natCast]
    rw [e2] at hst
    have hend : K < endN (putL l R K) q := by
      rcases Nat.lt_or_ge K (endN (putL l R K) q) with c | c
      · exact c
      · have h1 := endN_lt (putL l R K) q
        have h2 := endN_out (putL l R K) q (by omega)
        rw [dp_put_lt l R K q (by omega) (by omega)] at h2
        rcases Nat.lt_or_ge (endN (putL l R K) q) K with d | d
        · rw [dp_put_lt l R K _ (by omega) d] at h2
          have := T.span.below (endN (putL l R K) q) (by omega) (by omega)
          omega
        · have e : endN (putL l R K) q = K + 0 := by omega
          rw [e, dp_put_mid l R K 0 (by omega) hR0, hRd] at h2
          omega
    have hel := endN_le (putL l R K) q (by omega)
    exact kids_get _ _ K a _ (q + 1) hst hend (by omega)
/-- The first tree of what was put. -/
theorem put_tree {l sub : List S43} (hS : RightL 0 sub) {i dI : Int} {fr en a K r : Nat} (T : Site l i dI fr en a K) (hr : r < sub.length) (hr0 : dp sub r = 0) :
    dp (putL l ((sub.drop r).map (sh (dI + 1))) K) K = dI + 1 ∧ endN (putL l ((sub.drop r).map (sh (dI + 1))) K) K = K + (endN sub r - r) := by
  have hle := T.span.le
  have hK := T.le
  have h1 := endN_lt sub r
  have h2 := endN_le sub r hr
  obtain ⟨R, hRR⟩ : ∃ R, (sub.drop r).map (sh (dI + 1)) = R := ⟨_, rfl⟩
  have hRl : R.length = sub.length - r := by rw [← hRR, List.length_map, List.length_drop]
  have hRj : ∀ j (h : j < R.length), R[j].f0 = dp sub (r + j) + (dI + 1) := by
    intro j h
    subst hRR
    rw [List.getElem_map, List.getElem_drop, dp_at sub (r + j) (by omega)]
    rfl
  rw [hRR]
  have hd : dp (putL l R K) K = dI + 1 := by
    have := dp_put_mid l R K 0 (by omega) (by omega)
    rw [Nat.add_zero] at this
    rw [this, hRj 0 (by omega), Nat.add_zero, hr0]
    omega
  refine ⟨hd, endN_char _ K _ (by omega) (by rw [put_len l R K (by omega)]; omega) (fun j a1 a2 => ?_) (fun hlt => ?_)⟩
  · obtain ⟨m, rfl⟩ : ∃ m, j = K + m := ⟨j - K, by omega⟩
    rw [hd, dp_put_mid l R K m (by omega) (by omega), hRj m (by omega)]
    have := endN_in sub r (r + m) (by omega) (by omega) (by omega)
    omega
  · rw [hd]
    rw [put_len l R K (by omega)] at hlt
    rcases Nat.lt_or_ge (endN sub r) sub.length with c | c
    · rw [dp_put_mid l R K _ (by omega) (by omega), hRj _ (by omega), show r + (endN sub r - r) = endN sub r by omega]
      have := endN_out sub r c
      omega
    · have e : K + (endN sub r - r) = K + R.length + 0 := by omega
      rw [e, dp_put_ge l R K 0 (by omega) (by omega), Nat.add_zero]
      exact site_next T (by omega)
theorem put_tree_is {l sub : List S43} (hS : RightL 0 sub) {i dI : Int} {fr en a K r : Nat} (T : Site l i dI fr en a K) (hr : r < sub.length) (hr0 : dp sub r = 0) :
    treeOf (putL l ((sub.drop r).map (sh (dI + 1))) K) K = (treeOf sub r).map (sh (dI + 1)) ∧
    (putL l ((sub.drop r).map (sh (dI + 1))) K).take K ++ (putL l ((sub.drop r).map (sh (dI + 1))) K).drop (endN (putL l ((sub.drop r).map (sh (dI + 1))) K) K) = putL l ((sub.drop (endN sub r)).map (sh (dI + 1))) K := by
  have hle := T.span.le
  have hK := T.le
  have h1 := endN_lt sub r
  have h2 := endN_le sub r hr
  have hlK : (l.take K).length = K := by rw [List.length_take]; omega
  obtain ⟨_, he⟩ := put_tree hS T hr hr0
  have hRl : ((sub.drop r).map (sh (dI + 1))).length = sub.length - r := by rw [List.length_map, List.length_drop]
  have hdr : (putL l ((sub.drop r).map (sh (dI + 1))) K).drop K = (sub.drop r).map (sh (dI + 1)) ++ l.drop K := by
    unfold putL
    rw [List.drop_append_of_le_length (by omega), List.drop_of_length_le (by omega), List.nil_append]
  refine ⟨?_, ?_⟩
  · unfold treeOf
    rw [he, hdr, show K + (endN sub r - r) - K = endN sub r - r by omega, List.take_append_of_le_length (by omega), List.map_take]
  · rw [he, ← List.drop_drop, hdr, List.drop_append_of_le_length (by omega), ← List.map_drop, List.drop_drop, show r + (endN sub r - r) = endN sub r by omega]
    unfold putL
    rw [List.take_append_of_le_length (by omega), List.take_of_length_le (by omega)]

/-! The document's answers for places. -/
theorem refend_l0 (l : List S43) (hn : l.length ≤ 1000000) (i : Nat) (hi : i < l.length) : ∀ d k j, j + d = l.length → d < k →
    boltingref04_End.l0 k l (i : Int) (j : Int) = some ((j + ((l.drop j).takeWhile fun x => decide (x.f0 > (rd_T43 l (i : Int)).f0)).length : Nat) : Int) := by
  intro d
  induction d with
  | zero =>
    intro k j hj hk
    obtain ⟨k, rfl⟩ : ∃ m, k = m + 1 := ⟨k - 1, by omega⟩
    simp only [boltingref04_End.l0]
    rw [if_neg (by omega), List.drop_of_length_le (by omega)]
    congr 1
    simp
    omega
  | succ d ih =>
    intro k j hj hk
    obtain ⟨k, rfl⟩ : ∃ m, k = m + 1 := ⟨k - 1, by omega⟩
    simp only [boltingref04_End.l0]
    rw [if_pos (by omega), if_pos (by omega), if_pos (by omega), if_pos (by omega), up1 (by omega), ih k (j + 1) (by omega) (by omega), List.drop_eq_getElem_cons (show j < l.length by omega), List.takeWhile_cons, ← rd_T43_at l j (by omega)]
    by_cases h : (rd_T43 l (j : Int)).f0 > (rd_T43 l (i : Int)).f0
    · rw [if_neg (by omega), if_pos (decide_eq_true h)]
      simp only [List.length_cons]
      congr 2
      omega
    · rw [if_pos (by omega), if_neg (by rw [decide_eq_false h]; decide)]
      rfl
/-- Where a node's tree ends; 0 where there is no node. -/
def endI (l : List S43) (i : Int) : Int := if 0 ≤ i ∧ i < (l.length : Int) then (endN l i.toNat : Int) else 0
theorem endI_is (l : List S43) (hn : l.length ≤ 1000000) (i : Int) (k : Nat) (hk : l.length < k) : rows_End.f k l i = some (endI l i) := by
  unfold endI
  by_cases c : 0 ≤ i ∧ i < (l.length : Int)
  · obtain ⟨q, rfl⟩ : ∃ q : Nat, i = (q : Int) := ⟨i.toNat, by omega⟩
    rw [if_pos c, end_is l hn q (by omega) k hk, Int.toNat_natCast]
  · rw [if_neg c]
    unfold rows_End.f rows_is.f
    by_cases c0 : i ≥ 0
    · rw [if_pos c0, decide_eq_false (by omega)]; rfl
    · rw [if_neg c0]; rfl
theorem refend_is (l : List S43) (hn : l.length ≤ 1000000) (i : Int) (k : Nat) (hk : l.length + 1 < k) : boltingref04_End.f k l i = some (endI l i) := by
  obtain ⟨k, rfl⟩ : ∃ m, k = m + 1 := ⟨k - 1, by omega⟩
  unfold endI boltingref04_End.f
  by_cases c0 : i < 0
  · rw [if_pos c0, if_neg (by omega)]
    simp [boltingref04_End.j0]
  · rw [if_neg c0]
    by_cases c1 : i < (l.length : Int)
    · obtain ⟨q, rfl⟩ : ∃ q : Nat, i = (q : Int) := ⟨i.toNat, by omega⟩
      rw [decide_eq_false (by omega), if_pos ⟨by omega, c1⟩]
      simp only [boltingref04_End.j0]
      rw [if_neg (by decide), up1 (by omega), refend_l0 l hn q (by omega) (l.length - (q + 1)) k (q + 1) (by omega) (by omega), Int.toNat_natCast]
      rfl
    · rw [decide_eq_true (by omega), if_neg (by omega)]
      simp [boltingref04_End.j0]
/-- A node's kids, by their depth. -/
theorem kids_filter {l : List S43} {i dI : Int} {fr en : Nat} (S : Span l i dI fr en) : ∀ n k, fr ≤ k → k ≤ en → (k < en → dp l k = dI + 1) → en ≤ k + n → kidsN l n k en = (List.range' k (en - k)).filter fun j => decide (dp l j = dI + 1)
  | 0, k, _, h2, _, h4 => by
    have : en - k = 0 := by omega
    rw [this]; rfl
  | n + 1, k, h1, h2, h3, h4 => by
    have hle := S.le
    unfold kidsN
    by_cases c : k < en
    · have hd := h3 c
      have hlt := endN_lt l k
      have hen := span_end S c h1
      rw [if_pos c, kids_filter S n (endN l k) (by omega) hen (fun h => span_next S c h1 hd h) (by omega)]
      have hsplit : List.range' k (en - k) = k :: (List.range' (k + 1) (endN l k - (k + 1)) ++ List.range' (endN l k) (en - endN l k)) := by
        rw [show en - k = (endN l k - k - 1 + (en - endN l k)) + 1 by omega, List.range'_succ, ← List.range'_append_1, show k + 1 + (endN l k - k - 1) = endN l k by omega, show endN l k - k - 1 = endN l k - (k + 1) by omega]
      have hnone : (List.range' (k + 1) (endN l k - (k + 1))).filter (fun j => decide (dp l j = dI + 1)) = [] := by
        rw [List.filter_eq_nil_iff]
        intro j hj
        rw [List.mem_range'_1] at hj
        have := endN_in l k j (by omega) (by omega) (by omega)
        simp only [decide_eq_true_eq]
        omega
      rw [hsplit, List.filter_cons, if_pos (decide_eq_true hd), List.filter_append, hnone, List.nil_append]
    · rw [if_neg c]
      have : en - k = 0 := by omega
      rw [this]; rfl
/-- Whether a node is listed, as the document says. -/
def isKid (l : List S43) (i : Int) (j : Nat) : Bool := if i = -1 then decide (dp l j = 0) else decide (0 ≤ i ∧ i < (j : Int) ∧ (j : Int) < endI l i ∧ dp l j = dp l i.toNat + 1)
theorem refkids_l0 {l : List S43} (hn : l.length ≤ 100) (hd : ∀ i, i < l.length → 0 ≤ dp l i ∧ dp l i < 1000000) (i : Int) (h0 : -1 ≤ i) (h1 : i < (l.length : Int)) : ∀ e k j (out : List Nat), j + e = l.length → out.length ≤ j → e + 200 < k →
    boltingref04_Kids.l0 k l i (intsOf out) (j : Int) = some (intsOf (out ++ (List.range' j e).filter (isKid l i))) := by
  intro e
  induction e with
  | zero =>
    intro k j out hj ho hk
    obtain ⟨k, rfl⟩ : ∃ m, k = m + 1 := ⟨k - 1, by omega⟩
    simp only [boltingref04_Kids.l0]
    rw [if_neg (by omega)]
    simp
  | succ e ih =>
    intro k j out hj ho hk
    obtain ⟨k, rfl⟩ : ∃ m, k = m + 1 := ⟨k - 1, by omega⟩
    have hjl : j < l.length := by omega
    have hrd : ∀ j : Nat, (rd_T43 l (j : Int)).f0 = dp l j := fun _ => rfl
    have hno : isKid l i j = false → boltingref04_Kids.l0 k l i (intsOf out) (wrap64 ((j : Int) + 1)) = some (intsOf (out ++ (List.range' j (e + 1)).filter (isKid l i))) := fun h => by
      rw [List.range'_succ, List.filter_cons, if_neg (by rw [h]; decide), up1 (by omega)]
      exact ih k (j + 1) out (by omega) (by omega) (by omega)
    have hyes : isKid l i j = true → boltingref04_Kids.l0 k l i (intsOf out ++ [(j : Int)]) (wrap64 ((j : Int) + 1)) = some (intsOf (out ++ (List.range' j (e + 1)).filter (isKid l i))) := fun h => by
      rw [List.range'_succ, List.filter_cons, if_pos h, up1 (by omega), show intsOf out ++ [(j : Int)] = intsOf (out ++ [j]) by simp [intsOf]]
      have := ih k (j + 1) (out ++ [j]) (by omega) (by simp; omega) (by omega)
      rw [List.append_assoc] at this
      exact this
    have hroom : (intsOf out).length < 17592186044416 := by rw [ints_len]; omega
    have hdj := hd j hjl
    simp only [boltingref04_Kids.l0]
    rw [if_pos (by omega)]
    by_cases c : i = -1
    · subst c
      rw [if_pos rfl, if_pos (by omega), hrd]
      by_cases c1 : dp l j = 0
      · rw [if_pos c1, if_pos hroom]
        exact hyes (by unfold isKid; rw [if_pos rfl, decide_eq_true c1])
      · rw [if_neg c1, if_neg (by omega)]
        exact hno (by unfold isKid; rw [if_pos rfl, decide_eq_false c1])
    · obtain ⟨q, rfl⟩ : ∃ q : Nat, i = (q : Int) := ⟨i.toNat, by omega⟩
      have hq : q < l.length := by omega
      have hdq := hd q hq
      have hw : wrap64 (dp l q + 1) = dp l q + 1 := upI (by omega) (by omega)
      have hnot : (¬ ((q : Int) < (j : Int) ∧ (j : Int) < endI l q ∧ dp l j = dp l q + 1)) → isKid l q j = false := fun h => by
        unfold isKid
        rw [if_neg c, Int.toNat_natCast]
        exact decide_eq_false fun h' => h h'.2
      rw [if_neg c, if_pos (by omega)]
      by_cases c1 : (j : Int) > (q : Int)
      · rw [if_pos c1, refend_is l (by omega) q k (by omega)]
        simp only [Option.bind_some]
        by_cases c2 : (j : Int) < endI l q
        · rw [if_pos c2, if_pos (by omega), if_pos (by omega), if_pos (by omega), hrd, hrd, hw]
          by_cases c3 : dp l j = dp l q + 1
          · rw [if_pos c3, if_pos hroom]
            exact hyes (by unfold isKid; rw [if_neg c, Int.toNat_natCast]; exact decide_eq_true ⟨by omega, by omega, c2, c3⟩)
          · rw [if_neg c3]
            exact hno (hnot fun h => c3 h.2.2)
        · rw [if_neg c2]
          exact hno (hnot fun h => c2 h.2.1)
      · rw [if_neg c1]
        exact hno (hnot fun h => c1 h.1)
theorem refkids_is {l : List S43} (hn : l.length ≤ 100) (hR : RightL 0 l) (hd : ∀ i, i < l.length → 0 ≤ dp l i ∧ dp l i < 1000000) (i : Int) (k : Nat) (hk : 400 < k) : boltingref04_Kids.f k l i = some (intsOf (kidsOf l i)) := by
  obtain ⟨k, rfl⟩ : ∃ m, k = m + 1 := ⟨k - 1, by omega⟩
  unfold boltingref04_Kids.f
  simp only [Option.bind_some]
  by_cases c0 : i < -1
  · rw [if_pos c0]
    have : kidsOf l i = [] := by unfold kidsOf; rw [if_neg (by omega), if_neg (by omega)]
    rw [this]
    simp [boltingref04_Kids.j0, intsOf]
  · rw [if_neg c0]
    by_cases c1 : i ≥ (l.length : Int)
    · have : kidsOf l i = [] := by
        unfold kidsOf
        by_cases e : i = -1
        · omega
        · rw [if_neg e, if_neg (by omega)]
      rw [this, decide_eq_true c1]
      simp [boltingref04_Kids.j0, intsOf]
    · rw [decide_eq_false c1]
      simp only [boltingref04_Kids.j0]
      rw [if_neg (by decide)]
      have h := refkids_l0 hn hd i (by omega) (by omega) l.length k 0 [] (by omega) (by simp) (by omega)
      rw [Int.natCast_zero, List.nil_append] at h
      have h' : boltingref04_Kids.l0 k l i [] 0 = some (intsOf (List.filter (isKid l i) (List.range' 0 l.length))) := h
      rw [h']
      congr 2
      by_cases e : i = -1
      · subst e
        have S := span_root l hR
        have := kids_filter S l.length 0 (by omega) (by omega) (fun h => span_first hR S h) (by omega)
        unfold kidsOf
        rw [if_pos rfl, this, Nat.sub_zero]
        apply List.filter_congr
        intro j hj
        unfold isKid
        rw [if_pos rfl]
        rfl
      · obtain ⟨q, rfl⟩ : ∃ q : Nat, i = (q : Int) := ⟨i.toNat, by omega⟩
        have hq : q < l.length := by omega
        have S := span_node l q hq
        have h1 := endN_lt l q
        have h2 := endN_le l q hq
        have := kids_filter S l.length (q + 1) (by omega) h1 (fun h => span_first hR S h) (by omega)
        have hend : endI l (q : Int) = (endN l q : Int) := by unfold endI; rw [if_pos ⟨by omega, by omega⟩, Int.toNat_natCast]
        unfold kidsOf
        rw [if_neg e, if_pos ⟨by omega, by omega⟩, Int.toNat_natCast, this]
        have hsplit : List.range' 0 l.length = List.range' 0 (q + 1) ++ (List.range' (q + 1) (endN l q - (q + 1)) ++ List.range' (endN l q) (l.length - endN l q)) := by
          have r1 := @List.range'_append_1 (q + 1) (endN l q - (q + 1)) (l.length - endN l q)
          have r2 := @List.range'_append_1 0 (q + 1) (l.length - (q + 1))
          rw [show q + 1 + (endN l q - (q + 1)) = endN l q by omega, show endN l q - (q + 1) + (l.length - endN l q) = l.length - (q + 1) by omega] at r1
          rw [show 0 + (q + 1) = q + 1 by omega, show q + 1 + (l.length - (q + 1)) = l.length by omega] at r2
          rw [r1, r2]
        have hA : (List.range' 0 (q + 1)).filter (isKid l q) = [] := by
          rw [List.filter_eq_nil_iff]
          intro j hj
          rw [List.mem_range'_1] at hj
          unfold isKid
          rw [if_neg e]
          simp only [decide_eq_true_eq]
          omega
        have hC : (List.range' (endN l q) (l.length - endN l q)).filter (isKid l q) = [] := by
          rw [List.filter_eq_nil_iff]
          intro j hj
          rw [List.mem_range'_1] at hj
          unfold isKid
          rw [if_neg e, hend]
          simp only [decide_eq_true_eq]
          omega
        rw [hsplit, List.filter_append, List.filter_append, hA, hC, List.nil_append, List.append_nil]
        apply List.filter_congr
        intro j hj
        rw [List.mem_range'_1] at hj
        unfold isKid
        rw [if_neg e, hend, Int.toNat_natCast]
        apply decide_eq_decide.2
        constructor
        · rintro ⟨_, _, _, h⟩; exact h
        · intro h; exact ⟨by omega, by omega, by omega, h⟩

/-! What putting answers: the program and the document. -/
open Classical in
noncomputable def putV (l sub : List S43) (dI : Int) (fr en : Nat) (at_ : Int) : List S43 × Int :=
  if at_ < 0 ∨ ((kidsIn l fr en).length : Int) < at_ then ([], 1)
  else if RightL 0 sub then
    (if bigL (putL l (sub.map (sh (dI + 1))) ((kidsIn l fr en ++ [en]).getD at_.toNat 0)) = true then ([], 2) else (putL l (sub.map (sh (dI + 1))) ((kidsIn l fr en ++ [en]).getD at_.toNat 0), 0))
  else ([], 40)
theorem ints_app (ks : List Nat) (e : Nat) : intsOf ks ++ [(e : Int)] = intsOf (ks ++ [e]) := by simp [intsOf]
/-- What is given for a place. -/
structure Ready (l sub : List S43) (i dI : Int) (fr en : Nat) : Prop where
  few : Few l
  fewS : Few sub
  len : l.length ≤ 60
  lenS : sub.length ≤ 60
  dep : ∀ x ∈ l, DepthIn x
  right : RightL 0 l
  small : bigL l = false
  span : Span l i dI fr en
  kind : i = -1 ∨ ∃ (q : Nat) (h : q < l.length), i = (q : Int) ∧ l[q].f1 = 0
theorem ready_dI {l sub : List S43} {i dI : Int} {fr en : Nat} (R : Ready l sub i dI fr en) : dI ≤ 59 := by
  rcases R.span.par with ⟨_, e, _⟩ | ⟨q, _, _, e, hq⟩
  · omega
  · have := big_no R.small l[q] (List.getElem_mem hq)
    rw [← e, dp_at l q hq]; omega
theorem ready_sub {l sub : List S43} {i dI : Int} {fr en : Nat} (R : Ready l sub i dI fr en) (hn : 0 ≤ dI + 1) (h : RightL 0 sub) : ∀ x ∈ sub, 0 ≤ x.f0 + (dI + 1) ∧ x.f0 + (dI + 1) ≤ 120 := by
  intro x hx
  have h1 := right_bound sub 0 h x hx
  have h2 := right_mem h x hx
  have := ready_dI R
  have := R.lenS
  omega
open Classical in
theorem put_val {l sub : List S43} {i dI : Int} {fr en : Nat} (R : Ready l sub i dI fr en) (hks : kidsOf l i = kidsIn l fr en) (at_ : Int) (k : Nat) (h : 600 < k) :
    rows_Put.j0 (k + 2) l i at_ sub (dI + 1) (en : Int) = some (putV l sub dI fr en at_) := by
  have hl := R.len
  have hls := R.lenS
  have S := R.span
  have hkl : (kidsIn l fr en).length ≤ l.length := kidsN_length l en l.length fr
  have hpl : (kidsIn l fr en ++ [en]).length = (kidsIn l fr en).length + 1 := by simp
  simp only [rows_Put.j0]
  rw [kids_is l (by omega), hks]
  simp only [Option.bind_some]
  rw [if_pos (by rw [ints_len]; omega), ints_app]
  have hfail : rows_Put.j1 (k + 1) l at_ sub (dI + 1) (intsOf (kidsIn l fr en ++ [en])) true = some ([], 1) := by
    simp only [rows_Put.j1]
    rw [if_pos trivial]
  by_cases c0 : at_ < 0
  · have : putV l sub dI fr en at_ = ([], 1) := by unfold putV; rw [if_pos (.inl c0)]
    rw [if_pos c0, this]; exact hfail
  · rw [if_neg c0, ints_len]
    by_cases c1 : at_ ≥ ((kidsIn l fr en ++ [en]).length : Int)
    · have : putV l sub dI fr en at_ = ([], 1) := by unfold putV; rw [if_pos (.inr (by omega))]
      rw [decide_eq_true c1, this]; exact hfail
    · rw [decide_eq_false c1]
      obtain ⟨a, rfl⟩ : ∃ a : Nat, at_ = (a : Int) := ⟨at_.toNat, by omega⟩
      have ha : a < (kidsIn l fr en ++ [en]).length := by omega
      obtain ⟨K, hK⟩ : ∃ K, (kidsIn l fr en ++ [en])[a] = K := ⟨_, rfl⟩
      have T : Site l i dI fr en a K := site_mk R.right S R.kind (by rw [List.getElem?_eq_getElem ha, hK])
      have hle := S.le
      have hKe := T.le
      have hnn := T.nonneg
      have hrd : rd (intsOf (kidsIn l fr en ++ [en])) (a : Int) = (K : Int) := by rw [rd_ints _ a ha, hK]
      have hgd : (kidsIn l fr en ++ [en]).getD ((a : Int)).toNat 0 = K := by rw [Int.toNat_natCast, List.getD_eq_getElem?_getD, List.getElem?_eq_getElem ha, hK]; rfl
      unfold putV
      rw [if_neg (by omega), hgd]
      simp only [rows_Put.j1]
      rw [if_neg (by decide), right_is sub R.fewS k (by omega)]
      simp only [Option.bind_some]
      by_cases c2 : RightL 0 sub
      · have hb := ready_sub R hnn c2
        have hsm : sub.map (mvx (dI + 1)) = sub.map (sh (dI + 1)) := map_mvx_sh _ _ fun x hx => by have := hb x hx; omega
        have hFa : Few (l.take K) := ⟨by rw [List.length_take]; omega, fun x hx => R.few.2 x (List.mem_of_mem_take hx)⟩
        have hFb : Few (l.drop K) := ⟨by rw [List.length_drop]; omega, fun x hx => R.few.2 x (List.mem_of_mem_drop hx)⟩
        rw [if_pos c2, decide_eq_true c2, if_pos rfl, if_pos (by omega), if_pos (by rw [ints_len]; omega), hrd, if_pos (by omega), if_pos (by omega), Int.toNat_natCast,
          moved_is _ hFa 0 k (by rw [List.length_take]; omega), moved_is _ R.fewS _ k (by omega), moved_is _ hFb 0 k (by rw [List.length_drop]; omega),
          map_mvx0 _ fun x hx => R.dep x (List.mem_of_mem_take hx), map_mvx0 _ fun x hx => R.dep x (List.mem_of_mem_drop hx), hsm]
        simp only [Option.bind_some]
        rw [if_pos (by rw [List.length_map, List.length_drop]; omega), if_pos (by rw [List.length_append, List.length_map, List.length_drop, List.length_take]; omega), big_is]
        simp only [Option.bind_some]
        have hput : l.take K ++ (sub.map (sh (dI + 1)) ++ l.drop K) = putL l (sub.map (sh (dI + 1))) K := rfl
        rw [hput]
        cases bigL (putL l (sub.map (sh (dI + 1))) K) <;> rfl
      · rw [if_neg c2, decide_eq_false c2, if_neg (by decide)]
theorem join_is (a b : List S43) (ha : Few a) (hb : Few b) (da : ∀ x ∈ a, DepthIn x) (db : ∀ x ∈ b, DepthIn x) (hl : a.length + b.length < 1000) (k : Nat) (hk : 1000 < k) : boltingref04_Join.f k a b = some (a ++ b) := by
  unfold boltingref04_Join.f
  rw [refmoved_is a ha 0 k (by omega), refmoved_is b hb 0 k (by omega), map_mvx0 a da, map_mvx0 b db]
  simp only [Option.bind_some]
  rw [if_pos (by omega)]
theorem refbig_is (l : List S43) (hn : l.length ≤ 1000000) (k : Nat) (hk : l.length < k) : boltingref04_Big.f k l = some (bigL l) := by
  have := refbig_l0 l hn l.length 0 k (by omega) (by omega)
  rw [Int.natCast_zero, List.drop_zero] at this
  exact this
open Classical in
theorem refput_val {l sub : List S43} {i dI : Int} {fr en : Nat} (R : Ready l sub i dI fr en) (at_ : Int) (k : Nat) (h : 1200 < k) :
    boltingref04_Put.j1 (k + 3) l at_ sub (intsOf (kidsIn l fr en)) (dI + 1) (en : Int) = some (putV l sub dI fr en at_) := by
  have hl := R.len
  have hls := R.lenS
  have S := R.span
  have hkl : (kidsIn l fr en).length ≤ l.length := kidsN_length l en l.length fr
  have hpl : (kidsIn l fr en ++ [en]).length = (kidsIn l fr en).length + 1 := by simp
  have hfail : boltingref04_Put.j2 (k + 2) l at_ sub (intsOf (kidsIn l fr en)) (dI + 1) (en : Int) true = some ([], 1) := by
    simp only [boltingref04_Put.j2]
    rw [if_pos trivial]
  simp only [boltingref04_Put.j1]
  by_cases c0 : at_ < 0
  · have : putV l sub dI fr en at_ = ([], 1) := by unfold putV; rw [if_pos (.inl c0)]
    rw [if_pos c0, this]; exact hfail
  · rw [if_neg c0, ints_len]
    by_cases c1 : at_ > ((kidsIn l fr en).length : Int)
    · have : putV l sub dI fr en at_ = ([], 1) := by unfold putV; rw [if_pos (.inr (by omega))]
      rw [decide_eq_true c1, this]; exact hfail
    · rw [decide_eq_false c1]
      obtain ⟨a, rfl⟩ : ∃ a : Nat, at_ = (a : Int) := ⟨at_.toNat, by omega⟩
      have ha : a < (kidsIn l fr en ++ [en]).length := by omega
      obtain ⟨K, hK⟩ : ∃ K, (kidsIn l fr en ++ [en])[a] = K := ⟨_, rfl⟩
      have T : Site l i dI fr en a K := site_mk R.right S R.kind (by rw [List.getElem?_eq_getElem ha, hK])
      have hle := S.le
      have hKe := T.le
      have hnn := T.nonneg
      have hgd : (kidsIn l fr en ++ [en]).getD ((a : Int)).toNat 0 = K := by rw [Int.toNat_natCast, List.getD_eq_getElem?_getD, List.getElem?_eq_getElem ha, hK]; rfl
      unfold putV
      rw [if_neg (by omega), hgd]
      simp only [boltingref04_Put.j2]
      rw [if_neg (by decide), refright_is sub R.fewS (k + 1) (by omega)]
      simp only [Option.bind_some]
      by_cases c2 : RightL 0 sub
      · have hb := ready_sub R hnn c2
        have hsm : sub.map (mvx (dI + 1)) = sub.map (sh (dI + 1)) := map_mvx_sh _ _ fun x hx => by have := hb x hx; omega
        have hFa : Few (l.take K) := ⟨by rw [List.length_take]; omega, fun x hx => R.few.2 x (List.mem_of_mem_take hx)⟩
        have hFb : Few (l.drop K) := ⟨by rw [List.length_drop]; omega, fun x hx => R.few.2 x (List.mem_of_mem_drop hx)⟩
        have hFm : Few (sub.map (sh (dI + 1))) := ⟨by rw [List.length_map]; omega, fun x hx => by obtain ⟨z, hz, rfl⟩ := List.mem_map.1 hx; exact R.fewS.2 z hz⟩
        have hdm : ∀ x ∈ sub.map (sh (dI + 1)), DepthIn x := fun x hx => by
          obtain ⟨z, hz, rfl⟩ := List.mem_map.1 hx
          have := hb z hz
          show -9223372036854775808 ≤ z.f0 + (dI + 1) ∧ z.f0 + (dI + 1) < 9223372036854775808
          omega
        have hdt : ∀ x ∈ l.take K, DepthIn x := fun x hx => R.dep x (List.mem_of_mem_take hx)
        have hdd : ∀ x ∈ l.drop K, DepthIn x := fun x hx => R.dep x (List.mem_of_mem_drop hx)
        have hFam : Few (l.take K ++ sub.map (sh (dI + 1))) := ⟨by rw [List.length_append, List.length_take, List.length_map]; omega, fun x hx => by
          rcases List.mem_append.1 hx with hx | hx
          · exact hFa.2 x hx
          · exact hFm.2 x hx⟩
        have hdam : ∀ x ∈ l.take K ++ sub.map (sh (dI + 1)), DepthIn x := fun x hx => by
          rcases List.mem_append.1 hx with hx | hx
          · exact hdt x hx
          · exact hdm x hx
        have hput : (l.take K ++ sub.map (sh (dI + 1))) ++ l.drop K = putL l (sub.map (sh (dI + 1))) K := by unfold putL; rw [List.append_assoc]
        have h3 : boltingref04_Put.j3 (k + 1) l sub (dI + 1) (K : Int) = some (if bigL (putL l (sub.map (sh (dI + 1))) K) = true then ([], 2) else (putL l (sub.map (sh (dI + 1))) K, 0)) := by
          simp only [boltingref04_Put.j3]
          rw [if_pos (by omega), if_pos (by omega), Int.toNat_natCast, refmoved_is _ R.fewS _ k (by omega), hsm]
          simp only [Option.bind_some]
          rw [join_is _ _ hFa hFm hdt hdm (by rw [List.length_take, List.length_map]; omega) k (by omega)]
          simp only [Option.bind_some]
          rw [join_is _ _ hFam hFb hdam hdd (by rw [List.length_append, List.length_take, List.length_map, List.length_drop]; omega) k (by omega), hput]
          simp only [Option.bind_some]
          rw [refbig_is _ (by rw [put_len _ _ K (by omega), List.length_map]; omega) k (by rw [put_len _ _ K (by omega), List.length_map]; omega)]
          simp only [Option.bind_some]
          cases bigL (putL l (sub.map (sh (dI + 1))) K) <;> rfl
        rw [if_pos c2, decide_eq_true c2, if_pos rfl]
        by_cases c3 : (a : Int) < ((kidsIn l fr en).length : Int)
        · have hak : a < (kidsIn l fr en).length := by omega
          have hrd : rd (intsOf (kidsIn l fr en)) (a : Int) = (K : Int) := by
            rw [rd_ints _ a hak]
            rw [List.getElem_append_left hak] at hK
            rw [hK]
          rw [ints_len, if_pos c3, if_pos (by omega), hrd]
          exact h3
        · have hKe : K = en := by
            rw [List.getElem_append_right (by omega)] at hK
            simpa using hK.symm
          rw [ints_len, if_neg c3, ← hKe]
          exact h3
      · rw [if_neg c2, decide_eq_false c2, if_neg (by decide)]
theorem puts_l1 (l sub : List S43) (ls : List Nat) (hls : ∀ x ∈ ls, x ≤ 1000) (hll : ls.length ≤ 1000) (i : Nat) (hi : i < ls.length) (F : Nat) (hnext : ∀ k, F < k → boltinglaw04_RowsPuts.l0 k l sub l sub ls ((i + 1 : Nat) : Int) = some true) : ∀ e j k, j + e = ls[i] → F + e + 1 < k →
    boltinglaw04_RowsPuts.l1 k l sub l sub ls (i : Int) (j : Int) = some true := by
  have hm := hls _ (List.getElem_mem hi)
  have hgd : ls.getD ((i : Int)).toNat 0 = ls[i] := by rw [Int.toNat_natCast, List.getD_eq_getElem?_getD, List.getElem?_eq_getElem hi]; rfl
  intro e
  induction e with
  | zero =>
    intro j k hj hk
    obtain ⟨k, rfl⟩ : ∃ m, k = m + 1 := ⟨k - 1, by omega⟩
    simp only [boltinglaw04_RowsPuts.l1]
    rw [if_pos (by omega), if_pos (by omega), hgd, if_neg (by omega), up1 (by omega)]
    exact hnext k (by omega)
  | succ e ih =>
    intro j k hj hk
    obtain ⟨k, rfl⟩ : ∃ m, k = m + 1 := ⟨k - 1, by omega⟩
    simp only [boltinglaw04_RowsPuts.l1]
    rw [if_pos (by omega), if_pos (by omega), hgd, if_pos (by omega), up1 (by omega)]
    exact ih (j + 1) k (by omega) (by omega)
theorem puts_l0 (l sub : List S43) (ls : List Nat) (hls : ∀ x ∈ ls, x ≤ 8) (hll : ls.length ≤ 1000) : ∀ e i k, i + e = ls.length → e * 12 + 200 < k →
    boltinglaw04_RowsPuts.l0 k l sub l sub ls (i : Int) = some true := by
  intro e
  induction e with
  | zero =>
    intro i k hi hk
    obtain ⟨k, rfl⟩ : ∃ m, k = m + 1 := ⟨k - 1, by omega⟩
    simp only [boltinglaw04_RowsPuts.l0]
    rw [if_neg (by omega), fixed_is k (by omega)]
    simp [boltingref04_Same.f]
  | succ e ih =>
    intro i k hi hk
    obtain ⟨k, rfl⟩ : ∃ m, k = m + 1 := ⟨k - 1, by omega⟩
    have hm := hls _ (List.getElem_mem (show i < ls.length by omega))
    simp only [boltinglaw04_RowsPuts.l0]
    rw [if_pos (by omega), if_pos (by omega)]
    exact puts_l1 l sub ls (fun x hx => by have := hls x hx; omega) hll i (by omega) (e * 12 + 200) (fun k hk => ih (i + 1) k (by omega) hk) (ls[i]'(by omega)) 0 k (by omega) (by omega)
theorem puts_j1 (l sub a : List S43) (ha : Few a) (hl : a.length ≤ 130) (k : Nat) (hk : 3000 < k) : boltinglaw04_RowsPuts.j1 (k + 1) l sub l sub a false = some true := by
  simp only [boltinglaw04_RowsPuts.j1]
  rw [if_neg (by decide)]
  exact puts_l0 l sub _ (fun x hx => by obtain ⟨y, hy, rfl⟩ := List.mem_map.1 hx; exact ha.2 y hy) (by rw [List.length_map]; omega) a.length 0 k (by rw [List.length_map]; omega) (by omega)
theorem putV_few {l sub : List S43} {i dI : Int} {fr en : Nat} (R : Ready l sub i dI fr en) (at_ : Int) : Few (putV l sub dI fr en at_).1 ∧ (putV l sub dI fr en at_).1.length ≤ 130 := by
  have hl := R.len
  have hls := R.lenS
  have hnil : Few ([] : List S43) ∧ ([] : List S43).length ≤ 130 := ⟨⟨by simp, fun x hx => by cases hx⟩, by simp⟩
  unfold putV
  split
  · exact hnil
  · split
    · split
      · exact hnil
      · obtain ⟨K, hK⟩ : ∃ K, (kidsIn l fr en ++ [en]).getD at_.toNat 0 = K := ⟨_, rfl⟩
        rw [hK]
        have hlen : (putL l (sub.map (sh (dI + 1))) K).length ≤ 120 := by
          unfold putL
          rw [List.length_append, List.length_append, List.length_take, List.length_drop, List.length_map]
          omega
        refine ⟨⟨by show (putL l _ K).length ≤ _; omega, fun x hx => ?_⟩, by show (putL l _ K).length ≤ _; omega⟩
        have hx' : x ∈ putL l (sub.map (sh (dI + 1))) K := hx
        unfold putL at hx'
        rcases List.mem_append.1 hx' with hx | hx
        · exact R.few.2 x (List.mem_of_mem_take hx)
        · rcases List.mem_append.1 hx with hx | hx
          · obtain ⟨z, hz, rfl⟩ := List.mem_map.1 hx
            exact R.fewS.2 z hz
          · exact R.few.2 x (List.mem_of_mem_drop hx)
    · exact hnil
/-- Both put alike. -/
theorem put_both {l sub : List S43} (hF : Few l) (hFs : Few sub) (hl : l.length ≤ 60) (hls : sub.length ≤ 60) (hd : ∀ x ∈ l, DepthIn x) (hR : RightL 0 l) (hb : bigL l = false) (i at_ : Int) (k : Nat) (h : 3000 < k) :
    ∃ r, rows_Put.f k l i at_ sub = some r ∧ boltingref04_Put.f k l i at_ sub = some r ∧ Few r.1 ∧ r.1.length ≤ 130 := by
  obtain ⟨k, rfl⟩ : ∃ m, k = m + 4 := ⟨k - 4, by omega⟩
  have hdp : ∀ i, i < l.length → 0 ≤ dp l i ∧ dp l i < 1000000 := fun i hi => by
    refine ⟨(right_dp hR).1 i hi, ?_⟩
    have := big_no hb l[i] (List.getElem_mem hi)
    rw [dp_at l i hi]; omega
  have hnil : Few ([] : List S43) ∧ ([] : List S43).length ≤ 130 := ⟨⟨by simp, fun x hx => by cases hx⟩, by simp⟩
  have hbad : boltingref04_Put.j0 (k + 4) l i at_ sub true = some ([], 41) := by
    simp only [boltingref04_Put.j0]
    rw [if_pos trivial]
  by_cases c : i = -1
  · subst c
    have R : Ready l sub (-1) (-1) 0 l.length := ⟨hF, hFs, hl, hls, hd, hR, hb, span_root l hR, .inl rfl⟩
    have hks : kidsOf l (-1) = kidsIn l 0 l.length := by unfold kidsOf kidsIn; rw [if_pos rfl]
    have h1 := put_val R hks at_ (k + 2) (by omega)
    have h2 := refput_val R at_ k (by omega)
    refine ⟨_, ?_, ?_, putV_few R at_⟩
    · unfold rows_Put.f
      rw [if_pos rfl]
      exact h1
    · unfold boltingref04_Put.f
      rw [if_neg (by omega), if_neg (by omega), if_neg (by omega)]
      simp only [boltingref04_Put.j0]
      rw [if_neg (by decide), refkids_is (by omega) hR hdp (-1) _ (by omega), hks]
      simp only [Option.bind_some]
      rw [if_neg (by omega)]
      exact h2
  · by_cases c0 : 0 ≤ i ∧ i < (l.length : Int)
    · obtain ⟨q, rfl⟩ : ∃ q : Nat, i = (q : Int) := ⟨i.toNat, by omega⟩
      have hq : q < l.length := by omega
      have h0 := hdp q hq
      rw [dp_at l q hq] at h0
      by_cases c2 : l[q].f1 = 0
      · have R : Ready l sub (q : Int) (dp l q) (q + 1) (endN l q) := ⟨hF, hFs, hl, hls, hd, hR, hb, span_node l q hq, .inr ⟨q, hq, rfl, c2⟩⟩
        have hks : kidsOf l (q : Int) = kidsIn l (q + 1) (endN l q) := by unfold kidsOf kidsIn; rw [if_neg (by omega), if_pos ⟨by omega, by omega⟩, Int.toNat_natCast]
        have h1 := put_val R hks at_ (k + 2) (by omega)
        have h2 := refput_val R at_ k (by omega)
        have hend : endI l (q : Int) = (endN l q : Int) := by unfold endI; rw [if_pos ⟨by omega, by omega⟩, Int.toNat_natCast]
        rw [dp_at l q hq] at h1 h2
        refine ⟨_, ?_, ?_, putV_few R at_⟩
        · unfold rows_Put.f rows_is.f
          rw [if_neg c, if_pos (by omega)]
          simp only [Option.bind_some]
          rw [decide_eq_true c0.2, if_pos rfl, if_pos (by omega), if_pos c0.2, rd_T43_at l q hq, if_pos c2, end_is l (by omega) q hq _ (by omega), upI (by omega) (by omega), dp_at l q hq]
          simp only [Option.bind_some]
          exact h1
        · unfold boltingref04_Put.f
          have hb0 : (l[q].f1 != 0) = false := bne_eq_false_iff_eq.2 c2
          rw [if_neg (by omega), if_neg (by omega), if_pos (by omega), if_pos (by omega), if_pos c0.2, rd_T43_at l q hq, hb0, dp_at l q hq]
          simp only [boltingref04_Put.j0]
          rw [if_neg (by decide), refkids_is (by omega) hR hdp (q : Int) _ (by omega), hks]
          simp only [Option.bind_some]
          rw [if_pos (by omega), if_pos (by omega), if_pos c0.2, refend_is l (by omega) _ _ (by omega), hend, rd_T43_at l q hq, upI (by omega) (by omega)]
          simp only [Option.bind_some]
          exact h2
      · refine ⟨([], 41), ?_, ?_, hnil⟩
        · unfold rows_Put.f rows_is.f
          rw [if_neg c, if_pos (by omega)]
          simp only [Option.bind_some]
          rw [decide_eq_true c0.2, if_pos rfl, if_pos (by omega), if_pos c0.2, rd_T43_at l q hq, if_neg c2]
        · unfold boltingref04_Put.f
          have hb0 : (l[q].f1 != 0) = true := bne_iff_ne.2 c2
          rw [if_neg (by omega), if_neg (by omega), if_pos (by omega), if_pos (by omega), if_pos c0.2, rd_T43_at l q hq, hb0]
          exact hbad
    · refine ⟨([], 41), ?_, ?_, hnil⟩
      · unfold rows_Put.f rows_is.f
        rw [if_neg c]
        by_cases c3 : i ≥ 0
        · rw [if_pos c3, decide_eq_false (by omega)]; rfl
        · rw [if_neg c3]; rfl
      · unfold boltingref04_Put.f
        by_cases c3 : i < -1
        · rw [if_pos c3]; exact hbad
        · rw [if_neg c3, if_pos (by omega)]; exact hbad
theorem take_out (l : List S43) (hn : l.length ≤ 100) (i : Int) (h : ¬ (0 ≤ i ∧ i < (l.length : Int))) (k : Nat) : rows_Take.f k l i = some ([], 41) ∧ rows_Drop.f k l i = some ([], 41) := by
  unfold rows_Take.f rows_Drop.f rows_is.f
  by_cases c3 : i ≥ 0
  · rw [if_pos c3, decide_eq_false (by omega)]; exact ⟨rfl, rfl⟩
  · rw [if_neg c3]; exact ⟨rfl, rfl⟩
theorem RowsPuts (l0 : List S43) (hi0 : ∀ x ∈ l0, RowIn x) (l1 : List S43) (hi1 : ∀ x ∈ l1, RowIn x) (a2 a3 : Int) : ∃ k, boltinglaw04_RowsPuts.f k l0 l1 a2 a3 = some true := by
  refine ⟨6000, ?_⟩
  have hl := bnd_len l0
  have hF := bnd_few l0
  have hd := bnd_in l0 hi0
  have hls := bnd_len l1
  have hFs := bnd_few l1
  have hds := bnd_in l1 hi1
  obtain ⟨l, hll⟩ : ∃ l, bnd l0 = l := ⟨_, rfl⟩
  obtain ⟨sub, hsub⟩ : ∃ l, bnd l1 = l := ⟨_, rfl⟩
  unfold boltinglaw04_RowsPuts.f
  rw [bound_is l0 _ (by omega), bound_is l1 _ (by omega), hll, hsub]
  rw [hll] at hl hF hd
  rw [hsub] at hls hFs hds
  simp only [Option.bind_some]
  rw [refcheck_is _ hF _ (by omega)]
  simp only [Option.bind_some]
  by_cases c : chkV l = 0
  · rw [if_pos c]
    have hR := chk_right c
    have hb := chk_big c
    obtain ⟨⟨a, e⟩, h1, h2, hFa, hla⟩ := put_both hF hFs hl hls hd hR hb a2 a3 6000 (by omega)
    rw [refmoved_is l hF 0 _ (by omega), refmoved_is sub hFs 0 _ (by omega), map_mvx0 l hd, map_mvx0 sub hds, h1, h2]
    simp only [Option.bind_some]
    by_cases c0 : 0 ≤ a2 ∧ a2 < (l.length : Int)
    · obtain ⟨n, rfl⟩ : ∃ n : Nat, a2 = (n : Int) := ⟨a2.toNat, by omega⟩
      have hn : n < l.length := by omega
      have hend : endI l (n : Int) = (endN l n : Int) := by unfold endI; rw [if_pos c0, Int.toNat_natCast]
      have he1 := endN_lt l n
      have he2 := endN_le l n hn
      have hdn := (right_nth l 0 hR n hn).1
      have hdb := big_no hb l[n] (List.getElem_mem hn)
      have hdpn : dp l n = l[n].f0 := dp_at l n hn
      have hneg : wrap64 (-(l[n].f0)) = -(l[n].f0) := by unfold wrap64; omega
      have hFt : Few (treeOf l n) := ⟨by rw [tree_len l n hn]; omega, fun x hx => hF.2 x (List.mem_of_mem_drop (List.mem_of_mem_take hx))⟩
      have hmv : (treeOf l n).map (mvx (-(l[n].f0))) = (treeOf l n).map (sh (-(dp l n))) := by
        rw [hdpn]
        exact map_mvx_sh _ _ fun x hx => by
          have hm : x ∈ l := List.mem_of_mem_drop (List.mem_of_mem_take hx)
          have := right_mem hR x hm
          have := big_no hb x hm
          omega
      have hFt2 : Few (l.take n) := ⟨by rw [List.length_take]; omega, fun x hx => hF.2 x (List.mem_of_mem_take hx)⟩
      have hFd2 : Few (l.drop (endN l n)) := ⟨by rw [List.length_drop]; omega, fun x hx => hF.2 x (List.mem_of_mem_drop hx)⟩
      rw [take_spec l hF hR hb n hn _ (by omega), drop_spec l hF hd n hn _ (by omega)]
      simp only [Option.bind_some, boltingref04_Same.f, decide_true, if_true]
      rw [if_pos (by omega), decide_eq_true c0.2]
      simp only [boltinglaw04_RowsPuts.j0]
      rw [if_neg (by decide), if_pos trivial, refend_is l (by omega) _ _ (by omega), hend]
      simp only [Option.bind_some]
      rw [if_pos c0.1, if_pos (by omega), if_pos (by omega), if_pos c0.2, Int.toNat_natCast, Int.toNat_natCast, tree_take, rd_T43_at l n hn, hneg, refmoved_is _ hFt _ _ (by rw [tree_len l n hn]; omega), hmv]
      simp only [Option.bind_some, boltingref04_Same.f, decide_true, if_true]
      rw [if_pos (by omega), if_pos (by omega), if_pos (by omega), join_is _ _ hFt2 hFd2 (fun x hx => hd x (List.mem_of_mem_take hx)) (fun x hx => hd x (List.mem_of_mem_drop hx)) (by rw [List.length_take, List.length_drop]; omega) _ (by omega)]
      simp only [Option.bind_some, decide_true, Bool.not_true]
      exact puts_j1 l sub a hFa hla _ (by omega)
    · obtain ⟨t1, t2⟩ := take_out l (by omega) a2 c0 6000
      rw [t1, t2]
      simp only [Option.bind_some, boltingref04_Same.f, decide_true, if_true]
      have hj : boltinglaw04_RowsPuts.j0 6000 l sub l sub a [] 41 [] false l0 l1 a2 a3 = some true := by
        simp only [boltinglaw04_RowsPuts.j0]
        rw [if_neg (by decide), if_neg (by decide)]
        exact puts_j1 l sub a hFa hla _ (by omega)
      by_cases c1 : a2 ≥ 0
      · rw [if_pos c1, decide_eq_false (by omega)]
        exact hj
      · rw [if_neg c1]
        exact hj
  · rw [if_neg c, fixed_is _ (by omega)]
    rfl

end Go.Proofs.Ytllggaogjcknoaa.Pure
