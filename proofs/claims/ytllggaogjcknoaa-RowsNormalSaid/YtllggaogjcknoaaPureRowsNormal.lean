/- Right rows with their texts joined are told alike by the program and by the document's answer, and what was handed in stays: for all rows, cut to 60 rows of 8 attributes. -/
import Derived.Test.YtllggaogjcknoaaQAx4
import Derived.Test.YtllggaogjcknoaaQAx5
import Derived.Test.YtllggaogjcknoaaQAx7
import Derived.Test.YtllggaogjcknoaaQAx9
import Derived.Test.YtllggaogjcknoaaQAx15
import Derived.Test.YtllggaogjcknoaaQAOpen
set_option linter.unusedVariables false
set_option linter.unusedSimpArgs false
namespace Go.Proofs.Ytllggaogjcknoaa.Pure
open Go.RowKit Go.Proofs.Ytllggaogjcknoaa.QA Go.Proofs.YtllggaogjcknoaaW.PrintWords Go.Proofs.YtllggaogjcknoaaW.PrintLast Go.Proofs.YtllggaogjcknoaaW.PrintMore

/-- The names behind place i differ from all ahead of them. -/
def NoTwo (l : List S46) (i : Nat) : Prop := ∀ a b : Nat, a < b → i ≤ b → b < l.length → (rd_T46 l (a : Int)).f0.toList ≠ (rd_T46 l (b : Int)).f0.toList
def NoneLike (l : List S46) (i j : Nat) : Prop := ∀ a : Nat, j ≤ a → a < i → (rd_T46 l (a : Int)).f0.toList ≠ (rd_T46 l (i : Int)).f0.toList
theorem noTwo_step {l : List S46} {i : Nat} (h : i < l.length) : NoTwo l i ↔ NoneLike l i 0 ∧ NoTwo l (i + 1) := by
  constructor
  · intro H
    exact ⟨fun a _ hai => H a i hai (Nat.le_refl _) h, fun a b hab hib hb => H a b hab (by omega) hb⟩
  · rintro ⟨H1, H2⟩ a b hab hib hb
    by_cases e : b = i
    · subst e; exact H1 a (Nat.zero_le _) hab
    · exact H2 a b hab (by omega) hb
theorem noneLike_step {l : List S46} {i j : Nat} (h : j < i) : NoneLike l i j ↔ ((rd_T46 l (j : Int)).f0.toList ≠ (rd_T46 l (i : Int)).f0.toList ∧ NoneLike l i (j + 1)) := by
  constructor
  · intro H
    exact ⟨H j (Nat.le_refl _) h, fun a ha hai => H a (by omega) hai⟩
  · rintro ⟨H1, H2⟩ a ha hai
    by_cases e : a = j
    · subst e; exact H1
    · exact H2 a (by omega) hai
theorem rd46_take (l : List S46) (i j : Nat) (h : j < i) : rd_T46 (l.take i) (j : Int) = rd_T46 l (j : Int) := by
  simp [rd_T46, List.getElem?_take, h]
open Classical in
theorem row_l1 (l : List S46) (hm : l.length < 9223372036854775807) (a0 a1 : Int) (a2 a3 : ByteArray) (i : Nat) (hi : i < l.length) (K : Nat) (v : Bool)
    (hnext : ∀ k, K < k → rows_row.l0 k l (l.length : Int) ((i + 1 : Nat) : Int) a0 a1 a2 a3 l = some v) : ∀ e j k, j + e = i → K + e + 1 < k →
    rows_row.l1 k l (l.length : Int) (i : Int) (l.take i) ((l.take i).length : Int) (j : Int) a0 a1 a2 a3 l (rd_T46 l (i : Int)).f0 (rd_T46 l (i : Int)).f1 = some (decide (NoneLike l i j) && v) := by
  have hti : (l.take i).length = i := by rw [List.length_take]; omega
  intro e
  induction e with
  | zero =>
    intro j k hj hk
    obtain ⟨k, rfl⟩ : ∃ m, k = m + 1 := ⟨k - 1, by omega⟩
    simp only [rows_row.l1]
    rw [hti, if_neg (by omega), up1 (by omega), hnext k (by omega)]
    have : NoneLike l i j := fun a ha hai => by omega
    simp [this]
  | succ e ih =>
    intro j k hj hk
    obtain ⟨k, rfl⟩ : ∃ m, k = m + 1 := ⟨k - 1, by omega⟩
    simp only [rows_row.l1]
    rw [if_pos (by rw [hti]; omega), if_pos (by omega), if_pos (by rw [hti]; omega), rd46_take l i j (by omega)]
    have hs := noneLike_step (l := l) (i := i) (j := j) (by omega)
    by_cases hq : (rd_T46 l (i : Int)).f0.toList = (rd_T46 l (j : Int)).f0.toList
    · rw [if_pos hq]
      have : ¬ NoneLike l i j := fun h => (hs.1 h).1 hq.symm
      simp [this]
    · rw [if_neg hq, up1 (by omega), ih (j + 1) k (by omega) (by omega)]
      have : decide (NoneLike l i j) = decide (NoneLike l i (j + 1)) := by
        apply decide_eq_decide.2
        exact ⟨fun h => (hs.1 h).2, fun h => hs.2 ⟨fun e => hq e.symm, h⟩⟩
      rw [this]
open Classical in
theorem row_l0 (l : List S46) (hm : l.length < 9223372036854775807) (a0 a1 : Int) (a2 a3 : ByteArray) : ∀ d i k, i + d = l.length → d * (l.length + 3) < k →
    rows_row.l0 k l (l.length : Int) (i : Int) a0 a1 a2 a3 l = some (decide (NoTwo l i)) := by
  intro d
  induction d with
  | zero =>
    intro i k hi hk
    obtain ⟨k, rfl⟩ : ∃ m, k = m + 1 := ⟨k - 1, by omega⟩
    simp only [rows_row.l0]
    rw [if_neg (by omega)]
    have : NoTwo l i := fun a b hab hib hb => by omega
    simp [this]
  | succ d ih =>
    intro i k hi hk
    obtain ⟨k, rfl⟩ : ∃ m, k = m + 1 := ⟨k - 1, by omega⟩
    rw [Nat.succ_mul] at hk
    simp only [rows_row.l0]
    rw [if_pos (by omega), if_pos (by omega), if_pos (by omega), if_pos (by omega)]
    simp only [Option.bind_some, Int.toNat_natCast]
    have h1 := row_l1 l hm a0 a1 a2 a3 i (by omega) (d * (l.length + 3)) (decide (NoTwo l (i + 1))) (fun k hk => ih (i + 1) k (by omega) hk) i 0 k (by omega) (by omega)
    rw [Int.natCast_zero] at h1
    rw [h1]
    congr 1
    rw [← Bool.decide_and]
    exact decide_eq_decide.2 (noTwo_step (by omega)).symm
/-- May a row be, by itself? -/
def RowOk (x : S43) : Prop := if x.f1 = 1 ∨ x.f1 = 2 then x.f2.toList = [] ∧ x.f4.length = 0 else x.f1 = 0 ∧ x.f2.toList ≠ [] ∧ x.f3.toList = [] ∧ NoTwo x.f4 0
theorem len_eq0 {α : Type} (l : List α) : ((l.length : Int) == 0) = decide (l = []) := by
  cases l with
  | nil => rfl
  | cons x l => simp; omega
open Classical in
theorem row_is (x : S43) (hm : x.f4.length < 9223372036854775807) (k : Nat) (hk : x.f4.length * (x.f4.length + 3) + 4 < k) : rows_row.f k x.f0 x.f1 x.f2 x.f3 x.f4 = some (decide (RowOk x)) := by
  obtain ⟨k, rfl⟩ : ∃ m, k = m + 1 := ⟨k - 1, by omega⟩
  obtain ⟨k, rfl⟩ : ∃ m, k = m + 1 := ⟨k - 1, by omega⟩
  have h0 := row_l0 x.f4 hm x.f0 x.f1 x.f2 x.f3 x.f4.length 0 k (by omega) (by omega)
  rw [Int.natCast_zero] at h0
  unfold rows_row.f RowOk
  by_cases h1 : x.f1 = 1
  · simp only [h1, rows_row.j0, true_or, if_true]
    by_cases h2 : x.f2.toList = []
    · simp [h2, len_eq0]
    · simp [h2]
  · by_cases h2 : x.f1 = 2
    · simp only [h2, rows_row.j0, or_true, if_true, beq_self_eq_true]
      by_cases h3 : x.f2.toList = []
      · simp [h3, len_eq0]
      · simp [h3]
    · have hb : (x.f1 == 2) = false := beq_eq_false_iff_ne.2 h2
      simp only [h1, h2, hb, rows_row.j0, rows_row.j1, or_self, if_false, Bool.false_eq_true]
      by_cases h3 : x.f1 = 0
      · by_cases h4 : x.f2.toList = []
        · simp [h3, h4]
        · by_cases h5 : x.f3.toList = []
          · simp [h3, h4, h5] at h0 ⊢
            exact h0
          · simp [h3, h4, h5]
      · simp [h3]

/-- The deepest that the row behind x may be. -/
def nxt (x : S43) : Int := if x.f1 = 0 then x.f0 + 1 else x.f0
/-- Rows that are right, where the first may be at depth d. -/
def RightL : Int → List S43 → Prop
  | _, [] => True
  | d, x :: l => (0 ≤ x.f0 ∧ x.f0 ≤ d ∧ RowOk x) ∧ RightL (nxt x) l
/-- No more rows and attributes than the statements let in. -/
def Few (l : List S43) : Prop := l.length ≤ 1000000 ∧ ∀ x ∈ l, x.f4.length ≤ 8
theorem few_fuel {n : Nat} (h : n ≤ 8) : n * (n + 3) ≤ 88 := by
  have : n * (n + 3) ≤ 8 * 11 := Nat.mul_le_mul h (by omega)
  omega
theorem upI {a : Int} (h0 : -9223372036854775808 ≤ a) (h : a < 9223372036854775807) : wrap64 (a + 1) = a + 1 := by
  unfold wrap64; omega
theorem dn1 {i : Nat} (h : i < 9223372036854775807) : wrap64 (((i + 1 : Nat) : Int) - 1) = (i : Int) := by
  unfold wrap64; omega
open Classical in
theorem right_l0 (l : List S43) (hF : Few l) : ∀ e i k (d : Int), i + e = l.length → 0 ≤ d → d ≤ i → 3 * e + 200 < k →
    rows_right.l0 k d l (l.length : Int) (i : Int) = some (decide (RightL d (l.drop i))) := by
  have hn := hF.1
  intro e
  induction e with
  | zero =>
    intro i k d hi h0 h1 hk
    obtain ⟨k, rfl⟩ : ∃ m, k = m + 1 := ⟨k - 1, by omega⟩
    simp only [rows_right.l0]
    rw [if_neg (by omega), List.drop_of_length_le (by omega)]
    exact congrArg some (decide_eq_true (show RightL d [] from trivial)).symm
  | succ e ih =>
    intro i k d hi h0 h1 hk
    obtain ⟨k, rfl⟩ : ∃ m, k = m + 2 := ⟨k - 2, by omega⟩
    have hil : i < l.length := by omega
    have hx8 := hF.2 l[i] (List.getElem_mem hil)
    simp only [rows_right.l0]
    rw [if_pos (by omega), if_pos (by omega), if_pos (by omega), rd_T43_at l i hil, List.drop_eq_getElem_cons hil]
    obtain ⟨x, hx⟩ : ∃ x, l[i] = x := ⟨_, rfl⟩
    rw [hx] at hx8 ⊢
    have hf := few_fuel hx8
    by_cases c0 : x.f0 < 0
    · rw [if_pos c0]
      have : ¬ RightL d (x :: l.drop (i + 1)) := fun h => by have := h.1.1; omega
      simp [rows_right.j1, this]
    · rw [if_neg c0]
      by_cases c1 : x.f0 > d
      · rw [if_pos c1]
        have : ¬ RightL d (x :: l.drop (i + 1)) := fun h => by have := h.1.2.1; omega
        simp [rows_right.j1, this]
      · rw [if_neg c1, row_is x (by omega) (k + 1) (by omega)]
        simp only [Option.bind_some, rows_right.j1]
        by_cases c2 : RowOk x
        · have he : RightL d (x :: l.drop (i + 1)) ↔ RightL (nxt x) (l.drop (i + 1)) := ⟨fun h => h.2, fun h => ⟨⟨by omega, by omega, c2⟩, h⟩⟩
          rw [decide_eq_true c2, if_neg (by decide), up1 (by omega), decide_eq_decide.2 he]
          by_cases c3 : x.f1 = 0
          · have hnx : nxt x = x.f0 + 1 := by simp [nxt, c3]
            rw [if_pos c3, upI (by omega) (by omega), ← hnx]
            exact ih (i + 1) k _ (by omega) (by omega) (by omega) (by omega)
          · have hnx : nxt x = x.f0 := by simp [nxt, c3]
            rw [if_neg c3, ← hnx]
            exact ih (i + 1) k _ (by omega) (by omega) (by omega) (by omega)
        · have : ¬ RightL d (x :: l.drop (i + 1)) := fun h => c2 h.1.2.2
          rw [decide_eq_false c2, if_pos (by decide), decide_eq_false this]
open Classical in
theorem right_is (l : List S43) (hF : Few l) (k : Nat) (hk : 3 * l.length + 200 < k) : rows_right.f k l = some (decide (RightL 0 l)) := by
  have := right_l0 l hF l.length 0 k 0 (by omega) (by omega) (by omega) hk
  rw [Int.natCast_zero, List.drop_zero] at this
  exact this
/-- What the check of rows answers. -/
def bigL (l : List S43) : Bool := l.any bigB || decide ((l.length : Int) > 4096)
open Classical in
noncomputable def chkV (l : List S43) : Int := if bigL l = true then 2 else if RightL 0 l then 0 else 40
theorem big_is (l : List S43) : rows_big.f l = some (bigL l) := by
  unfold rows_big.f bigL
  rw [Bool.or_comm]
open Classical in
theorem check_is (l : List S43) (hF : Few l) (k : Nat) (hk : 3 * l.length + 200 < k) : rows_Check.f k l = some (chkV l) := by
  unfold rows_Check.f chkV
  rw [big_is, right_is l hF k hk]
  simp only [Option.bind_some]
  by_cases c : bigL l = true
  · rw [if_pos c, if_pos c]
  · rw [if_neg c, if_neg c]
    by_cases c1 : RightL 0 l
    · rw [if_pos c1, decide_eq_true c1]; rfl
    · rw [if_neg c1, decide_eq_false c1]; rfl

/-! The document's answers. -/
def refFin (a1 : Int) (a2 a3 : ByteArray) : Bool := if a1 = 0 then (if a2.toList = ([] : List UInt8) then false else a3.toList == ([] : List UInt8)) else false
open Classical in
theorem refrow_l1 (l : List S46) (hm : l.length < 9223372036854775807) (a0 a1 : Int) (a2 a3 : ByteArray) (i : Nat) (hi : i < l.length) (K : Nat) (v : Bool)
    (hnext : ∀ k, K < k → boltingref04_Row.l0 k ((i + 1 : Nat) : Int) a0 a1 a2 a3 l = some v) : ∀ e j k, j + e = i → K + e + 1 < k →
    boltingref04_Row.l1 k (i : Int) (j : Int) a0 a1 a2 a3 l = some (decide (NoneLike l i j) && v) := by
  intro e
  induction e with
  | zero =>
    intro j k hj hk
    obtain ⟨k, rfl⟩ : ∃ m, k = m + 1 := ⟨k - 1, by omega⟩
    simp only [boltingref04_Row.l1]
    rw [if_neg (by omega), up1 (by omega), hnext k (by omega)]
    have : NoneLike l i j := fun a ha hai => by omega
    simp [this]
  | succ e ih =>
    intro j k hj hk
    obtain ⟨k, rfl⟩ : ∃ m, k = m + 1 := ⟨k - 1, by omega⟩
    simp only [boltingref04_Row.l1]
    rw [if_pos (by omega), if_pos (by omega), if_pos (by omega), if_pos (by omega), if_pos (by omega)]
    have hs := noneLike_step (l := l) (i := i) (j := j) (by omega)
    by_cases hq : (rd_T46 l (i : Int)).f0.toList = (rd_T46 l (j : Int)).f0.toList
    · rw [if_pos hq]
      have : ¬ NoneLike l i j := fun h => (hs.1 h).1 hq.symm
      simp [this]
    · rw [if_neg hq, up1 (by omega), ih (j + 1) k (by omega) (by omega)]
      have : decide (NoneLike l i j) = decide (NoneLike l i (j + 1)) := by
        apply decide_eq_decide.2
        exact ⟨fun h => (hs.1 h).2, fun h => hs.2 ⟨fun e => hq e.symm, h⟩⟩
      rw [this]
open Classical in
theorem refrow_l0 (l : List S46) (hm : l.length < 9223372036854775807) (a0 a1 : Int) (a2 a3 : ByteArray) : ∀ d i k, i + d = l.length → d * (l.length + 3) < k →
    boltingref04_Row.l0 k (i : Int) a0 a1 a2 a3 l = some (decide (NoTwo l i) && refFin a1 a2 a3) := by
  intro d
  induction d with
  | zero =>
    intro i k hi hk
    obtain ⟨k, rfl⟩ : ∃ m, k = m + 1 := ⟨k - 1, by omega⟩
    simp only [boltingref04_Row.l0]
    rw [if_neg (by omega)]
    have : NoTwo l i := fun a b hab hib hb => by omega
    simp only [this, decide_true, Bool.true_and, refFin]
    split <;> (try rfl)
    split <;> rfl
  | succ d ih =>
    intro i k hi hk
    obtain ⟨k, rfl⟩ : ∃ m, k = m + 1 := ⟨k - 1, by omega⟩
    rw [Nat.succ_mul] at hk
    simp only [boltingref04_Row.l0]
    rw [if_pos (by omega)]
    have h1 := refrow_l1 l hm a0 a1 a2 a3 i (by omega) (d * (l.length + 3)) (decide (NoTwo l (i + 1)) && refFin a1 a2 a3) (fun k hk => ih (i + 1) k (by omega) hk) i 0 k (by omega) (by omega)
    rw [Int.natCast_zero] at h1
    rw [h1, ← Bool.and_assoc]
    congr 2
    rw [← Bool.decide_and]
    exact decide_eq_decide.2 (noTwo_step (by omega)).symm
open Classical in
theorem refrow_is (x : S43) (hm : x.f4.length < 9223372036854775807) (k : Nat) (hk : x.f4.length * (x.f4.length + 3) + 4 < k) : boltingref04_Row.f k x.f0 x.f1 x.f2 x.f3 x.f4 = some (decide (RowOk x)) := by
  obtain ⟨k, rfl⟩ : ∃ m, k = m + 1 := ⟨k - 1, by omega⟩
  have h0 := refrow_l0 x.f4 hm x.f0 x.f1 x.f2 x.f3 x.f4.length 0 k (by omega) (by omega)
  rw [Int.natCast_zero] at h0
  unfold boltingref04_Row.f RowOk
  by_cases h1 : x.f1 = 1
  · simp only [h1, boltingref04_Row.j0, true_or, if_true]
    by_cases h2 : x.f2.toList = []
    · simp [h2, len_eq0]
    · simp [h2]
  · by_cases h2 : x.f1 = 2
    · simp only [h2, boltingref04_Row.j0, or_true, if_true, beq_self_eq_true]
      by_cases h3 : x.f2.toList = []
      · simp [h3, len_eq0]
      · simp [h3]
    · have hb : (x.f1 == 2) = false := beq_eq_false_iff_ne.2 h2
      simp only [h1, h2, hb, boltingref04_Row.j0, or_self, if_false, Bool.false_eq_true]
      rw [h0]
      by_cases h3 : x.f1 = 0
      · by_cases h4 : x.f2.toList = []
        · simp [h3, h4, refFin]
        · by_cases h5 : x.f3.toList = []
          · simp [h3, h4, h5, refFin]
          · simp [h3, h4, h5, refFin]
      · simp [h3, refFin]
open Classical in
theorem refright_l0 (l : List S43) (hF : Few l) : ∀ e i k (d : Int), i + e = l.length → (if h : 0 < i ∧ i ≤ l.length then d = nxt (l[i - 1]'(by omega)) ∧ 0 ≤ (l[i - 1]'(by omega)).f0 ∧ (l[i - 1]'(by omega)).f0 + 1 ≤ i else d = 0) → 3 * e + 200 < k →
    boltingref04_Right.l0 k l (i : Int) = some (decide (RightL d (l.drop i))) := by
  have hn := hF.1
  intro e
  induction e with
  | zero =>
    intro i k d hi h0 hk
    obtain ⟨k, rfl⟩ : ∃ m, k = m + 1 := ⟨k - 1, by omega⟩
    simp only [boltingref04_Right.l0]
    rw [if_neg (by omega), List.drop_of_length_le (by omega)]
    exact congrArg some (decide_eq_true (show RightL d [] from trivial)).symm
  | succ e ih =>
    intro i k d hi h0 hk
    obtain ⟨k, rfl⟩ : ∃ m, k = m + 2 := ⟨k - 2, by omega⟩
    have hil : i < l.length := by omega
    have hx8 := hF.2 l[i] (List.getElem_mem hil)
    have hnext : ∀ (hh : 0 ≤ l[i].f0 ∧ l[i].f0 ≤ i), boltingref04_Right.l0 k l ((i + 1 : Nat) : Int) = some (decide (RightL (nxt l[i]) (l.drop (i + 1)))) := by
      intro hh
      refine ih (i + 1) k _ (by omega) ?_ (by omega)
      rw [dif_pos ⟨by omega, by omega⟩]
      exact ⟨rfl, hh.1, by have := hh.2; simp only [Nat.add_sub_cancel]; omega⟩
    simp only [boltingref04_Right.l0]
    rw [if_pos (by omega), if_pos (by omega), rd_T43_at l i hil, List.drop_eq_getElem_cons hil]
    obtain ⟨x, hx⟩ : ∃ x, l[i] = x := ⟨_, rfl⟩
    rw [hx] at hx8 hnext ⊢
    have hf := few_fuel hx8
    rw [refrow_is x (by omega) (k + 1) (by omega)]
    simp only [Option.bind_some]
    by_cases c2 : RowOk x
    · rw [decide_eq_true c2, if_pos rfl]
      by_cases c0 : x.f0 < 0
      · rw [if_pos c0]
        have : ¬ RightL d (x :: l.drop (i + 1)) := fun h => by have := h.1.1; omega
        simp [boltingref04_Right.j1, this]
      · rw [if_neg c0]
        by_cases ci : i = 0
        · subst ci
          rw [dif_neg (by omega)] at h0
          subst h0
          rw [if_pos (by omega)]
          by_cases c1 : x.f0 = 0
          · have he : RightL 0 (x :: l.drop (0 + 1)) ↔ RightL (nxt x) (l.drop (0 + 1)) := ⟨fun h => h.2, fun h => ⟨⟨by omega, by omega, c2⟩, h⟩⟩
            have hb : (x.f0 != 0) = false := bne_eq_false_iff_eq.2 c1
            rw [hb]
            simp only [boltingref04_Right.j1]
            rw [if_neg (by decide), if_neg (by omega), up1 (by omega), decide_eq_decide.2 he]
            exact hnext ⟨by omega, by omega⟩
          · have : ¬ RightL 0 (x :: l.drop (0 + 1)) := fun h => by have := h.1.2.1; omega
            have hb : (x.f0 != 0) = true := bne_iff_ne.2 c1
            rw [hb]
            simp only [boltingref04_Right.j1, if_true]
            exact congrArg some (decide_eq_false this).symm
        · obtain ⟨i, rfl⟩ : ∃ j, i = j + 1 := ⟨i - 1, by omega⟩
          rw [dif_pos ⟨by omega, by omega⟩] at h0
          simp only [Nat.add_sub_cancel] at h0
          obtain ⟨y, hy⟩ : ∃ y, l[i]'(by omega) = y := ⟨_, rfl⟩
          rw [hy] at h0
          obtain ⟨hd, y0, y1⟩ := h0
          rw [if_neg (by omega)]
          simp only [boltingref04_Right.j1]
          rw [if_neg (by decide), if_pos (by omega), dn1 (by omega), if_pos (by omega), if_pos (by omega), rd_T43_at l i (by omega), hy, upI (by omega) (by omega)]
          by_cases c3 : x.f0 > y.f0 + 1
          · rw [if_pos c3]
            have : ¬ RightL d (x :: l.drop (i + 1 + 1)) := fun h => by have := h.1.2.1; unfold nxt at hd; split at hd <;> omega
            simp [this]
          · rw [if_neg c3]
            by_cases c4 : x.f0 = y.f0 + 1
            · rw [if_pos c4]
              by_cases c5 : y.f1 = 0
              · have he : RightL d (x :: l.drop (i + 1 + 1)) ↔ RightL (nxt x) (l.drop (i + 1 + 1)) := ⟨fun h => h.2, fun h => ⟨⟨by omega, by simp only [nxt, c5, if_true] at hd; omega, c2⟩, h⟩⟩
                rw [if_pos c5, up1 (by omega), decide_eq_decide.2 he]
                exact hnext ⟨by omega, by omega⟩
              · have : ¬ RightL d (x :: l.drop (i + 1 + 1)) := fun h => by have := h.1.2.1; simp only [nxt, c5, if_false] at hd; omega
                rw [if_neg c5]
                simp [this]
            · have he : RightL d (x :: l.drop (i + 1 + 1)) ↔ RightL (nxt x) (l.drop (i + 1 + 1)) := ⟨fun h => h.2, fun h => ⟨⟨by omega, by unfold nxt at hd; split at hd <;> omega, c2⟩, h⟩⟩
              rw [if_neg c4, up1 (by omega), decide_eq_decide.2 he]
              exact hnext ⟨by omega, by omega⟩
    · have : ¬ RightL d (x :: l.drop (i + 1)) := fun h => c2 h.1.2.2
      rw [decide_eq_false c2, if_neg (by decide)]
      simp [boltingref04_Right.j1, this]
open Classical in
theorem refright_is (l : List S43) (hF : Few l) (k : Nat) (hk : 3 * l.length + 200 < k) : boltingref04_Right.f k l = some (decide (RightL 0 l)) := by
  have := refright_l0 l hF l.length 0 k 0 (by omega) (by rw [dif_neg (by omega)]) hk
  rw [Int.natCast_zero, List.drop_zero] at this
  exact this
theorem refbig_l0 (l : List S43) (hn : l.length ≤ 1000000) : ∀ e i k, i + e = l.length → e < k →
    boltingref04_Big.l0 k l (i : Int) = some ((l.drop i).any bigB || decide ((l.length : Int) > 4096)) := by
  intro e
  induction e with
  | zero =>
    intro i k hi hk
    obtain ⟨k, rfl⟩ : ∃ m, k = m + 1 := ⟨k - 1, by omega⟩
    simp only [boltingref04_Big.l0]
    rw [if_neg (by omega), List.drop_of_length_le (by omega)]
    simp
  | succ e ih =>
    intro i k hi hk
    obtain ⟨k, rfl⟩ : ∃ m, k = m + 1 := ⟨k - 1, by omega⟩
    simp only [boltingref04_Big.l0]
    rw [if_pos (by omega), if_pos (by omega), rd_T43_at l i (by omega), List.drop_eq_getElem_cons (show i < l.length by omega), List.any_cons]
    by_cases c : (l[i]'(by omega)).f0 ≥ 60
    · rw [if_pos c]
      have : bigB (l[i]'(by omega)) = true := decide_eq_true c
      rw [this]; rfl
    · rw [if_neg c, up1 (by omega), ih (i + 1) k (by omega) (by omega)]
      have : bigB (l[i]'(by omega)) = false := decide_eq_false c
      rw [this, Bool.false_or]
open Classical in
theorem refcheck_is (l : List S43) (hF : Few l) (k : Nat) (hk : 3 * l.length + 200 < k) : boltingref04_Check.f k l = some (chkV l) := by
  unfold boltingref04_Check.f chkV
  have hb : boltingref04_Big.f k l = some (bigL l) := by
    have := refbig_l0 l hF.1 l.length 0 k (by omega) (by omega)
    rw [Int.natCast_zero, List.drop_zero] at this
    exact this
  rw [hb, refright_is l hF k hk]
  simp only [Option.bind_some]
  by_cases c : bigL l = true
  · rw [if_pos c, if_pos c]
  · rw [if_neg c, if_neg c]
    by_cases c1 : RightL 0 l
    · rw [if_pos c1, decide_eq_true c1]; rfl
    · rw [if_neg c1, decide_eq_false c1]; rfl

/-! Rows so much deeper; no more than a statement can hold; the fixed calls. -/
def mvx (by_ : Int) (x : S43) : S43 := ⟨wrap64 (x.f0 + by_), x.f1, x.f2, x.f3, x.f4⟩
theorem moved_l0 (l : List S43) (hF : Few l) (by_ : Int) : ∀ e i k (out : List S43), i + e = l.length → out.length = i → e < k →
    rows_moved.l0 k by_ out l (l.length : Int) (i : Int) = some (out ++ (l.drop i).map (mvx by_)) := by
  have hn := hF.1
  intro e
  induction e with
  | zero =>
    intro i k out hi ho hk
    obtain ⟨k, rfl⟩ : ∃ m, k = m + 1 := ⟨k - 1, by omega⟩
    simp only [rows_moved.l0]
    rw [if_neg (by omega), List.drop_of_length_le (by omega)]
    simp
  | succ e ih =>
    intro i k out hi ho hk
    obtain ⟨k, rfl⟩ : ∃ m, k = m + 1 := ⟨k - 1, by omega⟩
    have hil : i < l.length := by omega
    have hx8 := hF.2 l[i] (List.getElem_mem hil)
    have hcl : api_Attr.f (l[i]).f4 = some (l[i]).f4 := by unfold api_Attr.f; rw [if_pos (by omega)]
    simp only [rows_moved.l0]
    rw [if_pos (by omega), if_pos (by omega), if_pos (by omega), rd_T43_at l i hil, hcl]
    simp only [Option.bind_some]
    rw [if_pos (by omega), up1 (by omega), ih (i + 1) k _ (by omega) (by simp; omega) (by omega), List.drop_eq_getElem_cons hil, List.map_cons, List.append_assoc]
    rfl
theorem moved_is (l : List S43) (hF : Few l) (by_ : Int) (k : Nat) (hk : l.length < k) : rows_moved.f k l by_ = some (l.map (mvx by_)) := by
  have := moved_l0 l hF by_ l.length 0 k [] (by omega) rfl hk
  rw [Int.natCast_zero, List.drop_zero, List.nil_append] at this
  exact this
/-- A row's depth is an int. -/
def DepthIn (x : S43) : Prop := -9223372036854775808 ≤ x.f0 ∧ x.f0 < 9223372036854775808
theorem mvx_zero (x : S43) (h : DepthIn x) : mvx 0 x = x := by
  obtain ⟨h0, h1⟩ := h
  have : wrap64 (x.f0 + 0) = x.f0 := by unfold wrap64; omega
  unfold mvx
  rw [this]
theorem map_mvx0 (l : List S43) (h : ∀ x ∈ l, DepthIn x) : l.map (mvx 0) = l := by
  induction l with
  | nil => rfl
  | cons x l ih =>
    rw [List.map_cons, mvx_zero x (h x List.mem_cons_self), ih fun y hy => h y (List.mem_cons_of_mem _ hy)]
/-- The rows that a statement takes. -/
def bndx (x : S43) : S43 := ⟨x.f0, x.f1, x.f2, x.f3, x.f4.take 8⟩
def bnd (l : List S43) : List S43 := (l.take 60).map bndx
theorem bnd_few (l : List S43) : Few (bnd l) := by
  refine ⟨by simp [bnd]; omega, fun x hx => ?_⟩
  obtain ⟨y, _, rfl⟩ := List.mem_map.1 hx
  simp [bndx]; omega
theorem bnd_len (l : List S43) : (bnd l).length ≤ 60 := by simp [bnd]; omega
theorem bnd_in (l : List S43) (h : ∀ x ∈ l, RowIn x) : ∀ x ∈ bnd l, DepthIn x := by
  intro x hx
  obtain ⟨y, hy, rfl⟩ := List.mem_map.1 hx
  exact (h y (List.mem_of_mem_take hy)).1
theorem take_mn (l : List S46) : l.take ((mn (l.length : Int) 8) : Int).toNat = l.take 8 := by
  unfold mn
  split
  · rfl
  · rw [List.take_of_length_le (by omega), List.take_of_length_le (by omega)]
theorem bound_l0 (l : List S43) : ∀ e i k (out : List S43), i + e = 60 → out.length = min i l.length → i ≤ l.length → e + 1 < k →
    boltinglaw04_bound.l0 k l out (i : Int) = some (out ++ ((l.take 60).drop i).map bndx) := by
  intro e
  induction e with
  | zero =>
    intro i k out hi ho hil hk
    obtain ⟨k, rfl⟩ : ∃ m, k = m + 1 := ⟨k - 1, by omega⟩
    have : (l.take 60).drop i = [] := List.drop_of_length_le (by simp; omega)
    simp only [boltinglaw04_bound.l0]
    rw [this, if_neg (show ¬ ((i : Int) < 60) by omega)]
    split <;> simp
  | succ e ih =>
    intro i k out hi ho hil hk
    obtain ⟨k, rfl⟩ : ∃ m, k = m + 1 := ⟨k - 1, by omega⟩
    simp only [boltinglaw04_bound.l0]
    by_cases hc : i < l.length
    · have h0 : 0 ≤ mn (((l[i]).f4).length : Int) 8 := by unfold mn; split <;> omega
      have h1 : mn (((l[i]).f4).length : Int) 8 ≤ (((l[i]).f4).length : Int) := by unfold mn; split <;> omega
      rw [if_pos (by omega), if_pos (by omega), if_pos (by omega), rd_T43_at l i hc, if_pos h0, if_pos h1, if_pos (by omega), up1 (by omega), take_mn, ih (i + 1) k _ (by omega) (by simp; omega) (by omega) (by omega)]
      rw [List.drop_eq_getElem_cons (show i < (l.take 60).length by simp; omega), List.getElem_take]
      simp [bndx]
    · have : (l.take 60).drop i = [] := List.drop_of_length_le (by simp; omega)
      rw [this, if_neg (by omega)]
      simp
theorem bound_is (l : List S43) (k : Nat) (hk : 62 ≤ k) : boltinglaw04_bound.f k l = some (bnd l) := by
  have := bound_l0 l 60 0 k [] (by omega) (by simp) (by omega) (by omega)
  rw [Int.natCast_zero, List.drop_zero, List.nil_append] at this
  exact this

theorem refmoved_l0 (l : List S43) (hF : Few l) (by_ : Int) : ∀ e i k (out : List S43), i + e = l.length → out.length = i → e < k →
    boltingref04_Moved.l0 k l by_ out (i : Int) = some (out ++ (l.drop i).map (mvx by_)) := by
  have hn := hF.1
  intro e
  induction e with
  | zero =>
    intro i k out hi ho hk
    obtain ⟨k, rfl⟩ : ∃ m, k = m + 1 := ⟨k - 1, by omega⟩
    simp only [boltingref04_Moved.l0]
    rw [if_neg (by omega), List.drop_of_length_le (by omega)]
    simp
  | succ e ih =>
    intro i k out hi ho hk
    obtain ⟨k, rfl⟩ : ∃ m, k = m + 1 := ⟨k - 1, by omega⟩
    have hil : i < l.length := by omega
    have hx8 := hF.2 l[i] (List.getElem_mem hil)
    simp only [boltingref04_Moved.l0]
    rw [if_pos (by omega), if_pos (by omega), rd_T43_at l i hil]
    simp only [Option.bind_some]
    rw [if_pos (by simp only [List.length_nil]; omega), if_pos (by omega), up1 (by omega), ih (i + 1) k _ (by omega) (by simp; omega) (by omega), List.drop_eq_getElem_cons hil, List.map_cons, List.append_assoc]
    rfl
theorem refmoved_is (l : List S43) (hF : Few l) (by_ : Int) (k : Nat) (hk : l.length < k) : boltingref04_Moved.f k l by_ = some (l.map (mvx by_)) := by
  have := refmoved_l0 l hF by_ l.length 0 k [] (by omega) rfl hk
  rw [Int.natCast_zero, List.drop_zero, List.nil_append] at this
  exact this

theorem fixed_100 : boltinglaw04_fixed.f 100 = some true := by decide +kernel
theorem fixed_is (k : Nat) (hk : 100 ≤ k) : boltinglaw04_fixed.f k = some true := at_rounds boltinglaw04_fixed.mono hk fixed_100

/-! Texts that stand side by side are one. -/
def lastOf (out : List S43) : S43 := rd_T43 out ((out.length - 1 : Nat) : Int)
theorem up_sub {n : Nat} (h0 : 0 < n) (h : n < 9223372036854775807) : wrap64 ((n : Int) - 1) = ((n - 1 : Nat) : Int) := by unfold wrap64; omega
theorem size0 (b : ByteArray) : b.toList = ([] : List UInt8) ↔ b.size = 0 := by
  rw [ByteArray.toList_eq, Array.toList_eq_nil_iff, ← Array.size_eq_zero_iff]
  rfl
theorem take_drop_one {α : Type} (l : List α) (i : Nat) (h : i < l.length) : (l.take (i + 1)).drop i = [l[i]] := by
  rw [List.take_succ_eq_append_getElem h, List.drop_append_of_le_length (by simp; omega), List.drop_of_length_le (by simp; omega)]
  rfl
theorem refnormal_l0 (l : List S43) (hF : Few l) (hd : ∀ x ∈ l, DepthIn x) (o : List S43) : ∀ e i k (out : List S43), i + e = l.length → out.length ≤ i → 3 * e + 10 < k → normGo out (l.drop i) = some o →
    boltingref04_Normal.l0 k l out (i : Int) = some o := by
  have hn := hF.1
  intro e
  induction e with
  | zero =>
    intro i k out hi ho hk hg
    obtain ⟨k, rfl⟩ : ∃ m, k = m + 1 := ⟨k - 1, by omega⟩
    rw [List.drop_of_length_le (by omega)] at hg
    simp only [boltingref04_Normal.l0]
    rw [if_neg (by omega)]
    exact hg
  | succ e ih =>
    intro i k out hi ho hk hg
    obtain ⟨k, rfl⟩ : ∃ m, k = m + 2 := ⟨k - 2, by omega⟩
    have hil : i < l.length := by omega
    obtain ⟨x, hx⟩ : ∃ x, l[i] = x := ⟨_, rfl⟩
    have hxm : x ∈ l := hx ▸ List.getElem_mem hil
    have hmv : ([x] : List S43).map (mvx 0) = [x] := map_mvx0 _ fun y hy => by rw [List.mem_singleton.1 hy]; exact hd x hxm
    have hfx : Few [x] := ⟨by simp, fun y hy => by rw [List.mem_singleton.1 hy]; exact hF.2 x hxm⟩
    rw [List.drop_eq_getElem_cons hil, hx] at hg
    simp only [normGo] at hg
    obtain ⟨o1, hs, hg⟩ := Option.bind_eq_some_iff.mp hg
    have hnext : o1.length ≤ i + 1 → boltingref04_Normal.l0 k l o1 ((i + 1 : Nat) : Int) = some o := fun h => ih (i + 1) k o1 (by omega) h (by omega) hg
    simp only [boltingref04_Normal.l0]
    rw [if_pos (by omega), if_pos (by omega), up1 (by omega), if_pos (by omega), if_pos (by omega), rd_T43_at l i hil, hx, Int.toNat_natCast, Int.toNat_natCast, take_drop_one l i hil, hx, refmoved_is [x] hfx 0 _ (by simp; omega), hmv]
    simp only [Option.bind_some]
    unfold normStep at hs
    have hj : ∀ b : Bool, boltingref04_Normal.j1 (k + 1) l out (i : Int) [x] (out.length : Int) b = some o → (if x.f1 = 1 then boltingref04_Normal.j1 (k + 1) l out (i : Int) [x] (out.length : Int) b else boltingref04_Normal.j1 (k + 1) l out (i : Int) [x] (out.length : Int) b) = some o := by
      intro b h; split <;> exact h
    by_cases c1 : x.f1 = 1 ∧ x.f3.size = 0
    · rw [if_pos c1] at hs
      obtain rfl := Option.some.inj hs
      rw [if_pos c1.1, beq_iff_eq.2 ((size0 _).2 c1.2)]
      simp only [boltingref04_Normal.j1]
      rw [if_pos trivial, up1 (by omega)]
      exact hnext (by omega)
    · rw [if_neg c1] at hs
      have hbb : ∀ h : x.f1 = 1, (x.f3.toList == ([] : List UInt8)) = false := fun h => beq_eq_false_iff_ne.2 fun e => c1 ⟨h, (size0 _).1 e⟩
      have hmain : boltingref04_Normal.j1 (k + 1) l out (i : Int) [x] (out.length : Int) false = some o := by
        simp only [boltingref04_Normal.j1]
        rw [if_neg (by decide), if_pos (by omega), if_pos (by omega), rd_T43_at l i hil, hx, up1 (by omega)]
        by_cases c2 : x.f1 = 1 ∧ 0 < out.length ∧ (rd_T43 out ((out.length - 1 : Nat) : Int)).f1 = 1 ∧ (rd_T43 out ((out.length - 1 : Nat) : Int)).f0 = x.f0
        · rw [if_pos c2] at hs
          by_cases c3 : (rd_T43 out ((out.length - 1 : Nat) : Int)).f3.size + x.f3.size ≤ 9223372036854775807
          · rw [if_pos c3] at hs
            obtain rfl := Option.some.inj hs
            have h0 := c2.2.1
            rw [if_pos c2.1, if_pos (by omega), up_sub (by omega) (by omega), if_pos (by omega), if_pos (by omega), if_pos c2.2.2.1, if_pos c2.2.2.2, if_pos c3, Int.toNat_natCast]
            exact hnext (by simp; omega)
          · rw [if_neg c3] at hs
            cases hs
        · rw [if_neg c2, if_pos (by omega)] at hs
          obtain rfl := Option.some.inj hs
          have hap := hnext (by simp; omega)
          have hroom : out.length + ([x] : List S43).length < 1954687338268 := by simp; omega
          rw [if_pos hroom]
          by_cases d1 : x.f1 = 1
          · rw [if_pos d1]
            by_cases d2 : 0 < out.length
            · rw [if_pos (show (out.length : Int) > 0 by omega), up_sub (by omega) (by omega), if_pos (by omega), if_pos (by omega)]
              by_cases d3 : (rd_T43 out ((out.length - 1 : Nat) : Int)).f1 = 1
              · rw [if_pos d3, if_neg (fun d4 => c2 ⟨d1, d2, d3, d4⟩)]
                exact hap
              · rw [if_neg d3]
                exact hap
            · rw [if_neg (show ¬ ((out.length : Int) > 0) by omega)]
              exact hap
          · rw [if_neg d1]
            exact hap
      by_cases d : x.f1 = 1
      · rw [if_pos d, hbb d]; exact hmain
      · rw [if_neg d]; exact hmain
/-- All the texts' bytes. -/
def bytesL : List S43 → Nat
  | [] => 0
  | x :: l => x.f3.size + bytesL l
theorem bytesL_append (a b : List S43) : bytesL (a ++ b) = bytesL a + bytesL b := by
  induction a with
  | nil => simp [bytesL]
  | cons x a ih => simp [bytesL, ih]; omega
theorem bytesL_set : ∀ (l : List S43) (i : Nat) (h : i < l.length) (y : S43), bytesL (l.set i y) + l[i].f3.size = bytesL l + y.f3.size
  | [], i, h, _ => by simp at h
  | x :: l, 0, _, y => by simp [bytesL]; omega
  | x :: l, i + 1, h, y => by
    have := bytesL_set l i (by simp at h; omega) y
    simp [bytesL]; omega
theorem bytesL_mem : ∀ (l : List S43) (i : Nat) (h : i < l.length), l[i].f3.size ≤ bytesL l
  | [], i, h => by simp at h
  | x :: l, 0, _ => by simp [bytesL]
  | x :: l, i + 1, h => by
    have := bytesL_mem l i (by simp at h; omega)
    simp [bytesL]; omega
theorem normGo_ex : ∀ (l out : List S43), bytesL out + bytesL l ≤ 9223372036854775807 → out.length + l.length < 1954687338268 → ∃ o, normGo out l = some o
  | [], out, _, _ => ⟨out, rfl⟩
  | x :: l, out, hb, hl => by
    simp only [normGo]
    simp only [bytesL, List.length_cons] at hb hl
    have hstep : ∃ o1, normStep out x = some o1 ∧ bytesL o1 + bytesL l ≤ 9223372036854775807 ∧ o1.length + l.length < 1954687338268 := by
      unfold normStep
      by_cases c1 : x.f1 = 1 ∧ x.f3.size = 0
      · rw [if_pos c1]; exact ⟨out, rfl, by omega, by omega⟩
      · rw [if_neg c1]
        by_cases c2 : x.f1 = 1 ∧ 0 < out.length ∧ (rd_T43 out ((out.length - 1 : Nat) : Int)).f1 = 1 ∧ (rd_T43 out ((out.length - 1 : Nat) : Int)).f0 = x.f0
        · have h0 := c2.2.1
          have hm := bytesL_mem out (out.length - 1) (by omega)
          rw [if_pos c2, rd_T43_at out (out.length - 1) (by omega), if_pos (by omega)]
          refine ⟨_, rfl, ?_, by simp; omega⟩
          have hs := bytesL_set out (out.length - 1) (by omega) ⟨(out[out.length - 1]'(by omega)).f0, (out[out.length - 1]'(by omega)).f1, (out[out.length - 1]'(by omega)).f2, (out[out.length - 1]'(by omega)).f3 ++ x.f3, (out[out.length - 1]'(by omega)).f4⟩
          simp only [ByteArray.size_append] at hs
          omega
        · rw [if_neg c2, if_pos (by omega)]
          exact ⟨_, rfl, by rw [bytesL_append]; simp [bytesL]; omega, by simp; omega⟩
    obtain ⟨o1, h1, h2, h3⟩ := hstep
    rw [h1]
    exact normGo_ex l o1 h2 h3
theorem bytesL_le (l : List S43) (h : ∀ x ∈ l, x.f3.size ≤ 140737488351232) : bytesL l ≤ l.length * 140737488351232 := by
  induction l with
  | nil => simp [bytesL]
  | cons x l ih =>
    have h1 := h x List.mem_cons_self
    have h2 := ih fun y hy => h y (List.mem_cons_of_mem _ hy)
    simp only [bytesL, List.length_cons, Nat.succ_mul]
    omega
theorem normal_is (l : List S43) (hF : Few l) (hd : ∀ x ∈ l, DepthIn x) : rows_Normal.f l = normGo [] l := by
  unfold rows_Normal.f
  rw [moved_is l hF 0 _ (by omega), map_mvx0 l hd]
  rfl
theorem bnd_bytes (l : List S43) (B : Nat) (h : ∀ x ∈ l, x.f3.size ≤ B) : ∀ x ∈ bnd l, x.f3.size ≤ B := by
  intro x hx
  obtain ⟨y, hy, rfl⟩ := List.mem_map.1 hx
  exact h y (List.mem_of_mem_take hy)

open Classical in
theorem rnormal_l0 (x0 : List S43) : ∀ e i k (x4 : List S43), i + e = x4.length → x4.length ≤ 1000 → e + 101 < k → boltinglaw04_RowsNormal.l0 k x0 x0 x4 (i : Int) = some true := by
  intro e
  induction e with
  | zero =>
    intro i k x4 hi hl hk
    obtain ⟨k, rfl⟩ : ∃ m, k = m + 1 := ⟨k - 1, by omega⟩
    simp only [boltinglaw04_RowsNormal.l0]
    rw [if_neg (by omega), fixed_is k (by omega)]
    simp [boltingref04_Same.f]
  | succ e ih =>
    intro i k x4 hi hl hk
    obtain ⟨k, rfl⟩ : ∃ m, k = m + 1 := ⟨k - 1, by omega⟩
    simp only [boltinglaw04_RowsNormal.l0]
    rw [if_pos (by omega), if_pos (by omega), up1 (by omega)]
    exact ih (i + 1) k _ (by simp; omega) (by simp; omega) (by omega)
theorem normGo_len : ∀ (l out o : List S43), normGo out l = some o → o.length ≤ out.length + l.length
  | [], out, o, h => by simp [normGo] at h; subst h; simp
  | x :: l, out, o, h => by
    simp only [normGo] at h
    obtain ⟨o1, h1, h2⟩ := Option.bind_eq_some_iff.mp h
    have ih := normGo_len l o1 o h2
    have : o1.length ≤ out.length + 1 := by
      unfold normStep at h1
      split at h1
      · cases h1; omega
      · split at h1
        · split at h1
          · cases h1; simp
          · cases h1
        · split at h1
          · cases h1; simp
          · cases h1
    simp only [List.length_cons]
    omega
open Classical in
theorem RowsNormal (l0 : List S43) (hi0 : ∀ x ∈ l0, RowIn x) (hs0 : ∀ x ∈ l0, x.f3.size ≤ 140737488351232) : ∃ k, boltinglaw04_RowsNormal.f k l0 = some true := by
  refine ⟨1000, ?_⟩
  have hl := bnd_len l0
  have hF := bnd_few l0
  have hd := bnd_in l0 hi0
  have hb := bytesL_le (bnd l0) (bnd_bytes l0 _ hs0)
  obtain ⟨o, ho⟩ := normGo_ex (bnd l0) [] (by simp only [bytesL]; omega) (by simp; omega)
  have hol := normGo_len _ _ _ ho
  simp only [List.length_nil] at hol
  unfold boltinglaw04_RowsNormal.f
  rw [bound_is l0 _ (by omega)]
  simp only [Option.bind_some]
  rw [refright_is _ hF _ (by omega)]
  simp only [Option.bind_some]
  by_cases c : RightL 0 (bnd l0)
  · have href : boltingref04_Normal.f 1000 (bnd l0) = some o := by
      have := refnormal_l0 (bnd l0) hF hd o (bnd l0).length 0 1000 [] (by omega) (by simp) (by omega) (by rw [List.drop_zero]; exact ho)
      exact this
    rw [decide_eq_true c, if_pos rfl, refmoved_is _ hF 0 _ (by omega), map_mvx0 _ hd, normal_is _ hF hd, ho, href]
    simp only [Option.bind_some, boltingref04_Same.f, decide_true, if_true]
    exact rnormal_l0 (bnd l0) o.length 0 1000 o (by omega) (by omega) (by omega)
  · rw [decide_eq_false c, if_neg (by decide), fixed_is _ (by omega)]
    rfl

end Go.Proofs.Ytllggaogjcknoaa.Pure
