/- Which rows are trees: what the check of rows answers. -/
import Derived.Test.YtpkaliaaffgbdaaD12
import Derived.Test.YtpkaliaaffgbdaaD17
import Derived.Test.YtpkaliaaffgbdaaQAx6
namespace Go.Proofs.Ytpkaliaaffgbdaa.QA
open Go.RowKit Go.Proofs.YtpkaliaaffgbdaaW.PrintWords Go.Proofs.YtpkaliaaffgbdaaW.PrintLast Go.Proofs.YtpkaliaaffgbdaaW.PrintMore
attribute [local go_sem] max2_int min2_int max_two min_two max_three min_three max_four min_four   -- for this text's walks alone
set_option linter.unusedVariables false
set_option linter.unusedSimpArgs false

open Go
/-- The names behind place i differ from all ahead of them. -/
def NoTwo (l : List S52) (i : Nat) : Prop := ∀ a b : Nat, a < b → i ≤ b → b < l.length → (rd_T52 l (a : Int)).f0.toList ≠ (rd_T52 l (b : Int)).f0.toList
def NoneLike (l : List S52) (i j : Nat) : Prop := ∀ a : Nat, j ≤ a → a < i → (rd_T52 l (a : Int)).f0.toList ≠ (rd_T52 l (i : Int)).f0.toList
theorem noTwo_step {l : List S52} {i : Nat} (h : i < l.length) : NoTwo l i ↔ NoneLike l i 0 ∧ NoTwo l (i + 1) := by
  constructor
  · intro H
    exact ⟨fun a _ hai => H a i hai (Nat.le_refl _) h, fun a b hab hib hb => H a b hab (by omega) hb⟩
  · rintro ⟨H1, H2⟩ a b hab hib hb
    by_cases e : b = i
    · subst e; exact H1 a (Nat.zero_le _) hab
    · exact H2 a b hab (by omega) hb
theorem noneLike_step {l : List S52} {i j : Nat} (h : j < i) : NoneLike l i j ↔ ((rd_T52 l (j : Int)).f0.toList ≠ (rd_T52 l (i : Int)).f0.toList ∧ NoneLike l i (j + 1)) := by
  constructor
  · intro H
    exact ⟨H j (Nat.le_refl _) h, fun a ha hai => H a (by omega) hai⟩
  · rintro ⟨H1, H2⟩ a ha hai
    by_cases e : a = j
    · subst e; exact H1
    · exact H2 a (by omega) hai
theorem rd46_take (l : List S52) (i j : Nat) (h : j < i) : rd_T52 (l.take i) (j : Int) = rd_T52 l (j : Int) := by
  simp [rd_T52, List.getElem?_take, h]
open Classical in
theorem row_l1 (l : List S52) (hm : l.length < 9223372036854775807) (a0 a1 : Int) (a2 a3 : ByteArray) (i : Nat) (hi : i < l.length) (K : Nat) (v : Bool)
    (hnext : ∀ k, K < k → rows_row.l0 k l (l.length : Int) ((i + 1 : Nat) : Int) a0 a1 a2 a3 l = some v) : ∀ e j k, j + e = i → K + e + 1 < k →
    rows_row.l1 k l (l.length : Int) (i : Int) (l.take i) ((l.take i).length : Int) (j : Int) a0 a1 a2 a3 l (rd_T52 l (i : Int)).f0 (rd_T52 l (i : Int)).f1 = some (decide (NoneLike l i j) && v) := by
  have hti : (l.take i).length = i := by rw [List.length_take]; omega
  intro e
  induction e with
  | zero =>
    intro j k hj hk
    obtain ⟨k, rfl⟩ : ∃ m, k = m + 1 := ⟨k - 1, by omega⟩
    simp only [rows_row.l1]
    rw [hti, if_neg (by omega), up1 (by omega), hnext k (by omega)]
    have : NoneLike l i j := fun a ha hai => by omega
    simp [this]
  | succ e ih =>
    intro j k hj hk
    obtain ⟨k, rfl⟩ : ∃ m, k = m + 1 := ⟨k - 1, by omega⟩
    simp only [rows_row.l1]
    rw [if_pos (by rw [hti]; omega), if_pos (by omega), if_pos (by rw [hti]; omega), rd46_take l i j (by omega)]
    have hs := noneLike_step (l := l) (i := i) (j := j) (by omega)
    by_cases hq : (rd_T52 l (i : Int)).f0.toList = (rd_T52 l (j : Int)).f0.toList
    · rw [if_pos hq]
      have : ¬ NoneLike l i j := fun h => (hs.1 h).1 hq.symm
      simp [this]
    · rw [if_neg hq, up1 (by omega), ih (j + 1) k (by omega) (by omega)]
      have : decide (NoneLike l i j) = decide (NoneLike l i (j + 1)) := by
        apply decide_eq_decide.2
        exact ⟨fun h => (hs.1 h).2, fun h => hs.2 ⟨fun e => hq e.symm, h⟩⟩
      rw [this]
open Classical in
theorem row_l0 (l : List S52) (hm : l.length < 9223372036854775807) (a0 a1 : Int) (a2 a3 : ByteArray) : ∀ d i k, i + d = l.length → d * (l.length + 3) < k →
    rows_row.l0 k l (l.length : Int) (i : Int) a0 a1 a2 a3 l = some (decide (NoTwo l i)) := by
  intro d
  induction d with
  | zero =>
    intro i k hi hk
    obtain ⟨k, rfl⟩ : ∃ m, k = m + 1 := ⟨k - 1, by omega⟩
    simp only [rows_row.l0]
    rw [if_neg (by omega)]
    have : NoTwo l i := fun a b hab hib hb => by omega
    simp [this]
  | succ d ih =>
    intro i k hi hk
    obtain ⟨k, rfl⟩ : ∃ m, k = m + 1 := ⟨k - 1, by omega⟩
    rw [Nat.succ_mul] at hk
    simp only [rows_row.l0]
    rw [if_pos (by omega), if_pos (by omega), if_pos (by omega), if_pos (by omega)]
    simp only [Option.bind_some, Int.toNat_natCast]
    have h1 := row_l1 l hm a0 a1 a2 a3 i (by omega) (d * (l.length + 3)) (decide (NoTwo l (i + 1))) (fun k hk => ih (i + 1) k (by omega) hk) i 0 k (by omega) (by omega)
    rw [Int.natCast_zero] at h1
    rw [h1]
    congr 1
    rw [← Bool.decide_and]
    exact decide_eq_decide.2 (noTwo_step (by omega)).symm
/-- May a row be, by itself? -/
def RowOk (x : S54) : Prop := if x.f1 = 1 ∨ x.f1 = 2 then x.f2.toList = [] ∧ x.f4.length = 0 else x.f1 = 0 ∧ x.f2.toList ≠ [] ∧ x.f3.toList = [] ∧ NoTwo x.f4 0
theorem len_eq0 {α : Type} (l : List α) : ((l.length : Int) == 0) = decide (l = []) := by
  cases l with
  | nil => rfl
  | cons x l => simp; omega
open Classical in
theorem row_is (x : S54) (hm : x.f4.length < 9223372036854775807) (k : Nat) (hk : x.f4.length * (x.f4.length + 3) + 4 < k) : rows_row.f k x.f0 x.f1 x.f2 x.f3 x.f4 = some (decide (RowOk x)) := by
  obtain ⟨k, rfl⟩ : ∃ m, k = m + 1 := ⟨k - 1, by omega⟩
  obtain ⟨k, rfl⟩ : ∃ m, k = m + 1 := ⟨k - 1, by omega⟩
  have h0 := row_l0 x.f4 hm x.f0 x.f1 x.f2 x.f3 x.f4.length 0 k (by omega) (by omega)
  rw [Int.natCast_zero] at h0
  unfold rows_row.f RowOk
  by_cases h1 : x.f1 = 1
  · simp only [h1, rows_row.j0, true_or, if_true]
    by_cases h2 : x.f2.toList = []
    · simp [h2, len_eq0]
    · simp [h2]
  · by_cases h2 : x.f1 = 2
    · simp only [h2, rows_row.j0, or_true, if_true, beq_self_eq_true]
      by_cases h3 : x.f2.toList = []
      · simp [h3, len_eq0]
      · simp [h3]
    · have hb : (x.f1 == 2) = false := beq_eq_false_iff_ne.2 h2
      simp only [h1, h2, hb, rows_row.j0, rows_row.j1, or_self, if_false, Bool.false_eq_true]
      by_cases h3 : x.f1 = 0
      · by_cases h4 : x.f2.toList = []
        · simp [h3, h4]
        · by_cases h5 : x.f3.toList = []
          · simp [h3, h4, h5] at h0 ⊢
            exact h0
          · simp [h3, h4, h5]
      · simp [h3]

/-- The deepest that the row behind x may be. -/
def nxt (x : S54) : Int := if x.f1 = 0 then x.f0 + 1 else x.f0
/-- Rows that are right, where the first may be at depth d. -/
def RightL : Int → List S54 → Prop
  | _, [] => True
  | d, x :: l => (0 ≤ x.f0 ∧ x.f0 ≤ d ∧ RowOk x) ∧ RightL (nxt x) l
/-- No more rows and attributes than the statements let in. -/
def Few (l : List S54) : Prop := l.length ≤ 1000000 ∧ ∀ x ∈ l, x.f4.length ≤ 8
theorem few_fuel {n : Nat} (h : n ≤ 8) : n * (n + 3) ≤ 88 := by
  have : n * (n + 3) ≤ 8 * 11 := Nat.mul_le_mul h (by omega)
  omega
theorem upI {a : Int} (h0 : -9223372036854775808 ≤ a) (h : a < 9223372036854775807) : wrap64 (a + 1) = a + 1 := by
  unfold wrap64; omega
theorem dn1 {i : Nat} (h : i < 9223372036854775807) : wrap64 (((i + 1 : Nat) : Int) - 1) = (i : Int) := by
  unfold wrap64; omega
open Classical in
theorem right_l0 (l : List S54) (hF : Few l) : ∀ e i k (d : Int), i + e = l.length → 0 ≤ d → d ≤ i → 3 * e + 200 < k →
    rows_right.l0 k d l (l.length : Int) (i : Int) = some (decide (RightL d (l.drop i))) := by
  have hn := hF.1
  intro e
  induction e with
  | zero =>
    intro i k d hi h0 h1 hk
    obtain ⟨k, rfl⟩ : ∃ m, k = m + 1 := ⟨k - 1, by omega⟩
    simp only [rows_right.l0]
    rw [if_neg (by omega), List.drop_of_length_le (by omega)]
    exact congrArg some (decide_eq_true (show RightL d [] from trivial)).symm
  | succ e ih =>
    intro i k d hi h0 h1 hk
    obtain ⟨k, rfl⟩ : ∃ m, k = m + 2 := ⟨k - 2, by omega⟩
    have hil : i < l.length := by omega
    have hx8 := hF.2 l[i] (List.getElem_mem hil)
    simp only [rows_right.l0]
    rw [if_pos (by omega), if_pos (by omega), if_pos (by omega), rd_T54_at l i hil, List.drop_eq_getElem_cons hil]
    obtain ⟨x, hx⟩ : ∃ x, l[i] = x := ⟨_, rfl⟩
    rw [hx] at hx8 ⊢
    have hf := few_fuel hx8
    by_cases c0 : x.f0 < 0
    · rw [if_pos c0]
      have : ¬ RightL d (x :: l.drop (i + 1)) := fun h => by have := h.1.1; omega
      simp [rows_right.j1, this]
    · rw [if_neg c0]
      by_cases c1 : x.f0 > d
      · rw [if_pos c1]
        have : ¬ RightL d (x :: l.drop (i + 1)) := fun h => by have := h.1.2.1; omega
        simp [rows_right.j1, this]
      · rw [if_neg c1, row_is x (by omega) (k + 1) (by omega)]
        simp only [Option.bind_some, rows_right.j1]
        by_cases c2 : RowOk x
        · have he : RightL d (x :: l.drop (i + 1)) ↔ RightL (nxt x) (l.drop (i + 1)) := ⟨fun h => h.2, fun h => ⟨⟨by omega, by omega, c2⟩, h⟩⟩
          rw [decide_eq_true c2, if_neg (by decide), up1 (by omega), decide_eq_decide.2 he]
          by_cases c3 : x.f1 = 0
          · have hnx : nxt x = x.f0 + 1 := by simp [nxt, c3]
            rw [if_pos c3, upI (by omega) (by omega), ← hnx]
            exact ih (i + 1) k _ (by omega) (by omega) (by omega) (by omega)
          · have hnx : nxt x = x.f0 := by simp [nxt, c3]
            rw [if_neg c3, ← hnx]
            exact ih (i + 1) k _ (by omega) (by omega) (by omega) (by omega)
        · have : ¬ RightL d (x :: l.drop (i + 1)) := fun h => c2 h.1.2.2
          rw [decide_eq_false c2, if_pos (by decide), decide_eq_false this]
open Classical in
theorem rightL_is (l : List S54) (hF : Few l) (k : Nat) (hk : 3 * l.length + 200 < k) : rows_right.f k l = some (decide (RightL 0 l)) := by
  have := right_l0 l hF l.length 0 k 0 (by omega) (by omega) (by omega) hk
  rw [Int.natCast_zero, List.drop_zero] at this
  exact this
/-- What the check of rows answers. -/
def bigL (l : List S54) : Bool := l.any bigB || decide ((l.length : Int) > 4096)
open Classical in
noncomputable def chkV (l : List S54) : Int := if bigL l = true then 2 else if RightL 0 l then 0 else 40
theorem big_is (l : List S54) : rows_big.f l = some (bigL l) := by
  unfold rows_big.f bigL
  rw [Bool.or_comm]
open Classical in
theorem check_is (l : List S54) (hF : Few l) (k : Nat) (hk : 3 * l.length + 200 < k) : rows_Check.f k l = some (chkV l) := by
  unfold rows_Check.f chkV
  rw [big_is, rightL_is l hF k hk]
  simp only [Option.bind_some]
  by_cases c : bigL l = true
  · rw [if_pos c, if_pos c]
  · rw [if_neg c, if_neg c]
    by_cases c1 : RightL 0 l
    · rw [if_pos c1, decide_eq_true c1]; rfl
    · rw [if_neg c1, decide_eq_false c1]; rfl

theorem depth_more : ∀ (l : List S54) (a b : Int), a ≤ b → DepthOk a l → DepthOk b l
  | [], _, _, _, _ => trivial
  | _ :: _, _, _, h, h1 => ⟨h1.1, Int.le_trans h1.2.1 h, h1.2.2⟩
theorem depth_right : ∀ (l : List S54) (d : Int), RightL d l → DepthOk d l
  | [], _, _ => trivial
  | x :: l, d, h => ⟨h.1.1, h.1.2.1, depth_more l (nxt x) (x.f0 + 1) (by unfold nxt; split <;> omega) (depth_right l _ h.2)⟩
theorem check_some (l : List S54) (hF : Few l) : ∃ k e, rows_Check.f k l = some e ∧ (e = 0 → DepthOk 0 l) := by
  refine ⟨3 * l.length + 201, chkV l, check_is l hF _ (by omega), fun he => ?_⟩
  unfold chkV at he
  split at he
  · omega
  · split at he
    · rename_i h
      exact depth_right l 0 h
    · omega
theorem may_some (kind : Int) (name data : ByteArray) (hn : name.size ≤ 140737488351232) : ∃ k b, arena_may.f k kind name data = some b := by
  refine ⟨name.size * 9 + 1, ?_⟩
  unfold arena_may.f
  rw [right_is name hn _ (by omega)]
  simp only [Option.bind_some]
  repeat' split
  all_goals exact ⟨_, rfl⟩
end Go.Proofs.Ytpkaliaaffgbdaa.QA
