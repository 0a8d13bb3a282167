/- Of right rows each node is a kid of its parent and of no other; a node's tree has its kids' trees, one behind the other: for all rows, cut to 60 rows of 8 attributes. -/
import Derived.Test.YtllggaogjcknoaaQAx4
import Derived.Test.YtllggaogjcknoaaQAx5
import Derived.Test.YtllggaogjcknoaaQAx7
import Derived.Test.YtllggaogjcknoaaQAx17
import Derived.Test.YtllggaogjcknoaaQAOpen
set_option linter.unusedVariables false
set_option linter.unusedSimpArgs false
namespace Go.Proofs.Ytllggaogjcknoaa.Pure
open Go.RowKit Go.Proofs.Ytllggaogjcknoaa.QA Go.Proofs.YtllggaogjcknoaaW.PrintWords Go.Proofs.YtllggaogjcknoaaW.PrintLast Go.Proofs.YtllggaogjcknoaaW.PrintMore

/-- The names behind place i differ from all ahead of them. -/
def NoTwo (l : List S46) (i : Nat) : Prop := ∀ a b : Nat, a < b → i ≤ b → b < l.length → (rd_T46 l (a : Int)).f0.toList ≠ (rd_T46 l (b : Int)).f0.toList
def NoneLike (l : List S46) (i j : Nat) : Prop := ∀ a : Nat, j ≤ a → a < i → (rd_T46 l (a : Int)).f0.toList ≠ (rd_T46 l (i : Int)).f0.toList
theorem noTwo_step {l : List S46} {i : Nat} (h : i < l.length) : NoTwo l i ↔ NoneLike l i 0 ∧ NoTwo l (i + 1) := by
  constructor
  · intro H
    exact ⟨fun a _ hai => H a i hai (Nat.le_refl _) h, fun a b hab hib hb => H a b hab (by omega) hb⟩
  · rintro ⟨H1, H2⟩ a b hab hib hb
    by_cases e : b = i
    · subst e; exact H1 a (Nat.zero_le _) hab
    · exact H2 a b hab (by omega) hb
theorem noneLike_step {l : List S46} {i j : Nat} (h : j < i) : NoneLike l i j ↔ ((rd_T46 l (j : Int)).f0.toList ≠ (rd_T46 l (i : Int)).f0.toList ∧ NoneLike l i (j + 1)) := by
  constructor
  · intro H
    exact ⟨H j (Nat.le_refl _) h, fun a ha hai => H a (by omega) hai⟩
  · rintro ⟨H1, H2⟩ a ha hai
    by_cases e : a = j
    · subst e; exact H1
    · exact H2 a (by omega) hai
theorem rd46_take (l : List S46) (i j : Nat) (h : j < i) : rd_T46 (l.take i) (j : Int) = rd_T46 l (j : Int) := by
  simp [rd_T46, List.getElem?_take, h]
open Classical in
theorem row_l1 (l : List S46) (hm : l.length < 9223372036854775807) (a0 a1 : Int) (a2 a3 : ByteArray) (i : Nat) (hi : i < l.length) (K : Nat) (v : Bool)
    (hnext : ∀ k, K < k → rows_row.l0 k l (l.length : Int) ((i + 1 : Nat) : Int) a0 a1 a2 a3 l = some v) : ∀ e j k, j + e = i → K + e + 1 < k →
    rows_row.l1 k l (l.length : Int) (i : Int) (l.take i) ((l.take i).length : Int) (j : Int) a0 a1 a2 a3 l (rd_T46 l (i : Int)).f0 (rd_T46 l (i : Int)).f1 = some (decide (NoneLike l i j) && v) := by
  have hti : (l.take i).length = i := by rw [List.length_take]; omega
  intro e
  induction e with
  | zero =>
    intro j k hj hk
    obtain ⟨k, rfl⟩ : ∃ m, k = m + 1 := ⟨k - 1, by omega⟩
    simp only [rows_row.l1]
    rw [hti, if_neg (by omega), up1 (by omega), hnext k (by omega)]
    have : NoneLike l i j := fun a ha hai => by omega
    simp [this]
  | succ e ih =>
    intro j k hj hk
    obtain ⟨k, rfl⟩ : ∃ m, k = m + 1 := ⟨k - 1, by omega⟩
    simp only [rows_row.l1]
    rw [if_pos (by rw [hti]; omega), if_pos (by omega), if_pos (by rw [hti]; omega), rd46_take l i j (by omega)]
    have hs := noneLike_step (l := l) (i := i) (j := j) (by omega)
    by_cases hq : (rd_T46 l (i : Int)).f0.toList = (rd_T46 l (j : Int)).f0.toList
    · rw [if_pos hq]
      have : ¬ NoneLike l i j := fun h => (hs.1 h).1 hq.symm
      simp [this]
    · rw [if_neg hq, up1 (by omega), ih (j + 1) k (by omega) (by omega)]
      have : decide (NoneLike l i j) = decide (NoneLike l i (j + 1)) := by
        apply decide_eq_decide.2
        exact ⟨fun h => (hs.1 h).2, fun h => hs.2 ⟨fun e => hq e.symm, h⟩⟩
      rw [this]
open Classical in
theorem row_l0 (l : List S46) (hm : l.length < 9223372036854775807) (a0 a1 : Int) (a2 a3 : ByteArray) : ∀ d i k, i + d = l.length → d * (l.length + 3) < k →
    rows_row.l0 k l (l.length : Int) (i : Int) a0 a1 a2 a3 l = some (decide (NoTwo l i)) := by
  intro d
  induction d with
  | zero =>
    intro i k hi hk
    obtain ⟨k, rfl⟩ : ∃ m, k = m + 1 := ⟨k - 1, by omega⟩
    simp only [rows_row.l0]
    rw [if_neg (by omega)]
    have : NoTwo l i := fun a b hab hib hb => by omega
    simp [this]
  | succ d ih =>
    intro i k hi hk
    obtain ⟨k, rfl⟩ : ∃ m, k = m + 1 := ⟨k - 1, by omega⟩
    rw [Nat.succ_mul] at hk
    simp only [rows_row.l0]
    rw [if_pos (by omega), if_pos (by omega), if_pos (by omega), if_pos (by omega)]
    simp only [Option.bind_some, Int.toNat_natCast]
    have h1 := row_l1 l hm a0 a1 a2 a3 i (by omega) (d * (l.length + 3)) (decide (NoTwo l (i + 1))) (fun k hk => ih (i + 1) k (by omega) hk) i 0 k (by omega) (by omega)
    rw [Int.natCast_zero] at h1
    rw [h1]
    congr 1
    rw [← Bool.decide_and]
    exact decide_eq_decide.2 (noTwo_step (by omega)).symm
/-- May a row be, by itself? -/
def RowOk (x : S43) : Prop := if x.f1 = 1 ∨ x.f1 = 2 then x.f2.toList = [] ∧ x.f4.length = 0 else x.f1 = 0 ∧ x.f2.toList ≠ [] ∧ x.f3.toList = [] ∧ NoTwo x.f4 0
theorem len_eq0 {α : Type} (l : List α) : ((l.length : Int) == 0) = decide (l = []) := by
  cases l with
  | nil => rfl
  | cons x l => simp; omega
open Classical in
theorem row_is (x : S43) (hm : x.f4.length < 9223372036854775807) (k : Nat) (hk : x.f4.length * (x.f4.length + 3) + 4 < k) : rows_row.f k x.f0 x.f1 x.f2 x.f3 x.f4 = some (decide (RowOk x)) := by
  obtain ⟨k, rfl⟩ : ∃ m, k = m + 1 := ⟨k - 1, by omega⟩
  obtain ⟨k, rfl⟩ : ∃ m, k = m + 1 := ⟨k - 1, by omega⟩
  have h0 := row_l0 x.f4 hm x.f0 x.f1 x.f2 x.f3 x.f4.length 0 k (by omega) (by omega)
  rw [Int.natCast_zero] at h0
  unfold rows_row.f RowOk
  by_cases h1 : x.f1 = 1
  · simp only [h1, rows_row.j0, true_or, if_true]
    by_cases h2 : x.f2.toList = []
    · simp [h2, len_eq0]
    · simp [h2]
  · by_cases h2 : x.f1 = 2
    · simp only [h2, rows_row.j0, or_true, if_true, beq_self_eq_true]
      by_cases h3 : x.f2.toList = []
      · simp [h3, len_eq0]
      · simp [h3]
    · have hb : (x.f1 == 2) = false := beq_eq_false_iff_ne.2 h2
      simp only [h1, h2, hb, rows_row.j0, rows_row.j1, or_self, if_false, Bool.false_eq_true]
      by_cases h3 : x.f1 = 0
      · by_cases h4 : x.f2.toList = []
        · simp [h3, h4]
        · by_cases h5 : x.f3.toList = []
          · simp [h3, h4, h5] at h0 ⊢
            exact h0
          · simp [h3, h4, h5]
      · simp [h3]

/-- The deepest that the row behind x may be. -/
def nxt (x : S43) : Int := if x.f1 = 0 then x.f0 + 1 else x.f0
/-- Rows that are right, where the first may be at depth d. -/
def RightL : Int → List S43 → Prop
  | _, [] => True
  | d, x :: l => (0 ≤ x.f0 ∧ x.f0 ≤ d ∧ RowOk x) ∧ RightL (nxt x) l
/-- No more rows and attributes than the statements let in. -/
def Few (l : List S43) : Prop := l.length ≤ 1000000 ∧ ∀ x ∈ l, x.f4.length ≤ 8
theorem few_fuel {n : Nat} (h : n ≤ 8) : n * (n + 3) ≤ 88 := by
  have : n * (n + 3) ≤ 8 * 11 := Nat.mul_le_mul h (by omega)
  omega
theorem upI {a : Int} (h0 : -9223372036854775808 ≤ a) (h : a < 9223372036854775807) : wrap64 (a + 1) = a + 1 := by
  unfold wrap64; omega
theorem dn1 {i : Nat} (h : i < 9223372036854775807) : wrap64 (((i + 1 : Nat) : Int) - 1) = (i : Int) := by
  unfold wrap64; omega
open Classical in
theorem right_l0 (l : List S43) (hF : Few l) : ∀ e i k (d : Int), i + e = l.length → 0 ≤ d → d ≤ i → 3 * e + 200 < k →
    rows_right.l0 k d l (l.length : Int) (i : Int) = some (decide (RightL d (l.drop i))) := by
  have hn := hF.1
  intro e
  induction e with
  | zero =>
    intro i k d hi h0 h1 hk
    obtain ⟨k, rfl⟩ : ∃ m, k = m + 1 := ⟨k - 1, by omega⟩
    simp only [rows_right.l0]
    rw [if_neg (by omega), List.drop_of_length_le (by omega)]
    exact congrArg some (decide_eq_true (show RightL d [] from trivial)).symm
  | succ e ih =>
    intro i k d hi h0 h1 hk
    obtain ⟨k, rfl⟩ : ∃ m, k = m + 2 := ⟨k - 2, by omega⟩
    have hil : i < l.length := by omega
    have hx8 := hF.2 l[i] (List.getElem_mem hil)
    simp only [rows_right.l0]
    rw [if_pos (by omega), if_pos (by omega), if_pos (by omega), rd_T43_at l i hil, List.drop_eq_getElem_cons hil]
    obtain ⟨x, hx⟩ : ∃ x, l[i] = x := ⟨_, rfl⟩
    rw [hx] at hx8 ⊢
    have hf := few_fuel hx8
    by_cases c0 : x.f0 < 0
    · rw [if_pos c0]
      have : ¬ RightL d (x :: l.drop (i + 1)) := fun h => by have := h.1.1; omega
      simp [rows_right.j1, this]
    · rw [if_neg c0]
      by_cases c1 : x.f0 > d
      · rw [if_pos c1]
        have : ¬ RightL d (x :: l.drop (i + 1)) := fun h => by have := h.1.2.1; omega
        simp [rows_right.j1, this]
      · rw [if_neg c1, row_is x (by omega) (k + 1) (by omega)]
        simp only [Option.bind_some, rows_right.j1]
        by_cases c2 : RowOk x
        · have he : RightL d (x :: l.drop (i + 1)) ↔ RightL (nxt x) (l.drop (i + 1)) := ⟨fun h => h.2, fun h => ⟨⟨by omega, by omega, c2⟩, h⟩⟩
          rw [decide_eq_true c2, if_neg (by decide), up1 (by omega), decide_eq_decide.2 he]
          by_cases c3 : x.f1 = 0
          · have hnx : nxt x = x.f0 + 1 := by simp [nxt, c3]
            rw [if_pos c3, upI (by omega) (by omega), ← hnx]
            exact ih (i + 1) k _ (by omega) (by omega) (by omega) (by omega)
          · have hnx : nxt x = x.f0 := by simp [nxt, c3]
            rw [if_neg c3, ← hnx]
            exact ih (i + 1) k _ (by omega) (by omega) (by omega) (by omega)
        · have : ¬ RightL d (x :: l.drop (i + 1)) := fun h => c2 h.1.2.2
          rw [decide_eq_false c2, if_pos (by decide), decide_eq_false this]
open Classical in
theorem right_is (l : List S43) (hF : Few l) (k : Nat) (hk : 3 * l.length + 200 < k) : rows_right.f k l = some (decide (RightL 0 l)) := by
  have := right_l0 l hF l.length 0 k 0 (by omega) (by omega) (by omega) hk
  rw [Int.natCast_zero, List.drop_zero] at this
  exact this
/-- What the check of rows answers. -/
def bigL (l : List S43) : Bool := l.any bigB || decide ((l.length : Int) > 4096)
open Classical in
noncomputable def chkV (l : List S43) : Int := if bigL l = true then 2 else if RightL 0 l then 0 else 40
theorem big_is (l : List S43) : rows_big.f l = some (bigL l) := by
  unfold rows_big.f bigL
  rw [Bool.or_comm]
open Classical in
theorem check_is (l : List S43) (hF : Few l) (k : Nat) (hk : 3 * l.length + 200 < k) : rows_Check.f k l = some (chkV l) := by
  unfold rows_Check.f chkV
  rw [big_is, right_is l hF k hk]
  simp only [Option.bind_some]
  by_cases c : bigL l = true
  · rw [if_pos c, if_pos c]
  · rw [if_neg c, if_neg c]
    by_cases c1 : RightL 0 l
    · rw [if_pos c1, decide_eq_true c1]; rfl
    · rw [if_neg c1, decide_eq_false c1]; rfl

/-! Rows so much deeper; no more than a statement can hold; the fixed calls. -/
def mvx (by_ : Int) (x : S43) : S43 := ⟨wrap64 (x.f0 + by_), x.f1, x.f2, x.f3, x.f4⟩
theorem moved_l0 (l : List S43) (hF : Few l) (by_ : Int) : ∀ e i k (out : List S43), i + e = l.length → out.length = i → e < k →
    rows_moved.l0 k by_ out l (l.length : Int) (i : Int) = some (out ++ (l.drop i).map (mvx by_)) := by
  have hn := hF.1
  intro e
  induction e with
  | zero =>
    intro i k out hi ho hk
    obtain ⟨k, rfl⟩ : ∃ m, k = m + 1 := ⟨k - 1, by omega⟩
    simp only [rows_moved.l0]
    rw [if_neg (by omega), List.drop_of_length_le (by omega)]
    simp
  | succ e ih =>
    intro i k out hi ho hk
    obtain ⟨k, rfl⟩ : ∃ m, k = m + 1 := ⟨k - 1, by omega⟩
    have hil : i < l.length := by omega
    have hx8 := hF.2 l[i] (List.getElem_mem hil)
    have hcl : api_Attr.f (l[i]).f4 = some (l[i]).f4 := by unfold api_Attr.f; rw [if_pos (by omega)]
    simp only [rows_moved.l0]
    rw [if_pos (by omega), if_pos (by omega), if_pos (by omega), rd_T43_at l i hil, hcl]
    simp only [Option.bind_some]
    rw [if_pos (by omega), up1 (by omega), ih (i + 1) k _ (by omega) (by simp; omega) (by omega), List.drop_eq_getElem_cons hil, List.map_cons, List.append_assoc]
    rfl
theorem moved_is (l : List S43) (hF : Few l) (by_ : Int) (k : Nat) (hk : l.length < k) : rows_moved.f k l by_ = some (l.map (mvx by_)) := by
  have := moved_l0 l hF by_ l.length 0 k [] (by omega) rfl hk
  rw [Int.natCast_zero, List.drop_zero, List.nil_append] at this
  exact this
/-- A row's depth is an int. -/
def DepthIn (x : S43) : Prop := -9223372036854775808 ≤ x.f0 ∧ x.f0 < 9223372036854775808
theorem mvx_zero (x : S43) (h : DepthIn x) : mvx 0 x = x := by
  obtain ⟨h0, h1⟩ := h
  have : wrap64 (x.f0 + 0) = x.f0 := by unfold wrap64; omega
  unfold mvx
  rw [this]
theorem map_mvx0 (l : List S43) (h : ∀ x ∈ l, DepthIn x) : l.map (mvx 0) = l := by
  induction l with
  | nil => rfl
  | cons x l ih =>
    rw [List.map_cons, mvx_zero x (h x List.mem_cons_self), ih fun y hy => h y (List.mem_cons_of_mem _ hy)]
/-- The rows that a statement takes. -/
def bndx (x : S43) : S43 := ⟨x.f0, x.f1, x.f2, x.f3, x.f4.take 8⟩
def bnd (l : List S43) : List S43 := (l.take 60).map bndx
theorem bnd_few (l : List S43) : Few (bnd l) := by
  refine ⟨by simp [bnd]; omega, fun x hx => ?_⟩
  obtain ⟨y, _, rfl⟩ := List.mem_map.1 hx
  simp [bndx]; omega
theorem bnd_len (l : List S43) : (bnd l).length ≤ 60 := by simp [bnd]; omega
theorem bnd_in (l : List S43) (h : ∀ x ∈ l, RowIn x) : ∀ x ∈ bnd l, DepthIn x := by
  intro x hx
  obtain ⟨y, hy, rfl⟩ := List.mem_map.1 hx
  exact (h y (List.mem_of_mem_take hy)).1
theorem take_mn (l : List S46) : l.take ((mn (l.length : Int) 8) : Int).toNat = l.take 8 := by
  unfold mn
  split
  · rfl
  · rw [List.take_of_length_le (by omega), List.take_of_length_le (by omega)]
theorem bound_l0 (l : List S43) : ∀ e i k (out : List S43), i + e = 60 → out.length = min i l.length → i ≤ l.length → e + 1 < k →
    boltinglaw04_bound.l0 k l out (i : Int) = some (out ++ ((l.take 60).drop i).map bndx) := by
  intro e
  induction e with
  | zero =>
    intro i k out hi ho hil hk
    obtain ⟨k, rfl⟩ : ∃ m, k = m + 1 := ⟨k - 1, by omega⟩
    have : (l.take 60).drop i = [] := List.drop_of_length_le (by simp; omega)
    simp only [boltinglaw04_bound.l0]
    rw [this, if_neg (show ¬ ((i : Int) < 60) by omega)]
    split <;> simp
  | succ e ih =>
    intro i k out hi ho hil hk
    obtain ⟨k, rfl⟩ : ∃ m, k = m + 1 := ⟨k - 1, by omega⟩
    simp only [boltinglaw04_bound.l0]
    by_cases hc : i < l.length
    · have h0 : 0 ≤ mn (((l[i]).f4).length : Int) 8 := by unfold mn; split <;> omega
      have h1 : mn (((l[i]).f4).length : Int) 8 ≤ (((l[i]).f4).length : Int) := by unfold mn; split <;> omega
      rw [if_pos (by omega), if_pos (by omega), if_pos (by omega), rd_T43_at l i hc, if_pos h0, if_pos h1, if_pos (by omega), up1 (by omega), take_mn, ih (i + 1) k _ (by omega) (by simp; omega) (by omega) (by omega)]
      rw [List.drop_eq_getElem_cons (show i < (l.take 60).length by simp; omega), List.getElem_take]
      simp [bndx]
    · have : (l.take 60).drop i = [] := List.drop_of_length_le (by simp; omega)
      rw [this, if_neg (by omega)]
      simp
theorem bound_is (l : List S43) (k : Nat) (hk : 62 ≤ k) : boltinglaw04_bound.f k l = some (bnd l) := by
  have := bound_l0 l 60 0 k [] (by omega) (by simp) (by omega) (by omega)
  rw [Int.natCast_zero, List.drop_zero, List.nil_append] at this
  exact this

theorem fixed_100 : boltinglaw04_fixed.f 100 = some true := by decide +kernel
theorem fixed_is (k : Nat) (hk : 100 ≤ k) : boltinglaw04_fixed.f k = some true := at_rounds boltinglaw04_fixed.mono hk fixed_100

/-! Ends, parents, kids. -/
/-- A row's depth. -/
def dp (l : List S43) (i : Nat) : Int := (rd_T43 l (i : Int)).f0
theorem dp_at (l : List S43) (i : Nat) (h : i < l.length) : dp l i = l[i].f0 := by unfold dp; rw [rd_T43_at l i h]
theorem right_nth : ∀ (l : List S43) (d : Int), RightL d l → ∀ i (h : i < l.length), 0 ≤ l[i].f0 ∧ (i = 0 → l[i].f0 ≤ d) ∧ RowOk l[i] ∧ ∀ (h' : i + 1 < l.length), l[i + 1].f0 ≤ nxt l[i]
  | [], _, _, i, h => by simp at h
  | x :: l, d, H, i, h => by
    cases i with
    | zero =>
      refine ⟨H.1.1, fun _ => H.1.2.1, H.1.2.2, fun h' => ?_⟩
      have h2 : 0 < l.length := by simp at h'; omega
      exact (right_nth l _ H.2 0 h2).2.1 rfl
    | succ i =>
      have h2 : i < l.length := by simp at h; omega
      have ih := right_nth l _ H.2 i h2
      refine ⟨ih.1, fun e => by omega, ih.2.2.1, fun h' => ?_⟩
      exact ih.2.2.2 (by simp at h'; omega)
theorem nxt_le (x : S43) : nxt x ≤ x.f0 + 1 := by unfold nxt; split <;> omega
theorem right_dp {l : List S43} (H : RightL 0 l) : (∀ i, i < l.length → 0 ≤ dp l i) ∧ (0 < l.length → dp l 0 = 0) ∧ ∀ i, i + 1 < l.length → dp l (i + 1) ≤ dp l i + 1 := by
  refine ⟨fun i h => ?_, fun h => ?_, fun i h => ?_⟩
  · rw [dp_at l i h]; exact (right_nth l 0 H i h).1
  · rw [dp_at l 0 h]
    have := right_nth l 0 H 0 h
    have := this.2.1 rfl
    have := (right_nth l 0 H 0 h).1
    omega
  · rw [dp_at l _ h, dp_at l i (by omega)]
    have h1 := (right_nth l 0 H i (by omega)).2.2.2 h
    have := nxt_le (l[i]'(by omega))
    omega
theorem takeWhile_all {α : Type} (p : α → Bool) : ∀ (l : List α) (i : Nat) (h : i < l.length), i < (l.takeWhile p).length → p l[i] = true
  | [], i, h, _ => by simp at h
  | x :: l, i, h, h2 => by
    rw [List.takeWhile_cons] at h2
    by_cases hp : p x = true
    · rw [if_pos hp] at h2
      cases i with
      | zero => exact hp
      | succ i => exact takeWhile_all p l i (by simp at h; omega) (by simp at h2; omega)
    · rw [if_neg hp] at h2; simp at h2
theorem takeWhile_stop {α : Type} (p : α → Bool) : ∀ (l : List α) (h : (l.takeWhile p).length < l.length), p (l[(l.takeWhile p).length]'h) = false
  | [], h => by simp at h
  | x :: l, h => by
    by_cases hp : p x = true
    · have e : (x :: l).takeWhile p = x :: l.takeWhile p := by rw [List.takeWhile_cons, if_pos hp]
      have ih := takeWhile_stop p l (by rw [e] at h; simp at h; omega)
      simp only [e, List.length_cons, List.getElem_cons_succ]
      exact ih
    · have e : (x :: l).takeWhile p = [] := by rw [List.takeWhile_cons, if_neg hp]
      simp only [e, List.length_nil, List.getElem_cons_zero]
      exact Bool.eq_false_iff.2 hp
theorem endN_in (l : List S43) (i j : Nat) (hij : i < j) (hj : j < endN l i) (hjl : j < l.length) : dp l i < dp l j := by
  unfold endN at hj
  have h1 : j - (i + 1) < (l.drop (i + 1)).length := by simp; omega
  have := takeWhile_all (fun x => decide (x.f0 > (rd_T43 l (i : Int)).f0)) (l.drop (i + 1)) (j - (i + 1)) h1 (by omega)
  rw [List.getElem_drop] at this
  have e : i + 1 + (j - (i + 1)) = j := by omega
  simp only [e] at this
  have := of_decide_eq_true this
  rw [dp_at l j hjl]
  exact this
theorem endN_out (l : List S43) (i : Nat) (h : endN l i < l.length) : dp l (endN l i) ≤ dp l i := by
  have h1 : ((l.drop (i + 1)).takeWhile fun x => decide (x.f0 > (rd_T43 l (i : Int)).f0)).length < (l.drop (i + 1)).length := by
    unfold endN at h; simp only [List.length_drop]; omega
  have := takeWhile_stop (fun x => decide (x.f0 > (rd_T43 l (i : Int)).f0)) (l.drop (i + 1)) h1
  rw [List.getElem_drop] at this
  have := of_decide_eq_false this
  rw [dp_at l _ h]
  unfold dp
  have e : (l[endN l i]'h).f0 = (l[i + 1 + ((l.drop (i + 1)).takeWhile fun x => decide (x.f0 > (rd_T43 l (i : Int)).f0)).length]'(by unfold endN at h; exact h)).f0 := rfl
  rw [e]
  omega
theorem end_is (l : List S43) (hn : l.length ≤ 1000000) (i : Nat) (hi : i < l.length) (k : Nat) (hk : l.length < k) : rows_End.f k l (i : Int) = some ((endN l i : Nat) : Int) := by
  unfold rows_End.f rows_is.f
  rw [if_pos (by omega)]
  simp only [Option.bind_some]
  rw [if_pos (by simpa using hi), up1 (by omega), rows_End.is_l l (by omega) i hi (l.length - (i + 1)) _ (i + 1) (by omega) (by omega)]
  rfl
/-- The node that has node k: looked for from j - 1 down. -/
def parI (l : List S43) (k : Nat) : Nat → Int
  | 0 => -1
  | j + 1 => if dp l j < dp l k then (j : Int) else parI l k j
def par (l : List S43) (k : Nat) : Int := parI l k k
theorem parI_lt (l : List S43) (k : Nat) : ∀ j, -1 ≤ parI l k j ∧ parI l k j < (j : Int)
  | 0 => ⟨by simp [parI], by simp [parI]⟩
  | j + 1 => by
    have := parI_lt l k j
    unfold parI
    split <;> omega
theorem parI_eq (l : List S43) (k q : Nat) (hq : dp l q < dp l k) : ∀ j, q < j → (∀ m, q < m → m < j → dp l k ≤ dp l m) → parI l k j = (q : Int)
  | 0, h, _ => by omega
  | j + 1, h, H => by
    unfold parI
    by_cases e : j = q
    · subst e; rw [if_pos hq]
    · have := H j (by omega) (by omega)
      rw [if_neg (by omega)]
      exact parI_eq l k q hq j (by omega) (fun m h1 h2 => H m h1 (by omega))
theorem parI_none (l : List S43) (k : Nat) : ∀ j, (∀ m, m < j → dp l k ≤ dp l m) → parI l k j = -1
  | 0, _ => rfl
  | j + 1, H => by
    unfold parI
    have := H j (by omega)
    rw [if_neg (by omega)]
    exact parI_none l k j (fun m h => H m (by omega))
theorem parI_ge (l : List S43) (k q : Nat) (hq : dp l q < dp l k) : ∀ j, q < j → (q : Int) ≤ parI l k j
  | 0, h => by omega
  | j + 1, h => by
    unfold parI
    by_cases e : dp l j < dp l k
    · rw [if_pos e]; omega
    · rw [if_neg e]
      by_cases e2 : j = q
      · subst e2; exact absurd hq e
      · exact parI_ge l k q hq j (by omega)
theorem parI_spec (l : List S43) (k q : Nat) : ∀ j, parI l k j = (q : Int) → q < j ∧ dp l q < dp l k ∧ ∀ m, q < m → m < j → dp l k ≤ dp l m
  | 0, h => by unfold parI at h; omega
  | j + 1, h => by
    unfold parI at h
    by_cases e : dp l j < dp l k
    · rw [if_pos e] at h
      have : j = q := by omega
      subst this
      exact ⟨by omega, e, fun m h1 h2 => by omega⟩
    · rw [if_neg e] at h
      have ih := parI_spec l k q j h
      refine ⟨by omega, ih.2.1, fun m h1 h2 => ?_⟩
      by_cases e2 : m = j
      · subst e2; omega
      · exact ih.2.2 m h1 (by omega)
theorem parent_l0 (l : List S43) (hn : l.length ≤ 1000000) (i : Nat) (hi : i < l.length) : ∀ j k, j ≤ l.length → j < k → rows_Parent.l0 k l (i : Int) ((j : Int) - 1) = some (parI l i j)
  | 0, k, hj, hk => by
    obtain ⟨k, rfl⟩ : ∃ m, k = m + 1 := ⟨k - 1, by omega⟩
    simp only [rows_Parent.l0]
    rw [if_neg (by omega)]
    rfl
  | j + 1, k, hj, hk => by
    obtain ⟨k, rfl⟩ : ∃ m, k = m + 1 := ⟨k - 1, by omega⟩
    have e : ((j + 1 : Nat) : Int) - 1 = (j : Int) := by omega
    have e2 : wrap64 ((j : Int) - 1) = (j : Int) - 1 := by unfold wrap64; omega
    simp only [rows_Parent.l0]
    rw [e, if_pos (by omega), if_pos (by omega), if_pos (by omega), if_pos (by omega), if_pos (by omega), e2, parent_l0 l hn i hi j k (by omega) (by omega)]
    unfold parI dp
    by_cases c : (rd_T43 l (j : Int)).f0 < (rd_T43 l (i : Int)).f0
    · rw [if_pos c, if_pos c]
    · rw [if_neg c, if_neg c]; cases j <;> rfl
theorem parent_is (l : List S43) (hn : l.length ≤ 1000000) (i : Nat) (hi : i < l.length) (k : Nat) (hk : l.length < k) : rows_Parent.f k l (i : Int) = some (par l i) := by
  unfold rows_Parent.f rows_is.f
  rw [if_pos (by omega)]
  simp only [Option.bind_some]
  have e2 : wrap64 ((i : Int) - 1) = (i : Int) - 1 := by unfold wrap64; omega
  rw [if_pos (by simpa using hi), e2, parent_l0 l hn i hi i k (by omega) (by omega)]
  rfl
theorem kids_is (l : List S43) (hn : l.length ≤ 1000000) (i : Int) : rows_Kids.f l i = some (intsOf (kidsOf l i)) := by
  unfold rows_Kids.f
  rw [if_pos (by omega)]
theorem ints_len (l : List Nat) : (intsOf l).length = l.length := by simp [intsOf]
theorem rd_ints (l : List Nat) (j : Nat) (h : j < l.length) : rd (intsOf l) (j : Int) = (l[j] : Int) := by
  simp [rd, intsOf, h]
theorem chk_right {l : List S43} (h : chkV l = 0) : RightL 0 l := by
  unfold chkV at h
  split at h
  · cases h
  · split at h
    · assumption
    · cases h
/-- Where a node's kids stand: behind it, below its end. -/
structure Span (l : List S43) (i : Int) (dI : Int) (fr en : Nat) : Prop where
  le : en ≤ l.length
  frl : fr ≤ en
  below : ∀ j, fr ≤ j → j < en → dI < dp l j
  out : en < l.length → dp l en ≤ dI
  par : (i = -1 ∧ dI = -1 ∧ fr = 0 ∧ en = l.length) ∨ ∃ q : Nat, i = (q : Int) ∧ fr = q + 1 ∧ dp l q = dI ∧ q < l.length
theorem span_root (l : List S43) (H : RightL 0 l) : Span l (-1) (-1) 0 l.length :=
  ⟨Nat.le_refl _, Nat.zero_le _, fun j _ h => by have := (right_dp H).1 j h; omega, fun h => by omega, .inl ⟨rfl, rfl, rfl, rfl⟩⟩
theorem span_node (l : List S43) (q : Nat) (hq : q < l.length) : Span l (q : Int) (dp l q) (q + 1) (endN l q) :=
  ⟨endN_le l q hq, endN_lt l q, fun j h1 h2 => endN_in l q j (by omega) h2 (by have := endN_le l q hq; omega), fun h => endN_out l q h, .inr ⟨q, rfl, rfl, rfl, hq⟩⟩
theorem span_first {l : List S43} (H : RightL 0 l) {i dI : Int} {fr en : Nat} (S : Span l i dI fr en) (h : fr < en) : dp l fr = dI + 1 := by
  have hle := S.le
  have hb := S.below fr (Nat.le_refl _) h
  rcases S.par with ⟨_, rfl, rfl, _⟩ | ⟨q, _, rfl, rfl, hq⟩
  · have := (right_dp H).2.1 (by omega); omega
  · have := (right_dp H).2.2 q (by omega); omega
theorem span_end {l : List S43} {i dI : Int} {fr en : Nat} (S : Span l i dI fr en) {k : Nat} (hk : k < en) (hfk : fr ≤ k) : endN l k ≤ en := by
  rcases Nat.lt_or_ge en (endN l k) with h | h
  · have hle := S.le
    have hkl := endN_le l k (by omega)
    have h1 := endN_in l k en hk h (by omega)
    have h2 := S.out (by omega)
    have h3 := S.below k hfk hk
    omega
  · exact h
theorem span_next {l : List S43} {i dI : Int} {fr en : Nat} (S : Span l i dI fr en) {k : Nat} (hk : k < en) (hfk : fr ≤ k) (hd : dp l k = dI + 1) (he : endN l k < en) : dp l (endN l k) = dI + 1 := by
  have hle := S.le
  have h1 := S.below (endN l k) (by have := endN_lt l k; omega) he
  have h2 := endN_out l k (by omega)
  omega
theorem span_par {l : List S43} {i dI : Int} {fr en : Nat} (S : Span l i dI fr en) {k : Nat} (hk : k < en) (hfk : fr ≤ k) (hd : dp l k = dI + 1) : par l k = i := by
  unfold par
  rcases S.par with ⟨rfl, rfl, rfl, _⟩ | ⟨q, rfl, rfl, rfl, hq⟩
  · exact parI_none l k k fun m hm => by have := S.below m (by omega) (by omega); omega
  · exact parI_eq l k q (by omega) k (by omega) fun m h1 h2 => by have := S.below m (by omega) (by omega); omega
/-- How many nodes of a stretch have i as their parent. -/
def cnt (l : List S43) (i : Int) (a n : Nat) : Nat := (List.range' a n).countP fun k => par l k == i
theorem cnt_add (l : List S43) (i : Int) (a m n : Nat) : cnt l i a (m + n) = cnt l i a m + cnt l i (a + m) n := by
  unfold cnt
  rw [← List.countP_append, List.range'_append_1]
theorem cnt_zero (l : List S43) (i : Int) (a n : Nat) (h : ∀ k, a ≤ k → k < a + n → par l k ≠ i) : cnt l i a n = 0 := by
  unfold cnt
  rw [List.countP_eq_zero]
  intro k hk
  rw [List.mem_range'_1] at hk
  simpa using h k hk.1 hk.2
theorem cnt_one (l : List S43) (i : Int) (a : Nat) (h : par l a = i) : cnt l i a 1 = 1 := by
  unfold cnt
  simp [List.range'_one, h]
theorem span_cnt {l : List S43} {i dI : Int} {fr en : Nat} (S : Span l i dI fr en) {k : Nat} (hk : k < en) (hfk : fr ≤ k) (hd : dp l k = dI + 1) : cnt l i k (endN l k - k) = 1 := by
  have hlt := endN_lt l k
  have hle := S.le
  have hel := endN_le l k (by omega)
  have hik : i < (k : Int) := by
    rcases S.par with ⟨rfl, _, _⟩ | ⟨q, rfl, rfl, _, _⟩ <;> omega
  rw [show endN l k - k = 1 + (endN l k - k - 1) by omega, cnt_add, cnt_one l i k (span_par S hk hfk hd), cnt_zero]
  intro m h1 h2 he
  have h3 := endN_in l k m (by omega) (by omega) (by omega)
  have h4 := parI_ge l m k h3 m (by omega)
  unfold par at he
  omega
theorem span_all {l : List S43} {i dI : Int} {fr en : Nat} (S : Span l i dI fr en) : cnt l i 0 l.length = cnt l i fr (en - fr) := by
  have hle := S.le
  have hfr := S.frl
  rw [show l.length = fr + ((en - fr) + (l.length - en)) by omega, cnt_add, cnt_add, cnt_zero l i 0 fr, cnt_zero l i _ (l.length - en)]
  · simp
  · intro k h1 h2 he
    rcases S.par with ⟨_, _, _, ht⟩ | ⟨q, rfl, rfl, rfl, hq⟩
    · omega
    · obtain ⟨p1, p2, p3⟩ := parI_spec l k q k he
      have h0 := S.out (by omega)
      by_cases e : k = en
      · subst e; omega
      · have := p3 en (by omega) (by omega); omega
  · intro k h1 h2 he
    rcases S.par with ⟨_, _, hf, _⟩ | ⟨q, rfl, rfl, rfl, hq⟩
    · omega
    · have := (parI_lt l k k).2
      unfold par at he
      omega

theorem up0 {i : Nat} (h : i < 9223372036854775807) : wrap64 ((i : Int) - 1 + 1) = (i : Int) := by unfold wrap64; omega
theorem kin_l1 (l : List S43) (hn : l.length ≤ 1000) {i dI : Int} {fr en : Nat} (S : Span l i dI fr en) (ks : List Nat) (F tot : Nat) (htot : tot ≤ 1000)
    (hnext : ∀ k, F < k → boltinglaw04_RowsKin.l0 k l (tot : Int) (wrap64 (i + 1)) = some true) : ∀ n k j seen fuel, fr ≤ k → k ≤ en → (k < en → dp l k = dI + 1) → en ≤ k + n → ks.drop j = kidsN l n k en → j + n ≤ 3000 →
      tot = seen + cnt l i k (en - k) → F + n + l.length + 3 < fuel → boltinglaw04_RowsKin.l1 fuel l (seen : Int) i (intsOf ks) (k : Int) (en : Int) (j : Int) = some true := by
  have hle := S.le
  intro n
  induction n with
  | zero =>
    intro k j seen fuel h1 h2 h3 h4 h5 hj h6 h7
    obtain ⟨fuel, rfl⟩ : ∃ m, fuel = m + 1 := ⟨fuel - 1, by omega⟩
    have : k = en := by omega
    subst this
    have hj : ks.length ≤ j := by simpa [kidsN] using h5
    have hz : tot = seen := by rw [h6, Nat.sub_self]; rfl
    simp only [boltinglaw04_RowsKin.l1]
    rw [ints_len, if_neg (by omega), if_pos trivial, ← hz]
    exact hnext fuel (by omega)
  | succ n ih =>
    intro k j seen fuel h1 h2 h3 h4 h5 hj h6 h7
    obtain ⟨fuel, rfl⟩ : ∃ m, fuel = m + 1 := ⟨fuel - 1, by omega⟩
    by_cases c : k < en
    · have hd := h3 c
      have e5 : ks.drop j = k :: kidsN l n (endN l k) en := by rw [h5, kidsN, if_pos c]
      have hjl : j < ks.length := by
        rcases Nat.lt_or_ge j ks.length with h | h
        · exact h
        · rw [List.drop_of_length_le h] at e5; cases e5
      have hk2 : ks[j] = k ∧ ks.drop (j + 1) = kidsN l n (endN l k) en := by
        rw [List.drop_eq_getElem_cons hjl] at e5
        injection e5 with a b
        exact ⟨a, b⟩
      have hlt := endN_lt l k
      have hen := span_end S c h1
      have hone := span_cnt S c h1 hd
      have hsum : cnt l i k (en - k) = 1 + cnt l i (endN l k) (en - endN l k) := by
        rw [show en - k = (endN l k - k) + (en - endN l k) by omega, cnt_add, hone, show k + (endN l k - k) = endN l k by omega]
      simp only [boltinglaw04_RowsKin.l1]
      rw [ints_len, if_pos (by omega), if_pos (by omega), rd_ints ks j hjl, hk2.1, if_pos rfl, parent_is l (by omega) k (by omega) fuel (by omega)]
      simp only [Option.bind_some]
      rw [if_pos (span_par S c h1 hd), end_is l (by omega) k (by omega) fuel (by omega)]
      simp only [Option.bind_some]
      rw [up1 (by omega), up1 (by omega)]
      exact ih (endN l k) (j + 1) (seen + 1) fuel (by omega) hen (fun h => span_next S c h1 hd h) (by omega) hk2.2 (by omega) (by omega) (by omega)
    · have : k = en := by omega
      subst this
      have hj : ks.length ≤ j := by
        have : ks.drop j = [] := by rw [h5, kidsN, if_neg c]
        simpa using this
      have hz : tot = seen := by rw [h6, Nat.sub_self]; rfl
      simp only [boltinglaw04_RowsKin.l1]
      rw [ints_len, if_neg (by omega), if_pos trivial, ← hz]
      exact hnext fuel (by omega)
/-- How many nodes have a parent ahead of i. -/
def cntLt (l : List S43) (i : Int) : Nat := (List.range' 0 l.length).countP fun k => decide (par l k < i)
theorem cntLt_step (l : List S43) (i : Int) : cntLt l (i + 1) = cntLt l i + cnt l i 0 l.length := by
  unfold cntLt cnt
  have : ∀ L : List Nat, (L.countP fun k => decide (par l k < i + 1)) = (L.countP fun k => decide (par l k < i)) + L.countP fun k => par l k == i := by
    intro L
    induction L with
    | nil => rfl
    | cons k L ih =>
      simp only [List.countP_cons, ih]
      by_cases a : par l k < i
      · rw [decide_eq_true a, decide_eq_true (show par l k < i + 1 by omega), beq_eq_false_iff_ne.2 (show par l k ≠ i by omega)]; simp; omega
      · by_cases b : par l k = i
        · rw [decide_eq_false a, decide_eq_true (show par l k < i + 1 by omega), beq_iff_eq.2 b]; simp; omega
        · rw [decide_eq_false a, decide_eq_false (show ¬ par l k < i + 1 by omega), beq_eq_false_iff_ne.2 b]; simp
  exact this _
theorem cntLt_first (l : List S43) : cntLt l (-1) = 0 := by
  unfold cntLt
  rw [List.countP_eq_zero]
  intro k _
  have := (parI_lt l k k).1
  intro h
  have h2 := of_decide_eq_true h
  unfold par at h2
  omega
theorem cntLt_last (l : List S43) : cntLt l (l.length : Int) = l.length := by
  unfold cntLt
  have h : (List.range' 0 l.length).countP (fun k => decide (par l k < (l.length : Int))) = (List.range' 0 l.length).length := by
    rw [List.countP_eq_length]
    intro k hk
    rw [List.mem_range'_1] at hk
    have := (parI_lt l k k).2
    refine decide_eq_true ?_
    unfold par
    omega
  rw [h, List.length_range']
theorem cntLt_le (l : List S43) (i : Int) : cntLt l i ≤ l.length := by
  unfold cntLt
  have := List.countP_le_length (p := fun k => decide (par l k < i)) (l := List.range' 0 l.length)
  rw [List.length_range'] at this
  exact this
theorem kin_l0 (l : List S43) (hn : l.length ≤ 60) (H : RightL 0 l) : ∀ e (i : Nat) fuel, i + e = l.length + 1 → e * 200 + 400 < fuel →
    boltinglaw04_RowsKin.l0 fuel l (cntLt l ((i : Int) - 1) : Int) ((i : Int) - 1) = some true := by
  intro e
  induction e with
  | zero =>
    intro i fuel hi hk
    obtain ⟨fuel, rfl⟩ : ∃ m, fuel = m + 1 := ⟨fuel - 1, by omega⟩
    have hil : (i : Int) - 1 = (l.length : Int) := by omega
    simp only [boltinglaw04_RowsKin.l0]
    rw [hil, if_neg (by omega), cntLt_last, if_pos rfl, fixed_is fuel (by omega)]
    rfl
  | succ e ih =>
    intro i fuel hi hk
    obtain ⟨fuel, rfl⟩ : ∃ m, fuel = m + 2 := ⟨fuel - 2, by omega⟩
    have hstep := cntLt_step l ((i : Int) - 1)
    have hle := cntLt_le l ((i : Int) - 1 + 1)
    have hnext : ∀ k, e * 200 + 400 < k → boltinglaw04_RowsKin.l0 k l ((cntLt l ((i : Int) - 1 + 1) : Nat) : Int) (wrap64 ((i : Int) - 1 + 1)) = some true := by
      intro k hk
      have := ih (i + 1) k (by omega) hk
      rw [up0 (by omega)]
      rw [show ((i + 1 : Nat) : Int) - 1 = (i : Int) by omega] at this
      rw [show (i : Int) - 1 + 1 = (i : Int) by omega]
      exact this
    simp only [boltinglaw04_RowsKin.l0]
    rw [if_pos (by omega), kids_is l (by omega)]
    simp only [Option.bind_some]
    by_cases c : i = 0
    · subst c
      have S := span_root l H
      have e1 : ((0 : Nat) : Int) - 1 = -1 := rfl
      rw [e1] at hstep hle hnext ⊢
      have hk1 : kidsOf l (-1) = kidsN l l.length 0 l.length := by unfold kidsOf; rw [if_pos rfl]
      rw [if_neg (by omega), hk1, show wrap64 (-1 + 1) = ((0 : Nat) : Int) from by unfold wrap64; omega]
      simp only [boltinglaw04_RowsKin.j1]
      refine kin_l1 l (by omega) S _ (e * 200 + 400) (cntLt l (-1 + 1)) (by omega) hnext l.length 0 0 (cntLt l (-1)) (fuel + 0) (by omega) (by omega) (fun h => span_first H S h) (by omega) (by simp) (by omega) ?_ (by omega)
      rw [hstep, span_all S]
    · obtain ⟨q, rfl⟩ : ∃ q, i = q + 1 := ⟨i - 1, by omega⟩
      have e1 : ((q + 1 : Nat) : Int) - 1 = (q : Int) := by omega
      have hq : q < l.length := by omega
      have S := span_node l q hq
      rw [e1] at hstep hle hnext ⊢
      have hk1 : kidsOf l (q : Int) = kidsN l l.length (q + 1) (endN l q) := by
        unfold kidsOf
        rw [if_neg (by omega), if_pos ⟨by omega, by omega⟩, Int.toNat_natCast]
      have hel := endN_le l q hq
      rw [if_pos (by omega), end_is l (by omega) q hq _ (by omega), hk1, up1 (by omega)]
      simp only [Option.bind_some, boltinglaw04_RowsKin.j1]
      refine kin_l1 l (by omega) S _ (e * 200 + 400) (cntLt l ((q : Int) + 1)) (by omega) hnext l.length (q + 1) 0 (cntLt l (q : Int)) (fuel + 0) (by omega) (endN_lt l q) (fun h => span_first H S h) (by omega) (by simp) (by omega) ?_ (by omega)
      rw [hstep, span_all S]
theorem RowsKin (l0 : List S43) (hi0 : ∀ x ∈ l0, RowIn x) : ∃ k, boltinglaw04_RowsKin.f k l0 = some true := by
  refine ⟨20000, ?_⟩
  have hl := bnd_len l0
  unfold boltinglaw04_RowsKin.f
  rw [bound_is l0 _ (by omega)]
  simp only [Option.bind_some]
  rw [check_is _ (bnd_few l0) _ (by omega)]
  simp only [Option.bind_some]
  by_cases c : chkV (bnd l0) = 0
  · rw [if_pos c]
    have h := kin_l0 (bnd l0) (bnd_len l0) (chk_right c) (bnd l0).length.succ 0 20000 (by omega) (by omega)
    have e1 : ((0 : Nat) : Int) - 1 = -1 := rfl
    rw [e1, cntLt_first] at h
    exact h
  · rw [if_neg c, fixed_is _ (by omega)]
    rfl

end Go.Proofs.Ytllggaogjcknoaa.Pure
