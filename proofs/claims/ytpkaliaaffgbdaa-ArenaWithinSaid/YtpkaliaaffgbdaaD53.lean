/- Of the nodes that stand in the root there are as many as the root's rows. -/
import Derived.Test.YtpkaliaaffgbdaaM15
namespace Go.Proofs.Ytpkaliaaffgbdaa.QA
open Go.RowKit Go.Proofs.YtpkaliaaffgbdaaW.PrintWords Go.Proofs.YtpkaliaaffgbdaaW.PrintLast Go.Proofs.YtpkaliaaffgbdaaW.PrintMore
attribute [local go_sem] max2_int min2_int max_two min_two max_three min_three max_four min_four   -- for this text's walks alone
set_option linter.unusedVariables false
set_option linter.unusedSimpArgs false

open Go
section
variable {n : Nat} {up : Nat → Int} {ks : Nat → List Int}
theorem under_le {r : Nat → Nat} (hr : ∀ i p : Nat, up i = (p : Int) → r p < r i) {i j : Nat} (h : Under up i j) : r i ≤ r j := by
  induction h with
  | self => exact Nat.le_refl _
  | step h1 _ ih => have := hr _ _ h1; omega
theorem under_trans {i j k : Nat} (h : Under up i j) (h2 : Under up j k) : Under up i k := by
  induction h2 with
  | self => exact h
  | step h1 _ ih => exact .step h1 ih
theorem under_line {a b i : Nat} (ha : Under up a i) (hb : Under up b i) : Under up a b ∨ Under up b a := by
  induction ha with
  | self => exact .inr hb
  | step h1 _ ih =>
    cases hb with
    | self => exact .inl (.step h1 (by assumption))
    | step h2 h3 =>
      have := h1.symm.trans h2
      obtain rfl := Int.ofNat_inj.1 this
      exact ih h3
/-- A node in p's tree is p, or stands in the tree of one of its kids. -/
theorem under_kid (h : Tree n up ks) {p i : Nat} (hu : Under up p i) : i = p ∨ ∃ k : Nat, (k : Int) ∈ ks p ∧ Under up k i := by
  induction hu with
  | self => exact .inl rfl
  | @step j q h1 _ ih =>
    rcases ih with rfl | ⟨k, hk, hku⟩
    · exact .inr ⟨j, (h.lt h1).2.2, .self⟩
    · exact .inr ⟨k, hk, .step h1 hku⟩
theorem kid_under (h : Tree n up ks) {p k : Nat} (hk : (k : Int) ∈ ks p) : Under up p k := by
  obtain ⟨i, e, _, hu⟩ := h.kid p _ hk
  obtain rfl : k = i := by omega
  exact .step hu .self
open Classical in
/-- Whether i stands in the tree of the node that a number means. -/
noncomputable def undB (up : Nat → Int) (i : Nat) (k : Int) : Bool := decide (Under up k.toNat i)
open Classical in
theorem und_nat {up : Nat → Int} {i p : Nat} : undB up i (p : Int) = true ↔ Under up p i := by
  unfold undB
  rw [Int.toNat_natCast]
  exact ⟨fun h => of_decide_eq_true h, fun h => decide_eq_true h⟩
theorem countP_one {α : Type} {q : α → Bool} : ∀ (l : List α), l.Nodup → (∀ a ∈ l, ∀ b ∈ l, q a = true → q b = true → a = b) → l.countP q = if l.any q then 1 else 0
  | [], _, _ => rfl
  | a :: l, hd, hu => by
    obtain ⟨h1, h2⟩ := List.nodup_cons.1 hd
    have ih := countP_one l h2 fun x hx y hy => hu x (List.mem_cons_of_mem _ hx) y (List.mem_cons_of_mem _ hy)
    rw [List.countP_cons, ih, List.any_cons]
    by_cases ha : q a = true
    · rw [ha, if_pos rfl, Bool.true_or, if_pos rfl, if_neg]
      intro hb
      obtain ⟨b, hb, hqb⟩ := List.any_eq_true.1 hb
      exact h1 (hu a List.mem_cons_self b (List.mem_cons_of_mem _ hb) ha hqb ▸ hb)
    · rw [if_neg ha, Nat.add_zero]
      simp only [Bool.not_eq_true] at ha
      rw [ha, Bool.false_or]
theorem und_split (h : Tree n up ks) (p i : Nat) : (if undB up i (p : Int) = true then 1 else 0) = (if i = p then 1 else 0) + (ks p).countP (undB up i) := by
  obtain ⟨r, hr⟩ := h.rank
  have huniq : ∀ a ∈ ks p, ∀ b ∈ ks p, undB up i a = true → undB up i b = true → a = b := fun a ha b hb h1 h2 => by
    obtain ⟨x, rfl, _, hx⟩ := h.kid p a ha
    obtain ⟨y, rfl, _, hy⟩ := h.kid p b hb
    have h1 := und_nat.1 h1
    have h2 := und_nat.1 h2
    have two : ∀ u v : Nat, up u = (p : Int) → up v = (p : Int) → Under up u v → u = v := fun u v hu hv h3 => by
      cases h3 with
      | self => rfl
      | step h4 h5 =>
        obtain rfl := Int.ofNat_inj.1 (hv.symm.trans h4)
        have := under_le hr h5
        have := hr _ _ hu
        omega
    rcases under_line h1 h2 with h3 | h3
    · rw [two x y hx hy h3]
    · rw [two y x hy hx h3]
  rw [countP_one _ (h.nodup p) huniq]
  by_cases c : i = p
  · subst c
    rw [if_pos (und_nat.2 .self), if_pos rfl, if_neg]
    intro hb
    obtain ⟨k, hk, hq⟩ := List.any_eq_true.1 hb
    obtain ⟨x, rfl, _, hx⟩ := h.kid i k hk
    have := under_le hr (und_nat.1 hq)
    have := hr _ _ hx
    omega
  · rw [if_neg c, Nat.zero_add]
    by_cases hu : Under up p i
    · rw [if_pos (und_nat.2 hu), if_pos]
      rcases under_kid h hu with h1 | ⟨k, hk, hku⟩
      · exact absurd h1 c
      · exact List.any_eq_true.2 ⟨_, hk, und_nat.2 hku⟩
    · rw [if_neg (fun h1 => hu (und_nat.1 h1)), if_neg]
      intro hb
      obtain ⟨k, hk, hq⟩ := List.any_eq_true.1 hb
      obtain ⟨x, rfl, _, hx⟩ := h.kid p k hk
      exact hu (under_trans (.step hx .self) (und_nat.1 hq))
/-- How many of the nodes L stand in a node's tree. -/
noncomputable def cntU (up : Nat → Int) (L : List Nat) (k : Int) : Nat := L.countP fun i => undB up i k
theorem sum_add {α : Type} (f g : α → Nat) : ∀ l : List α, (l.map fun a => f a + g a).sum = (l.map f).sum + (l.map g).sum
  | [] => rfl
  | a :: l => by simp only [List.map_cons, List.sum_cons, sum_add f g l]; omega
theorem sum_if {α : Type} (q : α → Bool) : ∀ l : List α, (l.map fun a => if q a = true then 1 else 0).sum = l.countP q
  | [] => rfl
  | a :: l => by rw [List.map_cons, List.sum_cons, sum_if q l, List.countP_cons]; omega
theorem cnt_split (h : Tree n up ks) (p : Nat) : ∀ L : List Nat, cntU up L (p : Int) = L.countP (fun i => decide (i = p)) + ((ks p).map (cntU up L)).sum
  | [] => by
    show 0 = 0 + ((ks p).map fun _ => 0).sum
    induction ks p with
    | nil => rfl
    | cons a l ih => rw [List.map_cons, List.sum_cons, ← ih]
  | i :: L => by
    have e : (fun k => cntU up (i :: L) k) = fun k => cntU up L k + if undB up i k = true then 1 else 0 := by
      funext k
      unfold cntU
      rw [List.countP_cons]
    show (i :: L).countP _ = _
    rw [show cntU up (i :: L) = fun k => cntU up (i :: L) k from rfl, e, sum_add, sum_if, List.countP_cons, List.countP_cons]
    have ih := cnt_split h p L
    have h1 := und_split h p i
    unfold cntU at ih
    have h2 : (if decide (i = p) = true then 1 else 0) = if i = p then 1 else 0 := by by_cases c : i = p <;> simp [c]
    rw [h2, ih, h1]
    unfold cntU
    omega
theorem count_self (n p : Nat) (hp : p < n) : (List.range n).countP (fun i => decide (i = p)) = 1 := by
  rw [countP_one _ List.nodup_range fun a _ b _ h1 h2 => (of_decide_eq_true h1).trans (of_decide_eq_true h2).symm, if_pos]
  exact List.any_eq_true.2 ⟨p, List.mem_range.2 hp, decide_eq_true rfl⟩
end
section
variable {M : Nat} {xs : List S79} {s : List (Int × Int)} {r : List S54}
theorem reads_count (h : Good M xs) (hr : Reads xs s r) (hs : ∀ p ∈ s, 0 ≤ p.1 ∧ p.1 < (xs.length : Int)) : r.length + s.countP (fun p => decide (p.1 = 0)) = (s.map fun p => cntU (up9 xs) (List.range xs.length) p.1).sum := by
  induction hr with
  | nil => rfl
  | @cons p rest r hr ih =>
    obtain ⟨p1, p2⟩ := p
    have hp := hs _ List.mem_cons_self
    dsimp only at hp
    obtain ⟨j, rfl⟩ := Int.eq_ofNat_of_zero_le hp.1
    have hk : kidsAt xs ((j : Int), p2) = (ks9 xs j).map fun q => (q, p2 + 1) := rfl
    have ih := ih fun q hq => by
      rcases List.mem_append.1 hq with hq | hq
      · rw [hk] at hq
        obtain ⟨k, hk, rfl⟩ := List.mem_map.1 hq
        obtain ⟨i, rfl, hi, _⟩ := h.tree.kid j k hk
        dsimp only; omega
      · exact hs q (List.mem_cons_of_mem _ hq)
    have hz : (kidsAt xs ((j : Int), p2)).countP (fun p => decide (p.1 = 0)) = 0 := by
      rw [List.countP_eq_zero]
      intro q hq
      rw [hk] at hq
      obtain ⟨k, hk, rfl⟩ := List.mem_map.1 hq
      simp only [decide_eq_true_eq]
      rintro rfl
      exact h.tree.zero j hk
    have hm : (kidsAt xs ((j : Int), p2)).map (fun p => cntU (up9 xs) (List.range xs.length) p.1) = (ks9 xs j).map (cntU (up9 xs) (List.range xs.length)) := by
      rw [hk, List.map_map]
      rfl
    rw [List.countP_append, hz, List.map_append, List.sum_append, hm] at ih
    rw [List.length_append, List.countP_cons, List.map_cons, List.sum_cons]
    dsimp only
    rw [cnt_split h.tree j, count_self _ j (by omega)]
    have h3 : (if (j : Int) = 0 then ([] : List S54) else [rowAt xs ((j : Int), p2)]).length + (if decide ((j : Int) = 0) = true then 1 else 0) = 1 := by
      by_cases c : (j : Int) = 0
      · rw [if_pos c, if_pos (decide_eq_true c)]; rfl
      · rw [if_neg c, if_neg (fun h => c (of_decide_eq_true h))]; rfl
    omega
/-- Whether node i stands in the root; how many of the first m do. -/
noncomputable def in0 (xs : List S79) (i : Nat) : Bool := undB (up9 xs) i 0
noncomputable def cnt0 (xs : List S79) (m : Nat) : Nat := (List.range m).countP (in0 xs)
theorem in0_zero (xs : List S79) : in0 xs 0 = true := by
  exact (und_nat (p := 0)).2 .self
theorem cnt0_one (xs : List S79) : cnt0 xs 1 = 1 := by
  show (List.range 1).countP (in0 xs) = 1
  rw [show List.range 1 = [0] from rfl, List.countP_cons, in0_zero]
  rfl
theorem cnt0_succ (xs : List S79) (m : Nat) : cnt0 xs (m + 1) = cnt0 xs m + if in0 xs m = true then 1 else 0 := by
  unfold cnt0
  rw [List.range_succ, List.countP_append, List.countP_singleton]
theorem cnt0_le (xs : List S79) (m : Nat) : cnt0 xs m ≤ m := by
  have := List.countP_le_length (p := in0 xs) (l := List.range m)
  rwa [List.length_range] at this
theorem cnt0_pos (xs : List S79) {m : Nat} (h : 0 < m) : 1 ≤ cnt0 xs m := by
  induction m with
  | zero => omega
  | succ m ih =>
    rw [cnt0_succ]
    by_cases c : m = 0
    · subst c
      rw [in0_zero, if_pos rfl]
      omega
    · have := ih (by omega)
      omega
theorem cnt0_rows (h : Good M xs) {k : Nat} (hr : rowsR xs k 0 = some r) : cnt0 xs xs.length = r.length + 1 := by
  have hp := h.tree.pos
  have hb : inB xs 0 = true := decide_eq_true (by omega)
  have := reads_count h (rowsR_reads hr hb) (fun p hp => by rw [List.mem_singleton.1 hp]; dsimp only; omega)
  simp only [List.map_cons, List.map_nil, List.sum_cons, List.sum_nil, List.countP_cons, List.countP_nil] at this
  exact this.symm
theorem within0 (h : Good M xs) (i : Nat) (hi : i < xs.length) : ∃ k, withinF xs k (i : Int) 0 = some (in0 xs i) := by
  obtain ⟨k, b, hk, hb⟩ := withinF_some h (i : Int) 0
  refine ⟨k, hk.trans ?_⟩
  have h1 := hb 0 i rfl rfl hi h.tree.pos
  congr 1
  have h2 : in0 xs i = true ↔ Under (up9 xs) 0 i := und_nat (p := 0)
  cases b with
  | true => exact (h2.2 (h1.1 rfl)).symm
  | false => exact (Bool.eq_false_iff.2 fun h3 => by simpa using h1.2 (h2.1 h3)).symm
end
end Go.Proofs.Ytpkaliaaffgbdaa.QA
