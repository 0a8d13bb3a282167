/- A document that holds a tree; what each call keeps of it. A document that holds a tree: its calls come to an end; what they answer. Which rows are trees: what the check of rows answers. The law's trees: the first rows, the first attributes of each, that are the caller's own. -/
import Derived.Test.YtpkaliaaffgbdaaM4
import Derived.Test.YtpkaliaaffgbdaaQAx6
namespace Go.Proofs.Ytpkaliaaffgbdaa.QA
open Go.RowKit Go.Proofs.YtpkaliaaffgbdaaW.PrintWords Go.Proofs.YtpkaliaaffgbdaaW.PrintLast Go.Proofs.YtpkaliaaffgbdaaW.PrintMore
attribute [local go_sem] max2_int min2_int max_two min_two max_three min_three max_four min_four   -- for this text's walks alone
set_option linter.unusedVariables false
set_option linter.unusedSimpArgs false

open Go
def up9 (xs : List S79) (i : Nat) : Int := if i < xs.length then (rd_T79 xs (i : Int)).f1 else -1
def ks9 (xs : List S79) (i : Nat) : List Int := (rd_T79 xs (i : Int)).f2
/-- A document's tree is one; its nodes have at most M attributes. -/
structure Good (M : Nat) (xs : List S79) : Prop where
 tree : Tree xs.length (up9 xs) (ks9 xs)
 attrs : ∀ i : Nat, (rd_T79 xs (i : Int)).f0.f4.length ≤ M
 len : xs.length ≤ 4096
theorem rd_set (xs : List S79) (j i : Nat) (v : S79) : rd_T79 (xs.set j v) (i : Int) = if i = j ∧ j < xs.length then v else rd_T79 xs (i : Int) := by
 simp only [rd_T79, Int.toNat_natCast, List.getD_eq_getElem?_getD, List.getElem?_set]
 by_cases e : j = i
 ·subst e
  by_cases h : j < xs.length
  ·simp [h]
  ·simp [h, List.getElem?_eq_none (Nat.le_of_not_lt h)]
 ·rw [if_neg e, if_neg (fun h => e h.1.symm)]
theorem rd_add (xs : List S79) (i : Nat) (v : S79) : rd_T79 (xs ++ [v]) (i : Int) = if i = xs.length then v else rd_T79 xs (i : Int) := by
 simp only [rd_T79, Int.toNat_natCast, List.getD_eq_getElem?_getD, List.getElem?_append]
 by_cases h : i < xs.length
 ·rw [if_pos h, if_neg (by omega)]
 ·rw [if_neg h]
  by_cases e : i = xs.length
  ·simp [e]
  ·rw [if_neg e, List.getElem?_eq_none (by simp; omega), List.getElem?_eq_none (by omega)]
theorem rd_out (xs : List S79) (i : Nat) (h : xs.length ≤ i) : rd_T79 xs (i : Int) = z79 := by
 simp [rd_T79, List.getD_eq_getElem?_getD, List.getElem?_eq_none h]
theorem up_set (xs : List S79) (i j : Nat) (v : S79) : up9 (xs.set i v) j = if j = i ∧ i < xs.length then v.f1 else up9 xs j := by
 unfold up9
 rw [List.length_set, rd_set]
 by_cases e : j = i ∧ i < xs.length
 ·rw [if_pos e, if_pos e, if_pos (by omega)]
 ·rw [if_neg e, if_neg e]
theorem ks_set (xs : List S79) (i j : Nat) (v : S79) : ks9 (xs.set i v) j = if j = i ∧ i < xs.length then v.f2 else ks9 xs j := by
 unfold ks9
 rw [rd_set]
 split <;> rfl
theorem f0_set (xs : List S79) (i j : Nat) (v : S79) : (rd_T79 (xs.set i v) (j : Int)).f0 = if j = i ∧ i < xs.length then v.f0 else (rd_T79 xs (j : Int)).f0 := by
 rw [rd_set]
 split <;> rfl
theorem pigeon : ∀ (n : Nat) (l : List Int), l.Nodup → (∀ k ∈ l, 0 ≤ k ∧ k < (n : Int)) → l.length ≤ n
 | 0, [], _, _ => Nat.le_refl _
 | 0, k :: l, _, h => by have := h k List.mem_cons_self; omega
 | n + 1, l, hd, h => by
  have ih := pigeon n (l.erase (n : Int)) (hd.erase _) fun k hk => by
   obtain ⟨h1, h2⟩ := hd.mem_erase_iff.1 hk
   have := h k h2
   omega
  have h3 := List.le_length_erase (a := (n : Int)) (l := l)
  omega
theorem filter_one {l : List Int} {i : Int} (hd : l.Nodup) (h : i ∈ l) : (l.filter fun k => !(k == i)).length + 1 = l.length := by
 have h1 : (l.filter fun k => !(k == i)) = l.erase i := (hd.erase_eq_filter i).symm
 rw [h1, List.length_erase_of_mem h]
 have := List.length_pos_of_mem h
 omega
section
variable {M : Nat} {xs : List S79}
theorem Good.kids_le (h : Good M xs) (p : Nat) : (ks9 xs p).length ≤ xs.length :=
 pigeon _ _ (h.tree.nodup p) fun k hk => by obtain ⟨i, rfl, hi, _⟩ := h.tree.kid p k hk; omega
theorem Good.fit (h : Good M xs) (hM : M < 100000) : Fit xs := by
 have hl := h.len
 refine ⟨fun i hi => ?_, fun i hi => ?_, fun i hi => ?_, by omega⟩
 ·have hu : up9 xs i = xs[i].f1 := by unfold up9; rw [if_pos hi, nd_at i hi]
  rcases h.tree.par i with h1 | ⟨p, hp, h1, h2⟩
  ·exact .inl (hu.symm.trans h1)
  ·refine .inr ⟨p, hp, hu.symm.trans h1, ?_⟩
   have hk : ks9 xs p = xs[p].f2 := by unfold ks9; rw [nd_at p hp]
   rw [← hk]
   exact filter_one (h.tree.nodup p) h2
 ·have := h.kids_le i
  unfold ks9 at this
  rw [nd_at i hi] at this
  omega
 ·have := h.attrs i
  rw [nd_at i hi] at this
  omega
theorem Good.weak (h : Good M xs) {M' : Nat} (hM : M ≤ M') : Good M' xs := ⟨h.tree, fun i => Nat.le_trans (h.attrs i) hM, h.len⟩
/-- A change of one node's row alone. -/
theorem Good.row (h : Good M xs) (i : Nat) (x : S79) (hu : x.f1 = (rd_T79 xs (i : Int)).f1) (hk : x.f2 = (rd_T79 xs (i : Int)).f2) {M' : Nat} (ha : x.f0.f4.length ≤ M') (hM : M ≤ M') : Good M' (xs.set i x) := by
 have e1 : up9 (xs.set i x) = up9 xs := by
  funext j
  unfold up9
  rw [List.length_set, rd_set]
  by_cases e : j = i ∧ i < xs.length
  ·rw [if_pos e, hu, e.1]
  ·rw [if_neg e]
 have e2 : ks9 (xs.set i x) = ks9 xs := by
  funext j
  unfold ks9
  rw [rd_set]
  by_cases e : j = i ∧ i < xs.length
  ·rw [if_pos e, hk, e.1]
  ·rw [if_neg e]
 refine ⟨by rw [e1, e2, List.length_set]; exact h.tree, fun j => ?_, by rw [List.length_set]; exact h.len⟩
 rw [rd_set]
 split
 ·exact ha
 ·exact Nat.le_trans (h.attrs j) hM
theorem Good.add (h : Good M xs) (x : S54) (hx : x.f4.length ≤ M) (hl : xs.length < 4096) : Good M (addN xs x) := by
 unfold addN
 have e1 : up9 (xs ++ [⟨⟨0, x.f1, x.f2, x.f3, x.f4⟩, -1, []⟩]) = up9 xs := by
  funext j
  unfold up9
  rw [List.length_append, rd_add]
  simp only [List.length_cons, List.length_nil]
  by_cases e : j = xs.length
  ·rw [if_pos (by omega), if_pos e, if_neg (by omega)]
  ·rw [if_neg e]
   by_cases e2 : j < xs.length
   ·rw [if_pos (by omega), if_pos e2]
   ·rw [if_neg (by omega), if_neg e2]
 have e2 : ks9 (xs ++ [⟨⟨0, x.f1, x.f2, x.f3, x.f4⟩, -1, []⟩]) = ks9 xs := by
  funext j
  unfold ks9
  rw [rd_add]
  by_cases e : j = xs.length
  ·rw [if_pos e, rd_out xs j (by omega)]; rfl
  ·rw [if_neg e]
 refine ⟨by rw [e1, e2, List.length_append]; exact h.tree.more, fun j => ?_, by rw [List.length_append]; exact hl⟩
 rw [rd_add]
 split
 ·exact hx
 ·exact h.attrs j
theorem takeN_up (h : Good M xs) (i : Nat) (hi : i < xs.length) : up9 (takeN xs i) = (fun j => if j = i then -1 else up9 xs j) ∧ ks9 (takeN xs i) = (fun p : Nat => if up9 xs i = (p : Int) then (ks9 xs p).filter fun k => !(k == (i : Int)) else ks9 xs p) ∧ ∀ j : Nat, (rd_T79 (takeN xs i) (j : Int)).f0 = (rd_T79 xs (j : Int)).f0 := by
 have hu : up9 xs i = (rd_T79 xs (i : Int)).f1 := by unfold up9; rw [if_pos hi]
 unfold takeN
 dsimp only
 rcases h.tree.par i with h1 | ⟨p, hp, h1, h2⟩
 ·rw [if_pos (hu.symm.trans h1)]
  refine ⟨?_, ?_, fun j => ?_⟩
  ·funext j
   rw [up_set]
   by_cases e : j = i
   ·rw [if_pos ⟨e, hi⟩, if_pos e]; rfl
   ·rw [if_neg (fun h => e h.1), if_neg e]
  ·funext q
   rw [if_neg (by rw [h1]; omega), ks_set]
   by_cases e : q = i
   ·rw [if_pos ⟨e, hi⟩, e]; rfl
   ·rw [if_neg (fun h => e h.1)]
  ·rw [f0_set]
   by_cases e : j = i
   ·rw [if_pos ⟨e, hi⟩, e]; rfl
   ·rw [if_neg (fun h => e h.1)]
 ·rw [h1] at hu
  rw [if_neg (by omega), ← hu, Int.toNat_natCast]
  have hpi : p ≠ i := fun e => by
   subst e
   obtain ⟨r, hr⟩ := h.tree.rank
   have := hr p p h1
   omega
  have hz : rd_T79 (xs.set p (withKids (rd_T79 xs (p : Int)) ((rd_T79 xs (p : Int)).f2.filter fun k => !(k == (i : Int))))) (i : Int) = rd_T79 xs (i : Int) := by
   rw [rd_set, if_neg (fun h => hpi h.1.symm)]
  rw [hz]
  refine ⟨?_, ?_, fun j => ?_⟩
  ·funext j
   rw [up_set, List.length_set, up_set]
   by_cases e : j = i
   ·rw [if_pos ⟨e, hi⟩, if_pos e]; rfl
   ·rw [if_neg (fun h => e h.1), if_neg e]
    by_cases e2 : j = p
    ·rw [if_pos ⟨e2, hp⟩, e2]
     unfold up9
     rw [if_pos hp]; rfl
    ·rw [if_neg (fun h => e2 h.1)]
  ·funext q
   rw [h1, ks_set, List.length_set, ks_set]
   by_cases e : q = i
   ·rw [if_pos ⟨e, hi⟩, if_neg (by omega), e]; rfl
   ·rw [if_neg (fun h => e h.1)]
    by_cases e2 : q = p
    ·rw [if_pos ⟨e2, hp⟩, if_pos (by omega), e2]; rfl
    ·rw [if_neg (fun h => e2 h.1), if_neg (by omega)]
  ·rw [f0_set, List.length_set, f0_set]
   by_cases e : j = i
   ·rw [if_pos ⟨e, hi⟩, e]; rfl
   ·rw [if_neg (fun h => e h.1)]
    by_cases e2 : j = p
    ·rw [if_pos ⟨e2, hp⟩, e2]; rfl
    ·rw [if_neg (fun h => e2 h.1)]
theorem Good.take (h : Good M xs) (i : Nat) (hi : i < xs.length) : Good M (takeN xs i) := by
 obtain ⟨e1, e2, e3⟩ := takeN_up h i hi
 refine ⟨by rw [e1, e2, takeN_length]; exact h.tree.take i, fun j => by rw [e3 j]; exact h.attrs j, by rw [takeN_length]; exact h.len⟩
theorem putN_length (xs : List S79) (p a n : Nat) : (putN xs p a n).length = xs.length := by
 unfold putN
 dsimp only
 rw [List.length_set, List.length_set]
theorem putN_up (p a i : Nat) (hp : p < xs.length) (hi : i < xs.length) (hne : p ≠ i) : up9 (putN xs p a i) = (fun j => if j = i then (p : Int) else up9 xs j) ∧ ks9 (putN xs p a i) = (fun q => if q = p then insAt (ks9 xs p) a (i : Int) else ks9 xs q) ∧ ∀ j : Nat, (rd_T79 (putN xs p a i) (j : Int)).f0 = (rd_T79 xs (j : Int)).f0 := by
 unfold putN
 dsimp only
 have hz : rd_T79 (xs.set p (withKids (rd_T79 xs (p : Int)) (insAt (rd_T79 xs (p : Int)).f2 a (i : Int)))) (i : Int) = rd_T79 xs (i : Int) := by
  rw [rd_set, if_neg (fun h => hne h.1.symm)]
 rw [hz]
 refine ⟨?_, ?_, fun j => ?_⟩
 ·funext j
  rw [up_set, List.length_set, up_set]
  by_cases e : j = i
  ·rw [if_pos ⟨e, hi⟩, if_pos e]; rfl
  ·rw [if_neg (fun h => e h.1), if_neg e]
   by_cases e2 : j = p
   ·rw [if_pos ⟨e2, hp⟩, e2]
    unfold up9
    rw [if_pos hp]; rfl
   ·rw [if_neg (fun h => e2 h.1)]
 ·funext q
  rw [ks_set, List.length_set, ks_set]
  by_cases e : q = i
  ·rw [if_pos ⟨e, hi⟩, if_neg (fun h => hne (h.symm.trans e)), e]; rfl
  ·rw [if_neg (fun h => e h.1)]
   by_cases e2 : q = p
   ·rw [if_pos ⟨e2, hp⟩, if_pos e2]; rfl
   ·rw [if_neg (fun h => e2 h.1), if_neg e2]
 ·rw [f0_set, List.length_set, f0_set]
  by_cases e : j = i
  ·rw [if_pos ⟨e, hi⟩, e]; rfl
  ·rw [if_neg (fun h => e h.1)]
   by_cases e2 : j = p
   ·rw [if_pos ⟨e2, hp⟩, e2]; rfl
   ·rw [if_neg (fun h => e2 h.1)]
theorem Good.put (h : Good M xs) (p a i : Nat) (hp : p < xs.length) (hi : i < xs.length) (h0 : i ≠ 0) (hu : up9 xs i = -1) (hw : ¬ Under (up9 xs) i p) : Good M (putN xs p a i) := by
 have hne : p ≠ i := fun e => hw (e ▸ .self)
 obtain ⟨e1, e2, e3⟩ := putN_up (xs := xs) p a i hp hi hne
 refine ⟨by rw [e1, e2, putN_length]; exact h.tree.put hp hi h0 hu hw, fun j => by rw [e3 j]; exact h.attrs j, by rw [putN_length]; exact h.len⟩
end
end Go.Proofs.Ytpkaliaaffgbdaa.QA
namespace Go.Proofs.Ytpkaliaaffgbdaa.QA
open Go.RowKit Go.Proofs.YtpkaliaaffgbdaaW.PrintWords Go.Proofs.YtpkaliaaffgbdaaW.PrintLast Go.Proofs.YtpkaliaaffgbdaaW.PrintMore
attribute [local go_sem] max2_int min2_int max_two min_two max_three min_three max_four min_four   -- for this text's walks alone
set_option linter.unusedVariables false
set_option linter.unusedSimpArgs false

open Go
section
variable {M : Nat} {xs : List S79}
theorem within_some (h : Good M xs) (o : Nat) : ∀ (m j : Nat), j < xs.length → ∀ r : Nat → Nat, (∀ i p : Nat, up9 xs i = (p : Int) → r p < r i) → r j < m → ∃ k b, withinL xs k (j : Int) (o : Int) = some b ∧ (b = true ↔ Under (up9 xs) o j)
 | 0, _, _, _, _, hm => absurd hm (Nat.not_lt_zero _)
 | m + 1, j, hj, r, hr, hm => by
  by_cases e : j = o
  ·subst e
   exact ⟨1, true, by simp [withinL], by simp [Under.self]⟩
  ·have hu : up9 xs j = (rd_T79 xs (j : Int)).f1 := by unfold up9; rw [if_pos hj]
   have e2 : ¬ (j : Int) = (o : Int) := by omega
   rcases h.tree.par j with h1 | ⟨p, hp, h1, h2⟩
   ·refine ⟨2, false, ?_, ?_⟩
    ·simp only [withinL]
     rw [if_neg e2, if_neg (by omega), if_pos (by omega), ← hu, h1, if_neg (by omega), if_pos rfl]
    ·constructor
     ·intro h; cases h
     ·intro h3
      cases h3 with
      | self => exact absurd rfl e
      | step h4 _ => rw [h1] at h4; omega
   ·obtain ⟨k, b, hk, hb⟩ := within_some h o m p hp r hr (by have := hr j p h1; omega)
    refine ⟨k + 1, b, ?_, hb.trans ⟨fun h3 => .step h1 h3, fun h3 => ?_⟩⟩
    ·simp only [withinL]
     rw [if_neg e2, if_neg (by omega), if_pos (by omega), ← hu, h1, hk]
    ·cases h3 with
     | self => exact absurd rfl e
     | step h4 h5 =>
      have := Int.ofNat_inj.1 (h4.symm.trans h1)
      subst this
      exact h5
theorem withinF_some (h : Good M xs) (n o : Int) : ∃ k b, withinF xs k n o = some b ∧ (∀ i j : Nat, n = (j : Int) → o = (i : Int) → j < xs.length → i < xs.length → (b = true ↔ Under (up9 xs) i j)) := by
 unfold withinF
 by_cases c : (0 ≤ n ∧ n < (xs.length : Int)) ∧ (0 ≤ o ∧ o < (xs.length : Int))
 ·obtain ⟨j, rfl⟩ := Int.eq_ofNat_of_zero_le c.1.1
  obtain ⟨i, rfl⟩ := Int.eq_ofNat_of_zero_le c.2.1
  obtain ⟨r, hr⟩ := h.tree.rank
  obtain ⟨k, b, hk, hb⟩ := within_some h i (r j + 1) j (by omega) r hr (by omega)
  refine ⟨k, b, by rw [if_pos c]; exact hk, fun i' j' h1 h2 _ _ => ?_⟩
  obtain rfl : j = j' := by omega
  obtain rfl : i = i' := by omega
  exact hb
 ·refine ⟨0, false, by rw [if_neg c], fun i j h1 h2 h3 h4 => absurd ?_ c⟩
  omega
/-- Rows whose first may be at depth a. -/
def DepthOk : Int → List S54 → Prop
 | _, [] => True
 | a, x :: l => 0 ≤ x.f0 ∧ x.f0 ≤ a ∧ DepthOk (x.f0 + 1) l
theorem rowsL_some (h : Good M xs) (s : Int) (r : Nat → Nat) (hr : ∀ i p : Nat, up9 xs i = (p : Int) → r p < r i) :
  ∀ (m : Nat) (pop : List Int) (stk : List (Int × Int)) (out : List S54) (a : Int), pop.length + m = xs.length → 0 ≤ a →
   (pop ++ stk.map (·.1)).Nodup → (∀ v ∈ pop ++ stk.map (·.1), (0 ≤ v ∧ v < (xs.length : Int)) ∧ (v = s ∨ up9 xs v.toNat ∈ pop) ∧ r s.toNat ≤ r v.toNat) →
   (∀ q ∈ stk, -1 ≤ q.2 ∧ q.2 ≤ a ∧ q.2 ≤ (pop.length : Int) ∧ (q.1 ≠ 0 → 0 ≤ q.2) ∧ (q.1 = 0 → q.2 = -1)) → stk.Pairwise (fun x y => y.2 ≤ x.2) → out.length ≤ pop.length →
   ∃ new, rowsL xs (m + 1) stk out = some (out ++ new) ∧ DepthOk a new ∧ new.length ≤ m ∧ (∀ x ∈ new, x.f4.length ≤ M) ∧ (∀ q rest, stk = q :: rest → q.1 ≠ 0 → new ≠ []) := by
 have hlen := h.len
 intro m
 induction m with
 | zero =>
  intro pop stk out a hm ha hd hv hs hp ho
  cases stk with
  | nil => exact ⟨[], by simp [rowsL], trivial, Nat.le_refl _, by simp, by simp⟩
  | cons q rest =>
   have := pigeon xs.length _ hd fun k hk => (hv k hk).1
   simp at this
   omega
 | succ m ih =>
  intro pop stk out a hm ha hd hv hs hp ho
  cases stk with
  | nil => exact ⟨[], by simp [rowsL], trivial, Nat.zero_le _, by simp, by simp⟩
  | cons q rest =>
   have hlen2 := pigeon xs.length _ hd fun k hk => (hv k hk).1
   simp at hlen2
   obtain ⟨d, e⟩ := q
   have hq := hs (d, e) List.mem_cons_self
   have hqv := hv d (by simp)
   dsimp only at hq
   obtain ⟨i, rfl⟩ := Int.eq_ofNat_of_zero_le hqv.1.1
   have hi : i < xs.length := by omega
   have hnew : (((i : Int) :: pop) ++ ((((ks9 xs i).map fun q => (q, e + 1)) ++ rest).map (·.1))).Nodup := by
    rw [List.map_append, List.map_map, show ((fun x : Int × Int => x.1) ∘ fun q => (q, e + 1)) = id from rfl, List.map_id]
    have p1 : (((i : Int) :: pop) ++ (ks9 xs i ++ rest.map (·.1))).Perm (ks9 xs i ++ (pop ++ (i : Int) :: rest.map (·.1))) :=
     (List.perm_append_comm_assoc _ _ _).trans (List.Perm.append_left _ List.perm_middle.symm)
    rw [p1.nodup_iff, List.nodup_append]
    refine ⟨h.tree.nodup i, by simpa using hd, fun k hk k' hk' ek => ?_⟩
    subst ek
    obtain ⟨j, rfl, hj, hu⟩ := h.tree.kid i k hk
    have h1 := hv (j : Int) (by simpa using hk')
    have h2 := hr j i hu
    rw [Int.toNat_natCast] at h1
    rcases h1.2.1 with h3 | h3
    ·subst h3
     rw [Int.toNat_natCast] at hqv h1
     have := hqv.2.2
     rw [Int.toNat_natCast] at this
     omega
    ·rw [hu] at h3
     rw [List.nodup_append] at hd
     exact hd.2.2 _ h3 _ (by simp) rfl
   refine Exists.elim (ih ((i : Int) :: pop) (((ks9 xs i).map fun q => (q, e + 1)) ++ rest) (if (i : Int) = 0 then out else out ++ [rowAt xs ((i : Int), e)]) (if (i : Int) = 0 then a else e + 1) (by simp; omega) (by split <;> omega) hnew ?_ ?_ ?_ (by split <;> simp <;> omega)) (fun new hn => ?_)
   ·intro v hv2
    have hv3 : v ∈ ks9 xs i ∨ v ∈ pop ++ (((i : Int), e) :: rest).map (·.1) := by
     rw [List.map_append, List.map_map, show ((fun x : Int × Int => x.1) ∘ fun q => (q, e + 1)) = id from rfl, List.map_id] at hv2
     simp only [List.mem_append, List.mem_cons, List.map_cons] at hv2 ⊢
     rcases hv2 with (h1 | h1) | h1 | h1
     ·exact .inr (.inr (.inl h1))
     ·exact .inr (.inl h1)
     ·exact .inl h1
     ·exact .inr (.inr (.inr h1))
    rcases hv3 with hk | hk
    ·obtain ⟨j, rfl, hj, hu⟩ := h.tree.kid i v hk
     have h2 := hr j i hu
     have h3 := hqv.2.2
     rw [Int.toNat_natCast] at h3 ⊢
     exact ⟨⟨by omega, by omega⟩, .inr (by rw [hu]; exact List.mem_cons_self), by omega⟩
    ·obtain ⟨h1, h2, h3⟩ := hv v hk
     exact ⟨h1, h2.imp id fun h => List.mem_cons_of_mem _ h, h3⟩
   ·intro q hq2
    rcases List.mem_append.1 hq2 with h5 | h5
    ·obtain ⟨k, hk, rfl⟩ := List.mem_map.1 h5
     refine ⟨by dsimp only; omega, ?_, by dsimp only; simp; omega, fun _ => by dsimp only; omega, fun h0 => by dsimp only at h0; subst h0; exact absurd hk (h.tree.zero i)⟩
     dsimp only
     split
     ·rename_i e0
      have := hq.2.2.2.2 e0
      omega
     ·omega
    ·have h6 := hs q (List.mem_cons_of_mem _ h5)
     have h7 : q.2 ≤ e := (List.pairwise_cons.1 hp).1 q h5
     refine ⟨h6.1, ?_, by simp; omega, h6.2.2.2⟩
     split <;> omega
   ·refine List.pairwise_append.2 ⟨?_, (List.pairwise_cons.1 hp).2, fun x hx y hy => ?_⟩
    ·rw [List.pairwise_map]
     exact List.pairwise_of_forall fun _ _ => Int.le_refl _
    ·obtain ⟨k, hk, rfl⟩ := List.mem_map.1 hx
     have h7 : y.2 ≤ e := (List.pairwise_cons.1 hp).1 y hy
     dsimp only
     omega
   ·obtain ⟨h1, h2, h3, h4, _⟩ := hn
    refine ⟨(if (i : Int) = 0 then [] else [rowAt xs ((i : Int), e)]) ++ new, ?_, ?_, ?_, ?_, ?_⟩
    ·simp only [rowsL]
     rw [if_pos ⟨by omega, hqv.1.2, hq.1, by omega, by omega, by omega⟩]
     refine (show _ = _ from h1).trans ?_
     split <;> simp
    ·split
     ·rename_i e0
      rw [if_pos e0] at h2
      exact h2
     ·rename_i e0
      rw [if_neg e0] at h2
      exact ⟨hq.2.2.2.1 e0, hq.2.1, h2⟩
    ·rw [List.length_append]
     split <;> simp <;> omega
    ·intro x hx
     rcases List.mem_append.1 hx with hx | hx
     ·split at hx
      ·cases hx
      ·rw [List.mem_singleton.1 hx]
       exact h.attrs i
     ·exact h4 x hx
    ·intro q rest' heq hne
     injection heq with heq _
     subst heq
     rw [if_neg hne]
     simp
theorem rowsR_some (h : Good M xs) (n : Int) : ∃ new, rowsR xs (xs.length + 1) n = some new ∧ DepthOk 0 new ∧ new.length ≤ xs.length ∧ (∀ x ∈ new, x.f4.length ≤ M) ∧ (someB xs n = true → new ≠ []) := by
 unfold rowsR inB someB
 by_cases c : 0 ≤ n ∧ n < (xs.length : Int)
 ·rw [decide_eq_true c, if_neg (by decide)]
  obtain ⟨r, hr⟩ := h.tree.rank
  obtain ⟨new, h1, h2, h3, h4, h5⟩ := rowsL_some h n r hr xs.length [] [(n, if n = 0 then -1 else 0)] [] 0 (by simp) (by omega) (by simp) (by simp; exact c) (fun q hq => by
   rw [List.mem_singleton.1 hq]
   dsimp only
   split
   ·exact ⟨by omega, by omega, by simp, fun h => absurd ‹n = 0› h, fun _ => rfl⟩
   ·exact ⟨by omega, by omega, by simp, fun _ => by omega, fun h => absurd h ‹¬n = 0›⟩) (by simp) (by simp)
  refine ⟨new, h1, h2, h3, h4, fun h6 => h5 _ _ rfl ?_⟩
  have := of_decide_eq_true h6
  dsimp only
  omega
 ·rw [decide_eq_false c, if_pos rfl]
  refine ⟨[], rfl, trivial, Nat.zero_le _, by simp, fun h6 => ?_⟩
  have := of_decide_eq_true h6
  omega
theorem getD_mem {l : List Int} {i : Nat} (h : i < l.length) (z : Int) : l.getD i z ∈ l := by
 rw [List.getD_eq_getElem?_getD, List.getElem?_eq_getElem h]
 exact List.getElem_mem h
theorem under_leaf {n : Nat} {up : Nat → Int} {ks : Nat → List Int} (h : Tree n up ks) {i : Nat} (hk : ks i = []) : ∀ {j : Nat}, Under up i j → j = i := by
 intro j hu
 induction hu with
 | self => rfl
 | step h1 _ ih =>
  subst ih
  have := (h.lt h1).2.2
  rw [hk] at this
  cases this
theorem under_less {up : Nat → Int} {i j : Nat} (h : Under (fun j => if j = i then -1 else up j) i j) : Under up i j := by
 induction h with
 | self => exact .self
 | step h1 _ ih =>
  split at h1
  ·omega
  ·exact .step h1 ih
theorem loadL_some : ∀ (l : List S54) (xs : List S79) (roots ar : List Int), Good M xs → M < 900000 → (∀ x ∈ l, x.f4.length ≤ M) → DepthOk (ar.length : Int) l → xs.length + l.length ≤ 4096 → roots.length ≤ xs.length → ar.length ≤ xs.length →
  (∀ v ∈ ar, 0 ≤ v ∧ v < (xs.length : Int)) → ∃ ys rs, loadL l xs roots ar = some (ys, roots ++ rs) ∧ Good M ys ∧ ys.length = xs.length + l.length ∧ (ar = [] → l ≠ [] → rs ≠ [])
 | [], xs, roots, ar, h, _, _, _, _, _, _, _ => ⟨xs, [], by simp [loadL], h, rfl, fun _ h => absurd rfl h⟩
 | x :: l, xs, roots, ar, h, hM, hx, hd, hl, hr, ha, hv => by
  have hx0 := hx x List.mem_cons_self
  have hxl : ∀ y ∈ l, y.f4.length ≤ M := fun y hy => hx y (List.mem_cons_of_mem _ hy)
  obtain ⟨d0, d1, d2⟩ := hd
  simp only [List.length_cons] at hl
  have hg := h.add x hx0 (by omega)
  have hal : (addN xs x).length = xs.length + 1 := by simp [addN]
  have hlen := h.len
  simp only [loadL]
  rw [if_pos ⟨d0, by omega, by omega, by omega, by omega, by omega⟩]
  by_cases c : x.f0 = 0
  ·rw [if_pos c]
   rw [c] at d2
   obtain ⟨ys, rs, h1, h2, h3, _⟩ := loadL_some l (addN xs x) (roots ++ [(xs.length : Int)]) [(xs.length : Int)] hg hM hxl d2 (by omega) (by rw [hal, List.length_append]; simp; omega) (by rw [hal]; simp) (fun v hv => by rw [List.mem_singleton.1 hv, hal]; omega)
   exact ⟨ys, (xs.length : Int) :: rs, by rw [h1, List.append_assoc]; rfl, h2, by rw [h3, hal, List.length_cons]; omega, fun _ _ => by simp⟩
  ·rw [if_neg c]
   have hq := hv _ (getD_mem (show x.f0.toNat - 1 < ar.length by omega) 0)
   generalize ar.getD (x.f0.toNat - 1) 0 = q at hq ⊢
   obtain ⟨p, rfl⟩ := Int.eq_ofNat_of_zero_le hq.1
   have hkl := hg.kids_le p
   rw [hal] at hkl
   unfold ks9 at hkl
   rw [if_pos ⟨hq.1, hq.2, by omega⟩, Int.toNat_natCast]
   have hleaf : ks9 (addN xs x) xs.length = [] := by unfold ks9 addN; rw [rd_add, if_pos rfl]
   have hpos := h.tree.pos
   have hp := hg.put p (rd_T79 (addN xs x) (p : Int)).f2.length xs.length (by omega) (by omega) (by omega) (by unfold up9 addN; rw [rd_add, if_pos rfl]; split <;> rfl) (fun hu => by have := under_leaf hg.tree hleaf hu; omega)
   obtain ⟨ys, rs, h1, h2, h3, _⟩ := loadL_some l (putN (addN xs x) p (rd_T79 (addN xs x) (p : Int)).f2.length xs.length) roots (ar.take x.f0.toNat ++ [(xs.length : Int)]) hp hM hxl (by rw [List.length_append, List.length_take]; simp only [List.length_cons, List.length_nil]; rw [show ((min x.f0.toNat ar.length + (0 + 1) : Nat) : Int) = x.f0 + 1 by omega]; exact d2) (by rw [putN_length]; omega) (by rw [putN_length]; omega) (by rw [putN_length, List.length_append, List.length_take]; simp; omega) (fun v hv2 => by
    rw [putN_length, hal]
    rcases List.mem_append.1 hv2 with h5 | h5
    ·have := hv v (List.mem_of_mem_take h5); omega
    ·rw [List.mem_singleton.1 h5]; omega)
   refine ⟨ys, rs, h1, h2, by rw [h3, putN_length, hal, List.length_cons]; omega, fun e _ => ?_⟩
   subst e
   simp at d1
   omega
/-- What a call keeps: an error changes nothing; no node is lost. -/
def Keeps (M : Nat) (xs : List S79) (e : Int) (ys : List S79) : Prop := (e ≠ 0 → ys = xs) ∧ xs.length ≤ ys.length ∧ Good M ys
theorem Keeps.same (h : Good M xs) (e : Int) : Keeps M xs e xs := ⟨fun _ => rfl, Nat.le_refl _, h⟩
theorem keeps_make (h : Good M xs) (m : Bool) (kind : Int) (name data : ByteArray) : Keeps M xs (makeR xs m kind name data).2.1 (makeR xs m kind name data).2.2 := by
 unfold makeR
 split
 ·exact .same h _
 ·split
  ·exact .same h _
  ·exact ⟨fun h => absurd rfl h, by simp [addN], h.add _ (Nat.zero_le _) (by omega)⟩
theorem keeps_remove (h : Good M xs) (n : Int) : Keeps M xs (removeR xs n).1 (removeR xs n).2 := by
 unfold removeR someB
 split
 ·rename_i c
  have := of_decide_eq_true c
  exact ⟨fun h => absurd rfl h, by rw [takeN_length]; exact Nat.le_refl _, h.take _ (by omega)⟩
 ·exact .same h _
theorem keeps_data (h : Good M xs) (n : Int) (s : ByteArray) : Keeps M xs (dataR xs n s).1 (dataR xs n s).2 := by
 unfold dataR someB
 split
 ·rename_i c
  simp only [Bool.and_eq_true, decide_eq_true_eq] at c
  obtain ⟨i, rfl⟩ := Int.eq_ofNat_of_zero_le (show 0 ≤ n by omega)
  rw [Int.toNat_natCast]
  exact ⟨fun h => absurd rfl h, by simp, h.row i (withData (rd_T79 xs (i : Int)) s) rfl rfl (h.attrs i) (Nat.le_refl _)⟩
 ·exact .same h _
theorem keeps_insert (h : Good M xs) (p a n : Int) : ∃ k r, insertR xs k p a n = some r ∧ Keeps M xs r.1 r.2 := by
 unfold insertR inB someB
 obtain ⟨k, b, hk, hb⟩ := withinF_some h p n
 refine ⟨k, ?_⟩
 by_cases c1 : 0 ≤ p ∧ p < (xs.length : Int)
 ·rw [decide_eq_true c1, if_neg (by decide)]
  by_cases c2 : 0 < n ∧ n < (xs.length : Int)
  ·rw [decide_eq_true c2, if_neg (by decide)]
   split
   ·exact ⟨_, rfl, .same h _⟩
   ·rw [hk]
    cases b with
    | true => exact ⟨_, rfl, .same h _⟩
    | false =>
     dsimp only
     split
     ·exact ⟨_, rfl, .same h _⟩
     ·refine ⟨_, rfl, fun h => absurd rfl h, by rw [putN_length, takeN_length]; exact Nat.le_refl _, ?_⟩
      obtain ⟨j, rfl⟩ := Int.eq_ofNat_of_zero_le c1.1
      obtain ⟨i, rfl⟩ := Int.eq_ofNat_of_zero_le (show 0 ≤ n by omega)
      have hb2 := hb i j rfl rfl (by omega) (by omega)
      simp only [Int.toNat_natCast]
      have hnu : ¬ Under (up9 xs) i j := fun hu => by simpa using hb2.2 hu
      have e1 := (takeN_up h i (by omega)).1
      refine (h.take i (by omega)).put j a.toNat i (by rw [takeN_length]; omega) (by rw [takeN_length]; omega) (by omega) (by rw [e1]; exact if_pos rfl) fun hu => hnu ?_
      rw [e1] at hu
      exact under_less hu
  ·rw [decide_eq_false c2, if_pos rfl]
   exact ⟨_, rfl, .same h _⟩
 ·rw [decide_eq_false c1, if_pos rfl]
  exact ⟨_, rfl, .same h _⟩
theorem keeps_clone (h : Good M xs) (hM : M < 900000) (n : Int) : ∃ k r, cloneR xs k n = some r ∧ Keeps M xs r.2.2 r.1 := by
 obtain ⟨new, h1, h2, h3, h4, h5⟩ := rowsR_some h n
 refine ⟨xs.length + 1, ?_⟩
 unfold cloneR
 cases hs : someB xs n with
 | false => exact ⟨_, by rw [if_pos rfl], .same h _⟩
 | true =>
  rw [if_neg (by decide), h1]
  dsimp only
  split
  ·exact ⟨_, rfl, .same h _⟩
  ·obtain ⟨ys, rs, g1, g2, g3, g4⟩ := loadL_some new xs [] [] h hM h4 (by simpa using h2) (by omega) (by simp) (by simp) (by simp)
   have g5 := g4 rfl (h5 hs)
   rw [g1]
   cases rs with
   | nil => exact absurd rfl g5
   | cons q rs => exact ⟨_, rfl, fun h => absurd rfl h, by rw [g3]; omega, g2⟩
theorem keeps_load (h : Good M xs) (hM : M < 900000) (l : List S54) (k : Nat) (e : Int) (hk : rows_Check.f k l = some e) (hd : e = 0 → DepthOk 0 l) (hx : ∀ x ∈ l, x.f4.length ≤ M) : ∃ r, loadR xs k l = some r ∧ Keeps M xs r.2.2 r.1 := by
 unfold loadR
 rw [hk]
 dsimp only
 split
 ·exact ⟨_, rfl, .same h _⟩
 ·rename_i c
  split
  ·exact ⟨_, rfl, .same h _⟩
  ·obtain ⟨ys, rs, g1, g2, g3, g4⟩ := loadL_some l xs [] [] h hM hx (by simpa using hd (by omega)) (by omega) (by simp) (by simp) (by simp)
   rw [g1]
   exact ⟨_, rfl, fun h => absurd rfl h, by dsimp only; omega, g2⟩
theorem setAttr_le (n v : ByteArray) : ∀ l : List S52, (setAttr l n v).length ≤ l.length + 1
 | [] => by simp [setAttr]
 | a :: l => by
  have := setAttr_le n v l
  simp only [setAttr]
  split <;> simp <;> omega
theorem keeps_attr (h : Good M xs) (k : Nat) (n : Int) (name value : ByteArray) (b : Bool) (hN : names_Attr.f k name = some b) : ∃ r, attrR xs k n name value = some r ∧ Keeps (M + 1) xs r.1 r.2 := by
 unfold attrR
 have hw := h.weak (Nat.le_succ M)
 by_cases c : elemB xs n = false
 ·rw [if_pos c]
  exact ⟨_, rfl, .same hw _⟩
 ·rw [if_neg c, hN]
  cases b with
  | false => exact ⟨_, rfl, .same hw _⟩
  | true =>
   refine ⟨_, rfl, fun h => absurd rfl h, by simp, ?_⟩
   have c2 : elemB xs n = true := by simpa using c
   have c3 := of_decide_eq_true c2
   obtain ⟨i, rfl⟩ := Int.eq_ofNat_of_zero_le (show 0 ≤ n by omega)
   rw [Int.toNat_natCast]
   exact h.row i (withAttrs (rd_T79 xs (i : Int)) (setAttr (rd_T79 xs (i : Int)).f0.f4 name value)) rfl rfl (Nat.le_trans (setAttr_le _ _ _) (Nat.succ_le_succ (h.attrs i))) (Nat.le_succ M)
theorem keeps_drop (h : Good M xs) (n : Int) (name : ByteArray) : Keeps M xs (dropR xs n name).1 (dropR xs n name).2 := by
 unfold dropR
 by_cases c : elemB xs n = false
 ·rw [if_pos c]
  exact .same h _
 ·rw [if_neg c]
  split
  ·exact .same h _
  ·refine ⟨fun h => absurd rfl h, by simp, ?_⟩
   have c2 : elemB xs n = true := by simpa using c
   have c3 := of_decide_eq_true c2
   obtain ⟨i, rfl⟩ := Int.eq_ofNat_of_zero_le (show 0 ≤ n by omega)
   rw [Int.toNat_natCast]
   exact h.row i (withAttrs (rd_T79 xs (i : Int)) ((rd_T79 xs (i : Int)).f0.f4.eraseIdx (idxA name 0 (rd_T79 xs (i : Int)).f0.f4).toNat)) rfl rfl (Nat.le_trans (List.length_eraseIdx_le _ _) (h.attrs i)) (Nat.le_refl M)
theorem good_new : Good 0 newDoc := by
 refine ⟨⟨by decide, rfl, fun i => .inl ?_, fun p k hk => ?_, fun p => ?_, ⟨fun _ => 0, fun i p hp => ?_⟩⟩, fun i => ?_, by decide⟩
 ·match i with
  | 0 => rfl
  | i + 1 => unfold up9; rw [if_neg (by simp [newDoc])]
 ·match p with
  | 0 => cases hk
  | p + 1 => unfold ks9 at hk; rw [rd_out _ _ (by simp [newDoc])] at hk; cases hk
 ·match p with
  | 0 => exact List.nodup_nil
  | p + 1 => unfold ks9; rw [rd_out _ _ (by simp [newDoc])]; exact List.nodup_nil
 ·match i with
  | 0 => exact absurd hp (by show (-1 : Int) ≠ _; omega)
  | i + 1 => unfold up9 at hp; rw [if_neg (by simp [newDoc])] at hp; omega
 ·match i with
  | 0 => exact Nat.le_refl _
  | i + 1 => rw [rd_out _ _ (by simp [newDoc])]; exact Nat.le_refl _
end
end Go.Proofs.Ytpkaliaaffgbdaa.QA
namespace Go.Proofs.Ytpkaliaaffgbdaa.QA
open Go.RowKit Go.Proofs.YtpkaliaaffgbdaaW.PrintWords Go.Proofs.YtpkaliaaffgbdaaW.PrintLast Go.Proofs.YtpkaliaaffgbdaaW.PrintMore
attribute [local go_sem] max2_int min2_int max_two min_two max_three min_three max_four min_four   -- for this text's walks alone
set_option linter.unusedVariables false
set_option linter.unusedSimpArgs false

open Go
/-- The names behind place i differ from all ahead of them. -/
def NoTwo (l : List S52) (i : Nat) : Prop := ∀ a b : Nat, a < b → i ≤ b → b < l.length → (rd_T52 l (a : Int)).f0.toList ≠ (rd_T52 l (b : Int)).f0.toList
def NoneLike (l : List S52) (i j : Nat) : Prop := ∀ a : Nat, j ≤ a → a < i → (rd_T52 l (a : Int)).f0.toList ≠ (rd_T52 l (i : Int)).f0.toList
theorem noTwo_step {l : List S52} {i : Nat} (h : i < l.length) : NoTwo l i ↔ NoneLike l i 0 ∧ NoTwo l (i + 1) := by
 constructor
 ·intro H
  exact ⟨fun a _ hai => H a i hai (Nat.le_refl _) h, fun a b hab hib hb => H a b hab (by omega) hb⟩
 ·rintro ⟨H1, H2⟩ a b hab hib hb
  by_cases e : b = i
  ·subst e; exact H1 a (Nat.zero_le _) hab
  ·exact H2 a b hab (by omega) hb
theorem noneLike_step {l : List S52} {i j : Nat} (h : j < i) : NoneLike l i j ↔ ((rd_T52 l (j : Int)).f0.toList ≠ (rd_T52 l (i : Int)).f0.toList ∧ NoneLike l i (j + 1)) := by
 constructor
 ·intro H
  exact ⟨H j (Nat.le_refl _) h, fun a ha hai => H a (by omega) hai⟩
 ·rintro ⟨H1, H2⟩ a ha hai
  by_cases e : a = j
  ·subst e; exact H1
  ·exact H2 a (by omega) hai
theorem rd46_take (l : List S52) (i j : Nat) (h : j < i) : rd_T52 (l.take i) (j : Int) = rd_T52 l (j : Int) := by
 simp [rd_T52, List.getElem?_take, h]
open Classical in
theorem row_l1 (l : List S52) (hm : l.length < 9223372036854775807) (a0 a1 : Int) (a2 a3 : ByteArray) (i : Nat) (hi : i < l.length) (K : Nat) (v : Bool)
  (hnext : ∀ k, K < k → rows_row.l0 k l (l.length : Int) ((i + 1 : Nat) : Int) a0 a1 a2 a3 l = some v) : ∀ e j k, j + e = i → K + e + 1 < k →
  rows_row.l1 k l (l.length : Int) (i : Int) (l.take i) ((l.take i).length : Int) (j : Int) a0 a1 a2 a3 l (rd_T52 l (i : Int)).f0 (rd_T52 l (i : Int)).f1 = some (decide (NoneLike l i j) && v) := by
 have hti : (l.take i).length = i := by rw [List.length_take]; omega
 intro e
 induction e with
 | zero =>
  intro j k hj hk
  obtain ⟨k, rfl⟩ : ∃ m, k = m + 1 := ⟨k - 1, by omega⟩
  simp only [rows_row.l1]
  rw [hti, if_neg (by omega), up1 (by omega), hnext k (by omega)]
  have : NoneLike l i j := fun a ha hai => by omega
  simp [this]
 | succ e ih =>
  intro j k hj hk
  obtain ⟨k, rfl⟩ : ∃ m, k = m + 1 := ⟨k - 1, by omega⟩
  simp only [rows_row.l1]
  rw [if_pos (by rw [hti]; omega), if_pos (by omega), if_pos (by rw [hti]; omega), rd46_take l i j (by omega)]
  have hs := noneLike_step (l := l) (i := i) (j := j) (by omega)
  by_cases hq : (rd_T52 l (i : Int)).f0.toList = (rd_T52 l (j : Int)).f0.toList
  ·rw [if_pos hq]
   have : ¬ NoneLike l i j := fun h => (hs.1 h).1 hq.symm
   simp [this]
  ·rw [if_neg hq, up1 (by omega), ih (j + 1) k (by omega) (by omega)]
   have : decide (NoneLike l i j) = decide (NoneLike l i (j + 1)) := by
    apply decide_eq_decide.2
    exact ⟨fun h => (hs.1 h).2, fun h => hs.2 ⟨fun e => hq e.symm, h⟩⟩
   rw [this]
open Classical in
theorem row_l0 (l : List S52) (hm : l.length < 9223372036854775807) (a0 a1 : Int) (a2 a3 : ByteArray) : ∀ d i k, i + d = l.length → d * (l.length + 3) < k →
  rows_row.l0 k l (l.length : Int) (i : Int) a0 a1 a2 a3 l = some (decide (NoTwo l i)) := by
 intro d
 induction d with
 | zero =>
  intro i k hi hk
  obtain ⟨k, rfl⟩ : ∃ m, k = m + 1 := ⟨k - 1, by omega⟩
  simp only [rows_row.l0]
  rw [if_neg (by omega)]
  have : NoTwo l i := fun a b hab hib hb => by omega
  simp [this]
 | succ d ih =>
  intro i k hi hk
  obtain ⟨k, rfl⟩ : ∃ m, k = m + 1 := ⟨k - 1, by omega⟩
  rw [Nat.succ_mul] at hk
  simp only [rows_row.l0]
  rw [if_pos (by omega), if_pos (by omega), if_pos (by omega), if_pos (by omega)]
  simp only [Option.bind_some, Int.toNat_natCast]
  have h1 := row_l1 l hm a0 a1 a2 a3 i (by omega) (d * (l.length + 3)) (decide (NoTwo l (i + 1))) (fun k hk => ih (i + 1) k (by omega) hk) i 0 k (by omega) (by omega)
  rw [Int.natCast_zero] at h1
  rw [h1]
  congr 1
  rw [← Bool.decide_and]
  exact decide_eq_decide.2 (noTwo_step (by omega)).symm
/-- May a row be, by itself? -/
def RowOk (x : S54) : Prop := if x.f1 = 1 ∨ x.f1 = 2 then x.f2.toList = [] ∧ x.f4.length = 0 else x.f1 = 0 ∧ x.f2.toList ≠ [] ∧ x.f3.toList = [] ∧ NoTwo x.f4 0
theorem len_eq0 {α : Type} (l : List α) : ((l.length : Int) == 0) = decide (l = []) := by
 cases l with
 | nil => rfl
 | cons x l => simp; omega
open Classical in
theorem row_is (x : S54) (hm : x.f4.length < 9223372036854775807) (k : Nat) (hk : x.f4.length * (x.f4.length + 3) + 4 < k) : rows_row.f k x.f0 x.f1 x.f2 x.f3 x.f4 = some (decide (RowOk x)) := by
 obtain ⟨k, rfl⟩ : ∃ m, k = m + 1 := ⟨k - 1, by omega⟩
 obtain ⟨k, rfl⟩ : ∃ m, k = m + 1 := ⟨k - 1, by omega⟩
 have h0 := row_l0 x.f4 hm x.f0 x.f1 x.f2 x.f3 x.f4.length 0 k (by omega) (by omega)
 rw [Int.natCast_zero] at h0
 unfold rows_row.f RowOk
 by_cases h1 : x.f1 = 1
 ·simp only [h1, rows_row.j0, true_or, if_true]
  by_cases h2 : x.f2.toList = []
  ·simp [h2, len_eq0]
  ·simp [h2]
 ·by_cases h2 : x.f1 = 2
  ·simp only [h2, rows_row.j0, or_true, if_true, beq_self_eq_true]
   by_cases h3 : x.f2.toList = []
   ·simp [h3, len_eq0]
   ·simp [h3]
  ·have hb : (x.f1 == 2) = false := beq_eq_false_iff_ne.2 h2
   simp only [h1, h2, hb, rows_row.j0, rows_row.j1, or_self, if_false, Bool.false_eq_true]
   by_cases h3 : x.f1 = 0
   ·by_cases h4 : x.f2.toList = []
    ·simp [h3, h4]
    ·by_cases h5 : x.f3.toList = []
     ·simp [h3, h4, h5] at h0 ⊢
      exact h0
     ·simp [h3, h4, h5]
   ·simp [h3]

/-- The deepest that the row behind x may be. -/
def nxt (x : S54) : Int := if x.f1 = 0 then x.f0 + 1 else x.f0
/-- Rows that are right, where the first may be at depth d. -/
def RightL : Int → List S54 → Prop
 | _, [] => True
 | d, x :: l => (0 ≤ x.f0 ∧ x.f0 ≤ d ∧ RowOk x) ∧ RightL (nxt x) l
/-- No more rows and attributes than the statements let in. -/
def Few (l : List S54) : Prop := l.length ≤ 1000000 ∧ ∀ x ∈ l, x.f4.length ≤ 8
theorem few_fuel {n : Nat} (h : n ≤ 8) : n * (n + 3) ≤ 88 := by
 have : n * (n + 3) ≤ 8 * 11 := Nat.mul_le_mul h (by omega)
 omega
theorem upI {a : Int} (h0 : -9223372036854775808 ≤ a) (h : a < 9223372036854775807) : wrap64 (a + 1) = a + 1 := by
 unfold wrap64; omega
theorem dn1 {i : Nat} (h : i < 9223372036854775807) : wrap64 (((i + 1 : Nat) : Int) - 1) = (i : Int) := by
 unfold wrap64; omega
open Classical in
theorem right_l0 (l : List S54) (hF : Few l) : ∀ e i k (d : Int), i + e = l.length → 0 ≤ d → d ≤ i → 3 * e + 200 < k →
  rows_right.l0 k d l (l.length : Int) (i : Int) = some (decide (RightL d (l.drop i))) := by
 have hn := hF.1
 intro e
 induction e with
 | zero =>
  intro i k d hi h0 h1 hk
  obtain ⟨k, rfl⟩ : ∃ m, k = m + 1 := ⟨k - 1, by omega⟩
  simp only [rows_right.l0]
  rw [if_neg (by omega), List.drop_of_length_le (by omega)]
  exact congrArg some (decide_eq_true (show RightL d [] from trivial)).symm
 | succ e ih =>
  intro i k d hi h0 h1 hk
  obtain ⟨k, rfl⟩ : ∃ m, k = m + 2 := ⟨k - 2, by omega⟩
  have hil : i < l.length := by omega
  have hx8 := hF.2 l[i] (List.getElem_mem hil)
  simp only [rows_right.l0]
  rw [if_pos (by omega), if_pos (by omega), if_pos (by omega), rd_T54_at l i hil, List.drop_eq_getElem_cons hil]
  obtain ⟨x, hx⟩ : ∃ x, l[i] = x := ⟨_, rfl⟩
  rw [hx] at hx8 ⊢
  have hf := few_fuel hx8
  by_cases c0 : x.f0 < 0
  ·rw [if_pos c0]
   have : ¬ RightL d (x :: l.drop (i + 1)) := fun h => by have := h.1.1; omega
   simp [rows_right.j1, this]
  ·rw [if_neg c0]
   by_cases c1 : x.f0 > d
   ·rw [if_pos c1]
    have : ¬ RightL d (x :: l.drop (i + 1)) := fun h => by have := h.1.2.1; omega
    simp [rows_right.j1, this]
   ·rw [if_neg c1, row_is x (by omega) (k + 1) (by omega)]
    simp only [Option.bind_some, rows_right.j1]
    by_cases c2 : RowOk x
    ·have he : RightL d (x :: l.drop (i + 1)) ↔ RightL (nxt x) (l.drop (i + 1)) := ⟨fun h => h.2, fun h => ⟨⟨by omega, by omega, c2⟩, h⟩⟩
     rw [decide_eq_true c2, if_neg (by decide), up1 (by omega), decide_eq_decide.2 he]
     by_cases c3 : x.f1 = 0
     ·have hnx : nxt x = x.f0 + 1 := by simp [nxt, c3]
      rw [if_pos c3, upI (by omega) (by omega), ← hnx]
      exact ih (i + 1) k _ (by omega) (by omega) (by omega) (by omega)
     ·have hnx : nxt x = x.f0 := by simp [nxt, c3]
      rw [if_neg c3, ← hnx]
      exact ih (i + 1) k _ (by omega) (by omega) (by omega) (by omega)
    ·have : ¬ RightL d (x :: l.drop (i + 1)) := fun h => c2 h.1.2.2
     rw [decide_eq_false c2, if_pos (by decide), decide_eq_false this]
open Classical in
theorem rightL_is (l : List S54) (hF : Few l) (k : Nat) (hk : 3 * l.length + 200 < k) : rows_right.f k l = some (decide (RightL 0 l)) := by
 have := right_l0 l hF l.length 0 k 0 (by omega) (by omega) (by omega) hk
 rw [Int.natCast_zero, List.drop_zero] at this
 exact this
/-- What the check of rows answers. -/
def bigL (l : List S54) : Bool := l.any bigB || decide ((l.length : Int) > 4096)
open Classical in
noncomputable def chkV (l : List S54) : Int := if bigL l = true then 2 else if RightL 0 l then 0 else 40
theorem big_is (l : List S54) : rows_big.f l = some (bigL l) := by
 unfold rows_big.f bigL
 rw [Bool.or_comm]
open Classical in
theorem check_is (l : List S54) (hF : Few l) (k : Nat) (hk : 3 * l.length + 200 < k) : rows_Check.f k l = some (chkV l) := by
 unfold rows_Check.f chkV
 rw [big_is, rightL_is l hF k hk]
 simp only [Option.bind_some]
 by_cases c : bigL l = true
 ·rw [if_pos c, if_pos c]
 ·rw [if_neg c, if_neg c]
  by_cases c1 : RightL 0 l
  ·rw [if_pos c1, decide_eq_true c1]; rfl
  ·rw [if_neg c1, decide_eq_false c1]; rfl

theorem depth_more : ∀ (l : List S54) (a b : Int), a ≤ b → DepthOk a l → DepthOk b l
 | [], _, _, _, _ => trivial
 | _ :: _, _, _, h, h1 => ⟨h1.1, Int.le_trans h1.2.1 h, h1.2.2⟩
theorem depth_right : ∀ (l : List S54) (d : Int), RightL d l → DepthOk d l
 | [], _, _ => trivial
 | x :: l, d, h => ⟨h.1.1, h.1.2.1, depth_more l (nxt x) (x.f0 + 1) (by unfold nxt; split <;> omega) (depth_right l _ h.2)⟩
theorem check_some (l : List S54) (hF : Few l) : ∃ k e, rows_Check.f k l = some e ∧ (e = 0 → DepthOk 0 l) := by
 refine ⟨3 * l.length + 201, chkV l, check_is l hF _ (by omega), fun he => ?_⟩
 unfold chkV at he
 split at he
 ·omega
 ·split at he
  ·rename_i h
   exact depth_right l 0 h
  ·omega
theorem may_some (kind : Int) (name data : ByteArray) (hn : name.size ≤ 140737488351232) : ∃ k b, arena_may.f k kind name data = some b := by
 refine ⟨name.size * 9 + 1, ?_⟩
 unfold arena_may.f
 rw [right_is name hn _ (by omega)]
 simp only [Option.bind_some]
 repeat' split
 all_goals exact ⟨_, rfl⟩
end Go.Proofs.Ytpkaliaaffgbdaa.QA
namespace Go.Proofs.Ytpkaliaaffgbdaa.QA
open Go.RowKit Go.Proofs.YtpkaliaaffgbdaaW.PrintWords Go.Proofs.YtpkaliaaffgbdaaW.PrintLast Go.Proofs.YtpkaliaaffgbdaaW.PrintMore
attribute [local go_sem] max2_int min2_int max_two min_two max_three min_three max_four min_four   -- for this text's walks alone
set_option linter.unusedVariables false
set_option linter.unusedSimpArgs false

open Go
/-- A row's cells, its attributes anywhere. -/
def kP : Kd (S54 × Option Addr × Nat) where
 sz := 5
 E := []
 K := fun _ p cs => cs = [.int .i64 p.1.f0, .int .i64 p.1.f1, .string p.1.f2, .string p.1.f3, .slice p.2.1 p.1.f4.length p.2.2]
 M := fun _ _ _ p cs => cs = [.int .i64 p.1.f0, .int .i64 p.1.f1, .string p.1.f2, .string p.1.f3, .slice p.2.1 p.1.f4.length p.2.2]
 K_len := fun h => by rw [h]; rfl
 K_one := fun h u hu => by
  rw [h] at hu
  simp only [List.mem_cons, List.not_mem_nil, or_false] at hu
  rcases hu with rfl | rfl | rfl | rfl | rfl <;> rfl
 K_below := fun _ h => h
 K_of_M := fun h => h
 M_mono := fun _ h => h
 M_bound := fun h => h
 M_move := fun _ h => h
 M_lower := fun _ h => h
theorem kP_C {W : World} {A : Option Addr} {n : Nat} {ps : List (S54 × Option Addr × Nat)} (h : Kd.C kP W A n ps) (ha : ∀ p ∈ ps, p.1.f4.length ≤ p.2.2 ∧ Kd.C k52 W p.2.1 p.1.f4.length p.1.f4) : Kd.C k54 W A n (ps.map (·.1)) := by
 refine ⟨by rw [List.length_map]; exact h.1, h.2.1, fun hp => ?_⟩
 obtain ⟨ad, e, hc⟩ := h.2.2 hp
 refine ⟨ad, e, fun j p hj => ?_⟩
 rw [List.getElem?_map] at hj
 obtain ⟨q, hq, rfl⟩ := Option.map_eq_some_iff.1 hj
 obtain ⟨cs, h1, h2, h3⟩ := hc j q hq
 have h4 := ha q (List.mem_of_getElem? hq)
 have h5 : cs = _ := h2
 subst h5
 exact ⟨_, h1, k54_mk W q.1 h4.1 h4.2, h3⟩
theorem kP_mk {W : World} {base : Nat} {ok : Nat → Prop} {f0 f1 : Int} {f2 f3 : ByteArray} {f4 : List S52} {A4 : Option Addr} {c4 m : Nat} (h : f4.length = m) : kP.M W base ok (⟨f0, f1, f2, f3, f4⟩, A4, c4) [.int .i64 f0, .int .i64 f1, .string f2, .string f3, .slice A4 m c4] := by
 subst h
 rfl
theorem heap52 : Kd.Heap k52 := Kd.heap_iso _ (Kd.heap_pair Kd.heap_string Kd.heap_string)
def cutRow (x : S54) : S54 := ⟨x.f0, x.f1, x.f2, x.f3, x.f4.take 4⟩
def treesL (l : List S54) : List S54 := (l.take 12).map cutRow
/-- What trees has so far. -/
structure TreesInv (w0 w W : World) (l : List S54) (kk : Nat) (v : Value) (ps : List (S54 × Option Addr × Nat)) : Prop where
 bel : Below w.heap.size w W
 row : Kd.R kP 54 W 0 (fun k => w.heap.size ≤ k) v ps
 is : ps.map (·.1) = (l.take kk).map cutRow
 att : ∀ p ∈ ps, p.1.f4.length ≤ p.2.2 ∧ Kd.C k52 w0 p.2.1 p.1.f4.length p.1.f4
theorem TreesInv.len {w0 w W : World} {l : List S54} {kk : Nat} {v : Value} {ps : List (S54 × Option Addr × Nat)} (h : TreesInv w0 w W l kk v ps) (hk : kk ≤ l.length) : ps.length = kk := by
 have := congrArg List.length h.is
 simp at this
 omega
theorem TreesInv.put {w0 w W W1 W2 : World} {l : List S54} {kk : Nat} {v v2 : Value} {ps : List (S54 × Option Addr × Nat)} (h : TreesInv w0 w W l kk v ps) {x : S54} (hl : kk < l.length) (hx : l[kk] = x) (A4 : Option Addr) (c4 : Nat) (h4 : x.f4.length ≤ c4) (hK : Kd.C k52 w0 A4 x.f4.length x.f4)
  (hB : Below W.heap.size W W1) (hB2 : Below 0 W1 W2) (hg : W1.grownBy W2 v.ownBlock) (hR : Kd.R kP 54 W2 0 (fun k => w.heap.size ≤ k) v2 (ps ++ [(⟨x.f0, x.f1, x.f2, x.f3, x.f4.take 4⟩, A4, c4)])) : TreesInv w0 w W2 l (kk + 1) v2 (ps ++ [(⟨x.f0, x.f1, x.f2, x.f3, x.f4.take 4⟩, A4, c4)]) := by
 have hb := below_step h.bel hB
 refine ⟨⟨hB2.os.trans hb.os, hB2.tape.trans hb.tape, hB2.output.trans hb.output, Nat.le_trans hb.size hg.size, fun k hk => (hg.block k (Nat.lt_of_lt_of_le hk hb.size) fun e => ?_).trans (hb.block k hk)⟩, hR, ?_, fun p hp => ?_⟩
 ·have := h.row.1 k e.symm
  omega
 ·rw [List.map_append, h.is, List.take_add_one (l := l), List.getElem?_eq_getElem hl, hx, List.map_append]
  rfl
 ·rcases List.mem_append.1 hp with hp | hp
  ·exact h.att p hp
  ·rw [List.mem_singleton.1 hp]
   dsimp only
   refine ⟨by rw [List.length_take]; omega, ?_⟩
   by_cases h5 : 4 ≤ x.f4.length
   ·exact Kd.C_take hK h5
   ·rw [List.take_of_length_le (by omega)]
    exact hK
theorem TreesInv.done {w0 w W : World} {l : List S54} {kk : Nat} {v : Value} {ps : List (S54 × Option Addr × Nat)} (h : TreesInv w0 w W l kk v ps) (h0 : Below w0.heap.size w0 w) : ∃ A c, v = .slice A ((l.take kk).map cutRow).length c ∧ ((l.take kk).map cutRow).length ≤ c ∧ Kd.F k54 W (fun k => k < w0.heap.size ∨ w.heap.size ≤ k) A ((l.take kk).map cutRow).length ((l.take kk).map cutRow) ∧ Below w.heap.size w W := by
 obtain ⟨A, c, rfl⟩ := Kd.R_slice h.row
 rw [← h.is, List.length_map]
 refine ⟨A, c, rfl, (Kd.R_reads' h.row).2.1, fun W' hW => kP_C (Kd.R_reads' (Kd.R_step h.row fun k hk hl => hW k (.inr hk) hl)).2.2 fun p hp => ⟨(h.att p hp).1, heap52.C (fun k hk => ?_) (h.att p hp).2⟩, h.bel⟩
 have h1 := h0.block k hk
 have h2 := h.bel.block k (Nat.lt_of_lt_of_le hk h0.size)
 have h3 := hW k (.inl hk) (Nat.lt_of_lt_of_le hk (Nat.le_trans h0.size h.bel.size))
 exact h3.trans (h2.trans h1)
set_option maxHeartbeats 4000000 in
set_option maxRecDepth 100000 in
theorem trees_calls (w0 w : World) (h0 : Below w0.heap.size w0 w) (A : Option Addr) (c : Nat) (l : List S54) (hC : Kd.C k54 w0 A l.length l) (hc : l.length ≤ c) :
  Calls Try.prog 34 #[.slice A l.length c] w fun e w' => ∃ A' c', e = .returned (.slice A' (treesL l).length c') ∧ (treesL l).length ≤ c' ∧ Kd.F k54 w' (fun k => k < w0.heap.size ∨ w.heap.size ≤ k) A' (treesL l).length (treesL l) ∧ Below w.heap.size w w' := by
 have HC := Aside0.mk hC
 have H0 := Aside0.mk h0
 clear hC h0
 go_enter Try.func34, Try.ntmps34
 go_wp2
 have HI : Aside0 (TreesInv w0 w (w.alloc (.cells #[] 54)) l 0 (.slice (some ⟨w.heap.size, 0, none⟩) 0 0) []) := ⟨⟨below_alloc (Below.refl _ _) _, ⟨fun k hk => by
  injection hk with hk
  subst hk
  exact Nat.le_refl _, _, ⟨rfl, .inr ⟨w.heap.size, 0, _, rfl, Nat.zero_le _, blk_new _ _, Nat.le_refl _, by decide, rfl, rfl⟩⟩, Reps.none _ _⟩, rfl, by simp⟩⟩
 go_loopg [3, 4] l.length (fun gg v3 v4 W => ∃ (kk : Nat) (ps : List (S54 × Option Addr × Nat)), kk ≤ l.length ∧ kk ≤ 12 ∧ l.length - kk ≤ gg ∧ v4 = .int .i64 (kk : Int) ∧ Aside0 (TreesInv w0 w W l kk v3 ps))
 case atStart => exact ⟨0, [], Nat.zero_le _, Nat.zero_le _, by omega, rfl, HI⟩
 case round =>
  clear HI
  obtain ⟨kk, ps, hkk, hk12, hgg, rfl, HI⟩ := hrel
  by_cases hlt : kk < l.length ∧ kk < 12
  ·obtain ⟨hlt1, hlt2⟩ := hlt
   have d1 : decide ((kk : Int) < (l.length : Int)) = true := decide_eq_true (by omega)
   have d2 : decide ((kk : Int) < 12) = true := decide_eq_true (by omega)
   have z1 : (kk : Int) < (l.length : Int) := by omega
   have hB := below_step H0.out HI.out.bel
   obtain ⟨ad, A4, c4, e4, hx0, hx1, hx2, hx3, hx4, hl4, hi4⟩ := at_T54 HC.out (kk : Int) (by omega) z1
   subst e4
   rw [rd_T54_at l kk hlt1, Int.toNat_natCast] at hx0 hx1 hx2 hx3 hx4
   rw [rd_T54_at l kk hlt1] at hl4 hi4
   have hx0 := (hB.cell (block_lt_of_cell hx0)).trans hx0
   have hx1 := (hB.cell (block_lt_of_cell hx1)).trans hx1
   have hx2 := (hB.cell (block_lt_of_cell hx2)).trans hx2
   have hx3 := (hB.cell (block_lt_of_cell hx3)).trans hx3
   have hx4 := (hB.cell (block_lt_of_cell hx4)).trans hx4
   have HL := Aside0.mk hl4
   have HK := Aside0.mk hi4
   obtain ⟨x, HX⟩ : ∃ x, Aside0 (l[kk] = x) := ⟨_, ⟨rfl⟩⟩
   rw [HX.out] at hx0 hx1 hx2 hx3 hx4 HL HK
   obtain ⟨f0, f1, f2, f3, f4⟩ := x
   dsimp only at hx0 hx1 hx2 hx3 hx4 HL HK
   obtain ⟨Av, cv, rfl⟩ := Kd.R_slice HI.out.row
   have HP := Aside0.mk (HI.out.len hkk)
   have HB := Aside0.mk hB
   clear hB hl4 hi4
   by_cases hm : f4.length ≤ 4
   ·have HM : Aside0 ((f4.take 4).length = f4.length) := ⟨by rw [List.length_take]; omega⟩
    have b1 : f4.length ≤ c4 := HL.out
    have b2 : (f4.length : Int) ≤ (c4 : Int) := by omega
    go_wp2_with (first | ((with_reducible refine gate_builtin (b := .append) (xs := #[.tmp 29, .tmp 31]) rfl ?_); at_builtin; refine Kd.R_append kP (w0 := wr.alloc (.cells #[.int .i64 f0, .int .i64 f1, .string f2, .string f3, .slice A4 f4.length c4] 54)) 0 rfl (.tmp 29) (.tmp 31) 23 54 _ 72 rfl Try.underlying23 info54 rfl (by decide) (by decide) (.slice Av ps.length cv) ps (⟨f0, f1, f2, f3, f4.take 4⟩, A4, c4) [.int .i64 f0, .int .i64 f1, .string f2, .string f3, .slice A4 f4.length c4] (fun k => w.heap.size ≤ k) (fun _ => False) rfl (by rw [World.size_alloc]; rfl) (kP_mk HM.out) (fun _ h => h.elim) (fun k hk => Nat.le_trans HI.out.bel.size (Nat.le_trans (by rw [World.size_alloc]; omega) hk)) (Kd.R_below HI.out.row (below_alloc (Below.refl _ _) _)) (Below.refl _ _) (Nat.zero_le _) (by have := HP.out; omega) ?_; intro v7 W7 hR7 hB7 hg7 _; have HE := Aside0.mk (HI.out.put hlt1 HX.out A4 c4 HL.out HK.out (below_alloc (Below.refl _ _) _) hB7 hg7 hR7); clear hR7 hB7 hg7))
    go_roundg (l.length - (kk + 1))
    case measure => omega
    case rel => exact ⟨kk + 1, _, by omega, by omega, by omega, by go_num, HE⟩
   ·have HM : Aside0 ((f4.take 4).length = 4) := ⟨by rw [List.length_take]; omega⟩
    have b1 : 4 ≤ c4 := by have := HL.out; omega
    have b2 : (4 : Int) ≤ (c4 : Int) := by omega
    go_wp2_with (first | ((with_reducible refine gate_builtin (b := .append) (xs := #[.tmp 29, .tmp 31]) rfl ?_); at_builtin; refine Kd.R_append kP (w0 := wr.alloc (.cells #[.int .i64 f0, .int .i64 f1, .string f2, .string f3, .slice A4 4 c4] 54)) 0 rfl (.tmp 29) (.tmp 31) 23 54 _ 72 rfl Try.underlying23 info54 rfl (by decide) (by decide) (.slice Av ps.length cv) ps (⟨f0, f1, f2, f3, f4.take 4⟩, A4, c4) [.int .i64 f0, .int .i64 f1, .string f2, .string f3, .slice A4 4 c4] (fun k => w.heap.size ≤ k) (fun _ => False) rfl (by rw [World.size_alloc]; rfl) (kP_mk HM.out) (fun _ h => h.elim) (fun k hk => Nat.le_trans HI.out.bel.size (Nat.le_trans (by rw [World.size_alloc]; omega) hk)) (Kd.R_below HI.out.row (below_alloc (Below.refl _ _) _)) (Below.refl _ _) (Nat.zero_le _) (by have := HP.out; omega) ?_; intro v7 W7 hR7 hB7 hg7 _; have HE := Aside0.mk (HI.out.put hlt1 HX.out A4 c4 HL.out HK.out (below_alloc (Below.refl _ _) _) hB7 hg7 hR7); clear hR7 hB7 hg7))
    go_roundg (l.length - (kk + 1))
    case measure => omega
    case rel => exact ⟨kk + 1, _, by omega, by omega, by omega, by go_num, HE⟩
  ·have hx : (¬ kk < l.length) ∨ (kk < l.length ∧ ¬ kk < 12) := by omega
   have HX : Aside0 (l.take kk = l.take 12) := ⟨by
    rcases hx with hx | hx
    ·rw [List.take_of_length_le (by omega), List.take_of_length_le (by omega)]
    ·rw [show kk = 12 by omega]⟩
   have HD := Aside0.mk (HI.out.done H0.out)
   rw [HX.out] at HD
   obtain ⟨A', c', rfl, h1, h2, h3⟩ := HD.out
   have HE := Aside0.mk (And.intro h1 (And.intro h2 h3))
   clear h1 h2 h3 HD HI hlt
   rcases hx with hx | ⟨hx, hy⟩
   all_goals
    go_wp2
    go_ret
    exact ⟨_, _, rfl, HE.out⟩
end Go.Proofs.Ytpkaliaaffgbdaa.QA
