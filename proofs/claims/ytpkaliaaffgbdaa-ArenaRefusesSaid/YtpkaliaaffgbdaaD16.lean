/- A document that holds a tree; what each call keeps of it. -/
import Derived.Test.YtpkaliaaffgbdaaD15
namespace Go.Proofs.Ytpkaliaaffgbdaa.QA
open Go.RowKit Go.Proofs.YtpkaliaaffgbdaaW.PrintWords Go.Proofs.YtpkaliaaffgbdaaW.PrintLast Go.Proofs.YtpkaliaaffgbdaaW.PrintMore
attribute [local go_sem] max2_int min2_int max_two min_two max_three min_three max_four min_four   -- for this text's walks alone
set_option linter.unusedVariables false
set_option linter.unusedSimpArgs false

open Go
def up9 (xs : List S79) (i : Nat) : Int := if i < xs.length then (rd_T79 xs (i : Int)).f1 else -1
def ks9 (xs : List S79) (i : Nat) : List Int := (rd_T79 xs (i : Int)).f2
/-- A document's tree is one; its nodes have at most M attributes. -/
structure Good (M : Nat) (xs : List S79) : Prop where
  tree : Tree xs.length (up9 xs) (ks9 xs)
  attrs : ∀ i : Nat, (rd_T79 xs (i : Int)).f0.f4.length ≤ M
  len : xs.length ≤ 4096
theorem rd_set (xs : List S79) (j i : Nat) (v : S79) : rd_T79 (xs.set j v) (i : Int) = if i = j ∧ j < xs.length then v else rd_T79 xs (i : Int) := by
  simp only [rd_T79, Int.toNat_natCast, List.getD_eq_getElem?_getD, List.getElem?_set]
  by_cases e : j = i
  · subst e
    by_cases h : j < xs.length
    · simp [h]
    · simp [h, List.getElem?_eq_none (Nat.le_of_not_lt h)]
  · rw [if_neg e, if_neg (fun h => e h.1.symm)]
theorem rd_add (xs : List S79) (i : Nat) (v : S79) : rd_T79 (xs ++ [v]) (i : Int) = if i = xs.length then v else rd_T79 xs (i : Int) := by
  simp only [rd_T79, Int.toNat_natCast, List.getD_eq_getElem?_getD, List.getElem?_append]
  by_cases h : i < xs.length
  · rw [if_pos h, if_neg (by omega)]
  · rw [if_neg h]
    by_cases e : i = xs.length
    · simp [e]
    · rw [if_neg e, List.getElem?_eq_none (by simp; omega), List.getElem?_eq_none (by omega)]
theorem rd_out (xs : List S79) (i : Nat) (h : xs.length ≤ i) : rd_T79 xs (i : Int) = z79 := by
  simp [rd_T79, List.getD_eq_getElem?_getD, List.getElem?_eq_none h]
theorem up_set (xs : List S79) (i j : Nat) (v : S79) : up9 (xs.set i v) j = if j = i ∧ i < xs.length then v.f1 else up9 xs j := by
  unfold up9
  rw [List.length_set, rd_set]
  by_cases e : j = i ∧ i < xs.length
  · rw [if_pos e, if_pos e, if_pos (by omega)]
  · rw [if_neg e, if_neg e]
theorem ks_set (xs : List S79) (i j : Nat) (v : S79) : ks9 (xs.set i v) j = if j = i ∧ i < xs.length then v.f2 else ks9 xs j := by
  unfold ks9
  rw [rd_set]
  split <;> rfl
theorem f0_set (xs : List S79) (i j : Nat) (v : S79) : (rd_T79 (xs.set i v) (j : Int)).f0 = if j = i ∧ i < xs.length then v.f0 else (rd_T79 xs (j : Int)).f0 := by
  rw [rd_set]
  split <;> rfl
theorem pigeon : ∀ (n : Nat) (l : List Int), l.Nodup → (∀ k ∈ l, 0 ≤ k ∧ k < (n : Int)) → l.length ≤ n
  | 0, [], _, _ => Nat.le_refl _
  | 0, k :: l, _, h => by have := h k List.mem_cons_self; omega
  | n + 1, l, hd, h => by
    have ih := pigeon n (l.erase (n : Int)) (hd.erase _) fun k hk => by
      obtain ⟨h1, h2⟩ := hd.mem_erase_iff.1 hk
      have := h k h2
      omega
    have h3 := List.le_length_erase (a := (n : Int)) (l := l)
    omega
theorem filter_one {l : List Int} {i : Int} (hd : l.Nodup) (h : i ∈ l) : (l.filter fun k => !(k == i)).length + 1 = l.length := by
  have h1 : (l.filter fun k => !(k == i)) = l.erase i := (hd.erase_eq_filter i).symm
  rw [h1, List.length_erase_of_mem h]
  have := List.length_pos_of_mem h
  omega
section
variable {M : Nat} {xs : List S79}
theorem Good.kids_le (h : Good M xs) (p : Nat) : (ks9 xs p).length ≤ xs.length :=
  pigeon _ _ (h.tree.nodup p) fun k hk => by obtain ⟨i, rfl, hi, _⟩ := h.tree.kid p k hk; omega
theorem Good.fit (h : Good M xs) (hM : M < 100000) : Fit xs := by
  have hl := h.len
  refine ⟨fun i hi => ?_, fun i hi => ?_, fun i hi => ?_, by omega⟩
  · have hu : up9 xs i = xs[i].f1 := by unfold up9; rw [if_pos hi, nd_at i hi]
    rcases h.tree.par i with h1 | ⟨p, hp, h1, h2⟩
    · exact .inl (hu.symm.trans h1)
    · refine .inr ⟨p, hp, hu.symm.trans h1, ?_⟩
      have hk : ks9 xs p = xs[p].f2 := by unfold ks9; rw [nd_at p hp]
      rw [← hk]
      exact filter_one (h.tree.nodup p) h2
  · have := h.kids_le i
    unfold ks9 at this
    rw [nd_at i hi] at this
    omega
  · have := h.attrs i
    rw [nd_at i hi] at this
    omega
theorem Good.weak (h : Good M xs) {M' : Nat} (hM : M ≤ M') : Good M' xs := ⟨h.tree, fun i => Nat.le_trans (h.attrs i) hM, h.len⟩
/-- A change of one node's row alone. -/
theorem Good.row (h : Good M xs) (i : Nat) (x : S79) (hu : x.f1 = (rd_T79 xs (i : Int)).f1) (hk : x.f2 = (rd_T79 xs (i : Int)).f2) {M' : Nat} (ha : x.f0.f4.length ≤ M') (hM : M ≤ M') : Good M' (xs.set i x) := by
  have e1 : up9 (xs.set i x) = up9 xs := by
    funext j
    unfold up9
    rw [List.length_set, rd_set]
    by_cases e : j = i ∧ i < xs.length
    · rw [if_pos e, hu, e.1]
    · rw [if_neg e]
  have e2 : ks9 (xs.set i x) = ks9 xs := by
    funext j
    unfold ks9
    rw [rd_set]
    by_cases e : j = i ∧ i < xs.length
    · rw [if_pos e, hk, e.1]
    · rw [if_neg e]
  refine ⟨by rw [e1, e2, List.length_set]; exact h.tree, fun j => ?_, by rw [List.length_set]; exact h.len⟩
  rw [rd_set]
  split
  · exact ha
  · exact Nat.le_trans (h.attrs j) hM
theorem Good.add (h : Good M xs) (x : S54) (hx : x.f4.length ≤ M) (hl : xs.length < 4096) : Good M (addN xs x) := by
  unfold addN
  have e1 : up9 (xs ++ [⟨⟨0, x.f1, x.f2, x.f3, x.f4⟩, -1, []⟩]) = up9 xs := by
    funext j
    unfold up9
    rw [List.length_append, rd_add]
    simp only [List.length_cons, List.length_nil]
    by_cases e : j = xs.length
    · rw [if_pos (by omega), if_pos e, if_neg (by omega)]
    · rw [if_neg e]
      by_cases e2 : j < xs.length
      · rw [if_pos (by omega), if_pos e2]
      · rw [if_neg (by omega), if_neg e2]
  have e2 : ks9 (xs ++ [⟨⟨0, x.f1, x.f2, x.f3, x.f4⟩, -1, []⟩]) = ks9 xs := by
    funext j
    unfold ks9
    rw [rd_add]
    by_cases e : j = xs.length
    · rw [if_pos e, rd_out xs j (by omega)]; rfl
    · rw [if_neg e]
  refine ⟨by rw [e1, e2, List.length_append]; exact h.tree.more, fun j => ?_, by rw [List.length_append]; exact hl⟩
  rw [rd_add]
  split
  · exact hx
  · exact h.attrs j
theorem takeN_up (h : Good M xs) (i : Nat) (hi : i < xs.length) : up9 (takeN xs i) = (fun j => if j = i then -1 else up9 xs j) ∧ ks9 (takeN xs i) = (fun p : Nat => if up9 xs i = (p : Int) then (ks9 xs p).filter fun k => !(k == (i : Int)) else ks9 xs p) ∧ ∀ j : Nat, (rd_T79 (takeN xs i) (j : Int)).f0 = (rd_T79 xs (j : Int)).f0 := by
  have hu : up9 xs i = (rd_T79 xs (i : Int)).f1 := by unfold up9; rw [if_pos hi]
  unfold takeN
  dsimp only
  rcases h.tree.par i with h1 | ⟨p, hp, h1, h2⟩
  · rw [if_pos (hu.symm.trans h1)]
    refine ⟨?_, ?_, fun j => ?_⟩
    · funext j
      rw [up_set]
      by_cases e : j = i
      · rw [if_pos ⟨e, hi⟩, if_pos e]; rfl
      · rw [if_neg (fun h => e h.1), if_neg e]
    · funext q
      rw [if_neg (by rw [h1]; omega), ks_set]
      by_cases e : q = i
      · rw [if_pos ⟨e, hi⟩, e]; rfl
      · rw [if_neg (fun h => e h.1)]
    · rw [f0_set]
      by_cases e : j = i
      · rw [if_pos ⟨e, hi⟩, e]; rfl
      · rw [if_neg (fun h => e h.1)]
  · rw [h1] at hu
    rw [if_neg (by omega), ← hu, Int.toNat_natCast]
    have hpi : p ≠ i := fun e => by
      subst e
      obtain ⟨r, hr⟩ := h.tree.rank
      have := hr p p h1
      omega
    have hz : rd_T79 (xs.set p (withKids (rd_T79 xs (p : Int)) ((rd_T79 xs (p : Int)).f2.filter fun k => !(k == (i : Int))))) (i : Int) = rd_T79 xs (i : Int) := by
      rw [rd_set, if_neg (fun h => hpi h.1.symm)]
    rw [hz]
    refine ⟨?_, ?_, fun j => ?_⟩
    · funext j
      rw [up_set, List.length_set, up_set]
      by_cases e : j = i
      · rw [if_pos ⟨e, hi⟩, if_pos e]; rfl
      · rw [if_neg (fun h => e h.1), if_neg e]
        by_cases e2 : j = p
        · rw [if_pos ⟨e2, hp⟩, e2]
          unfold up9
          rw [if_pos hp]; rfl
        · rw [if_neg (fun h => e2 h.1)]
    · funext q
      rw [h1, ks_set, List.length_set, ks_set]
      by_cases e : q = i
      · rw [if_pos ⟨e, hi⟩, if_neg (by omega), e]; rfl
      · rw [if_neg (fun h => e h.1)]
        by_cases e2 : q = p
        · rw [if_pos ⟨e2, hp⟩, if_pos (by omega), e2]; rfl
        · rw [if_neg (fun h => e2 h.1), if_neg (by omega)]
    · rw [f0_set, List.length_set, f0_set]
      by_cases e : j = i
      · rw [if_pos ⟨e, hi⟩, e]; rfl
      · rw [if_neg (fun h => e h.1)]
        by_cases e2 : j = p
        · rw [if_pos ⟨e2, hp⟩, e2]; rfl
        · rw [if_neg (fun h => e2 h.1)]
theorem Good.take (h : Good M xs) (i : Nat) (hi : i < xs.length) : Good M (takeN xs i) := by
  obtain ⟨e1, e2, e3⟩ := takeN_up h i hi
  refine ⟨by rw [e1, e2, takeN_length]; exact h.tree.take i, fun j => by rw [e3 j]; exact h.attrs j, by rw [takeN_length]; exact h.len⟩
theorem putN_length (xs : List S79) (p a n : Nat) : (putN xs p a n).length = xs.length := by
  unfold putN
  dsimp only
  rw [List.length_set, List.length_set]
theorem putN_up (p a i : Nat) (hp : p < xs.length) (hi : i < xs.length) (hne : p ≠ i) : up9 (putN xs p a i) = (fun j => if j = i then (p : Int) else up9 xs j) ∧ ks9 (putN xs p a i) = (fun q => if q = p then insAt (ks9 xs p) a (i : Int) else ks9 xs q) ∧ ∀ j : Nat, (rd_T79 (putN xs p a i) (j : Int)).f0 = (rd_T79 xs (j : Int)).f0 := by
  unfold putN
  dsimp only
  have hz : rd_T79 (xs.set p (withKids (rd_T79 xs (p : Int)) (insAt (rd_T79 xs (p : Int)).f2 a (i : Int)))) (i : Int) = rd_T79 xs (i : Int) := by
    rw [rd_set, if_neg (fun h => hne h.1.symm)]
  rw [hz]
  refine ⟨?_, ?_, fun j => ?_⟩
  · funext j
    rw [up_set, List.length_set, up_set]
    by_cases e : j = i
    · rw [if_pos ⟨e, hi⟩, if_pos e]; rfl
    · rw [if_neg (fun h => e h.1), if_neg e]
      by_cases e2 : j = p
      · rw [if_pos ⟨e2, hp⟩, e2]
        unfold up9
        rw [if_pos hp]; rfl
      · rw [if_neg (fun h => e2 h.1)]
  · funext q
    rw [ks_set, List.length_set, ks_set]
    by_cases e : q = i
    · rw [if_pos ⟨e, hi⟩, if_neg (fun h => hne (h.symm.trans e)), e]; rfl
    · rw [if_neg (fun h => e h.1)]
      by_cases e2 : q = p
      · rw [if_pos ⟨e2, hp⟩, if_pos e2]; rfl
      · rw [if_neg (fun h => e2 h.1), if_neg e2]
  · rw [f0_set, List.length_set, f0_set]
    by_cases e : j = i
    · rw [if_pos ⟨e, hi⟩, e]; rfl
    · rw [if_neg (fun h => e h.1)]
      by_cases e2 : j = p
      · rw [if_pos ⟨e2, hp⟩, e2]; rfl
      · rw [if_neg (fun h => e2 h.1)]
theorem Good.put (h : Good M xs) (p a i : Nat) (hp : p < xs.length) (hi : i < xs.length) (h0 : i ≠ 0) (hu : up9 xs i = -1) (hw : ¬ Under (up9 xs) i p) : Good M (putN xs p a i) := by
  have hne : p ≠ i := fun e => hw (e ▸ .self)
  obtain ⟨e1, e2, e3⟩ := putN_up (xs := xs) p a i hp hi hne
  refine ⟨by rw [e1, e2, putN_length]; exact h.tree.put hp hi h0 hu hw, fun j => by rw [e3 j]; exact h.attrs j, by rw [putN_length]; exact h.len⟩
end
end Go.Proofs.Ytpkaliaaffgbdaa.QA
