/- A document's tree, in plain Lean: what each call keeps. -/
import Derived.Test.YtpkaliaaffgbdaaD10
namespace Go.Proofs.Ytpkaliaaffgbdaa.QA
open Go.RowKit Go.Proofs.YtpkaliaaffgbdaaW.PrintWords Go.Proofs.YtpkaliaaffgbdaaW.PrintLast Go.Proofs.YtpkaliaaffgbdaaW.PrintMore
attribute [local go_sem] max2_int min2_int max_two min_two max_three min_three max_four min_four   -- for this text's walks alone
set_option linter.unusedVariables false
set_option linter.unusedSimpArgs false

open Go
/-- Who has whom: n nodes, up the one that has a node, ks those that it has. -/
structure Tree (n : Nat) (up : Nat → Int) (ks : Nat → List Int) : Prop where
  pos : 0 < n
  root : up 0 = -1
  par : ∀ i, up i = -1 ∨ ∃ p : Nat, p < n ∧ up i = (p : Int) ∧ (i : Int) ∈ ks p
  kid : ∀ p, ∀ k ∈ ks p, ∃ i : Nat, k = (i : Int) ∧ i < n ∧ up i = (p : Int)
  nodup : ∀ p, (ks p).Nodup
  rank : ∃ r : Nat → Nat, ∀ i p : Nat, up i = (p : Int) → r p < r i
/-- j is i, or stands in its tree. -/
inductive Under (up : Nat → Int) (i : Nat) : Nat → Prop
  | self : Under up i i
  | step {j p : Nat} : up j = (p : Int) → Under up i p → Under up i j
section
variable {n : Nat} {up : Nat → Int} {ks : Nat → List Int}
theorem Tree.lt (h : Tree n up ks) {i p : Nat} (hi : up i = (p : Int)) : i < n ∧ p < n ∧ (i : Int) ∈ ks p := by
  rcases h.par i with h1 | ⟨q, hq, h1, h2⟩
  · rw [h1] at hi; omega
  · obtain rfl : q = p := by omega
    obtain ⟨j, hj, hjn, _⟩ := h.kid q _ h2
    obtain rfl : i = j := by omega
    exact ⟨hjn, hq, h2⟩
theorem Tree.zero (h : Tree n up ks) (p : Nat) : (0 : Int) ∉ ks p := fun hk => by
  obtain ⟨i, hi, _, hp⟩ := h.kid p _ hk
  obtain rfl : i = 0 := by omega
  have := h.root
  omega
theorem Tree.more (h : Tree n up ks) : Tree (n + 1) up ks :=
  ⟨by have := h.pos; omega, h.root, fun i => (h.par i).imp id fun ⟨p, h1, h2, h3⟩ => ⟨p, by omega, h2, h3⟩, fun p k hk => by obtain ⟨i, h1, h2, h3⟩ := h.kid p k hk; exact ⟨i, h1, by omega, h3⟩, h.nodup, h.rank⟩
theorem Tree.take (h : Tree n up ks) (i : Nat) : Tree n (fun j => if j = i then -1 else up j) (fun p => if up i = (p : Int) then (ks p).filter fun k => !(k == (i : Int)) else ks p) where
  pos := h.pos
  root := by
    try dsimp only
    split
    · rfl
    · exact h.root
  par j := by
    try dsimp only
    by_cases e : j = i
    · rw [if_pos e]; exact .inl rfl
    · rw [if_neg e]
      rcases h.par j with h1 | ⟨p, hp, h1, h2⟩
      · exact .inl h1
      · refine .inr ⟨p, hp, h1, ?_⟩
        split
        · exact List.mem_filter.2 ⟨h2, by simp; omega⟩
        · exact h2
  kid p k hk := by
    try dsimp only at hk ⊢
    have hk2 : k ∈ ks p ∧ (up i = (p : Int) → k ≠ (i : Int)) := by
      split at hk
      · obtain ⟨h1, h2⟩ := List.mem_filter.1 hk
        exact ⟨h1, fun _ => by simpa using h2⟩
      · rename_i h1
        exact ⟨hk, fun h2 => absurd h2 h1⟩
    obtain ⟨j, rfl, hj, hp⟩ := h.kid p k hk2.1
    refine ⟨j, rfl, hj, ?_⟩
    rw [if_neg (fun e => by subst e; exact hk2.2 hp rfl)]
    exact hp
  nodup p := by
    try dsimp only
    split
    · exact (h.nodup p).filter _
    · exact h.nodup p
  rank := by
    obtain ⟨r, hr⟩ := h.rank
    refine ⟨r, fun j p hj => ?_⟩
    try dsimp only at hj
    split at hj
    · omega
    · exact hr j p hj
theorem mem_insAt {l : List Int} {a : Nat} {x k : Int} : k ∈ insAt l a x ↔ k = x ∨ k ∈ l := by
  unfold insAt
  rw [List.mem_append, List.mem_cons]
  constructor
  · rintro (h | h | h)
    · exact .inr (List.mem_of_mem_take h)
    · exact .inl h
    · exact .inr (List.mem_of_mem_drop h)
  · rintro (h | h)
    · exact .inr (.inl h)
    · rw [← List.take_append_drop a l, List.mem_append] at h
      exact h.imp id .inr
theorem nodup_insAt {l : List Int} {a : Nat} {x : Int} (h : l.Nodup) (hx : x ∉ l) : (insAt l a x).Nodup := by
  unfold insAt
  have h1 : (l.take a ++ l.drop a).Nodup := by rwa [List.take_append_drop]
  rw [List.nodup_append] at h1 ⊢
  refine ⟨h1.1, List.nodup_cons.2 ⟨fun h2 => hx (List.mem_of_mem_drop h2), h1.2.1⟩, fun b hb c hc e => ?_⟩
  subst e
  rcases List.mem_cons.1 hc with h2 | h2
  · subst h2; exact hx (List.mem_of_mem_take hb)
  · exact h1.2.2 b hb b h2 rfl
theorem Tree.put (h : Tree n up ks) {p a i : Nat} (hp : p < n) (hi : i < n) (h0 : i ≠ 0) (hu : up i = -1) (hw : ¬ Under up i p) :
    Tree n (fun j => if j = i then (p : Int) else up j) (fun q => if q = p then insAt (ks p) a (i : Int) else ks q) where
  pos := h.pos
  root := by
    try dsimp only
    rw [if_neg (fun e => h0 e.symm)]
    exact h.root
  par j := by
    try dsimp only
    by_cases e : j = i
    · subst e
      rw [if_pos rfl]
      exact .inr ⟨p, hp, rfl, by rw [if_pos rfl]; exact mem_insAt.2 (.inl rfl)⟩
    · rw [if_neg e]
      rcases h.par j with h1 | ⟨q, hq, h1, h2⟩
      · exact .inl h1
      · refine .inr ⟨q, hq, h1, ?_⟩
        split
        · rename_i e2; subst e2; exact mem_insAt.2 (.inr h2)
        · exact h2
  kid q k hk := by
    try dsimp only at hk ⊢
    have hold : ∀ q, k ∈ ks q → ∃ j : Nat, k = (j : Int) ∧ j < n ∧ (if j = i then (p : Int) else up j) = (q : Int) := fun q hk => by
      obtain ⟨j, rfl, hj, hq⟩ := h.kid q k hk
      refine ⟨j, rfl, hj, ?_⟩
      rw [if_neg (fun e => by subst e; omega)]
      exact hq
    split at hk
    · rename_i e
      subst e
      rcases mem_insAt.1 hk with rfl | hk
      · exact ⟨i, rfl, hi, if_pos rfl⟩
      · exact hold q hk
    · exact hold q hk
  nodup q := by
    try dsimp only
    split
    · refine nodup_insAt (h.nodup p) fun hk => ?_
      obtain ⟨j, hj, _, hq⟩ := h.kid p _ hk
      obtain rfl : i = j := by omega
      omega
    · exact h.nodup q
  rank := by
    classical
    obtain ⟨r, hr⟩ := h.rank
    refine ⟨fun j => if Under up i j then r j + r p + 1 else r j, fun j q hj => ?_⟩
    try dsimp only at hj ⊢
    by_cases e : j = i
    · subst e
      rw [if_pos rfl] at hj
      obtain rfl : p = q := by omega
      rw [if_neg hw, if_pos .self]
      omega
    · rw [if_neg e] at hj
      have hlt := hr j q hj
      by_cases hq : Under up i q
      · rw [if_pos hq, if_pos (.step hj hq)]
        omega
      · rw [if_neg hq]
        by_cases hj2 : Under up i j
        · exfalso
          cases hj2 with
          | self => exact e rfl
          | step h1 h2 =>
            obtain rfl : _ = q := by have := h1.symm.trans hj; exact Int.ofNat_inj.1 this
            exact hq h2
        · rw [if_neg hj2]
          exact hlt
end
end Go.Proofs.Ytpkaliaaffgbdaa.QA
