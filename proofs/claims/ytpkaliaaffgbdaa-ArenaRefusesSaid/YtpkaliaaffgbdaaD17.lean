/- A document that holds a tree: its calls come to an end; what they answer. -/
import Derived.Test.YtpkaliaaffgbdaaD16
namespace Go.Proofs.Ytpkaliaaffgbdaa.QA
open Go.RowKit Go.Proofs.YtpkaliaaffgbdaaW.PrintWords Go.Proofs.YtpkaliaaffgbdaaW.PrintLast Go.Proofs.YtpkaliaaffgbdaaW.PrintMore
attribute [local go_sem] max2_int min2_int max_two min_two max_three min_three max_four min_four   -- for this text's walks alone
set_option linter.unusedVariables false
set_option linter.unusedSimpArgs false

open Go
section
variable {M : Nat} {xs : List S79}
theorem within_some (h : Good M xs) (o : Nat) : ∀ (m j : Nat), j < xs.length → ∀ r : Nat → Nat, (∀ i p : Nat, up9 xs i = (p : Int) → r p < r i) → r j < m → ∃ k b, withinL xs k (j : Int) (o : Int) = some b ∧ (b = true ↔ Under (up9 xs) o j)
  | 0, _, _, _, _, hm => absurd hm (Nat.not_lt_zero _)
  | m + 1, j, hj, r, hr, hm => by
    by_cases e : j = o
    · subst e
      exact ⟨1, true, by simp [withinL], by simp [Under.self]⟩
    · have hu : up9 xs j = (rd_T79 xs (j : Int)).f1 := by unfold up9; rw [if_pos hj]
      have e2 : ¬ (j : Int) = (o : Int) := by omega
      rcases h.tree.par j with h1 | ⟨p, hp, h1, h2⟩
      · refine ⟨2, false, ?_, ?_⟩
        · simp only [withinL]
          rw [if_neg e2, if_neg (by omega), if_pos (by omega), ← hu, h1, if_neg (by omega), if_pos rfl]
        · constructor
          · intro h; cases h
          · intro h3
            cases h3 with
            | self => exact absurd rfl e
            | step h4 _ => rw [h1] at h4; omega
      · obtain ⟨k, b, hk, hb⟩ := within_some h o m p hp r hr (by have := hr j p h1; omega)
        refine ⟨k + 1, b, ?_, hb.trans ⟨fun h3 => .step h1 h3, fun h3 => ?_⟩⟩
        · simp only [withinL]
          rw [if_neg e2, if_neg (by omega), if_pos (by omega), ← hu, h1, hk]
        · cases h3 with
          | self => exact absurd rfl e
          | step h4 h5 =>
            have := Int.ofNat_inj.1 (h4.symm.trans h1)
            subst this
            exact h5
theorem withinF_some (h : Good M xs) (n o : Int) : ∃ k b, withinF xs k n o = some b ∧ (∀ i j : Nat, n = (j : Int) → o = (i : Int) → j < xs.length → i < xs.length → (b = true ↔ Under (up9 xs) i j)) := by
  unfold withinF
  by_cases c : (0 ≤ n ∧ n < (xs.length : Int)) ∧ (0 ≤ o ∧ o < (xs.length : Int))
  · obtain ⟨j, rfl⟩ := Int.eq_ofNat_of_zero_le c.1.1
    obtain ⟨i, rfl⟩ := Int.eq_ofNat_of_zero_le c.2.1
    obtain ⟨r, hr⟩ := h.tree.rank
    obtain ⟨k, b, hk, hb⟩ := within_some h i (r j + 1) j (by omega) r hr (by omega)
    refine ⟨k, b, by rw [if_pos c]; exact hk, fun i' j' h1 h2 _ _ => ?_⟩
    obtain rfl : j = j' := by omega
    obtain rfl : i = i' := by omega
    exact hb
  · refine ⟨0, false, by rw [if_neg c], fun i j h1 h2 h3 h4 => absurd ?_ c⟩
    omega
/-- Rows whose first may be at depth a. -/
def DepthOk : Int → List S54 → Prop
  | _, [] => True
  | a, x :: l => 0 ≤ x.f0 ∧ x.f0 ≤ a ∧ DepthOk (x.f0 + 1) l
theorem rowsL_some (h : Good M xs) (s : Int) (r : Nat → Nat) (hr : ∀ i p : Nat, up9 xs i = (p : Int) → r p < r i) :
    ∀ (m : Nat) (pop : List Int) (stk : List (Int × Int)) (out : List S54) (a : Int), pop.length + m = xs.length → 0 ≤ a →
      (pop ++ stk.map (·.1)).Nodup → (∀ v ∈ pop ++ stk.map (·.1), (0 ≤ v ∧ v < (xs.length : Int)) ∧ (v = s ∨ up9 xs v.toNat ∈ pop) ∧ r s.toNat ≤ r v.toNat) →
      (∀ q ∈ stk, -1 ≤ q.2 ∧ q.2 ≤ a ∧ q.2 ≤ (pop.length : Int) ∧ (q.1 ≠ 0 → 0 ≤ q.2) ∧ (q.1 = 0 → q.2 = -1)) → stk.Pairwise (fun x y => y.2 ≤ x.2) → out.length ≤ pop.length →
      ∃ new, rowsL xs (m + 1) stk out = some (out ++ new) ∧ DepthOk a new ∧ new.length ≤ m ∧ (∀ x ∈ new, x.f4.length ≤ M) ∧ (∀ q rest, stk = q :: rest → q.1 ≠ 0 → new ≠ []) := by
  have hlen := h.len
  intro m
  induction m with
  | zero =>
    intro pop stk out a hm ha hd hv hs hp ho
    cases stk with
    | nil => exact ⟨[], by simp [rowsL], trivial, Nat.le_refl _, by simp, by simp⟩
    | cons q rest =>
      have := pigeon xs.length _ hd fun k hk => (hv k hk).1
      simp at this
      omega
  | succ m ih =>
    intro pop stk out a hm ha hd hv hs hp ho
    cases stk with
    | nil => exact ⟨[], by simp [rowsL], trivial, Nat.zero_le _, by simp, by simp⟩
    | cons q rest =>
      have hlen2 := pigeon xs.length _ hd fun k hk => (hv k hk).1
      simp at hlen2
      obtain ⟨d, e⟩ := q
      have hq := hs (d, e) List.mem_cons_self
      have hqv := hv d (by simp)
      dsimp only at hq
      obtain ⟨i, rfl⟩ := Int.eq_ofNat_of_zero_le hqv.1.1
      have hi : i < xs.length := by omega
      have hnew : (((i : Int) :: pop) ++ ((((ks9 xs i).map fun q => (q, e + 1)) ++ rest).map (·.1))).Nodup := by
        rw [List.map_append, List.map_map, show ((fun x : Int × Int => x.1) ∘ fun q => (q, e + 1)) = id from rfl, List.map_id]
        have p1 : (((i : Int) :: pop) ++ (ks9 xs i ++ rest.map (·.1))).Perm (ks9 xs i ++ (pop ++ (i : Int) :: rest.map (·.1))) :=
          (List.perm_append_comm_assoc _ _ _).trans (List.Perm.append_left _ List.perm_middle.symm)
        rw [p1.nodup_iff, List.nodup_append]
        refine ⟨h.tree.nodup i, by simpa using hd, fun k hk k' hk' ek => ?_⟩
        subst ek
        obtain ⟨j, rfl, hj, hu⟩ := h.tree.kid i k hk
        have h1 := hv (j : Int) (by simpa using hk')
        have h2 := hr j i hu
        rw [Int.toNat_natCast] at h1
        rcases h1.2.1 with h3 | h3
        · subst h3
          rw [Int.toNat_natCast] at hqv h1
          have := hqv.2.2
          rw [Int.toNat_natCast] at this
          omega
        · rw [hu] at h3
          rw [List.nodup_append] at hd
          exact hd.2.2 _ h3 _ (by simp) rfl
      refine Exists.elim (ih ((i : Int) :: pop) (((ks9 xs i).map fun q => (q, e + 1)) ++ rest) (if (i : Int) = 0 then out else out ++ [rowAt xs ((i : Int), e)]) (if (i : Int) = 0 then a else e + 1) (by simp; omega) (by split <;> omega) hnew ?_ ?_ ?_ (by split <;> simp <;> omega)) (fun new hn => ?_)
      · intro v hv2
        have hv3 : v ∈ ks9 xs i ∨ v ∈ pop ++ (((i : Int), e) :: rest).map (·.1) := by
          rw [List.map_append, List.map_map, show ((fun x : Int × Int => x.1) ∘ fun q => (q, e + 1)) = id from rfl, List.map_id] at hv2
          simp only [List.mem_append, List.mem_cons, List.map_cons] at hv2 ⊢
          rcases hv2 with (h1 | h1) | h1 | h1
          · exact .inr (.inr (.inl h1))
          · exact .inr (.inl h1)
          · exact .inl h1
          · exact .inr (.inr (.inr h1))
        rcases hv3 with hk | hk
        · obtain ⟨j, rfl, hj, hu⟩ := h.tree.kid i v hk
          have h2 := hr j i hu
          have h3 := hqv.2.2
          rw [Int.toNat_natCast] at h3 ⊢
          exact ⟨⟨by omega, by omega⟩, .inr (by rw [hu]; exact List.mem_cons_self), by omega⟩
        · obtain ⟨h1, h2, h3⟩ := hv v hk
          exact ⟨h1, h2.imp id fun h => List.mem_cons_of_mem _ h, h3⟩
      · intro q hq2
        rcases List.mem_append.1 hq2 with h5 | h5
        · obtain ⟨k, hk, rfl⟩ := List.mem_map.1 h5
          refine ⟨by dsimp only; omega, ?_, by dsimp only; simp; omega, fun _ => by dsimp only; omega, fun h0 => by dsimp only at h0; subst h0; exact absurd hk (h.tree.zero i)⟩
          dsimp only
          split
          · rename_i e0
            have := hq.2.2.2.2 e0
            omega
          · omega
        · have h6 := hs q (List.mem_cons_of_mem _ h5)
          have h7 : q.2 ≤ e := (List.pairwise_cons.1 hp).1 q h5
          refine ⟨h6.1, ?_, by simp; omega, h6.2.2.2⟩
          split <;> omega
      · refine List.pairwise_append.2 ⟨?_, (List.pairwise_cons.1 hp).2, fun x hx y hy => ?_⟩
        · rw [List.pairwise_map]
          exact List.pairwise_of_forall fun _ _ => Int.le_refl _
        · obtain ⟨k, hk, rfl⟩ := List.mem_map.1 hx
          have h7 : y.2 ≤ e := (List.pairwise_cons.1 hp).1 y hy
          dsimp only
          omega
      · obtain ⟨h1, h2, h3, h4, _⟩ := hn
        refine ⟨(if (i : Int) = 0 then [] else [rowAt xs ((i : Int), e)]) ++ new, ?_, ?_, ?_, ?_, ?_⟩
        · simp only [rowsL]
          rw [if_pos ⟨by omega, hqv.1.2, hq.1, by omega, by omega, by omega⟩]
          refine (show _ = _ from h1).trans ?_
          split <;> simp
        · split
          · rename_i e0
            rw [if_pos e0] at h2
            exact h2
          · rename_i e0
            rw [if_neg e0] at h2
            exact ⟨hq.2.2.2.1 e0, hq.2.1, h2⟩
        · rw [List.length_append]
          split <;> simp <;> omega
        · intro x hx
          rcases List.mem_append.1 hx with hx | hx
          · split at hx
            · cases hx
            · rw [List.mem_singleton.1 hx]
              exact h.attrs i
          · exact h4 x hx
        · intro q rest' heq hne
          injection heq with heq _
          subst heq
          rw [if_neg hne]
          simp
theorem rowsR_some (h : Good M xs) (n : Int) : ∃ new, rowsR xs (xs.length + 1) n = some new ∧ DepthOk 0 new ∧ new.length ≤ xs.length ∧ (∀ x ∈ new, x.f4.length ≤ M) ∧ (someB xs n = true → new ≠ []) := by
  unfold rowsR inB someB
  by_cases c : 0 ≤ n ∧ n < (xs.length : Int)
  · rw [decide_eq_true c, if_neg (by decide)]
    obtain ⟨r, hr⟩ := h.tree.rank
    obtain ⟨new, h1, h2, h3, h4, h5⟩ := rowsL_some h n r hr xs.length [] [(n, if n = 0 then -1 else 0)] [] 0 (by simp) (by omega) (by simp) (by simp; exact c) (fun q hq => by
      rw [List.mem_singleton.1 hq]
      dsimp only
      split
      · exact ⟨by omega, by omega, by simp, fun h => absurd ‹n = 0› h, fun _ => rfl⟩
      · exact ⟨by omega, by omega, by simp, fun _ => by omega, fun h => absurd h ‹¬n = 0›⟩) (by simp) (by simp)
    refine ⟨new, h1, h2, h3, h4, fun h6 => h5 _ _ rfl ?_⟩
    have := of_decide_eq_true h6
    dsimp only
    omega
  · rw [decide_eq_false c, if_pos rfl]
    refine ⟨[], rfl, trivial, Nat.zero_le _, by simp, fun h6 => ?_⟩
    have := of_decide_eq_true h6
    omega
theorem getD_mem {l : List Int} {i : Nat} (h : i < l.length) (z : Int) : l.getD i z ∈ l := by
  rw [List.getD_eq_getElem?_getD, List.getElem?_eq_getElem h]
  exact List.getElem_mem h
theorem under_leaf {n : Nat} {up : Nat → Int} {ks : Nat → List Int} (h : Tree n up ks) {i : Nat} (hk : ks i = []) : ∀ {j : Nat}, Under up i j → j = i := by
  intro j hu
  induction hu with
  | self => rfl
  | step h1 _ ih =>
    subst ih
    have := (h.lt h1).2.2
    rw [hk] at this
    cases this
theorem under_less {up : Nat → Int} {i j : Nat} (h : Under (fun j => if j = i then -1 else up j) i j) : Under up i j := by
  induction h with
  | self => exact .self
  | step h1 _ ih =>
    split at h1
    · omega
    · exact .step h1 ih
theorem loadL_some : ∀ (l : List S54) (xs : List S79) (roots ar : List Int), Good M xs → M < 900000 → (∀ x ∈ l, x.f4.length ≤ M) → DepthOk (ar.length : Int) l → xs.length + l.length ≤ 4096 → roots.length ≤ xs.length → ar.length ≤ xs.length →
    (∀ v ∈ ar, 0 ≤ v ∧ v < (xs.length : Int)) → ∃ ys rs, loadL l xs roots ar = some (ys, roots ++ rs) ∧ Good M ys ∧ ys.length = xs.length + l.length ∧ (ar = [] → l ≠ [] → rs ≠ [])
  | [], xs, roots, ar, h, _, _, _, _, _, _, _ => ⟨xs, [], by simp [loadL], h, rfl, fun _ h => absurd rfl h⟩
  | x :: l, xs, roots, ar, h, hM, hx, hd, hl, hr, ha, hv => by
    have hx0 := hx x List.mem_cons_self
    have hxl : ∀ y ∈ l, y.f4.length ≤ M := fun y hy => hx y (List.mem_cons_of_mem _ hy)
    obtain ⟨d0, d1, d2⟩ := hd
    simp only [List.length_cons] at hl
    have hg := h.add x hx0 (by omega)
    have hal : (addN xs x).length = xs.length + 1 := by simp [addN]
    have hlen := h.len
    simp only [loadL]
    rw [if_pos ⟨d0, by omega, by omega, by omega, by omega, by omega⟩]
    by_cases c : x.f0 = 0
    · rw [if_pos c]
      rw [c] at d2
      obtain ⟨ys, rs, h1, h2, h3, _⟩ := loadL_some l (addN xs x) (roots ++ [(xs.length : Int)]) [(xs.length : Int)] hg hM hxl d2 (by omega) (by rw [hal, List.length_append]; simp; omega) (by rw [hal]; simp) (fun v hv => by rw [List.mem_singleton.1 hv, hal]; omega)
      exact ⟨ys, (xs.length : Int) :: rs, by rw [h1, List.append_assoc]; rfl, h2, by rw [h3, hal, List.length_cons]; omega, fun _ _ => by simp⟩
    · rw [if_neg c]
      have hq := hv _ (getD_mem (show x.f0.toNat - 1 < ar.length by omega) 0)
      generalize ar.getD (x.f0.toNat - 1) 0 = q at hq ⊢
      obtain ⟨p, rfl⟩ := Int.eq_ofNat_of_zero_le hq.1
      have hkl := hg.kids_le p
      rw [hal] at hkl
      unfold ks9 at hkl
      rw [if_pos ⟨hq.1, hq.2, by omega⟩, Int.toNat_natCast]
      have hleaf : ks9 (addN xs x) xs.length = [] := by unfold ks9 addN; rw [rd_add, if_pos rfl]
      have hpos := h.tree.pos
      have hp := hg.put p (rd_T79 (addN xs x) (p : Int)).f2.length xs.length (by omega) (by omega) (by omega) (by unfold up9 addN; rw [rd_add, if_pos rfl]; split <;> rfl) (fun hu => by have := under_leaf hg.tree hleaf hu; omega)
      obtain ⟨ys, rs, h1, h2, h3, _⟩ := loadL_some l (putN (addN xs x) p (rd_T79 (addN xs x) (p : Int)).f2.length xs.length) roots (ar.take x.f0.toNat ++ [(xs.length : Int)]) hp hM hxl (by rw [List.length_append, List.length_take]; simp only [List.length_cons, List.length_nil]; rw [show ((min x.f0.toNat ar.length + (0 + 1) : Nat) : Int) = x.f0 + 1 by omega]; exact d2) (by rw [putN_length]; omega) (by rw [putN_length]; omega) (by rw [putN_length, List.length_append, List.length_take]; simp; omega) (fun v hv2 => by
        rw [putN_length, hal]
        rcases List.mem_append.1 hv2 with h5 | h5
        · have := hv v (List.mem_of_mem_take h5); omega
        · rw [List.mem_singleton.1 h5]; omega)
      refine ⟨ys, rs, h1, h2, by rw [h3, putN_length, hal, List.length_cons]; omega, fun e _ => ?_⟩
      subst e
      simp at d1
      omega
/-- What a call keeps: an error changes nothing; no node is lost. -/
def Keeps (M : Nat) (xs : List S79) (e : Int) (ys : List S79) : Prop := (e ≠ 0 → ys = xs) ∧ xs.length ≤ ys.length ∧ Good M ys
theorem Keeps.same (h : Good M xs) (e : Int) : Keeps M xs e xs := ⟨fun _ => rfl, Nat.le_refl _, h⟩
theorem keeps_make (h : Good M xs) (m : Bool) (kind : Int) (name data : ByteArray) : Keeps M xs (makeR xs m kind name data).2.1 (makeR xs m kind name data).2.2 := by
  unfold makeR
  split
  · exact .same h _
  · split
    · exact .same h _
    · exact ⟨fun h => absurd rfl h, by simp [addN], h.add _ (Nat.zero_le _) (by omega)⟩
theorem keeps_remove (h : Good M xs) (n : Int) : Keeps M xs (removeR xs n).1 (removeR xs n).2 := by
  unfold removeR someB
  split
  · rename_i c
    have := of_decide_eq_true c
    exact ⟨fun h => absurd rfl h, by rw [takeN_length]; exact Nat.le_refl _, h.take _ (by omega)⟩
  · exact .same h _
theorem keeps_data (h : Good M xs) (n : Int) (s : ByteArray) : Keeps M xs (dataR xs n s).1 (dataR xs n s).2 := by
  unfold dataR someB
  split
  · rename_i c
    simp only [Bool.and_eq_true, decide_eq_true_eq] at c
    obtain ⟨i, rfl⟩ := Int.eq_ofNat_of_zero_le (show 0 ≤ n by omega)
    rw [Int.toNat_natCast]
    exact ⟨fun h => absurd rfl h, by simp, h.row i (withData (rd_T79 xs (i : Int)) s) rfl rfl (h.attrs i) (Nat.le_refl _)⟩
  · exact .same h _
theorem keeps_insert (h : Good M xs) (p a n : Int) : ∃ k r, insertR xs k p a n = some r ∧ Keeps M xs r.1 r.2 := by
  unfold insertR inB someB
  obtain ⟨k, b, hk, hb⟩ := withinF_some h p n
  refine ⟨k, ?_⟩
  by_cases c1 : 0 ≤ p ∧ p < (xs.length : Int)
  · rw [decide_eq_true c1, if_neg (by decide)]
    by_cases c2 : 0 < n ∧ n < (xs.length : Int)
    · rw [decide_eq_true c2, if_neg (by decide)]
      split
      · exact ⟨_, rfl, .same h _⟩
      · rw [hk]
        cases b with
        | true => exact ⟨_, rfl, .same h _⟩
        | false =>
          dsimp only
          split
          · exact ⟨_, rfl, .same h _⟩
          · refine ⟨_, rfl, fun h => absurd rfl h, by rw [putN_length, takeN_length]; exact Nat.le_refl _, ?_⟩
            obtain ⟨j, rfl⟩ := Int.eq_ofNat_of_zero_le c1.1
            obtain ⟨i, rfl⟩ := Int.eq_ofNat_of_zero_le (show 0 ≤ n by omega)
            have hb2 := hb i j rfl rfl (by omega) (by omega)
            simp only [Int.toNat_natCast]
            have hnu : ¬ Under (up9 xs) i j := fun hu => by simpa using hb2.2 hu
            have e1 := (takeN_up h i (by omega)).1
            refine (h.take i (by omega)).put j a.toNat i (by rw [takeN_length]; omega) (by rw [takeN_length]; omega) (by omega) (by rw [e1]; exact if_pos rfl) fun hu => hnu ?_
            rw [e1] at hu
            exact under_less hu
    · rw [decide_eq_false c2, if_pos rfl]
      exact ⟨_, rfl, .same h _⟩
  · rw [decide_eq_false c1, if_pos rfl]
    exact ⟨_, rfl, .same h _⟩
theorem keeps_clone (h : Good M xs) (hM : M < 900000) (n : Int) : ∃ k r, cloneR xs k n = some r ∧ Keeps M xs r.2.2 r.1 := by
  obtain ⟨new, h1, h2, h3, h4, h5⟩ := rowsR_some h n
  refine ⟨xs.length + 1, ?_⟩
  unfold cloneR
  cases hs : someB xs n with
  | false => exact ⟨_, by rw [if_pos rfl], .same h _⟩
  | true =>
    rw [if_neg (by decide), h1]
    dsimp only
    split
    · exact ⟨_, rfl, .same h _⟩
    · obtain ⟨ys, rs, g1, g2, g3, g4⟩ := loadL_some new xs [] [] h hM h4 (by simpa using h2) (by omega) (by simp) (by simp) (by simp)
      have g5 := g4 rfl (h5 hs)
      rw [g1]
      cases rs with
      | nil => exact absurd rfl g5
      | cons q rs => exact ⟨_, rfl, fun h => absurd rfl h, by rw [g3]; omega, g2⟩
theorem keeps_load (h : Good M xs) (hM : M < 900000) (l : List S54) (k : Nat) (e : Int) (hk : rows_Check.f k l = some e) (hd : e = 0 → DepthOk 0 l) (hx : ∀ x ∈ l, x.f4.length ≤ M) : ∃ r, loadR xs k l = some r ∧ Keeps M xs r.2.2 r.1 := by
  unfold loadR
  rw [hk]
  dsimp only
  split
  · exact ⟨_, rfl, .same h _⟩
  · rename_i c
    split
    · exact ⟨_, rfl, .same h _⟩
    · obtain ⟨ys, rs, g1, g2, g3, g4⟩ := loadL_some l xs [] [] h hM hx (by simpa using hd (by omega)) (by omega) (by simp) (by simp) (by simp)
      rw [g1]
      exact ⟨_, rfl, fun h => absurd rfl h, by dsimp only; omega, g2⟩
theorem setAttr_le (n v : ByteArray) : ∀ l : List S52, (setAttr l n v).length ≤ l.length + 1
  | [] => by simp [setAttr]
  | a :: l => by
    have := setAttr_le n v l
    simp only [setAttr]
    split <;> simp <;> omega
theorem keeps_attr (h : Good M xs) (k : Nat) (n : Int) (name value : ByteArray) (b : Bool) (hN : names_Attr.f k name = some b) : ∃ r, attrR xs k n name value = some r ∧ Keeps (M + 1) xs r.1 r.2 := by
  unfold attrR
  have hw := h.weak (Nat.le_succ M)
  by_cases c : elemB xs n = false
  · rw [if_pos c]
    exact ⟨_, rfl, .same hw _⟩
  · rw [if_neg c, hN]
    cases b with
    | false => exact ⟨_, rfl, .same hw _⟩
    | true =>
      refine ⟨_, rfl, fun h => absurd rfl h, by simp, ?_⟩
      have c2 : elemB xs n = true := by simpa using c
      have c3 := of_decide_eq_true c2
      obtain ⟨i, rfl⟩ := Int.eq_ofNat_of_zero_le (show 0 ≤ n by omega)
      rw [Int.toNat_natCast]
      exact h.row i (withAttrs (rd_T79 xs (i : Int)) (setAttr (rd_T79 xs (i : Int)).f0.f4 name value)) rfl rfl (Nat.le_trans (setAttr_le _ _ _) (Nat.succ_le_succ (h.attrs i))) (Nat.le_succ M)
theorem keeps_drop (h : Good M xs) (n : Int) (name : ByteArray) : Keeps M xs (dropR xs n name).1 (dropR xs n name).2 := by
  unfold dropR
  by_cases c : elemB xs n = false
  · rw [if_pos c]
    exact .same h _
  · rw [if_neg c]
    split
    · exact .same h _
    · refine ⟨fun h => absurd rfl h, by simp, ?_⟩
      have c2 : elemB xs n = true := by simpa using c
      have c3 := of_decide_eq_true c2
      obtain ⟨i, rfl⟩ := Int.eq_ofNat_of_zero_le (show 0 ≤ n by omega)
      rw [Int.toNat_natCast]
      exact h.row i (withAttrs (rd_T79 xs (i : Int)) ((rd_T79 xs (i : Int)).f0.f4.eraseIdx (idxA name 0 (rd_T79 xs (i : Int)).f0.f4).toNat)) rfl rfl (Nat.le_trans (List.length_eraseIdx_le _ _) (h.attrs i)) (Nat.le_refl M)
theorem good_new : Good 0 newDoc := by
  refine ⟨⟨by decide, rfl, fun i => .inl ?_, fun p k hk => ?_, fun p => ?_, ⟨fun _ => 0, fun i p hp => ?_⟩⟩, fun i => ?_, by decide⟩
  · match i with
    | 0 => rfl
    | i + 1 => unfold up9; rw [if_neg (by simp [newDoc])]
  · match p with
    | 0 => cases hk
    | p + 1 => unfold ks9 at hk; rw [rd_out _ _ (by simp [newDoc])] at hk; cases hk
  · match p with
    | 0 => exact List.nodup_nil
    | p + 1 => unfold ks9; rw [rd_out _ _ (by simp [newDoc])]; exact List.nodup_nil
  · match i with
    | 0 => exact absurd hp (by show (-1 : Int) ≠ _; omega)
    | i + 1 => unfold up9 at hp; rw [if_neg (by simp [newDoc])] at hp; omega
  · match i with
    | 0 => exact Nat.le_refl _
    | i + 1 => rw [rd_out _ _ (by simp [newDoc])]; exact Nat.le_refl _
end
end Go.Proofs.Ytpkaliaaffgbdaa.QA
