/- The document of package arena in memory: its words, and the functions that only read it. -/
import Derived.Test.YtpkaliaaffgbdaaQAx4
namespace Go.Proofs.Ytpkaliaaffgbdaa.QA
open Go.RowKit Go.Proofs.YtpkaliaaffgbdaaW.PrintWords Go.Proofs.YtpkaliaaffgbdaaW.PrintLast Go.Proofs.YtpkaliaaffgbdaaW.PrintMore
attribute [local go_sem] max2_int min2_int max_two min_two max_three min_three max_four min_four   -- for this text's walks alone
set_option linter.unusedVariables false
set_option linter.unusedSimpArgs false

open Go
/-- Nothing else than blocks of S, and what is made, differs. -/
structure Mod (W W' : World) (S : Nat → Prop) : Prop where
  os : W'.os = W.os
  tape : W'.tape = W.tape
  output : W'.output = W.output
  size : W.heap.size ≤ W'.heap.size
  block : ∀ k, k < W.heap.size → ¬ S k → W'.heap[k]? = W.heap[k]?
section
variable {W W1 W2 w0 : World} {S S2 ok ok' ok2 : Nat → Prop} {g B : Nat} {xs ys : List S79}
theorem Mod.refl (W : World) (S : Nat → Prop) : Mod W W S := ⟨rfl, rfl, rfl, Nat.le_refl _, fun _ _ _ => rfl⟩
theorem Mod.trans (h : Mod W W1 S) (h2 : Mod W1 W2 S2) (hs : ∀ k, S2 k → S k ∨ W.heap.size ≤ k) : Mod W W2 S :=
  ⟨h2.os.trans h.os, h2.tape.trans h.tape, h2.output.trans h.output, Nat.le_trans h.size h2.size, fun k hk hn => (h2.block k (Nat.lt_of_lt_of_le hk h.size) fun h3 => (hs k h3).elim hn fun h4 => absurd hk (Nat.not_lt.2 h4)).trans (h.block k hk hn)⟩
theorem Mod.of_below (h : Below W.heap.size W W1) : Mod W W1 S := ⟨h.os, h.tape, h.output, h.size, fun k hk _ => h.block k hk⟩
theorem Mod.drewN (W : World) (S : Nat → Prop) (n : Nat) : Mod W (W.drewN n) S := Mod.of_below (pw_below_drewN (Below.refl _ _) n)
theorem Mod.mono (h : Mod W W1 S) (hs : ∀ k, S k → S2 k) : Mod W W1 S2 := ⟨h.os, h.tape, h.output, h.size, fun k hk hn => h.block k hk fun h2 => hn (hs k h2)⟩
theorem Mod.below (hm : Mod W W1 S) (h : Below B w0 W) (hBW : B ≤ W.heap.size) (hS : ∀ k, S k → B ≤ k) : Below B w0 W1 :=
  ⟨hm.os.trans h.os, hm.tape.trans h.tape, hm.output.trans h.output, Nat.le_trans h.size hm.size, fun k hk => (hm.block k (Nat.lt_of_lt_of_le hk hBW) fun h2 => absurd hk (Nat.not_lt.2 (hS k h2))).trans (h.block k hk)⟩
theorem Mod.kept (h : Mod W W1 S) : Kept W W1 S := ⟨h.size, h.block⟩
theorem Mod.set (h : Mod W W1 S) (p : Addr) (u : Value) (hp : S p.block ∨ W.heap.size ≤ p.block) : Mod W (W1.setCell p u) S :=
  ⟨h.os, h.tape, h.output, by simpa [World.setCell] using h.size, fun k hk hn => (Below.heap_setCell W1 p u k fun e => hp.elim (fun h2 => hn (e ▸ h2)) fun h2 => by omega).trans (h.block k hk hn)⟩
theorem Mod.step (h : Mod W W1 S) (hb : Below W1.heap.size W1 W2) : Mod W W2 S := h.trans (S2 := fun _ => False) (Mod.of_below hb) (fun _ h => h.elim)
theorem Mod.grown (h : Mod W W1 S) {row : Option Nat} (hb : Below B W1 W2) (hg : W1.grownBy W2 row) (hr : ∀ k, row = some k → S k ∨ W.heap.size ≤ k) : Mod W W2 S :=
  ⟨hb.os.trans h.os, hb.tape.trans h.tape, hb.output.trans h.output, Nat.le_trans h.size hg.size, fun k hk hn => (hg.block k (Nat.lt_of_lt_of_le hk h.size) fun e => (hr k e.symm).elim hn fun h2 => by omega).trans (h.block k hk hn)⟩
/-- A document at block g: its nodes, all that they lead to lies in blocks of ok. -/
def IsDoc (W : World) (ok : Nat → Prop) (g : Nat) (xs : List S79) : Prop :=
  ∃ v, W.heap[g]? = some (.cells #[v] 82 (0, 0)) ∧ ok g ∧ Kd.S k79 79 W 0 (fun k => ok k ∧ k ≠ g) v xs
theorem IsDoc.lt (h : IsDoc W ok g xs) : g < W.heap.size := by
  obtain ⟨v, hb, _, _⟩ := h
  exact blk_lt hb
theorem IsDoc.own (h : IsDoc W ok g xs) : ok g := h.choose_spec.2.1
theorem IsDoc.mono (h : IsDoc W ok g xs) (ho : ∀ k, ok k → ok' k) : IsDoc W ok' g xs := by
  obtain ⟨v, hb, hg, hS⟩ := h
  exact ⟨v, hb, ho g hg, Kd.S_mono hS fun k hk => ⟨ho k hk.1, hk.2⟩⟩
theorem IsDoc.bound (h : IsDoc W ok g xs) : IsDoc W (fun k => ok k ∧ k < W.heap.size) g xs := by
  obtain ⟨v, hb, hg, hS⟩ := h
  exact ⟨v, hb, ⟨hg, blk_lt hb⟩, Kd.S_mono (Kd.S_bound hS) fun k hk => ⟨⟨hk.1.1, hk.2.2.1⟩, hk.1.2⟩⟩
theorem IsDoc.move (h : IsDoc W ok g xs) (hm : ∀ k, ok k → k < W.heap.size → W1.heap[k]? = W.heap[k]?) : IsDoc W1 ok g xs := by
  obtain ⟨v, hb, hg, hS⟩ := h
  exact ⟨v, (hm g hg (blk_lt hb)).trans hb, hg, Kd.S_step hS fun k hk hl => hm k hk.1 hl⟩
theorem IsDoc.mod (h : IsDoc W ok g xs) (hm : Mod W W1 S) (hd : ∀ k, ok k → ¬ S k) : IsDoc W1 ok g xs := h.move fun k hk hl => hm.block k hl (hd k hk)
theorem IsDoc.below (h : IsDoc W ok g xs) (hb : Below W.heap.size W W1) : IsDoc W1 ok g xs := h.move fun k _ hl => hb.block k hl
theorem IsDoc.drewN (h : IsDoc W ok g xs) (n : Nat) : IsDoc (W.drewN n) ok g xs := h.below (pw_below_drewN (Below.refl _ _) n)
theorem IsDoc.reads (h : IsDoc W ok g xs) : ∃ A c, W.heap[g]? = some (.cells #[.slice A xs.length c] 82 (0, 0)) ∧ xs.length ≤ c ∧ Kd.C k79 W A xs.length xs := by
  obtain ⟨v, hb, hg, hS⟩ := h
  obtain ⟨A, c, rfl, hl, hC⟩ := Kd.R_reads (Kd.S_R hS)
  exact ⟨A, c, hb, hl, hC⟩
theorem doc_cell {v : Value} {t : TypeId} (h : W.heap[g]? = some (.cells #[v] t (0, 0))) : W.cell? ⟨g, 0, none⟩ = some v := (blk_cell h 0).trans rfl
/-- Node i: where it lies, what it holds. -/
theorem IsDoc.node (h : IsDoc W ok g xs) (i : Nat) (hi : i < xs.length) : ∃ G c A4 c4 A6 c6, W.heap[g]? = some (.cells #[.slice (some ⟨G, 0, none⟩) xs.length c] 82 (0, 0)) ∧ xs.length ≤ c ∧
    (W.cell? ⟨G, i * 7, none⟩ = some (.int .i64 xs[i].f0.f0) ∧ W.cell? ⟨G, i * 7 + 1, none⟩ = some (.int .i64 xs[i].f0.f1) ∧ W.cell? ⟨G, i * 7 + 2, none⟩ = some (.string xs[i].f0.f2) ∧ W.cell? ⟨G, i * 7 + 3, none⟩ = some (.string xs[i].f0.f3) ∧
    W.cell? ⟨G, i * 7 + 4, none⟩ = some (.slice A4 xs[i].f0.f4.length c4) ∧ W.cell? ⟨G, i * 7 + 5, none⟩ = some (.int .i64 xs[i].f1) ∧ W.cell? ⟨G, i * 7 + 6, none⟩ = some (.slice A6 xs[i].f2.length c6)) ∧
    (xs[i].f0.f4.length ≤ c4 ∧ k52.C W A4 xs[i].f0.f4.length xs[i].f0.f4) ∧ (xs[i].f2.length ≤ c6 ∧ (Kd.int .i64).C W A6 xs[i].f2.length xs[i].f2) ∧ (∀ j, W.frozen? ⟨G, i * 7 + j, none⟩ = false) ∧ ok G ∧ G ≠ g := by
  obtain ⟨v, hb, hg, hS⟩ := h
  have hR := Kd.S_R hS
  obtain ⟨G, c, rfl, _, _, _, _⟩ := Kd.R_form hR (by omega)
  obtain ⟨hn, hnc, hC⟩ := Kd.R_reads' hR
  obtain ⟨cs, _, _, _, hf⟩ := Kd.R_elem hR z79 (i : Int) (by omega) (by omega)
  obtain ⟨ad, A4, c4, A6, c6, e, h0, h1, h2, h3, h4, h5, h6, l4, g4, l6, g6⟩ := at_T79 hC (i : Int) (by omega) (by omega)
  cases e
  have e : rd_T79 xs (i : Int) = xs[i] := by simp [rd_T79, List.getElem?_eq_getElem hi]
  rw [e] at h0 h1 h2 h3 h4 h5 h6 l4 g4 l6 g6
  simp only [add_plain, Int.toNat_natCast] at h0 h1 h2 h3 h4 h5 h6 hf
  exact ⟨G, c, A4, c4, A6, c6, hb, hnc, ⟨h0, h1, h2, h3, h4, h5, h6⟩, ⟨l4, g4⟩, ⟨l6, g6⟩, hf, (hR.1 G rfl).1, (hR.1 G rfl).2⟩
/-- The document, changed: its blocks are those that it had, and new ones. -/
def To (W W1 : World) (ok : Nat → Prop) (g : Nat) (ys : List S79) : Prop :=
  ∃ ok', IsDoc W1 ok' g ys ∧ (∀ k, ok' k → ok k ∨ W.heap.size ≤ k) ∧ (∀ k, ok' k → k < W1.heap.size) ∧ Mod W W1 ok
theorem To.mk (h : IsDoc W1 ok' g ys) (hg : ∀ k, ok' k → ok k ∨ W.heap.size ≤ k) (hm : Mod W W1 ok) : To W W1 ok g ys :=
  ⟨_, h.bound, fun k hk => hg k hk.1, fun k hk => hk.2, hm⟩
theorem To.quiet (h : IsDoc W ok g xs) (hb : Below W.heap.size W W1) : To W W1 ok g xs := To.mk (h.below hb) (fun _ hk => .inl hk) (Mod.of_below hb)
/-- Behind what only makes. -/
theorem To.after (hb : Below W.heap.size W W1) (h : To W1 W2 ok g ys) : To W W2 ok g ys := by
  obtain ⟨ok1, hI, hg, hl, hm⟩ := h
  exact ⟨ok1, hI, fun k hk => (hg k hk).imp id (fun h => Nat.le_trans hb.size h), hl, (Mod.of_below hb).trans hm fun k hk => .inl hk⟩
theorem To.then_ (h : To W W1 ok g ys) (hb : Below W1.heap.size W1 W2) : To W W2 ok g ys := by
  obtain ⟨ok1, hI, hg, hl, hm⟩ := h
  exact ⟨ok1, hI.below hb, hg, fun k hk => Nat.lt_of_lt_of_le (hl k hk) hb.size, hm.step hb⟩
theorem To.trans (h : To W W1 ok g xs) (h2 : ∀ ok', IsDoc W1 ok' g xs → (∀ k, ok' k → ok k ∨ W.heap.size ≤ k) → To W1 W2 ok' g ys) : To W W2 ok g ys := by
  obtain ⟨ok1, hI, hg, hl, hm⟩ := h
  obtain ⟨ok2, hI2, hg2, hl2, hm2⟩ := h2 ok1 hI hg
  exact ⟨ok2, hI2, fun k hk => (hg2 k hk).elim (hg k) (fun h => .inr (Nat.le_trans hm.size h)), hl2, hm.trans hm2 hg⟩
end
/-! #### the readers -/
section
variable {W w : World} {ok : Nat → Prop} {g : Nat} {xs : List S79}
set_option maxHeartbeats 1000000 in
set_option maxRecDepth 100000 in
theorem Doc_is (h : IsDoc w ok g xs) (n : Int) : Calls Try.prog 36 #[.pointer (some ⟨g, 0, none⟩), .int .i64 n] w fun e w' => e = .returned (.bool (decide (0 ≤ n ∧ n < (xs.length : Int)))) ∧ Drawn0 w w' := by
  obtain ⟨A, c, hb, hl, hC⟩ := h.reads
  have hc := doc_cell hb
  clear hb hl hC h
  by_cases c0 : 0 ≤ n
  · have c1 : decide (0 ≤ n) = true := decide_eq_true c0
    go_enter Try.func36, Try.ntmps36
    go_wp2
    go_ret
    exact ⟨by simp [c0], ⟨0, rfl⟩⟩
  · have c1 : decide (0 ≤ n) = false := decide_eq_false c0
    go_enter Try.func36, Try.ntmps36
    go_wp2
    go_ret
    exact ⟨by simp [c0], ⟨0, rfl⟩⟩
set_option maxHeartbeats 1000000 in
set_option maxRecDepth 100000 in
theorem Doc_some (h : IsDoc w ok g xs) (n : Int) : Calls Try.prog 39 #[.pointer (some ⟨g, 0, none⟩), .int .i64 n] w fun e w' => e = .returned (.bool (decide (0 < n ∧ n < (xs.length : Int)))) ∧ Drawn0 w w' := by
  obtain ⟨A, c, hb, hl, hC⟩ := h.reads
  have hc := doc_cell hb
  clear hb hl hC h
  by_cases c0 : 0 < n
  · have c1 : decide (0 < n) = true := decide_eq_true c0
    go_enter Try.func39, Try.ntmps39
    go_wp2
    go_ret
    exact ⟨by simp [c0], ⟨0, rfl⟩⟩
  · have c1 : decide (0 < n) = false := decide_eq_false c0
    go_enter Try.func39, Try.ntmps39
    go_wp2
    go_ret
    exact ⟨by simp [c0], ⟨0, rfl⟩⟩
set_option maxHeartbeats 1000000 in
set_option maxRecDepth 100000 in
theorem Doc_Len (h : IsDoc w ok g xs) : Calls Try.prog 30 #[.pointer (some ⟨g, 0, none⟩)] w fun e w' => e = .returned (.int .i64 (xs.length : Nat)) ∧ Drawn0 w w' := by
  obtain ⟨A, c, hb, hl, hC⟩ := h.reads
  have hc := doc_cell hb
  clear hb hl hC h
  go_enter Try.func30, Try.ntmps30
  go_wp2
  go_ret
  exact ⟨rfl, ⟨0, rfl⟩⟩
/-- The node that a number means. -/
abbrev nd (xs : List S79) (n : Int) : S79 := rd_T79 xs n
theorem nd_at (i : Nat) (hi : i < xs.length) : rd_T79 xs (i : Int) = xs[i] := by simp [rd_T79, List.getElem?_eq_getElem hi]
set_option maxHeartbeats 1000000 in
set_option maxRecDepth 100000 in
theorem Doc_Parent (h : IsDoc w ok g xs) (n : Int) : Calls Try.prog 15 #[.pointer (some ⟨g, 0, none⟩), .int .i64 n] w fun e w' => e = .returned (.int .i64 (if 0 ≤ n ∧ n < (xs.length : Int) then (rd_T79 xs n).f1 else -1)) ∧ Drawn0 w w' := by
  have hI := Doc_is h n
  by_cases c0 : 0 ≤ n ∧ n < (xs.length : Int)
  · rw [decide_eq_true c0] at hI
    obtain ⟨i, rfl⟩ := Int.eq_ofNat_of_zero_le c0.1
    have hi : i < xs.length := by omega
    obtain ⟨G, c, A4, c4, A6, c6, hb, hl, ⟨h0, h1, h2, h3, h4, h5, h6⟩, _, _, _, _⟩ := h.node i hi
    have hc := doc_cell hb
    have hz : (i : Int) < (xs.length : Int) := by omega
    rw [if_pos c0, nd_at i hi]
    clear hb hl h c0 h0 h1 h2 h3 h4 h6
    go_enter Try.func15, Try.ntmps15
    go_wp2_with (go_at_call 36; refine hI.mono ?_; rintro e w' ⟨rfl, ⟨m, rfl⟩⟩)
    go_ret
    exact ⟨rfl, ⟨_, rfl⟩⟩
  · rw [decide_eq_false c0] at hI
    rw [if_neg c0]
    go_enter Try.func15, Try.ntmps15
    go_wp2_with (go_at_call 36; refine hI.mono ?_; rintro e w' ⟨rfl, ⟨m, rfl⟩⟩)
    go_ret
    exact ⟨rfl, ⟨_, rfl⟩⟩
set_option maxHeartbeats 1000000 in
set_option maxRecDepth 100000 in
theorem Doc_element (h : IsDoc w ok g xs) (n : Int) : Calls Try.prog 47 #[.pointer (some ⟨g, 0, none⟩), .int .i64 n] w fun e w' => e = .returned (.bool (decide (0 < n ∧ n < (xs.length : Int) ∧ (rd_T79 xs n).f0.f1 = 0))) ∧ Drawn0 w w' := by
  have hI := Doc_some h n
  by_cases c0 : 0 < n ∧ n < (xs.length : Int)
  · rw [decide_eq_true c0] at hI
    obtain ⟨i, rfl⟩ := Int.eq_ofNat_of_zero_le (show 0 ≤ n by omega)
    have hi : i < xs.length := by omega
    obtain ⟨G, c, A4, c4, A6, c6, hb, hl, ⟨h0, h1, h2, h3, h4, h5, h6⟩, _, _, _, _⟩ := h.node i hi
    have hc := doc_cell hb
    have hz : (i : Int) < (xs.length : Int) := by omega
    have e : decide (0 < (i : Int) ∧ (i : Int) < (xs.length : Int) ∧ (rd_T79 xs (i : Int)).f0.f1 = 0) = decide (xs[i].f0.f1 = 0) := by rw [nd_at i hi]; exact decide_eq_decide.2 ⟨fun h => h.2.2, fun h => ⟨c0.1, c0.2, h⟩⟩
    rw [e]
    clear hb hl h c0 h0 h2 h3 h4 h5 h6 e
    go_enter Try.func47, Try.ntmps47
    go_wp2_with (go_at_call 39; refine hI.mono ?_; rintro e w' ⟨rfl, ⟨m, rfl⟩⟩)
    go_ret
    exact ⟨by rfl, ⟨_, rfl⟩⟩
  · rw [decide_eq_false c0] at hI
    have e : decide (0 < n ∧ n < (xs.length : Int) ∧ (rd_T79 xs n).f0.f1 = 0) = false := decide_eq_false fun h => c0 ⟨h.1, h.2.1⟩
    rw [e]
    go_enter Try.func47, Try.ntmps47
    go_wp2_with (go_at_call 39; refine hI.mono ?_; rintro e w' ⟨rfl, ⟨m, rfl⟩⟩)
    go_ret
    exact ⟨rfl, ⟨_, rfl⟩⟩
/-- Whether node n stands in o's tree, k steps at most. -/
def withinL (xs : List S79) : Nat → Int → Int → Option Bool
  | 0, _, _ => none
  | k + 1, n, o => if n = o then some true else if n = -1 then some false else if 0 ≤ n ∧ n < (xs.length : Int) then withinL xs k (rd_T79 xs n).f1 o else none
def withinF (xs : List S79) (k : Nat) (n o : Int) : Option Bool := if (0 ≤ n ∧ n < (xs.length : Int)) ∧ (0 ≤ o ∧ o < (xs.length : Int)) then withinL xs k n o else some false
set_option maxHeartbeats 2000000 in
set_option maxRecDepth 100000 in
theorem Doc_Within (h : IsDoc w ok g xs) (k : Nat) (n o : Int) (r : Bool) (hr : withinF xs k n o = some r) : Calls Try.prog 28 #[.pointer (some ⟨g, 0, none⟩), .int .i64 n, .int .i64 o] w fun e w' => e = .returned (.bool r) ∧ Drawn0 w w' := by
  have hI := Doc_is h n
  unfold withinF at hr
  by_cases c0 : 0 ≤ n ∧ n < (xs.length : Int)
  · rw [decide_eq_true c0] at hI
    have hJ := fun m => Doc_is (h.drewN m) o
    by_cases c1 : 0 ≤ o ∧ o < (xs.length : Int)
    · rw [decide_eq_true c1] at hJ
      rw [if_pos ⟨c0, c1⟩] at hr
      have H' := Aside0.mk hr
      have HI := Aside0.mk h
      clear hr h c0 c1
      go_enter Try.func28, Try.ntmps28
      go_wp2_with (first | (go_at_call 36; refine hI.mono ?_; rintro e w' ⟨rfl, ⟨m, rfl⟩⟩; clear hI; have hI := hJ m))
      go_loopg [1] k (fun kq v1 w' => ∃ (x1 : Int), v1 = .int .i64 x1 ∧ Aside0 (withinL xs kq x1 o = some r) ∧ Drawn0 w w')
      case atStart => exact ⟨n, rfl, H', by repeat (first | exact Drawn0.refl _ | apply Drawn0.step)⟩
      case round =>
        clear H' hI hJ
        obtain ⟨x1, rfl, HA, ⟨m1, rfl⟩⟩ := hrel
        cases gk with
        | zero => exact absurd HA.out (by simp [withinL])
        | succ k1 =>
          have H := HA.out
          clear HA
          simp only [withinL] at H
          by_cases c4 : x1 = o
          · rw [if_pos c4] at H
            obtain rfl := Option.some.inj H
            subst c4
            go_wp2
            repeat (go_quiet (fail); try go_wp2)
            go_ret
            exact ⟨by simp, by repeat (first | exact Drawn0.refl _ | apply Drawn0.step)⟩
          · rw [if_neg c4] at H
            have c4b0 : (x1 == o) = false := beq_eq_false_iff_ne.2 c4
            have c4b1 : (x1 != o) = true := bne_iff_ne.2 c4
            by_cases c5 : x1 = -1
            · rw [if_pos c5] at H
              obtain rfl := Option.some.inj H
              subst c5
              go_wp2
              repeat (go_quiet (fail); try go_wp2)
              go_ret
              exact ⟨by simp [c4], by repeat (first | exact Drawn0.refl _ | apply Drawn0.step)⟩
            · rw [if_neg c5] at H
              have c5b0 : (x1 == -1) = false := beq_eq_false_iff_ne.2 c5
              have c5b1 : (x1 != -1) = true := bne_iff_ne.2 c5
              by_cases c6 : 0 ≤ x1 ∧ x1 < (xs.length : Int)
              · rw [if_pos c6] at H
                obtain ⟨i, rfl⟩ := Int.eq_ofNat_of_zero_le c6.1
                have hi : i < xs.length := by omega
                obtain ⟨G, c, A4, c4', A6, c6', hb, hl, ⟨h0, h1, h2, h3, h4, h5, h6⟩, _, _, _, _⟩ := HI.out.node i hi
                have hc := doc_cell hb
                have hz : (i : Int) < (xs.length : Int) := by omega
                rw [nd_at i hi] at H
                have H' := Aside0.mk H
                clear hb hl c6 h0 h1 h2 h3 h4 h6 H c4 c5
                go_wp2
                repeat (go_quiet (fail); try go_wp2)
                go_roundg k1
                case measure => omega
                case rel => exact ⟨_, rfl, H', by repeat (first | exact Drawn0.refl _ | apply Drawn0.step)⟩
              · rw [if_neg c6] at H
                cases H
    · rw [decide_eq_false c1] at hJ
      rw [if_neg (fun h => c1 h.2)] at hr
      obtain rfl := Option.some.inj hr
      clear hr c0 c1
      go_enter Try.func28, Try.ntmps28
      go_wp2_with (first | (go_at_call 36; refine hI.mono ?_; rintro e w' ⟨rfl, ⟨m, rfl⟩⟩; clear hI; have hI := hJ m))
      go_ret
      exact ⟨rfl, by repeat (first | exact Drawn0.refl _ | apply Drawn0.step)⟩
  · rw [decide_eq_false c0] at hI
    rw [if_neg (fun h => c0 h.1)] at hr
    obtain rfl := Option.some.inj hr
    clear hr c0
    go_enter Try.func28, Try.ntmps28
    go_wp2_with (first | (go_at_call 36; refine hI.mono ?_; rintro e w' ⟨rfl, ⟨m, rfl⟩⟩))
    go_ret
    exact ⟨rfl, by repeat (first | exact Drawn0.refl _ | apply Drawn0.step)⟩
end
end Go.Proofs.Ytpkaliaaffgbdaa.QA
