/- The document of package arena: Kids, Remove, Insert, Data. The document of package arena: a node's attributes: slices.Delete, slices.IndexFunc at them; Attr, Drop. The document of package arena: slices.Delete, slices.IndexFunc at attributes; Drop. -/
import Derived.Test.YtpkaliaaffgbdaaM1
namespace Go.Proofs.Ytpkaliaaffgbdaa.QA
open Go.RowKit Go.Proofs.YtpkaliaaffgbdaaW.PrintWords Go.Proofs.YtpkaliaaffgbdaaW.PrintLast Go.Proofs.YtpkaliaaffgbdaaW.PrintMore
attribute [local go_sem] max2_int min2_int max_two min_two max_three min_three max_four min_four   -- for this text's walks alone
set_option linter.unusedVariables false
set_option linter.unusedSimpArgs false

open Go
/-- What the calls ask of the nodes. -/
structure Fit (xs : List S79) : Prop where
 up : ∀ i (hi : i < xs.length), xs[i].f1 = -1 ∨ ∃ p : Nat, ∃ h : p < xs.length, xs[i].f1 = (p : Int) ∧ (xs[p].f2.filter fun k => !(k == (i : Int))).length + 1 = xs[p].f2.length
 kids : ∀ i (hi : i < xs.length), xs[i].f2.length < 100000
 attrs : ∀ i (hi : i < xs.length), xs[i].f0.f4.length < 100000
 len : xs.length ≤ 100000
section
variable {W w : World} {ok okn : Nat → Prop} {g : Nat} {xs : List S79}
theorem Fit.take {xs : List S79} (h : Fit xs) (i : Nat) (hi : i < xs.length) : xs[i].f1 = -1 ∨ ∃ p : Nat, ∃ h : p < xs.length, xs[i].f1 = (p : Int) ∧ 0 < xs[p].f2.length ∧ xs[p].f2.length < 1000000 := by
 rcases h.up i hi with h1 | ⟨p, hp, h1, h2⟩
 ·exact .inl h1
 ·exact .inr ⟨p, hp, h1, by omega, by have := h.kids p hp; omega⟩
theorem To.link (h : To W w ok g xs) : ∃ ok1, IsDoc w ok1 g xs ∧ ∀ W2 ys, To w W2 ok1 g ys → To W W2 ok g ys := by
 obtain ⟨ok1, hI, hg, hl, hm⟩ := h
 refine ⟨ok1, hI, fun W2 ys h2 => ?_⟩
 obtain ⟨ok2, hI2, hg2, hl2, hm2⟩ := h2
 exact ⟨ok2, hI2, fun k hk => (hg2 k hk).elim (hg k) (fun h => .inr (Nat.le_trans hm.size h)), hl2, hm.trans hm2 hg⟩
def inB (xs : List S79) (n : Int) : Bool := decide (0 ≤ n ∧ n < (xs.length : Int))
def someB (xs : List S79) (n : Int) : Bool := decide (0 < n ∧ n < (xs.length : Int))
def kidsN (xs : List S79) (n : Int) : List Int := if inB xs n then (rd_T79 xs n).f2 else []
set_option maxHeartbeats 2000000 in
set_option maxRecDepth 100000 in
theorem Doc_Kids (h : IsDoc w ok g xs) (hF : Fit xs) (n : Int) : Calls Try.prog 14 #[.pointer (some ⟨g, 0, none⟩), .int .i64 n] w fun e w' => ∃ v, e = .returned v ∧ Kd.R (Kd.int .i64) 3 w' w.heap.size (fun _ => True) v (kidsN xs n) ∧ Below w.heap.size w w' := by
 have hI := Doc_is h n
 unfold kidsN inB
 by_cases c0 : 0 ≤ n ∧ n < (xs.length : Int)
 ·rw [decide_eq_true c0] at hI ⊢
  rw [if_pos rfl]
  obtain ⟨i, rfl⟩ := Int.eq_ofNat_of_zero_le c0.1
  have hi : i < xs.length := by omega
  obtain ⟨G, c, A4, c4, A6, c6, hb, hl, ⟨h0, h1, h2, h3, h4, h5, h6⟩, _, ⟨l6, g6⟩, _, _⟩ := h.node i hi
  have hc := doc_cell hb
  have hz : (i : Int) < (xs.length : Int) := by omega
  rw [nd_at i hi]
  have hcall := fun m => int_clone.calls A6 c6 xs[i].f2 xs[i].f2 (w.drewN m) (Kd.C_drewN g6 m) l6 (by unfold int_clone.f; rw [if_pos (by have := hF.kids i hi; omega)])
  clear hb hl h c0 h0 h1 h2 h3 h4 h5 l6 g6 hF
  go_enter Try.func14, Try.ntmps14
  go_wp2_with (first | (go_at_call 36; refine hI.mono ?_; rintro e w' ⟨rfl, ⟨m, rfl⟩⟩) | (go_at_call 42; refine (hcall _).mono ?_; rintro e w' ⟨v, rfl, hR, hB⟩; have HR := Aside0.mk hR; have HB := Aside0.mk hB; clear hR hB))
  go_ret
  exact ⟨_, rfl, Kd.R_lower HR.out (by simp), Below.trans (pw_below_drewN (Below.refl _ _) _) (HB.out.mono (by simp))⟩
 ·rw [decide_eq_false c0] at hI ⊢
  rw [if_neg (by decide)]
  go_enter Try.func14, Try.ntmps14
  go_wp2_with (first | (go_at_call 36; refine hI.mono ?_; rintro e w' ⟨rfl, ⟨m, rfl⟩⟩))
  go_ret
  exact ⟨_, rfl, Kd.R_nil _ _ _ _ _, pw_below_drewN (Below.refl _ _) _⟩
def removeR (xs : List S79) (n : Int) : Int × List S79 := if someB xs n then (0, takeN xs n.toNat) else (110, xs)
set_option maxHeartbeats 2000000 in
set_option maxRecDepth 100000 in
theorem Doc_Remove (h : IsDoc w ok g xs) (hF : Fit xs) (n : Int) : Calls Try.prog 17 #[.pointer (some ⟨g, 0, none⟩), .int .i64 n] w fun e w' => e = .returned (.int .i64 (removeR xs n).1) ∧ To w w' ok g (removeR xs n).2 := by
 have hI := Doc_some h n
 unfold removeR someB
 by_cases c0 : 0 < n ∧ n < (xs.length : Int)
 ·rw [decide_eq_true c0] at hI ⊢
  rw [if_pos rfl]
  obtain ⟨i, rfl⟩ := Int.eq_ofNat_of_zero_le (show 0 ≤ n by omega)
  have hi : i < xs.length := by omega
  rw [Int.toNat_natCast]
  have hcall := fun m => Doc_take (h.drewN m) i hi (hF.take i hi)
  clear h hF c0
  go_enter Try.func17, Try.ntmps17
  go_wp2_with (first | (go_at_call 39; refine hI.mono ?_; rintro e w' ⟨rfl, ⟨m, rfl⟩⟩) | (go_at_call 40; refine (hcall _).mono ?_; rintro e w' ⟨rfl, hT⟩; have HT := Aside0.mk hT; clear hT))
  go_ret
  exact ⟨rfl, To.after (pw_below_drewN (Below.refl _ _) _) HT.out⟩
 ·rw [decide_eq_false c0] at hI ⊢
  rw [if_neg (by decide)]
  have HI := Aside0.mk h
  clear h
  go_enter Try.func17, Try.ntmps17
  go_wp2_with (first | (go_at_call 39; refine hI.mono ?_; rintro e w' ⟨rfl, ⟨m, rfl⟩⟩))
  go_ret
  exact ⟨rfl, To.quiet HI.out (pw_below_drewN (Below.refl _ _) _)⟩
def dataR (xs : List S79) (n : Int) (s : ByteArray) : Int × List S79 := if someB xs n && !((rd_T79 xs n).f0.f1 == 0) then (0, xs.set n.toNat (withData (rd_T79 xs n) s)) else (110, xs)
set_option maxHeartbeats 2000000 in
set_option maxRecDepth 100000 in
theorem Doc_Data (h : IsDoc w ok g xs) (n : Int) (s : ByteArray) : Calls Try.prog 32 #[.pointer (some ⟨g, 0, none⟩), .int .i64 n, .string s] w fun e w' => e = .returned (.int .i64 (dataR xs n s).1) ∧ To w w' ok g (dataR xs n s).2 := by
 have hI := Doc_some h n
 unfold dataR someB
 by_cases c0 : 0 < n ∧ n < (xs.length : Int)
 ·rw [decide_eq_true c0] at hI ⊢
  rw [Bool.true_and]
  obtain ⟨i, rfl⟩ := Int.eq_ofNat_of_zero_le (show 0 ≤ n by omega)
  have hi : i < xs.length := by omega
  rw [Int.toNat_natCast, nd_at i hi]
  obtain ⟨G, c, A4, c4, A6, c6, hb, hl, ⟨h0, h1, h2, h3, h4, h5, h6⟩, _, _, hf, _, _⟩ := h.node i hi
  have hc := doc_cell hb
  have hz : (i : Int) < (xs.length : Int) := by omega
  have HI := Aside0.mk h
  have HB := Aside0.mk hb
  by_cases c1 : xs[i].f0.f1 = 0
  ·rw [c1, if_neg (by decide)]
   rw [c1] at h1
   clear hb hl h c0 c1 h0 h2 h3 h4 h5 h6
   go_enter Try.func32, Try.ntmps32
   go_wp2_with (first | (go_at_call 39; refine hI.mono ?_; rintro e w' ⟨rfl, ⟨m, rfl⟩⟩))
   go_ret
   exact ⟨rfl, To.quiet HI.out (pw_below_drewN (Below.refl _ _) _)⟩
  ·have c2 : (xs[i].f0.f1 == 0) = false := beq_eq_false_iff_ne.2 c1
   rw [c2, if_pos (show (!false) = true from rfl)]
   clear hb hl h c0 c1 h0 h2 h4 h5 h6
   go_enter Try.func32, Try.ntmps32
   go_wp2_with (first | (go_at_call 39; refine hI.mono ?_; rintro e w' ⟨rfl, ⟨m, rfl⟩⟩))
   go_ret
   have h9 := (HI.out.drewN m).set_data i hi s (show (w.drewN m).heap[g]? = _ from (pw_below_drewN (Below.refl _ _) m).block g (blk_lt HB.out) |>.trans HB.out)
   exact ⟨rfl, To.mk h9.1 (fun k hk => .inl hk) ((Mod.drewN w ok m).trans h9.2 fun k hk => .inl hk)⟩
 ·rw [decide_eq_false c0] at hI ⊢
  rw [Bool.false_and, if_neg (by decide)]
  have HI := Aside0.mk h
  clear h
  go_enter Try.func32, Try.ntmps32
  go_wp2_with (first | (go_at_call 39; refine hI.mono ?_; rintro e w' ⟨rfl, ⟨m, rfl⟩⟩))
  go_ret
  exact ⟨rfl, To.quiet HI.out (pw_below_drewN (Below.refl _ _) _)⟩
/-- What Insert answers: an error, and the nodes behind it; k: Within's steps at most. -/
def mostN (xs : List S79) (p n : Int) : Int := if (rd_T79 xs n).f1 = p then ((rd_T79 xs p).f2.length : Int) - 1 else (rd_T79 xs p).f2.length
def insertR (xs : List S79) (k : Nat) (p a n : Int) : Option (Int × List S79) :=
 if inB xs p = false then some (110, xs) else if someB xs n = false then some (110, xs) else
 if 0 < p ∧ (rd_T79 xs p).f0.f1 ≠ 0 then some (111, xs) else
 match withinF xs k p n with
 | none => none
 | some true => some (111, xs)
 | some false => if a < 0 ∨ mostN xs p n < a then some (1, xs) else some (0, putN (takeN xs n.toNat) p.toNat a.toNat n.toNat)
theorem takeN_length (xs : List S79) (i : Nat) : (takeN xs i).length = xs.length := by
 unfold takeN
 dsimp only
 rw [List.length_set]
 split
 ·rfl
 ·rw [List.length_set]
theorem takeN_kids (hF : Fit xs) (i p : Nat) (hi : i < xs.length) (hp : p < xs.length) : (((rd_T79 (takeN xs i) p).f2.length : Nat) : Int) = mostN xs p i := by
 have h1 : ∀ ys : List S79, i < ys.length → p < ys.length → (rd_T79 (ys.set i (withUp (rd_T79 ys i) (-1))) p).f2 = (rd_T79 ys p).f2 := by
  intro ys h1 h2
  rw [nd_at p (by simpa using h2), List.getElem_set]
  split
  ·rename_i e
   subst e
   rfl
  ·rw [nd_at p h2]
 unfold takeN mostN
 dsimp only
 rw [nd_at i hi]
 rcases hF.up i hi with h2 | ⟨q, hq, h2, h3⟩
 ·rw [if_pos h2, ← nd_at i hi, h1 xs hi hp, nd_at i hi, if_neg (by omega)]
 ·rw [if_neg (by omega), h2, nd_at q hq, Int.toNat_natCast, h1 _ (by simpa using hi) (by simpa using hp)]
  rw [nd_at p (by simpa using hp), List.getElem_set]
  by_cases e : q = p
  ·subst e
   rw [if_pos rfl, if_pos rfl, nd_at q hq]
   show (((xs[q].f2.filter fun k => !(k == (i : Int))).length : Nat) : Int) = _
   omega
  ·rw [if_neg e, if_neg (by omega), nd_at p hp]
set_option maxHeartbeats 4000000 in
set_option maxRecDepth 100000 in
theorem Doc_Insert (h : IsDoc w ok g xs) (hF : Fit xs) (k : Nat) (p a n : Int) (r : Int × List S79) (hr : insertR xs k p a n = some r) : Calls Try.prog 12 #[.pointer (some ⟨g, 0, none⟩), .int .i64 p, .int .i64 a, .int .i64 n] w fun e w' => e = .returned (.int .i64 r.1) ∧ To w w' ok g r.2 := by
 have hI := Doc_is h p
 have hS := fun m => Doc_some (h.drewN m) n
 unfold insertR inB someB at hr
 have HI := Aside0.mk h
 by_cases c0 : 0 ≤ p ∧ p < (xs.length : Int)
 rotate_left
 ·rw [decide_eq_false c0] at hI hr
  rw [if_pos rfl] at hr
  obtain rfl := Option.some.inj hr
  clear hr h hS
  go_enter Try.func12, Try.ntmps12
  go_wp2_with (first | (go_at_call 36; refine hI.mono ?_; rintro e w' ⟨rfl, ⟨m, rfl⟩⟩))
  go_ret
  exact ⟨rfl, To.quiet HI.out (pw_below_drewN (Below.refl _ _) _)⟩
 rw [decide_eq_true c0] at hI hr
 rw [if_neg (by decide)] at hr
 by_cases c1 : 0 < n ∧ n < (xs.length : Int)
 rotate_left
 ·rw [decide_eq_false c1] at hS hr
  rw [if_pos rfl] at hr
  obtain rfl := Option.some.inj hr
  clear hr h
  go_enter Try.func12, Try.ntmps12
  go_wp2_with (first | (go_at_call 36; refine hI.mono ?_; rintro e w' ⟨rfl, ⟨m, rfl⟩⟩) | (go_at_call 39; refine (hS _).mono ?_; rintro e w' ⟨rfl, ⟨m, rfl⟩⟩))
  go_ret
  exact ⟨rfl, To.quiet HI.out (by repeat (first | exact Below.refl _ _ | apply pw_below_drewN))⟩
 rw [decide_eq_true c1] at hS hr
 rw [if_neg (by decide)] at hr
 obtain ⟨q, rfl⟩ := Int.eq_ofNat_of_zero_le c0.1
 obtain ⟨i, rfl⟩ := Int.eq_ofNat_of_zero_le (show 0 ≤ n by omega)
 have hq : q < xs.length := by omega
 have hi : i < xs.length := by omega
 have hqz : (q : Int) < (xs.length : Int) := by omega
 have hiz : (i : Int) < (xs.length : Int) := by omega
 rw [nd_at q hq, Int.toNat_natCast, Int.toNat_natCast] at hr
 obtain ⟨G, c, A4, c4, A6, c6, hb, hl, ⟨h0, h1, h2, h3, h4, h5, h6⟩, _, ⟨l6, g6⟩, _, _⟩ := h.node q hq
 have hc := doc_cell hb
 by_cases c2 : 0 < (q : Int) ∧ xs[q].f0.f1 ≠ 0
 ·rw [if_pos c2] at hr
  obtain rfl := Option.some.inj hr
  have c3 : (xs[q].f0.f1 != 0) = true := bne_iff_ne.2 c2.2
  have c4' : decide (0 < (q : Int)) = true := decide_eq_true c2.1
  clear hr h h0 h2 h3 h4 h5 h6 hb hl c1 c0
  go_enter Try.func12, Try.ntmps12
  go_wp2_with (first | (go_at_call 36; refine hI.mono ?_; rintro e w' ⟨rfl, ⟨m, rfl⟩⟩) | (go_at_call 39; refine (hS _).mono ?_; rintro e w' ⟨rfl, ⟨m, rfl⟩⟩))
  go_ret
  exact ⟨rfl, To.quiet HI.out (by repeat (first | exact Below.refl _ _ | apply pw_below_drewN))⟩
 rw [if_neg c2] at hr
 cases hw : withinF xs k q i with
 | none => rw [hw] at hr; exact absurd hr (by simp)
 | some b =>
  rw [hw] at hr
  have hWn := fun m => Doc_Within (h.drewN m) k q i b hw
  cases b with
  | true =>
   obtain rfl := Option.some.inj hr
   clear hr h h0 h2 h3 h4 h5 h6 hb hl c1 c0
   by_cases c3 : 0 < (q : Int)
   ·have c4' : xs[q].f0.f1 = 0 := Decidable.byContradiction fun h => c2 ⟨c3, h⟩
    rw [c4'] at h1
    clear c2
    go_enter Try.func12, Try.ntmps12
    go_wp2_with (first | (go_at_call 36; refine hI.mono ?_; rintro e w' ⟨rfl, ⟨m, rfl⟩⟩) | (go_at_call 39; refine (hS _).mono ?_; rintro e w' ⟨rfl, ⟨m, rfl⟩⟩) | (go_at_call 28; refine (hWn _).mono ?_; rintro e w' ⟨rfl, ⟨m, rfl⟩⟩))
    go_ret
    exact ⟨rfl, To.quiet HI.out (by repeat (first | exact Below.refl _ _ | apply pw_below_drewN))⟩
   ·clear c2
    go_enter Try.func12, Try.ntmps12
    go_wp2_with (first | (go_at_call 36; refine hI.mono ?_; rintro e w' ⟨rfl, ⟨m, rfl⟩⟩) | (go_at_call 39; refine (hS _).mono ?_; rintro e w' ⟨rfl, ⟨m, rfl⟩⟩) | (go_at_call 28; refine (hWn _).mono ?_; rintro e w' ⟨rfl, ⟨m, rfl⟩⟩))
    go_ret
    exact ⟨rfl, To.quiet HI.out (by repeat (first | exact Below.refl _ _ | apply pw_below_drewN))⟩
  | false =>
   replace hr : (if a < 0 ∨ mostN xs q i < a then some (1, xs) else some (0, putN (takeN xs i) q a.toNat i)) = some r := hr
   obtain ⟨G', c', A4', c4', A6', c6', hb', hl', ⟨_, _, _, _, _, h5', _⟩, _, _, _, _⟩ := h.node i hi
   have e := hb'.symm.trans hb
   injection e with e
   injection e with e _ _
   injection e with e
   injection e with e
   injection e with e _ e2
   injection e with e
   injection e with e _
   subst e
   subst e2
   have hk1 := hF.kids q hq
   have htk := takeN_kids hF i q hi hq
   have htl := takeN_length xs i
   have hT := fun m => Doc_take (h.drewN m) i hi (hF.take i hi)
   have hup : xs[i].f1 = q → 0 < xs[q].f2.length := by
    intro e
    rcases hF.up i hi with h2 | ⟨q', hq', h2, h3⟩
    ·omega
    ·have : q' = q := by omega
     subst this
     omega
   unfold mostN at hr htk
   rw [nd_at i hi, nd_at q hq] at hr htk
   generalize xs[i].f1 = up at h5' hup hr htk
   have hm : ∃ m : Int, (if up = (q : Int) then (xs[q].f2.length : Int) - 1 else xs[q].f2.length) = m ∧ (if (up == (q : Int)) = true then wrap64 ((xs[q].f2.length : Int) - 1) = m else (xs[q].f2.length : Int) = m) := by
    refine ⟨_, rfl, ?_⟩
    by_cases e : up = q
    ·rw [if_pos e, if_pos (beq_iff_eq.2 e)]
     unfold wrap64
     omega
    ·rw [if_neg e, if_neg (by simpa using e)]
   obtain ⟨m, hm1, hm2⟩ := hm
   rw [hm1] at hr htk
   by_cases c3 : a < 0 ∨ m < a
   ·rw [if_pos c3] at hr
    obtain rfl := Option.some.inj hr
    clear htk htl hT hup hm1 hr
    have c4' : (0 < q ∧ xs[q].f0.f1 = 0) ∨ ¬ 0 < q := by
     by_cases c5 : 0 < q
     ·exact .inl ⟨c5, Decidable.byContradiction fun h => c2 ⟨by omega, h⟩⟩
     ·exact .inr c5
    have c6' : decide (a < 0) = true ∨ decide (a < 0) = false ∧ decide (m < a) = true := by
     by_cases c5 : a < 0
     ·exact .inl (decide_eq_true c5)
     ·exact .inr ⟨decide_eq_false c5, decide_eq_true (by omega)⟩
    have c7' : ((up == (q : Int)) = true ∧ wrap64 ((xs[q].f2.length : Int) - 1) = m) ∨ ((up == (q : Int)) = false ∧ (xs[q].f2.length : Int) = m) := by
     cases e : (up == (q : Int)) with
     | true => rw [e, if_pos rfl] at hm2; exact .inl ⟨rfl, hm2⟩
     | false => rw [e, if_neg (by decide)] at hm2; exact .inr ⟨rfl, hm2⟩
    clear h h0 h2 h3 h4 h5 hb hl hb' hl' c1 c0 c2 c3 hw hm2 hk1 hF
    rcases c4' with ⟨c4, c5⟩ | c4
    ·rw [c5] at h1
     clear c5
     rcases c7' with ⟨c7, c8⟩ | ⟨c7, c8⟩
     all_goals
      rcases c6' with c9 | ⟨c9, c10⟩
      all_goals
       go_enter Try.func12, Try.ntmps12
       go_wp2_with (first | (go_at_call 36; refine hI.mono ?_; rintro e w' ⟨rfl, ⟨m, rfl⟩⟩) | (go_at_call 39; refine (hS _).mono ?_; rintro e w' ⟨rfl, ⟨m, rfl⟩⟩) | (go_at_call 28; refine (hWn _).mono ?_; rintro e w' ⟨rfl, ⟨m, rfl⟩⟩))
       go_ret
       exact ⟨rfl, To.quiet HI.out (by repeat (first | exact Below.refl _ _ | apply pw_below_drewN))⟩
    ·rcases c7' with ⟨c7, c8⟩ | ⟨c7, c8⟩
     all_goals
      rcases c6' with c9 | ⟨c9, c10⟩
      all_goals
       go_enter Try.func12, Try.ntmps12
       go_wp2_with (first | (go_at_call 36; refine hI.mono ?_; rintro e w' ⟨rfl, ⟨m, rfl⟩⟩) | (go_at_call 39; refine (hS _).mono ?_; rintro e w' ⟨rfl, ⟨m, rfl⟩⟩) | (go_at_call 28; refine (hWn _).mono ?_; rintro e w' ⟨rfl, ⟨m, rfl⟩⟩))
       go_ret
       exact ⟨rfl, To.quiet HI.out (by repeat (first | exact Below.refl _ _ | apply pw_below_drewN))⟩
   ·rw [if_neg c3] at hr
    obtain rfl := Option.some.inj hr
    obtain ⟨b, rfl⟩ := Int.eq_ofNat_of_zero_le (show 0 ≤ a by omega)
    rw [Int.toNat_natCast]
    have hP := fun (W : World) (ok : Nat → Prop) (h : IsDoc W ok g (takeN xs i)) => Doc_put h q b i (by omega) (by omega) (by rw [← nd_at q (by omega)]; omega) (by rw [← nd_at q (by omega)]; have := hm1; split at this <;> omega)
    clear htk htl hup hm1 hr
    have c4' : (0 < q ∧ xs[q].f0.f1 = 0) ∨ ¬ 0 < q := by
     by_cases c5 : 0 < q
     ·exact .inl ⟨c5, Decidable.byContradiction fun h => c2 ⟨by omega, h⟩⟩
     ·exact .inr c5
    have c9 : decide ((b : Int) < 0) = false := decide_eq_false (by omega)
    have c10 : decide (m < (b : Int)) = false := decide_eq_false (by omega)
    have c7' : ((up == (q : Int)) = true ∧ wrap64 ((xs[q].f2.length : Int) - 1) = m) ∨ ((up == (q : Int)) = false ∧ (xs[q].f2.length : Int) = m) := by
     cases e : (up == (q : Int)) with
     | true => rw [e, if_pos rfl] at hm2; exact .inl ⟨rfl, hm2⟩
     | false => rw [e, if_neg (by decide)] at hm2; exact .inr ⟨rfl, hm2⟩
    clear h h0 h2 h3 h4 h5 hb hl hb' hl' c1 c0 c2 c3 hw hm2 hk1 hF
    rcases c4' with ⟨c4, c5⟩ | c4
    ·rw [c5] at h1
     clear c5
     rcases c7' with ⟨c7, c8⟩ | ⟨c7, c8⟩
     all_goals
      go_enter Try.func12, Try.ntmps12
      go_wp2_with (first | (go_at_call 36; refine hI.mono ?_; rintro e w' ⟨rfl, ⟨m, rfl⟩⟩) | (go_at_call 39; refine (hS _).mono ?_; rintro e w' ⟨rfl, ⟨m, rfl⟩⟩) | (go_at_call 28; refine (hWn _).mono ?_; rintro e w' ⟨rfl, ⟨m, rfl⟩⟩) | (go_at_call 40; refine (hT _).mono ?_; rintro e w' ⟨rfl, hT'⟩; obtain ⟨ok1, hI1, hL⟩ := hT'.link; have HL := Aside0.mk hL; have hP' := hP _ _ hI1; clear hI1 hT' hL) | (go_at_call 41; refine hP'.mono ?_; rintro e w' ⟨rfl, hT2⟩; have HT2 := Aside0.mk hT2; clear hT2))
      go_ret
      exact ⟨rfl, To.after (by repeat (first | exact Below.refl _ _ | apply pw_below_drewN)) (HL.out _ _ HT2.out)⟩
    ·rcases c7' with ⟨c7, c8⟩ | ⟨c7, c8⟩
     all_goals
      go_enter Try.func12, Try.ntmps12
      go_wp2_with (first | (go_at_call 36; refine hI.mono ?_; rintro e w' ⟨rfl, ⟨m, rfl⟩⟩) | (go_at_call 39; refine (hS _).mono ?_; rintro e w' ⟨rfl, ⟨m, rfl⟩⟩) | (go_at_call 28; refine (hWn _).mono ?_; rintro e w' ⟨rfl, ⟨m, rfl⟩⟩) | (go_at_call 40; refine (hT _).mono ?_; rintro e w' ⟨rfl, hT'⟩; obtain ⟨ok1, hI1, hL⟩ := hT'.link; have HL := Aside0.mk hL; have hP' := hP _ _ hI1; clear hI1 hT' hL) | (go_at_call 41; refine hP'.mono ?_; rintro e w' ⟨rfl, hT2⟩; have HT2 := Aside0.mk hT2; clear hT2))
      go_ret
      exact ⟨rfl, To.after (by repeat (first | exact Below.refl _ _ | apply pw_below_drewN)) (HL.out _ _ HT2.out)⟩
end
end Go.Proofs.Ytpkaliaaffgbdaa.QA
namespace Go.Proofs.Ytpkaliaaffgbdaa.QA
open Go.RowKit Go.Proofs.YtpkaliaaffgbdaaW.PrintWords Go.Proofs.YtpkaliaaffgbdaaW.PrintLast Go.Proofs.YtpkaliaaffgbdaaW.PrintMore
attribute [local go_sem] max2_int min2_int max_two min_two max_three min_three max_four min_four   -- for this text's walks alone
set_option linter.unusedVariables false
set_option linter.unusedSimpArgs false

open Go
section
variable {W w : World} {ok okn : Nat → Prop} {g : Nat} {xs : List S79}
theorem Mod.of_grown {W1 : World} {row : Option Nat} (hg : W.grownBy W1 row) (hr : ∀ k, row = some k → ok k ∨ W.heap.size ≤ k) : Mod W W1 ok :=
 ⟨hg.os, hg.tape, hg.output, hg.size, fun k hk hn => hg.block k hk fun e => (hr k e.symm).elim hn fun h => by omega⟩
/-- Node i's attributes, to be changed: where they lie; what a change of them is. -/
theorem IsDoc.attrs (h : IsDoc W ok g xs) (i : Nat) (hi : i < xs.length) : ∃ G c v4, W.heap[g]? = some (.cells #[.slice (some ⟨G, 0, none⟩) xs.length c] 82 (0, 0)) ∧ xs.length ≤ c ∧ W.cell? ⟨G, i * 7 + 4, none⟩ = some v4 ∧
  (∀ j, W.frozen? ⟨G, i * 7 + j, none⟩ = false) ∧ Kd.R k52 52 W 0 (fun k => some k = v4.ownBlock) v4 xs[i].f0.f4 ∧ (∀ k, v4.ownBlock = some k → ok k ∧ k ≠ g ∧ k ≠ G) ∧ ok G ∧ G ≠ g ∧ G < W.heap.size ∧
  (∀ W1 l, W.grownBy W1 v4.ownBlock → Kd.R k52 52 W1 0 (fun k => some k = v4.ownBlock) v4 l → IsDoc W1 (fun k => ok k ∨ W.heap.size ≤ k) g (xs.set i (withAttrs xs[i] l)) ∧ Mod W W1 ok) ∧
  (∀ W1 v l, W.grownBy W1 v4.ownBlock → Kd.R k52 52 W1 0 (fun k => some k = v4.ownBlock ∨ W.heap.size ≤ k) v l → IsDoc (W1.setCell ⟨G, i * 7 + 4, none⟩ v) (fun k => ok k ∨ W.heap.size ≤ k) g (xs.set i (withAttrs xs[i] l)) ∧ Mod W (W1.setCell ⟨G, i * 7 + 4, none⟩ v) ok) := by
 have hgl := h.lt
 obtain ⟨v, hb, hg, hS⟩ := h.bound
 have hR := Kd.S_R hS
 obtain ⟨G, c, rfl, _, hGl, _, _⟩ := Kd.R_form hR (by omega)
 have hG := hR.1 G rfl
 have hln := (Kd.R_reads' hR)
 have hS2 : Kd.S k79 79 W 0 (fun k => (ok k ∨ W.heap.size ≤ k) ∧ k ≠ g) (.slice (some ⟨G, 0, none⟩) xs.length c) xs := Kd.S_mono hS fun k hk => ⟨.inl hk.1.1, hk.2⟩
 obtain ⟨oki, cs, hcl, hMi, hcc, hfr, hoki, hH⟩ := Kd.S_elem hS2 z79 (i : Int) (by omega) (by omega)
 rw [Int.toNat_natCast, List.getD_eq_getElem?_getD, List.getElem?_eq_getElem hi, Option.getD_some] at hMi
 obtain ⟨v4, v6, rfl, h4, h6⟩ := k79_openM hMi
 have hw := Kd.H_widen hH
 have h4o : ∀ k, v4.ownBlock = some k → ok k ∧ k ≠ g ∧ k ≠ G := fun k hk => by
  have h1 := hoki k (h4.1 k hk)
  have h2 := Kd.R_lt h4 k hk
  exact ⟨h1.1.1.elim id fun h => by omega, h1.1.2, h1.2⟩
 have h46 : ∀ k, v4.ownBlock = some k → some k ≠ v6.ownBlock := fun k hk e => by
  obtain ⟨_, h1⟩ := Kd.R_typed h4 k hk
  obtain ⟨_, h2⟩ := Kd.R_typed h6 k e.symm
  rw [h1] at h2
  injection h2 with h2
  injection h2 with _ h2 _
  exact absurd h2 (by decide)
 have hgr : ∀ W1, W.grownBy W1 v4.ownBlock → Kd.R (Kd.int .i64) 3 W1 0 oki v6 xs[i].f2 ∧ W1.heap[g]? = W.heap[g]? := fun W1 hg1 => ⟨Kd.R_grown2 h6 rfl hg1 h46, hg1.block g hgl fun e => (h4o g e.symm).2.1 rfl⟩
 refine ⟨G, c, v4, hb, hln.2.1, ?_, fun j => ?_, Kd.R_tight rfl h4, h4o, hG.1.1, hG.2, hGl, fun W1 l hg1 hR1 => ?_, fun W1 v l hg1 hR1 => ?_⟩
 ·have := hcc 4 v4 rfl
  rw [Int.toNat_natCast] at this
  exact this
 ·have := hfr j
  rw [Int.toNat_natCast] at this
  exact this
 ·obtain ⟨h6', hbg⟩ := hgr W1 hg1
  have hH1 := Kd.H_grown hw hg1 fun k hk => .inl (h4.1 k hk)
  have hB := Kd.H_back hH1 (x' := withAttrs xs[i] l) (okp := oki) (k79_mkM W1 0 oki (withAttrs xs[i] l) (Kd.R_mono hR1 fun k hk => h4.1 k hk.symm) h6') fun k hk => .inl hk
  rw [Int.toNat_natCast] at hB
  exact ⟨⟨_, hbg.trans hb, .inl hg.1, hB⟩, Mod.of_grown hg1 fun k hk => .inl (h4o k hk).1⟩
 ·obtain ⟨h6', hbg⟩ := hgr W1 hg1
  have hH1 := Kd.H_grown hw hg1 fun k hk => .inl (h4.1 k hk)
  have hone := (Kd.R_val hR1).2
  obtain ⟨hH2, hg2⟩ := Kd.H_seg hH1 (by omega) (by omega) (seg := [v]) (j := 4) (by show 4 + 1 ≤ 7; omega) fun q hq => by rw [List.mem_singleton.1 hq]; exact hone
  have hM1 := k79_mkM W1 0 (fun k => oki k ∨ (W.heap.size ≤ k ∧ k ≠ G ∧ k ≠ g)) (withAttrs xs[i] l) (Kd.R_mono (Kd.R_tight rfl hR1) fun k hk => by
   rcases hR1.1 k hk.symm with h7 | h7
   ·exact .inl (h4.1 k h7.symm)
   ·exact .inr ⟨h7, by omega, by omega⟩) (Kd.R_mono h6' fun k hk => .inl hk)
  have hM2 := Kd.M_step hM1 (w1 := W1.setCells G ((i : Int).toNat * 7 + 4) [v]) fun k hk hlt => hg2.block k hlt fun e => by
   injection e with e
   rcases hk with hk | hk
   ·exact (hoki k hk).2 e
   ·exact hk.2.1 e
  have hB := Kd.H_back hH2 (x' := withAttrs xs[i] l) hM2 fun k hk => hk.elim .inl fun hk => .inr ⟨⟨.inr hk.1, hk.2.2⟩, hk.1⟩
  rw [Int.toNat_natCast] at hB
  exact ⟨⟨_, (Below.heap_setCell W1 _ _ g (fun e => hG.2 e.symm)).trans (hbg.trans hb), .inl hg.1, hB⟩, (Mod.of_grown hg1 fun k hk => .inl (h4o k hk).1).set _ _ (.inl hG.1.1)⟩
/-- What lies behind a row's elements is nothing of it. -/
theorem R_tail {α : Type} {d : Kd α} {e base g m c : Nat} {l : List α} (h : Kd.R d e W base ok (.slice (some ⟨g, 0, none⟩) m c) l) (o : Nat) (seg : List Value) (ho : m * d.sz ≤ o) (hl : o + seg.length ≤ c * d.sz) :
  Kd.R d e (W.setCells g o seg) base ok (.slice (some ⟨g, 0, none⟩) m c) l := by
 obtain ⟨h0, inner, ⟨hi, hown⟩, hr⟩ := h
 rcases hown with ⟨hv, _⟩ | ⟨g', c', cur, hv, hbg, hh, hnc, hcm, hcs, ht⟩
 ·cases hv
 injection hv with hv h1 h2
 injection hv with hv
 injection hv with hv _
 subst hv h1 h2
 obtain ⟨cur', h3, h4, h5⟩ := setCells_row seg o W cur hh (by omega)
 refine ⟨h0, inner, ⟨hi, .inr ⟨g, c, cur', rfl, hbg, h3, hnc, hcm, by omega, ?_⟩⟩, ?_⟩
 ·rw [h5, List.append_assoc, List.take_append_of_le_length (by rw [List.length_take, Array.length_toList (xs := cur)]; have := Nat.mul_le_mul_right d.sz hnc; omega), List.take_take, Nat.min_eq_left ho]
  exact ht
 ·exact hr.imp_ fun x cs hM => Kd.M_step hM fun k hk _ => setCells_far seg o k fun e => hk.2 (by rw [e]; rfl)
theorem grown_drewN {W1 : World} {row : Option Nat} (m : Nat) (h : (W.drewN m).grownBy W1 row) : W.grownBy W1 row := by
 have hb := pw_below_drewN (Below.refl W.heap.size W) m
 exact ⟨h.os.trans hb.os, h.tape.trans hb.tape, h.output.trans hb.output, Nat.le_trans hb.size h.size, fun k hk hn => (h.block k (Nat.lt_of_lt_of_le hk hb.size) hn).trans (hb.block k hk)⟩
def setAttr : List S52 → ByteArray → ByteArray → List S52
 | [], n, v => [⟨n, v⟩]
 | a :: l, n, v => if a.f0 = n then ⟨a.f0, v⟩ :: l else a :: setAttr l n v
theorem setAttr_found {n v : ByteArray} : ∀ (l : List S52) (j : Nat) (hj : j < l.length), (∀ m (hm : m < j), l[m].f0 ≠ n) → l[j].f0 = n → setAttr l n v = l.set j ⟨l[j].f0, v⟩
 | a :: l, 0, _, _, h => by simp only [setAttr]; rw [if_pos (show a.f0 = n from h)]; rfl
 | a :: l, j + 1, hj, h1, h => by
  have h0 : a.f0 ≠ n := h1 0 (by omega)
  simp only [setAttr]
  rw [if_neg h0, setAttr_found l j (by simpa using hj) (fun m hm => by have := h1 (m + 1) (by omega); simpa using this) (by simpa using h)]
  rfl
theorem setAttr_none {n v : ByteArray} : ∀ (l : List S52), (∀ m (hm : m < l.length), l[m].f0 ≠ n) → setAttr l n v = l ++ [⟨n, v⟩]
 | [], _ => rfl
 | a :: l, h => by
  have h0 : a.f0 ≠ n := h 0 (by simp)
  simp only [setAttr]
  rw [if_neg h0, setAttr_none l (fun m hm => by have := h (m + 1) (by simpa using hm); simpa using this)]
  rfl
def elemB (xs : List S79) (n : Int) : Bool := decide (0 < n ∧ n < (xs.length : Int) ∧ (rd_T79 xs n).f0.f1 = 0)
def attrR (xs : List S79) (k : Nat) (n : Int) (name value : ByteArray) : Option (Int × List S79) :=
 if elemB xs n = false then some (110, xs) else
 match names_Attr.f k name with
 | none => none
 | some false => some (1, xs)
 | some true => some (0, xs.set n.toNat (withAttrs (rd_T79 xs n) (setAttr (rd_T79 xs n).f0.f4 name value)))
set_option maxHeartbeats 4000000 in
set_option maxRecDepth 100000 in
theorem Doc_Attr (h : IsDoc w ok g xs) (hF : Fit xs) (k : Nat) (n : Int) (name value : ByteArray) (r : Int × List S79) (hr : attrR xs k n name value = some r) : Calls Try.prog 22 #[.pointer (some ⟨g, 0, none⟩), .int .i64 n, .string name, .string value] w fun e w' => e = .returned (.int .i64 r.1) ∧ To w w' ok g r.2 := by
 have hE := Doc_element h n
 unfold attrR elemB at hr
 have HI := Aside0.mk h
 by_cases c0 : 0 < n ∧ n < (xs.length : Int) ∧ (rd_T79 xs n).f0.f1 = 0
 rotate_left
 ·rw [decide_eq_false c0] at hE hr
  rw [if_pos rfl] at hr
  obtain rfl := Option.some.inj hr
  clear hr h
  go_enter Try.func22, Try.ntmps22
  go_wp2_with (first | (go_at_call 47; refine hE.mono ?_; rintro e w' ⟨rfl, ⟨m, rfl⟩⟩))
  go_ret
  exact ⟨rfl, To.quiet HI.out (by repeat (first | exact Below.refl _ _ | apply pw_below_drewN))⟩
 rw [decide_eq_true c0] at hE hr
 rw [if_neg (by decide)] at hr
 cases hN : names_Attr.f k name with
 | none => rw [hN] at hr; exact absurd hr (by simp)
 | some b =>
  rw [hN] at hr
  have hA := fun m => names_Attr.calls k name b (w.drewN m) hN
  cases b with
  | false =>
   obtain rfl := Option.some.inj hr
   clear hr h
   go_enter Try.func22, Try.ntmps22
   go_wp2_with (first | (go_at_call 47; refine hE.mono ?_; rintro e w' ⟨rfl, ⟨m, rfl⟩⟩) | (go_at_call 48; refine (hA _).mono ?_; rintro e w' ⟨rfl, ⟨m, rfl⟩⟩))
   go_ret
   exact ⟨rfl, To.quiet HI.out (by repeat (first | exact Below.refl _ _ | apply pw_below_drewN))⟩
  | true =>
   obtain rfl := Option.some.inj hr
   obtain ⟨i, rfl⟩ := Int.eq_ofNat_of_zero_le (show 0 ≤ n by omega)
   have hi : i < xs.length := by omega
   have hz : (i : Int) < (xs.length : Int) := by omega
   rw [nd_at i hi, Int.toNat_natCast]
   have hla := hF.attrs i hi
   obtain ⟨G, c, v4, hb, hl, h4, hf, hR, hv4, hG, hGg, hGl, hback1, hback2⟩ := h.attrs i hi
   obtain ⟨A4, c4, rfl⟩ := Kd.R_slice hR
   have hc := doc_cell hb
   have hcl := (Kd.R_reads' hR).2.1
   generalize hattr : xs[i].f0.f4 = l at hR hla h4 hback1 hback2 hv4 hcl ⊢
   have HB1 := Aside0.mk hback1
   have HB2 := Aside0.mk hback2
   have HR := Aside0.mk hR
   have HC := Aside0.mk (Kd.R_reads' hR).2.2
   clear hr h hF hb hback1 hback2 hR c0 hN hl
   go_enter Try.func22, Try.ntmps22
   go_wp2_with (first | (go_at_call 47; refine hE.mono ?_; rintro e w' ⟨rfl, ⟨m, rfl⟩⟩) | (go_at_call 48; refine (hA _).mono ?_; rintro e w' ⟨rfl, ⟨m, rfl⟩⟩))
   go_loopg [32] (l.length + 1) (fun kq v32 w' => ∃ j : Nat, v32 = .int .i64 (j : Int) ∧ Aside0 (kq + j = l.length + 1 ∧ ∀ m (hm : m < j) (hm2 : m < l.length), l[m].f0 ≠ name) ∧ Drawn0 w w')
   case atStart => exact ⟨0, rfl, ⟨⟨by omega, fun m hm => absurd hm (by omega)⟩⟩, by repeat (first | exact Drawn0.refl _ | apply Drawn0.step)⟩
   case round =>
    obtain ⟨j, rfl, HA, ⟨m1, rfl⟩⟩ := hrel
    by_cases cj : j < l.length
    ·have cjb : decide ((j : Int) < (l.length : Int)) = true := decide_eq_true (by omega)
     have hjz : (j : Int) < (l.length : Int) := by omega
     obtain ⟨ad, e, r0, r1⟩ := at_T52 HC.out (j : Int) (by omega) hjz
     obtain ⟨g4, rfl⟩ : ∃ g4, ad = ⟨g4, 0, none⟩ := Kd.R_head (by rw [e] at HR; exact HR.out)
     subst e
     rw [rd_T52_at l j cj, add_plain, Int.toNat_natCast] at r0 r1
     have hg4l := block_lt_of_cell r0
     by_cases cn : l[j].f0 = name
     ·have cnb : (l[j].f0.toList == name.toList) = true := by rw [bytes_beq]; exact decide_eq_true cn
      obtain ⟨cs, hcl2, hM, hcc, hfr⟩ := Kd.R_elem (Kd.R_drewN HR.out m1) z52 (j : Int) (by omega) hjz
      rw [Int.toNat_natCast] at hM hcc hfr
      have hf1 : w.frozen? ⟨g4, j * 2 + 1, none⟩ = false := by have := hfr 1; rwa [World.frozen?_drewN] at this
      go_wp2
      go_ret
      have h9 := Kd.R_seg (Kd.R_drewN HR.out m1) (j : Int) (by omega) hjz (c := [.string l[j].f0, .string l[j].f1]) (seg := [.string value]) (j := 1) (x' := ⟨l[j].f0, value⟩) (okp := fun _ => False) rfl (fun q u hu => by
       rw [World.cell?_drewN, Int.toNat_natCast]
       match q, hu with
       | 0, hu => exact r0.trans (by simpa using hu)
       | 1, hu => exact r1.trans (by simpa using hu)
       | q + 2, hu => simp at hu) (show 1 + 1 ≤ 2 by omega) (k52_mkM _ _ _ ⟨l[j].f0, value⟩) (fun _ h => h.elim)
      rw [Int.toNat_natCast] at h9
      have h10 := HB1.out _ (l.set j ⟨l[j].f0, value⟩) (grown_drewN m1 h9.2) h9.1
      rw [setAttr_found l j cj (fun m hm => HA.out.2 m hm (by omega)) cn]
      exact ⟨rfl, To.mk h10.1 (fun k hk => hk) h10.2⟩
     ·have cnb : (l[j].f0.toList == name.toList) = false := by rw [bytes_beq]; exact decide_eq_false cn
      obtain ⟨gk', rfl⟩ : ∃ k1, gk = k1 + 1 := ⟨l.length - j, by have := HA.out.1; omega⟩
      have hup := up1 (i := j) (by omega)
      go_wp2
      go_roundg gk'
      case measure => omega
      case rel =>
       refine ⟨j + 1, rfl, ⟨⟨by have := HA.out.1; omega, fun m hm hm2 => ?_⟩⟩, by repeat (first | exact Drawn0.refl _ | apply Drawn0.step)⟩
       by_cases e : m = j
       ·subst e; exact cn
       ·exact HA.out.2 m (by omega) hm2
    ·have cjb : decide ((j : Int) < (l.length : Int)) = false := decide_eq_false (by omega)
     have hb2 : ∀ W1 v l', (w.drewN m1).grownBy W1 (Value.slice A4 l.length c4).ownBlock → Kd.R k52 52 W1 0 (fun k => some k = (Value.slice A4 l.length c4).ownBlock ∨ (w.drewN m1).heap.size ≤ k) v l' → To w (W1.setCell ⟨G, i * 7 + 4, none⟩ v) ok g (xs.set i (withAttrs xs[i] l')) ∧ G < W1.heap.size ∧ (∀ q, G ≠ q → some q = (Value.slice A4 l.length c4).ownBlock → True) := by
      intro W1 v l' h1 h2
      rw [World.heap_drewN] at h2
      have h3 := HB2.out W1 v l' (grown_drewN m1 h1) h2
      exact ⟨To.mk h3.1 (fun k hk => hk) h3.2, Nat.lt_of_lt_of_le hGl (grown_drewN m1 h1).size, fun _ _ _ => trivial⟩
     have hRW := Kd.R_mono (Kd.R_drewN HR.out m1) (ok' := fun k => some k = (Value.slice A4 l.length c4).ownBlock ∨ (w.drewN m1).heap.size ≤ k) fun k hk => .inl hk
     have h4W : (w.drewN m1).cell? ⟨G, i * 7 + 4, none⟩ = some (.slice A4 l.length c4) := by rw [World.cell?_drewN]; exact h4
     have hfW : (w.drewN m1).frozen? ⟨G, i * 7 + 4, none⟩ = false := by rw [World.frozen?_drewN]; exact hf 4
     have hGW : some G ≠ (Value.slice A4 l.length c4).ownBlock ∧ G < (w.drewN m1).heap.size := ⟨fun e => (hv4 G e.symm).2.2 rfl, by rw [World.heap_drewN]; exact hGl⟩
     have hall : ∀ m (hm : m < l.length), l[m].f0 ≠ name := fun m hm => HA.out.2 m (by omega) hm
     generalize w.drewN m1 = W at hb2 hRW h4W hfW hGW ⊢
     have HB3 := Aside0.mk hb2
     have HRW := Aside0.mk hRW
     have HGW := Aside0.mk hGW
     clear hb2 hRW hGW HB1 HB2 HR HC h4 hf hv4 hc
     go_wp2_with (first | ((with_reducible refine gate_builtin (b := .append) (xs := #[.tmp 61, .tmp 65]) rfl ?_); at_builtin; refine Kd.R_append k52 (w0 := W) 0 rfl (.tmp 61) (.tmp 65) 50 52 _ 32 rfl Try.underlying50 info52 rfl (by decide) (by decide) (.slice A4 l.length c4) l ⟨name, value⟩ [.string name, .string value] (fun k => some k = (Value.slice A4 l.length c4).ownBlock ∨ W.heap.size ≤ k) (fun _ => False) rfl rfl (k52_mkM _ _ _ ⟨name, value⟩) (fun _ h => h.elim) (fun k hk => .inr hk) (Kd.R_mono HRW.out fun k hk => hk) (Below.refl _ _) (Nat.zero_le _) (by omega) ?_; intro v7 W7 hR7 _ hg7 _; obtain ⟨A7, c7, rfl⟩ := Kd.R_slice hR7; have h47 := (World.cell?_of_block (a := ⟨G, i * 7 + 4, none⟩) (hg7.block G HGW.out.2 HGW.out.1)).trans h4W; have hf7 := (World.frozen?_of_block (a := ⟨G, i * 7 + 4, none⟩) (hg7.block G HGW.out.2 HGW.out.1)).trans hfW; have HE := Aside0.mk (HB3.out W7 _ _ hg7 hR7).1; clear hR7 hg7))
     go_ret
     have h9 := HE.out
     rw [List.length_append] at h9
     rw [setAttr_none l hall]
     exact ⟨rfl, h9⟩
end
end Go.Proofs.Ytpkaliaaffgbdaa.QA
namespace Go.Proofs.Ytpkaliaaffgbdaa.QA
open Go.RowKit Go.Proofs.YtpkaliaaffgbdaaW.PrintWords Go.Proofs.YtpkaliaaffgbdaaW.PrintLast Go.Proofs.YtpkaliaaffgbdaaW.PrintMore
attribute [local go_sem] max2_int min2_int max_two min_two max_three min_three max_four min_four   -- for this text's walks alone
set_option linter.unusedVariables false
set_option linter.unusedSimpArgs false
def reg62_5.T : Bool × List (List Nat × List Nat) := (true, [([], []), ([], []), ([0, 1], [0, 1]), ([], []), ([], []), ([3, 4], [3, 4]), ([2, 5], [2, 5]), ([6, 6, 0, 1, 2, 3, 4, 5, 6], [0, 3, 6])])
def reg62_5.B : List Nat := [0, 0, 3, 0, 0, 24, 63, 127]
theorem reg62_5.tab : rtab .any (opsOf Try.f62 5) = reg62_5.T := by kernel_rfl
theorem reg62_5.bits : waitsOk reg62_5.T.2 reg62_5.B = true := by kernel_rfl

open Go
section
variable {W w : World} {ok okn : Nat → Prop} {g : Nat} {xs : List S79}
theorem slice_inj {G G' n n' c c' : Nat} {t t' : TypeId} {f f' : Nat × Nat} (e : some (Obj.cells #[Value.slice (some ⟨G, 0, none⟩) n c] t f) = some (Obj.cells #[Value.slice (some ⟨G', 0, none⟩) n' c'] t' f')) : G = G' ∧ n = n' ∧ c = c' := by
 injection e with e
 injection e with e _ _
 injection e with e
 injection e with e
 injection e with e e1 e2
 injection e with e
 injection e with e _
 exact ⟨e, e1, e2⟩
theorem IsDoc.attrs2 (h : IsDoc w ok g xs) (i : Nat) (hi : i < xs.length) : ∃ G c v4, w.heap[g]? = some (.cells #[.slice (some ⟨G, 0, none⟩) xs.length c] 82 (0, 0)) ∧ w.cell? ⟨G, i * 7 + 4, none⟩ = some v4 ∧
  (∀ j, w.frozen? ⟨G, i * 7 + j, none⟩ = false) ∧ Kd.R k52 52 w 0 (fun k => some k = v4.ownBlock) v4 xs[i].f0.f4 ∧ v4.ownBlock ≠ some G ∧ G < w.heap.size ∧
  (∀ W, Below w.heap.size w W → ∀ W1 v l, W.grownBy W1 v4.ownBlock → Kd.R k52 52 W1 0 (fun k => some k = v4.ownBlock ∨ W.heap.size ≤ k) v l → To w (W1.setCell ⟨G, i * 7 + 4, none⟩ v) ok g (xs.set i (withAttrs xs[i] l))) := by
 obtain ⟨G, c, v4, hb, hl, h4, hf, hR, hv4, hG, hGg, hGl, _, _⟩ := h.attrs i hi
 refine ⟨G, c, v4, hb, h4, hf, hR, fun e => (hv4 G e).2.2 rfl, hGl, fun W hB W1 v l hg hR1 => ?_⟩
 obtain ⟨G', c', v4', hb', hl', h4', hf', hR', hv4', hG', hGg', hGl', _, hback⟩ := (h.below hB).attrs i hi
 obtain ⟨rfl, _, _⟩ := slice_inj (hb'.symm.trans ((hB.block g h.lt).trans hb))
 have e := h4'.symm.trans ((hB.cell (p := ⟨G', i * 7 + 4, none⟩) hGl).trans h4)
 injection e with e
 subst e
 obtain ⟨hI, hM⟩ := hback W1 v l hg hR1
 exact To.mk hI (fun k hk => hk.imp id fun h => Nat.le_trans hB.size h) ((Mod.of_below hB).trans hM fun k hk => .inl hk)
theorem grown_setCells {W1 : World} {G : Nat} (h : W.grownBy W1 (some G)) (o : Nat) (vs : List Value) : W.grownBy (W1.setCells G o vs) (some G) := by
 have h1 := setCells_same G vs o W1
 exact ⟨h1.1.trans h.os, h1.2.1.trans h.tape, h1.2.2.1.trans h.output, by rw [h1.2.2.2]; exact h.size, fun k hk hn => (setCells_far vs o k fun e => hn (by rw [e])).trans (h.block k hk hn)⟩
/-- The place of the first attribute of a name, from place i on; -1: none. -/
def idxA (n : ByteArray) : Nat → List S52 → Int
 | _, [] => -1
 | i, x :: l => if x.f0 = n then (i : Int) else idxA n (i + 1) l
theorem drop1_calls (x : S52) (n : ByteArray) (B : Nat) (w : World) (hB : w.cell? ⟨B, 0, none⟩ = some (.string n)) :
  Calls Try.prog 61 #[.agg #[.string x.f0, .string x.f1], .pointer (some ⟨B, 0, none⟩)] w fun e w' => e = .returned (.bool (decide (x.f0 = n))) ∧ Below w.heap.size w w' := by
 have hl := block_lt_of_cell hB
 rw [← bytes_beq]
 go_enter Try.func61, Try.ntmps61
 go_wp2
 go_ret
 exact ⟨rfl, by repeat (first | exact Below.refl _ _ | apply below_alloc | apply pw_below_drewN | apply below_drew1)⟩
set_option maxHeartbeats 2000000 in
set_option maxRecDepth 100000 in
theorem idxA_calls (n : ByteArray) (B : Nat) (A0 : Option Addr) (c0 : Nat) (l0 : List S52) (w : World) (hr0 : Kd.C k52 w A0 l0.length l0) (hc0 : l0.length ≤ c0) (hn : w.cell? ⟨B, 0, none⟩ = some (.string n)) :
  Calls Try.prog 60 #[.slice A0 l0.length c0, .func (.func 61) #[] #[.pointer (some ⟨B, 0, none⟩)]] w fun e w' => e = .returned (.int .i64 (idxA n 0 l0)) ∧ Below w.heap.size w w' := by
 have hm := Kd.C_max hr0
 have HR0 := Aside0.mk hr0
 have HC0 := Aside0.mk hc0
 have HN := Aside0.mk hn
 have hBl := block_lt_of_cell hn
 clear hr0 hc0 hn
 have HB := Aside0.mk (Below.refl w.heap.size w)
 go_enter Try.func60, Try.ntmps60
 go_wp2
 go_loopg [5, 8] l0.length (fun gg v5 v8 w' => ∃ kk : Nat, kk ≤ l0.length ∧ l0.length - kk ≤ gg ∧ v8 = .int .i64 kk ∧ Aside0 (idxA n kk (l0.drop kk) = idxA n 0 l0) ∧ Aside0 (Below w.heap.size w w'))
 case atStart => exact ⟨0, Nat.zero_le _, by omega, rfl, ⟨rfl⟩, HB⟩
 case round =>
  clear HB
  obtain ⟨kk, hkk, hg, rfl, HA, HB⟩ := hrel
  by_cases hlt : kk < l0.length
  ·have hltz : (kk : Int) < (l0.length : Int) := by omega
   have hd : l0.drop kk = rd_T52 l0 kk :: l0.drop (kk + 1) := by
    rw [List.drop_eq_getElem_cons hlt]
    simp [rd_T52, List.getElem?_eq_getElem hlt]
   obtain ⟨ad, e4, hx0, hx1⟩ := at_T52 HR0.out (kk : Int) (by omega) hltz
   cases e4
   simp only [Int.toNat_natCast] at hx0 hx1
   replace hx0 := (HB.out.cell (World.block_lt_of_cell? w _ hx0)).trans hx0
   replace hx1 := (HB.out.cell (World.block_lt_of_cell? w _ hx1)).trans hx1
   have HA' := HA.out
   rw [hd] at HA'
   clear hd
   have hcall := drop1_calls (rd_T52 l0 kk) n B wr ((HB.out.cell (p := ⟨B, 0, none⟩) hBl).trans HN.out)
   by_cases hq : (rd_T52 l0 kk).f0 = n
   ·rw [decide_eq_true hq] at hcall
    have HA2 : Aside0 ((kk : Int) = idxA n 0 l0) := ⟨by rw [← HA']; simp [idxA, hq]⟩
    clear HA' hq
    go_wp2_with (go_at_call 61; refine hcall.mono ?_; rintro e w' ⟨rfl, hb'⟩)
    go_ret
    exact ⟨by rw [← HA2.out]; rfl, below_step HB.out hb'⟩
   ·rw [decide_eq_false hq] at hcall
    have HA2 : Aside0 (idxA n (kk + 1) (l0.drop (kk + 1)) = idxA n 0 l0) := ⟨by rw [← HA']; simp [idxA, hq]⟩
    clear HA' hq
    go_wp2_with (go_at_call 61; refine hcall.mono ?_; rintro e w' ⟨rfl, hb'⟩)
    go_roundg (l0.length - (kk + 1))
    case measure => omega
    case rel => exact ⟨kk + 1, by omega, by omega, by go_num, HA2, ⟨below_step HB.out hb'⟩⟩
  ·have hltz : ¬ (kk : Int) < (l0.length : Int) := by omega
   obtain rfl : kk = l0.length := by omega
   have HA2 : Aside0 (-1 = idxA n 0 l0) := ⟨by rw [← HA.out, List.drop_length]; rfl⟩
   clear HA
   go_wp2
   go_ret
   exact ⟨by rw [← HA2.out]; rfl, HB.out⟩
/-- clear of one attribute. -/
theorem run_clear_attr (w : World) (ty : TypeId) (b o c : Nat) (h0 : (w.cell? ⟨b, o, none⟩).isSome = true) (h1 : (w.cell? ⟨b, o + 1, none⟩).isSome = true) (f0 : w.frozen? ⟨b, o, none⟩ = false) (f1 : w.frozen? ⟨b, o + 1, none⟩ = false) :
  (Builtin.clear_ #[50] ty #[.slice (some ⟨b, o, none⟩) 1 c]).run Try.prog w = .ok (.tuple #[]) (w.setCells b o [.string (⟨#[]⟩ : ByteArray), .string (⟨#[]⟩ : ByteArray)]) := by
 have hst := run_storeCells_cells (P := Try.prog) b o [.string (⟨#[]⟩ : ByteArray), .string (⟨#[]⟩ : ByteArray)] 0 w (by
  intro j hj
  match j, hj with
  | 0, _ => exact h0
  | 1, _ => exact h1
  | j + 2, hj => exact absurd hj (by show ¬ j + 2 < 2; omega)) (by
  intro j hj
  match j, hj with
  | 0, _ => exact f0
  | 1, _ => exact f1
  | j + 2, hj => exact absurd hj (by show ¬ j + 2 < 2; omega)) (by simp [Value.oneCell'])
 simp only [Nat.add_zero] at hst
 have hv := Try.zeroValue52
 have ht := Try.underlying50
 simp [Builtin.clear_, run_underlying ht, hv, Builtin.zeroCells, Value.cells]
 show ((Sem.run Try.prog (storeCells ⟨b, o, none⟩ [.string (⟨#[]⟩ : ByteArray), .string (⟨#[]⟩ : ByteArray)]) w).andThen _) = _
 rw [hst]
 rfl
set_option maxHeartbeats 4000000 in
set_option maxRecDepth 100000 in
theorem attr_delete (G c : Nat) (l : List S52) (j : Nat) (hj : j < l.length) (w : World) (hR : Kd.R k52 52 w 0 ok (.slice (some ⟨G, 0, none⟩) l.length c) l) (hl : l.length < 1000000) :
  Calls Try.prog 62 #[.slice (some ⟨G, 0, none⟩) l.length c, .int .i64 j, .int .i64 (j + 1)] w fun e w' => e = .returned (.slice (some ⟨G, 0, none⟩) (l.length - 1) c) ∧ Kd.R k52 52 w' 0 ok (.slice (some ⟨G, 0, none⟩) (l.length - 1) c) (l.eraseIdx j) ∧ w.grownBy w' (some G) := by
 have hrr := Kd.R_reads' hR
 have hlc := hrr.2.1
 have hjz : (j : Int) < (l.length : Int) := by omega
 have hj1 : (j : Int) + 1 ≤ (l.length : Int) := by omega
 have hj2 : ((j : Int) == (j : Int) + 1) = false := beq_eq_false_iff_ne.2 (by omega)
 have hjc : j ≤ c := by omega
 have hj0 : 0 ≤ (j : Int) + 1 := by omega
 have HR := Aside0.mk hR
 clear hR hrr
 go_enter Try.func62, Try.ntmps62
 go_wp2
 refine start_ (n := 8) (S := (fun _ => True)) (ds := [6]) #[Z, Z, Z, Z, Z, Z, Z, Z] (by kernel_rfl) rfl rfl trivial (fun hHeld => ?_); refine with_tabW reg62_5.tab reg62_5.bits (fun HT_ HW_ => ?_)
 have HR3 := Aside0.mk (Kd.R_drew HR.out); have HGr := Aside0.mk (show ∀ W1, w.drew.grownBy W1 (some G) → w.grownBy W1 (some G) from fun W1 h => ⟨h.os, h.tape, h.output, h.size, h.block⟩); generalize w.drew = W3 at HR3 HGr ⊢; clear HR
 refine pA 0 20 #[Y, Z, Z, Z, Z, Z, Z, Z] HT_ ?_
 refine pA 1 21 #[Y, Y, Z, Z, Z, Z, Z, Z] HT_ ?_
 refine pA 2 22 #[Y, Y, Y, Z, Z, Z, Z, Z] HT_ ?_
 refine pA 3 23 #[Y, Y, Y, Y, Z, Z, Z, Z] HT_ ?_
 refine pA 4 24 #[Y, Y, Y, Y, Y, Z, Z, Z] HT_ ?_
 refine pA 5 25 #[Y, Y, Y, Y, Y, Y, Z, Z] HT_ ?_
 refine last_ (i := 6) (N := some 26) #[Y, Y, Y, Y, Y, Y, Y, Z] rfl rfl (one_of HT_.out (by kernel_rfl)) (by decide) (fun K hK => ?_)
 refine Kd.R_delete_step k52 (w0 := W3) 0 (by rfl) (.tmp 22) (.tmp 25) 50 52 rfl Try.underlying50 (by kernel_rfl) (g := G) (n := l.length) (c := c) (k := j) rfl rfl ?_ rfl HR3.out hj (Below.refl _ _) (Nat.zero_le _) ?_
 ·split
  ·rfl
  ·simp only [Option.map_some, add_plain]
   rfl
 intro w5 hR5 _ hg5
 refine hK.out _ _ ?_
 clear hK K
 refine pA 7 0 #[Y, Y, Y, Y, Y, Y, Y, Y] HT_ ?_
 refine done_ (done_of HT_.out (by kernel_rfl)) ?_
 obtain ⟨m, hm⟩ : ∃ m, l.length - 1 = m := ⟨_, rfl⟩
 rw [hm] at hR5
 have hm1 : (m : Int) ≤ (l.length : Int) := by omega
 have hm2 : m ≤ l.length := by omega
 have hm3 : ¬ c = m := by omega
 have hm4 : l.length - m = 1 := by omega
 have hm5 : (m : Int) < (l.length : Int) := by omega
 have hcc : ∀ q, q < 2 → (w5.cell? ⟨G, m * 2 + q, none⟩).isSome = true ∧ w5.frozen? ⟨G, m * 2 + q, none⟩ = false := by
  obtain ⟨_, inner, ⟨_, hown⟩, _⟩ := hR5
  intro q hq
  rcases hown with ⟨hv, _⟩ | ⟨g', c', cur, hv, hbg, hh, hnc, hcm, hcs, ht⟩
  ·cases hv
  injection hv with hv h1 h2
  injection hv with hv
  injection hv with hv _
  subst hv h2
  refine ⟨?_, blk_frozen hh _⟩
  rw [show w5.cell? ⟨G, m * 2 + q, none⟩ = cur[m * 2 + q]? from blk_cell hh _, Array.getElem?_eq_getElem (by have : cur.size = c * 2 := hcs; omega)]
  rfl
 have hclr := fun ty => run_clear_attr w5 ty G (m * 2) (c - m) (by have := (hcc 0 (by omega)).1; simpa using this) (hcc 1 (by omega)).1 (by have := (hcc 0 (by omega)).2; simpa using this) (hcc 1 (by omega)).2
 have HR5 := Aside0.mk hR5
 have HG5 := Aside0.mk hg5
 clear hR5 hg5 hcc HR3
 rw [hm]
 go_wp2
 all_goals
  go_ret
  refine ⟨rfl, ?_, HGr.out _ (grown_setCells HG5.out _ _)⟩
  have h9 := R_tail HR5.out (m * 2) [.string (⟨#[]⟩ : ByteArray), .string (⟨#[]⟩ : ByteArray)] (Nat.le_refl _) (by show m * 2 + 2 ≤ _ * 2; omega)
  first
  | exact h9
  | (rename c = j + 1 => e; rw [← e]; exact h9)
theorem idxA_lt (n : ByteArray) : ∀ (l : List S52) (i : Nat), idxA n i l = -1 ∨ ∃ j, j < l.length ∧ idxA n i l = ((i + j : Nat) : Int)
 | [], _ => .inl rfl
 | x :: l, i => by
  unfold idxA
  split
  ·exact .inr ⟨0, by simp, rfl⟩
  ·rcases idxA_lt n l (i + 1) with h | ⟨j, hj, h⟩
   ·exact .inl h
   ·exact .inr ⟨j + 1, by simpa using hj, by rw [h]; congr 1; omega⟩
def dropR (xs : List S79) (n : Int) (name : ByteArray) : Int × List S79 :=
 if elemB xs n = false then (110, xs) else
 if idxA name 0 (rd_T79 xs n).f0.f4 < 0 then (1, xs) else
 (0, xs.set n.toNat (withAttrs (rd_T79 xs n) ((rd_T79 xs n).f0.f4.eraseIdx (idxA name 0 (rd_T79 xs n).f0.f4).toNat)))
set_option maxHeartbeats 4000000 in
set_option maxRecDepth 100000 in
theorem Doc_Drop (h : IsDoc w ok g xs) (hF : Fit xs) (n : Int) (name : ByteArray) : Calls Try.prog 27 #[.pointer (some ⟨g, 0, none⟩), .int .i64 n, .string name] w fun e w' => e = .returned (.int .i64 (dropR xs n name).1) ∧ To w w' ok g (dropR xs n name).2 := by
 have hB0 := below_alloc (Below.refl w.heap.size w) (.cells #[.string name] 9)
 have hE := Doc_element (h.below hB0) n
 unfold dropR elemB
 have HI := Aside0.mk h
 by_cases c0 : 0 < n ∧ n < (xs.length : Int) ∧ (rd_T79 xs n).f0.f1 = 0
 rotate_left
 ·rw [decide_eq_false c0] at hE ⊢
  rw [if_pos rfl]
  clear h
  go_enter Try.func27, Try.ntmps27
  go_wp2_with (first | (go_at_call 47; refine hE.mono ?_; rintro e w' ⟨rfl, ⟨m, rfl⟩⟩))
  go_ret
  exact ⟨rfl, To.quiet HI.out (by repeat (first | exact Below.refl _ _ | apply pw_below_drewN | apply below_alloc))⟩
 rw [decide_eq_true c0] at hE ⊢
 rw [if_neg (by decide)]
 obtain ⟨i, rfl⟩ := Int.eq_ofNat_of_zero_le (show 0 ≤ n by omega)
 have hi : i < xs.length := by omega
 have hz : (i : Int) < (xs.length : Int) := by omega
 rw [nd_at i hi, Int.toNat_natCast]
 have hla := hF.attrs i hi
 obtain ⟨G, c, v4, hb, h4, hf, hR, hne, hGl, hback⟩ := h.attrs2 i hi
 obtain ⟨A4, c4, rfl⟩ := Kd.R_slice hR
 have hc := doc_cell hb
 have hgl := blk_lt hb
 have hcl := (Kd.R_reads' hR).2.1
 generalize hattr : xs[i].f0.f4 = l at hR hla h4 hback hcl hne ⊢
 have hidx := fun m => idxA_calls name w.heap.size A4 c4 l ((w.alloc (.cells #[.string name] 9)).drewN m) (Kd.C_drewN (Kd.C_alloc (Kd.R_reads' hR).2.2 _) m) hcl (by simp)
 have HBK := Aside0.mk hback
 have HR := Aside0.mk hR
 have HNE := Aside0.mk hne
 have HAL := Aside0.mk (idxA_lt name l 0)
 clear h hF hb hback hR c0 hB0 hne
 generalize idxA name 0 l = ix at hidx HAL ⊢
 rcases HAL.out with rfl | ⟨j, hj, rfl⟩
 ·rw [if_pos (by decide)]
  go_enter Try.func27, Try.ntmps27
  go_wp2_with (first | (go_at_call 47; refine hE.mono ?_; rintro e w' ⟨rfl, ⟨m, rfl⟩⟩) | (go_at_call 60; refine (hidx _).mono ?_; rintro e w' ⟨rfl, hB⟩; have HB := Aside0.mk hB; clear hB))
  go_ret
  exact ⟨rfl, To.quiet HI.out (Below.trans (by repeat (first | exact Below.refl _ _ | apply pw_below_drewN | apply below_alloc)) (HB.out.mono (by simp)))⟩
 ·rw [Nat.zero_add] at hidx ⊢
  have hj0 : ¬ (j : Int) < 0 := by omega
  rw [if_neg hj0, Int.toNat_natCast]
  have hj2 := up1 (i := j) (by omega)
  clear HAL
  obtain ⟨g4, cap, e, _, hg4, _⟩ := Kd.R_form HR.out (by omega)
  injection e with e _ e2
  subst e
  subst e2
  have HBM := Aside0.mk (show ∀ m W, Below ((w.alloc (.cells #[.string name] 9)).drewN m).heap.size ((w.alloc (.cells #[.string name] 9)).drewN m) W → Below w.heap.size w W from fun m W h => (pw_below_drewN (below_alloc (Below.refl w.heap.size w) _) m).trans (h.mono (by simp)))
  have HDel := Aside0.mk (fun w2 (hB2 : Below w.heap.size w w2) => attr_delete g4 c4 l j hj w2 (Kd.R_below HR.out hB2) (by omega))
  go_enter Try.func27, Try.ntmps27
  go_wp2_with (first | (go_at_call 47; refine hE.mono ?_; rintro e w' ⟨rfl, ⟨m, rfl⟩⟩) | (go_at_call 60; refine (hidx _).mono ?_; rintro e w2 ⟨rfl, hB⟩; have hB2 : Below w.heap.size w w2 := HBM.out _ w2 hB; have s4 := (hB2.cell (p := ⟨G, i * 7 + 4, none⟩) hGl).trans h4; have HD := Aside0.mk (HDel.out w2 hB2); have HB2 := Aside0.mk hB2; clear hB hB2) | (go_at_call 62; refine HD.out.mono ?_; rintro e w3 ⟨rfl, hR3, hg3⟩; have s5 := (World.cell?_of_block (a := ⟨G, i * 7 + 4, none⟩) (hg3.block G (Nat.lt_of_lt_of_le hGl HB2.out.size) (fun e => HNE.out e.symm))).trans s4; have f5 : w3.frozen? ⟨G, i * 7 + 4, none⟩ = false := (World.frozen?_of_block (a := ⟨G, i * 7 + 4, none⟩) (hg3.block G (Nat.lt_of_lt_of_le hGl HB2.out.size) (fun e => HNE.out e.symm))).trans ((HB2.out.frozen (p := ⟨G, i * 7 + 4, none⟩) hGl).trans (hf 4)); have HT := Aside0.mk (HBK.out w2 HB2.out w3 _ _ hg3 (Kd.R_mono hR3 fun k hk => .inl hk)); clear hR3 hg3))
  go_ret
  exact ⟨rfl, HT.out⟩
end
end Go.Proofs.Ytpkaliaaffgbdaa.QA
