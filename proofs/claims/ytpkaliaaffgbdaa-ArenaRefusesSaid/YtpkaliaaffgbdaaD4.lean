/- The document of package arena: Kids, Remove, Insert, Data. -/
import Derived.Test.YtpkaliaaffgbdaaD3
namespace Go.Proofs.Ytpkaliaaffgbdaa.QA
open Go.RowKit Go.Proofs.YtpkaliaaffgbdaaW.PrintWords Go.Proofs.YtpkaliaaffgbdaaW.PrintLast Go.Proofs.YtpkaliaaffgbdaaW.PrintMore
attribute [local go_sem] max2_int min2_int max_two min_two max_three min_three max_four min_four   -- for this text's walks alone
set_option linter.unusedVariables false
set_option linter.unusedSimpArgs false

open Go
/-- What the calls ask of the nodes. -/
structure Fit (xs : List S79) : Prop where
  up : ∀ i (hi : i < xs.length), xs[i].f1 = -1 ∨ ∃ p : Nat, ∃ h : p < xs.length, xs[i].f1 = (p : Int) ∧ (xs[p].f2.filter fun k => !(k == (i : Int))).length + 1 = xs[p].f2.length
  kids : ∀ i (hi : i < xs.length), xs[i].f2.length < 100000
  attrs : ∀ i (hi : i < xs.length), xs[i].f0.f4.length < 100000
  len : xs.length ≤ 100000
section
variable {W w : World} {ok okn : Nat → Prop} {g : Nat} {xs : List S79}
theorem Fit.take {xs : List S79} (h : Fit xs) (i : Nat) (hi : i < xs.length) : xs[i].f1 = -1 ∨ ∃ p : Nat, ∃ h : p < xs.length, xs[i].f1 = (p : Int) ∧ 0 < xs[p].f2.length ∧ xs[p].f2.length < 1000000 := by
  rcases h.up i hi with h1 | ⟨p, hp, h1, h2⟩
  · exact .inl h1
  · exact .inr ⟨p, hp, h1, by omega, by have := h.kids p hp; omega⟩
theorem To.link (h : To W w ok g xs) : ∃ ok1, IsDoc w ok1 g xs ∧ ∀ W2 ys, To w W2 ok1 g ys → To W W2 ok g ys := by
  obtain ⟨ok1, hI, hg, hl, hm⟩ := h
  refine ⟨ok1, hI, fun W2 ys h2 => ?_⟩
  obtain ⟨ok2, hI2, hg2, hl2, hm2⟩ := h2
  exact ⟨ok2, hI2, fun k hk => (hg2 k hk).elim (hg k) (fun h => .inr (Nat.le_trans hm.size h)), hl2, hm.trans hm2 hg⟩
def inB (xs : List S79) (n : Int) : Bool := decide (0 ≤ n ∧ n < (xs.length : Int))
def someB (xs : List S79) (n : Int) : Bool := decide (0 < n ∧ n < (xs.length : Int))
def kidsN (xs : List S79) (n : Int) : List Int := if inB xs n then (rd_T79 xs n).f2 else []
set_option maxHeartbeats 2000000 in
set_option maxRecDepth 100000 in
theorem Doc_Kids (h : IsDoc w ok g xs) (hF : Fit xs) (n : Int) : Calls Try.prog 14 #[.pointer (some ⟨g, 0, none⟩), .int .i64 n] w fun e w' => ∃ v, e = .returned v ∧ Kd.R (Kd.int .i64) 3 w' w.heap.size (fun _ => True) v (kidsN xs n) ∧ Below w.heap.size w w' := by
  have hI := Doc_is h n
  unfold kidsN inB
  by_cases c0 : 0 ≤ n ∧ n < (xs.length : Int)
  · rw [decide_eq_true c0] at hI ⊢
    rw [if_pos rfl]
    obtain ⟨i, rfl⟩ := Int.eq_ofNat_of_zero_le c0.1
    have hi : i < xs.length := by omega
    obtain ⟨G, c, A4, c4, A6, c6, hb, hl, ⟨h0, h1, h2, h3, h4, h5, h6⟩, _, ⟨l6, g6⟩, _, _⟩ := h.node i hi
    have hc := doc_cell hb
    have hz : (i : Int) < (xs.length : Int) := by omega
    rw [nd_at i hi]
    have hcall := fun m => int_clone.calls A6 c6 xs[i].f2 xs[i].f2 (w.drewN m) (Kd.C_drewN g6 m) l6 (by unfold int_clone.f; rw [if_pos (by have := hF.kids i hi; omega)])
    clear hb hl h c0 h0 h1 h2 h3 h4 h5 l6 g6 hF
    go_enter Try.func14, Try.ntmps14
    go_wp2_with (first | (go_at_call 36; refine hI.mono ?_; rintro e w' ⟨rfl, ⟨m, rfl⟩⟩) | (go_at_call 42; refine (hcall _).mono ?_; rintro e w' ⟨v, rfl, hR, hB⟩; have HR := Aside0.mk hR; have HB := Aside0.mk hB; clear hR hB))
    go_ret
    exact ⟨_, rfl, Kd.R_lower HR.out (by simp), Below.trans (pw_below_drewN (Below.refl _ _) _) (HB.out.mono (by simp))⟩
  · rw [decide_eq_false c0] at hI ⊢
    rw [if_neg (by decide)]
    go_enter Try.func14, Try.ntmps14
    go_wp2_with (first | (go_at_call 36; refine hI.mono ?_; rintro e w' ⟨rfl, ⟨m, rfl⟩⟩))
    go_ret
    exact ⟨_, rfl, Kd.R_nil _ _ _ _ _, pw_below_drewN (Below.refl _ _) _⟩
def removeR (xs : List S79) (n : Int) : Int × List S79 := if someB xs n then (0, takeN xs n.toNat) else (110, xs)
set_option maxHeartbeats 2000000 in
set_option maxRecDepth 100000 in
theorem Doc_Remove (h : IsDoc w ok g xs) (hF : Fit xs) (n : Int) : Calls Try.prog 17 #[.pointer (some ⟨g, 0, none⟩), .int .i64 n] w fun e w' => e = .returned (.int .i64 (removeR xs n).1) ∧ To w w' ok g (removeR xs n).2 := by
  have hI := Doc_some h n
  unfold removeR someB
  by_cases c0 : 0 < n ∧ n < (xs.length : Int)
  · rw [decide_eq_true c0] at hI ⊢
    rw [if_pos rfl]
    obtain ⟨i, rfl⟩ := Int.eq_ofNat_of_zero_le (show 0 ≤ n by omega)
    have hi : i < xs.length := by omega
    rw [Int.toNat_natCast]
    have hcall := fun m => Doc_take (h.drewN m) i hi (hF.take i hi)
    clear h hF c0
    go_enter Try.func17, Try.ntmps17
    go_wp2_with (first | (go_at_call 39; refine hI.mono ?_; rintro e w' ⟨rfl, ⟨m, rfl⟩⟩) | (go_at_call 40; refine (hcall _).mono ?_; rintro e w' ⟨rfl, hT⟩; have HT := Aside0.mk hT; clear hT))
    go_ret
    exact ⟨rfl, To.after (pw_below_drewN (Below.refl _ _) _) HT.out⟩
  · rw [decide_eq_false c0] at hI ⊢
    rw [if_neg (by decide)]
    have HI := Aside0.mk h
    clear h
    go_enter Try.func17, Try.ntmps17
    go_wp2_with (first | (go_at_call 39; refine hI.mono ?_; rintro e w' ⟨rfl, ⟨m, rfl⟩⟩))
    go_ret
    exact ⟨rfl, To.quiet HI.out (pw_below_drewN (Below.refl _ _) _)⟩
def dataR (xs : List S79) (n : Int) (s : ByteArray) : Int × List S79 := if someB xs n && !((rd_T79 xs n).f0.f1 == 0) then (0, xs.set n.toNat (withData (rd_T79 xs n) s)) else (110, xs)
set_option maxHeartbeats 2000000 in
set_option maxRecDepth 100000 in
theorem Doc_Data (h : IsDoc w ok g xs) (n : Int) (s : ByteArray) : Calls Try.prog 32 #[.pointer (some ⟨g, 0, none⟩), .int .i64 n, .string s] w fun e w' => e = .returned (.int .i64 (dataR xs n s).1) ∧ To w w' ok g (dataR xs n s).2 := by
  have hI := Doc_some h n
  unfold dataR someB
  by_cases c0 : 0 < n ∧ n < (xs.length : Int)
  · rw [decide_eq_true c0] at hI ⊢
    rw [Bool.true_and]
    obtain ⟨i, rfl⟩ := Int.eq_ofNat_of_zero_le (show 0 ≤ n by omega)
    have hi : i < xs.length := by omega
    rw [Int.toNat_natCast, nd_at i hi]
    obtain ⟨G, c, A4, c4, A6, c6, hb, hl, ⟨h0, h1, h2, h3, h4, h5, h6⟩, _, _, hf, _, _⟩ := h.node i hi
    have hc := doc_cell hb
    have hz : (i : Int) < (xs.length : Int) := by omega
    have HI := Aside0.mk h
    have HB := Aside0.mk hb
    by_cases c1 : xs[i].f0.f1 = 0
    · rw [c1, if_neg (by decide)]
      rw [c1] at h1
      clear hb hl h c0 c1 h0 h2 h3 h4 h5 h6
      go_enter Try.func32, Try.ntmps32
      go_wp2_with (first | (go_at_call 39; refine hI.mono ?_; rintro e w' ⟨rfl, ⟨m, rfl⟩⟩))
      go_ret
      exact ⟨rfl, To.quiet HI.out (pw_below_drewN (Below.refl _ _) _)⟩
    · have c2 : (xs[i].f0.f1 == 0) = false := beq_eq_false_iff_ne.2 c1
      rw [c2, if_pos (show (!false) = true from rfl)]
      clear hb hl h c0 c1 h0 h2 h4 h5 h6
      go_enter Try.func32, Try.ntmps32
      go_wp2_with (first | (go_at_call 39; refine hI.mono ?_; rintro e w' ⟨rfl, ⟨m, rfl⟩⟩))
      go_ret
      have h9 := (HI.out.drewN m).set_data i hi s (show (w.drewN m).heap[g]? = _ from (pw_below_drewN (Below.refl _ _) m).block g (blk_lt HB.out) |>.trans HB.out)
      exact ⟨rfl, To.mk h9.1 (fun k hk => .inl hk) ((Mod.drewN w ok m).trans h9.2 fun k hk => .inl hk)⟩
  · rw [decide_eq_false c0] at hI ⊢
    rw [Bool.false_and, if_neg (by decide)]
    have HI := Aside0.mk h
    clear h
    go_enter Try.func32, Try.ntmps32
    go_wp2_with (first | (go_at_call 39; refine hI.mono ?_; rintro e w' ⟨rfl, ⟨m, rfl⟩⟩))
    go_ret
    exact ⟨rfl, To.quiet HI.out (pw_below_drewN (Below.refl _ _) _)⟩
/-- What Insert answers: an error, and the nodes behind it; k: Within's steps at most. -/
def mostN (xs : List S79) (p n : Int) : Int := if (rd_T79 xs n).f1 = p then ((rd_T79 xs p).f2.length : Int) - 1 else (rd_T79 xs p).f2.length
def insertR (xs : List S79) (k : Nat) (p a n : Int) : Option (Int × List S79) :=
  if inB xs p = false then some (110, xs) else if someB xs n = false then some (110, xs) else
  if 0 < p ∧ (rd_T79 xs p).f0.f1 ≠ 0 then some (111, xs) else
  match withinF xs k p n with
  | none => none
  | some true => some (111, xs)
  | some false => if a < 0 ∨ mostN xs p n < a then some (1, xs) else some (0, putN (takeN xs n.toNat) p.toNat a.toNat n.toNat)
theorem takeN_length (xs : List S79) (i : Nat) : (takeN xs i).length = xs.length := by
  unfold takeN
  dsimp only
  rw [List.length_set]
  split
  · rfl
  · rw [List.length_set]
theorem takeN_kids (hF : Fit xs) (i p : Nat) (hi : i < xs.length) (hp : p < xs.length) : (((rd_T79 (takeN xs i) p).f2.length : Nat) : Int) = mostN xs p i := by
  have h1 : ∀ ys : List S79, i < ys.length → p < ys.length → (rd_T79 (ys.set i (withUp (rd_T79 ys i) (-1))) p).f2 = (rd_T79 ys p).f2 := by
    intro ys h1 h2
    rw [nd_at p (by simpa using h2), List.getElem_set]
    split
    · rename_i e
      subst e
      rfl
    · rw [nd_at p h2]
  unfold takeN mostN
  dsimp only
  rw [nd_at i hi]
  rcases hF.up i hi with h2 | ⟨q, hq, h2, h3⟩
  · rw [if_pos h2, ← nd_at i hi, h1 xs hi hp, nd_at i hi, if_neg (by omega)]
  · rw [if_neg (by omega), h2, nd_at q hq, Int.toNat_natCast, h1 _ (by simpa using hi) (by simpa using hp)]
    rw [nd_at p (by simpa using hp), List.getElem_set]
    by_cases e : q = p
    · subst e
      rw [if_pos rfl, if_pos rfl, nd_at q hq]
      show (((xs[q].f2.filter fun k => !(k == (i : Int))).length : Nat) : Int) = _
      omega
    · rw [if_neg e, if_neg (by omega), nd_at p hp]
set_option maxHeartbeats 4000000 in
set_option maxRecDepth 100000 in
theorem Doc_Insert (h : IsDoc w ok g xs) (hF : Fit xs) (k : Nat) (p a n : Int) (r : Int × List S79) (hr : insertR xs k p a n = some r) : Calls Try.prog 12 #[.pointer (some ⟨g, 0, none⟩), .int .i64 p, .int .i64 a, .int .i64 n] w fun e w' => e = .returned (.int .i64 r.1) ∧ To w w' ok g r.2 := by
  have hI := Doc_is h p
  have hS := fun m => Doc_some (h.drewN m) n
  unfold insertR inB someB at hr
  have HI := Aside0.mk h
  by_cases c0 : 0 ≤ p ∧ p < (xs.length : Int)
  rotate_left
  · rw [decide_eq_false c0] at hI hr
    rw [if_pos rfl] at hr
    obtain rfl := Option.some.inj hr
    clear hr h hS
    go_enter Try.func12, Try.ntmps12
    go_wp2_with (first | (go_at_call 36; refine hI.mono ?_; rintro e w' ⟨rfl, ⟨m, rfl⟩⟩))
    go_ret
    exact ⟨rfl, To.quiet HI.out (pw_below_drewN (Below.refl _ _) _)⟩
  rw [decide_eq_true c0] at hI hr
  rw [if_neg (by decide)] at hr
  by_cases c1 : 0 < n ∧ n < (xs.length : Int)
  rotate_left
  · rw [decide_eq_false c1] at hS hr
    rw [if_pos rfl] at hr
    obtain rfl := Option.some.inj hr
    clear hr h
    go_enter Try.func12, Try.ntmps12
    go_wp2_with (first | (go_at_call 36; refine hI.mono ?_; rintro e w' ⟨rfl, ⟨m, rfl⟩⟩) | (go_at_call 39; refine (hS _).mono ?_; rintro e w' ⟨rfl, ⟨m, rfl⟩⟩))
    go_ret
    exact ⟨rfl, To.quiet HI.out (by repeat (first | exact Below.refl _ _ | apply pw_below_drewN))⟩
  rw [decide_eq_true c1] at hS hr
  rw [if_neg (by decide)] at hr
  obtain ⟨q, rfl⟩ := Int.eq_ofNat_of_zero_le c0.1
  obtain ⟨i, rfl⟩ := Int.eq_ofNat_of_zero_le (show 0 ≤ n by omega)
  have hq : q < xs.length := by omega
  have hi : i < xs.length := by omega
  have hqz : (q : Int) < (xs.length : Int) := by omega
  have hiz : (i : Int) < (xs.length : Int) := by omega
  rw [nd_at q hq, Int.toNat_natCast, Int.toNat_natCast] at hr
  obtain ⟨G, c, A4, c4, A6, c6, hb, hl, ⟨h0, h1, h2, h3, h4, h5, h6⟩, _, ⟨l6, g6⟩, _, _⟩ := h.node q hq
  have hc := doc_cell hb
  by_cases c2 : 0 < (q : Int) ∧ xs[q].f0.f1 ≠ 0
  · rw [if_pos c2] at hr
    obtain rfl := Option.some.inj hr
    have c3 : (xs[q].f0.f1 != 0) = true := bne_iff_ne.2 c2.2
    have c4' : decide (0 < (q : Int)) = true := decide_eq_true c2.1
    clear hr h h0 h2 h3 h4 h5 h6 hb hl c1 c0
    go_enter Try.func12, Try.ntmps12
    go_wp2_with (first | (go_at_call 36; refine hI.mono ?_; rintro e w' ⟨rfl, ⟨m, rfl⟩⟩) | (go_at_call 39; refine (hS _).mono ?_; rintro e w' ⟨rfl, ⟨m, rfl⟩⟩))
    go_ret
    exact ⟨rfl, To.quiet HI.out (by repeat (first | exact Below.refl _ _ | apply pw_below_drewN))⟩
  rw [if_neg c2] at hr
  cases hw : withinF xs k q i with
  | none => rw [hw] at hr; exact absurd hr (by simp)
  | some b =>
    rw [hw] at hr
    have hWn := fun m => Doc_Within (h.drewN m) k q i b hw
    cases b with
    | true =>
      obtain rfl := Option.some.inj hr
      clear hr h h0 h2 h3 h4 h5 h6 hb hl c1 c0
      by_cases c3 : 0 < (q : Int)
      · have c4' : xs[q].f0.f1 = 0 := Decidable.byContradiction fun h => c2 ⟨c3, h⟩
        rw [c4'] at h1
        clear c2
        go_enter Try.func12, Try.ntmps12
        go_wp2_with (first | (go_at_call 36; refine hI.mono ?_; rintro e w' ⟨rfl, ⟨m, rfl⟩⟩) | (go_at_call 39; refine (hS _).mono ?_; rintro e w' ⟨rfl, ⟨m, rfl⟩⟩) | (go_at_call 28; refine (hWn _).mono ?_; rintro e w' ⟨rfl, ⟨m, rfl⟩⟩))
        go_ret
        exact ⟨rfl, To.quiet HI.out (by repeat (first | exact Below.refl _ _ | apply pw_below_drewN))⟩
      · clear c2
        go_enter Try.func12, Try.ntmps12
        go_wp2_with (first | (go_at_call 36; refine hI.mono ?_; rintro e w' ⟨rfl, ⟨m, rfl⟩⟩) | (go_at_call 39; refine (hS _).mono ?_; rintro e w' ⟨rfl, ⟨m, rfl⟩⟩) | (go_at_call 28; refine (hWn _).mono ?_; rintro e w' ⟨rfl, ⟨m, rfl⟩⟩))
        go_ret
        exact ⟨rfl, To.quiet HI.out (by repeat (first | exact Below.refl _ _ | apply pw_below_drewN))⟩
    | false =>
      replace hr : (if a < 0 ∨ mostN xs q i < a then some (1, xs) else some (0, putN (takeN xs i) q a.toNat i)) = some r := hr
      obtain ⟨G', c', A4', c4', A6', c6', hb', hl', ⟨_, _, _, _, _, h5', _⟩, _, _, _, _⟩ := h.node i hi
      have e := hb'.symm.trans hb
      injection e with e
      injection e with e _ _
      injection e with e
      injection e with e
      injection e with e _ e2
      injection e with e
      injection e with e _
      subst e
      subst e2
      have hk1 := hF.kids q hq
      have htk := takeN_kids hF i q hi hq
      have htl := takeN_length xs i
      have hT := fun m => Doc_take (h.drewN m) i hi (hF.take i hi)
      have hup : xs[i].f1 = q → 0 < xs[q].f2.length := by
        intro e
        rcases hF.up i hi with h2 | ⟨q', hq', h2, h3⟩
        · omega
        · have : q' = q := by omega
          subst this
          omega
      unfold mostN at hr htk
      rw [nd_at i hi, nd_at q hq] at hr htk
      generalize xs[i].f1 = up at h5' hup hr htk
      have hm : ∃ m : Int, (if up = (q : Int) then (xs[q].f2.length : Int) - 1 else xs[q].f2.length) = m ∧ (if (up == (q : Int)) = true then wrap64 ((xs[q].f2.length : Int) - 1) = m else (xs[q].f2.length : Int) = m) := by
        refine ⟨_, rfl, ?_⟩
        by_cases e : up = q
        · rw [if_pos e, if_pos (beq_iff_eq.2 e)]
          unfold wrap64
          omega
        · rw [if_neg e, if_neg (by simpa using e)]
      obtain ⟨m, hm1, hm2⟩ := hm
      rw [hm1] at hr htk
      by_cases c3 : a < 0 ∨ m < a
      · rw [if_pos c3] at hr
        obtain rfl := Option.some.inj hr
        clear htk htl hT hup hm1 hr
        have c4' : (0 < q ∧ xs[q].f0.f1 = 0) ∨ ¬ 0 < q := by
          by_cases c5 : 0 < q
          · exact .inl ⟨c5, Decidable.byContradiction fun h => c2 ⟨by omega, h⟩⟩
          · exact .inr c5
        have c6' : decide (a < 0) = true ∨ decide (a < 0) = false ∧ decide (m < a) = true := by
          by_cases c5 : a < 0
          · exact .inl (decide_eq_true c5)
          · exact .inr ⟨decide_eq_false c5, decide_eq_true (by omega)⟩
        have c7' : ((up == (q : Int)) = true ∧ wrap64 ((xs[q].f2.length : Int) - 1) = m) ∨ ((up == (q : Int)) = false ∧ (xs[q].f2.length : Int) = m) := by
          cases e : (up == (q : Int)) with
          | true => rw [e, if_pos rfl] at hm2; exact .inl ⟨rfl, hm2⟩
          | false => rw [e, if_neg (by decide)] at hm2; exact .inr ⟨rfl, hm2⟩
        clear h h0 h2 h3 h4 h5 hb hl hb' hl' c1 c0 c2 c3 hw hm2 hk1 hF
        rcases c4' with ⟨c4, c5⟩ | c4
        · rw [c5] at h1
          clear c5
          rcases c7' with ⟨c7, c8⟩ | ⟨c7, c8⟩
          all_goals
            rcases c6' with c9 | ⟨c9, c10⟩
            all_goals
              go_enter Try.func12, Try.ntmps12
              go_wp2_with (first | (go_at_call 36; refine hI.mono ?_; rintro e w' ⟨rfl, ⟨m, rfl⟩⟩) | (go_at_call 39; refine (hS _).mono ?_; rintro e w' ⟨rfl, ⟨m, rfl⟩⟩) | (go_at_call 28; refine (hWn _).mono ?_; rintro e w' ⟨rfl, ⟨m, rfl⟩⟩))
              go_ret
              exact ⟨rfl, To.quiet HI.out (by repeat (first | exact Below.refl _ _ | apply pw_below_drewN))⟩
        · rcases c7' with ⟨c7, c8⟩ | ⟨c7, c8⟩
          all_goals
            rcases c6' with c9 | ⟨c9, c10⟩
            all_goals
              go_enter Try.func12, Try.ntmps12
              go_wp2_with (first | (go_at_call 36; refine hI.mono ?_; rintro e w' ⟨rfl, ⟨m, rfl⟩⟩) | (go_at_call 39; refine (hS _).mono ?_; rintro e w' ⟨rfl, ⟨m, rfl⟩⟩) | (go_at_call 28; refine (hWn _).mono ?_; rintro e w' ⟨rfl, ⟨m, rfl⟩⟩))
              go_ret
              exact ⟨rfl, To.quiet HI.out (by repeat (first | exact Below.refl _ _ | apply pw_below_drewN))⟩
      · rw [if_neg c3] at hr
        obtain rfl := Option.some.inj hr
        obtain ⟨b, rfl⟩ := Int.eq_ofNat_of_zero_le (show 0 ≤ a by omega)
        rw [Int.toNat_natCast]
        have hP := fun (W : World) (ok : Nat → Prop) (h : IsDoc W ok g (takeN xs i)) => Doc_put h q b i (by omega) (by omega) (by rw [← nd_at q (by omega)]; omega) (by rw [← nd_at q (by omega)]; have := hm1; split at this <;> omega)
        clear htk htl hup hm1 hr
        have c4' : (0 < q ∧ xs[q].f0.f1 = 0) ∨ ¬ 0 < q := by
          by_cases c5 : 0 < q
          · exact .inl ⟨c5, Decidable.byContradiction fun h => c2 ⟨by omega, h⟩⟩
          · exact .inr c5
        have c9 : decide ((b : Int) < 0) = false := decide_eq_false (by omega)
        have c10 : decide (m < (b : Int)) = false := decide_eq_false (by omega)
        have c7' : ((up == (q : Int)) = true ∧ wrap64 ((xs[q].f2.length : Int) - 1) = m) ∨ ((up == (q : Int)) = false ∧ (xs[q].f2.length : Int) = m) := by
          cases e : (up == (q : Int)) with
          | true => rw [e, if_pos rfl] at hm2; exact .inl ⟨rfl, hm2⟩
          | false => rw [e, if_neg (by decide)] at hm2; exact .inr ⟨rfl, hm2⟩
        clear h h0 h2 h3 h4 h5 hb hl hb' hl' c1 c0 c2 c3 hw hm2 hk1 hF
        rcases c4' with ⟨c4, c5⟩ | c4
        · rw [c5] at h1
          clear c5
          rcases c7' with ⟨c7, c8⟩ | ⟨c7, c8⟩
          all_goals
            go_enter Try.func12, Try.ntmps12
            go_wp2_with (first | (go_at_call 36; refine hI.mono ?_; rintro e w' ⟨rfl, ⟨m, rfl⟩⟩) | (go_at_call 39; refine (hS _).mono ?_; rintro e w' ⟨rfl, ⟨m, rfl⟩⟩) | (go_at_call 28; refine (hWn _).mono ?_; rintro e w' ⟨rfl, ⟨m, rfl⟩⟩) | (go_at_call 40; refine (hT _).mono ?_; rintro e w' ⟨rfl, hT'⟩; obtain ⟨ok1, hI1, hL⟩ := hT'.link; have HL := Aside0.mk hL; have hP' := hP _ _ hI1; clear hI1 hT' hL) | (go_at_call 41; refine hP'.mono ?_; rintro e w' ⟨rfl, hT2⟩; have HT2 := Aside0.mk hT2; clear hT2))
            go_ret
            exact ⟨rfl, To.after (by repeat (first | exact Below.refl _ _ | apply pw_below_drewN)) (HL.out _ _ HT2.out)⟩
        · rcases c7' with ⟨c7, c8⟩ | ⟨c7, c8⟩
          all_goals
            go_enter Try.func12, Try.ntmps12
            go_wp2_with (first | (go_at_call 36; refine hI.mono ?_; rintro e w' ⟨rfl, ⟨m, rfl⟩⟩) | (go_at_call 39; refine (hS _).mono ?_; rintro e w' ⟨rfl, ⟨m, rfl⟩⟩) | (go_at_call 28; refine (hWn _).mono ?_; rintro e w' ⟨rfl, ⟨m, rfl⟩⟩) | (go_at_call 40; refine (hT _).mono ?_; rintro e w' ⟨rfl, hT'⟩; obtain ⟨ok1, hI1, hL⟩ := hT'.link; have HL := Aside0.mk hL; have hP' := hP _ _ hI1; clear hI1 hT' hL) | (go_at_call 41; refine hP'.mono ?_; rintro e w' ⟨rfl, hT2⟩; have HT2 := Aside0.mk hT2; clear hT2))
            go_ret
            exact ⟨rfl, To.after (by repeat (first | exact Below.refl _ _ | apply pw_below_drewN)) (HL.out _ _ HT2.out)⟩
end
end Go.Proofs.Ytpkaliaaffgbdaa.QA
