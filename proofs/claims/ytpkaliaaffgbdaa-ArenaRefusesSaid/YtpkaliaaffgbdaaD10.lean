/- The document of package arena: Load, Clone. -/
import Derived.Test.YtpkaliaaffgbdaaD9
import Derived.Test.YtpkaliaaffgbdaaD8
import Derived.Test.YtpkaliaaffgbdaaQAx6
namespace Go.Proofs.Ytpkaliaaffgbdaa.QA
open Go.RowKit Go.Proofs.YtpkaliaaffgbdaaW.PrintWords Go.Proofs.YtpkaliaaffgbdaaW.PrintLast Go.Proofs.YtpkaliaaffgbdaaW.PrintMore
attribute [local go_sem] max2_int min2_int max_two min_two max_three min_three max_four min_four   -- for this text's walks alone
set_option linter.unusedVariables false
set_option linter.unusedSimpArgs false

open Go
section
variable {W w : World} {ok okl : Nat → Prop} {g : Nat} {xs : List S79}
theorem LoadInv.after {w0 : World} {ok' : Nat → Prop} {vr va : Value} {roots ar : List Int} {ok1 : Nat → Prop} (hb : Below w.heap.size w w0) (h : LoadInv w0 W ok' g xs vr va roots ar ok1) (ho : ∀ k, ok' k → ok k) : LoadInv w W ok g xs vr va roots ar ok1 :=
  ⟨h.doc, fun k hk => (h.new k hk).imp (ho k) fun h2 => Nat.le_trans hb.size h2, h.lt, ((Mod.of_below hb).trans h.mod fun k hk => .inl hk).mono ho, Kd.R_lower h.rts hb.size, Kd.R_lower h.rnd hb.size, h.ne⟩
theorem LoadInv.to {vr va : Value} {roots ar : List Int} {ok1 : Nat → Prop} (h : LoadInv w W ok g xs vr va roots ar ok1) : To w W ok g xs := ⟨ok1, h.doc, h.new, h.lt, h.mod⟩
/-- What Load answers: the nodes, the roots, an error. -/
def loadR (xs : List S79) (k : Nat) (l : List S54) : Option (List S79 × List Int × Int) :=
  match rows_Check.f k l with
  | none => none
  | some e => if e ≠ 0 then some (xs, [], e) else if 4096 < xs.length + l.length then some (xs, [], 2) else (loadL l xs [] []).map fun r => (r.1, r.2, 0)
set_option maxHeartbeats 2000000 in
set_option maxRecDepth 100000 in
theorem Doc_Load (h : IsDoc w ok g xs) (l : List S54) (A : Option Addr) (c : Nat) (hF : Kd.F k54 w okl A l.length l) (hok : ∀ k, okl k → ¬ ok k) (hlc : l.length ≤ c) (hx : xs.length < 100000) (hll : l.length < 100000) (k : Nat) (r : List S79 × List Int × Int) (hr : loadR xs k l = some r) :
    Calls Try.prog 33 #[.pointer (some ⟨g, 0, none⟩), .slice A l.length c] w fun e w' => ∃ v va ar ok1, e = .returned (.tuple #[v, .int .i64 r.2.2]) ∧ LoadInv w w' ok g r.1 v va r.2.1 ar ok1 := by
  unfold loadR at hr
  cases hc : rows_Check.f k l with
  | none => rw [hc] at hr; cases hr
  | some e =>
    rw [hc] at hr
    dsimp only at hr
    have hcall := rows_Check.calls k A c l e w (Kd.F_now hF) hlc hc
    have H0 : ∀ W, Below w.heap.size w W → LoadInv w W ok g xs (.slice none 0 0) (.slice none 0 0) [] [] (fun k => ok k ∧ k < w.heap.size) := fun W hB =>
      ⟨h.bound.below hB, fun k hk => .inl hk.1, fun k hk => Nat.lt_of_lt_of_le hk.2 hB.size, Mod.of_below hB, Kd.R_nil _ _ _ _ _, Kd.R_nil _ _ _ _ _, fun k hk => by cases hk⟩
    have H0' := Aside0.mk H0
    by_cases ce : e = 0
    rotate_left
    · rw [if_pos ce] at hr
      obtain rfl := Option.some.inj hr
      have ceb : (e != 0) = true := bne_iff_ne.2 ce
      clear hr h hF ce H0
      go_enter Try.func33, Try.ntmps33
      go_wp2_with (first | (go_at_call 64; refine hcall.mono ?_; rintro e w' ⟨rfl, hB⟩; have HB := Aside0.mk hB; clear hB))
      go_ret2
      exact ⟨_, _, _, _, rfl, H0'.out _ HB.out⟩
    · rw [if_neg (by simpa using ce)] at hr
      subst ce
      obtain ⟨Ax, cx, hb, hl, hC⟩ := h.reads
      have hc := doc_cell hb
      have hgl := blk_lt hb
      have hw : wrap64 ((xs.length : Int) + (l.length : Int)) = ((xs.length + l.length : Nat) : Int) := by unfold wrap64; omega
      split at hr
      · rename_i hbig
        obtain rfl := Option.some.inj hr
        have hbb : decide ((4096 : Int) < ((xs.length + l.length : Nat) : Int)) = true := decide_eq_true (by omega)
        clear hr h hF H0 hb hC hl
        go_enter Try.func33, Try.ntmps33
        go_wp2_with (first | (go_at_call 64; refine hcall.mono ?_; rintro e w' ⟨rfl, hB⟩; have hc' := (hB.cell (p := ⟨g, 0, none⟩) hgl).trans hc; have HB := Aside0.mk hB; clear hB))
        go_ret2
        exact ⟨_, _, _, _, rfl, H0'.out _ HB.out⟩
      · rename_i hbig
        obtain ⟨r0, hr0, rfl⟩ := Option.map_eq_some_iff.1 hr
        have hbb : decide ((4096 : Int) < ((xs.length + l.length : Nat) : Int)) = false := decide_eq_false (by omega)
        have hload := fun W (hB : Below w.heap.size w W) => Doc_load (h.below hB) l A c (Kd.F_below hF hB) hok hlc r0 hr0
        clear hr h hF H0 hb hC hl H0'
        go_enter Try.func33, Try.ntmps33
        go_wp2_with (first | (go_at_call 64; refine hcall.mono ?_; rintro e w1 ⟨rfl, hB⟩; have hc' := (hB.cell (p := ⟨g, 0, none⟩) hgl).trans hc; have HL := Aside0.mk (hload w1 hB); have HB := Aside0.mk hB; clear hB hload) | (go_at_call 63; refine HL.out.mono ?_; rintro e w2 ⟨v, va, ar, ok1, rfl, hI⟩; have HI := Aside0.mk hI; clear hI))
        go_ret2
        exact ⟨_, va, ar, ok1, rfl, HI.out.after HB.out fun _ h => h⟩
theorem rowsL_length (xs : List S79) : ∀ (k : Nat) (stk : List (Int × Int)) (out r : List S54), rowsL xs k stk out = some r → out.length ≤ 1000000 → r.length ≤ 1000000
  | 0, _, _, _, h, _ => by simp [rowsL] at h
  | _ + 1, [], out, r, h, ho => by simp only [rowsL] at h; obtain rfl := Option.some.inj h; exact ho
  | k + 1, p :: rest, out, r, h, ho => by
    simp only [rowsL] at h
    split at h
    · rename_i hc
      refine rowsL_length xs k _ _ r h ?_
      split
      · exact ho
      · simp only [List.length_append, List.length_singleton]; omega
    · cases h
theorem rowsR_length (xs : List S79) (k : Nat) (n : Int) (r : List S54) (h : rowsR xs k n = some r) : r.length ≤ 1000000 := by
  unfold rowsR at h
  split at h
  · obtain rfl := Option.some.inj h; simp
  · exact rowsL_length xs k _ _ r h (by simp)
/-- What Clone answers: the nodes, a number, an error. -/
def cloneR (xs : List S79) (k : Nat) (n : Int) : Option (List S79 × Int × Int) :=
  if someB xs n = false then some (xs, 0, 110) else
  match rowsR xs k n with
  | none => none
  | some l => if 4096 < xs.length + l.length then some (xs, 0, 2) else
    match loadL l xs [] [] with
    | some (ys, q :: _) => some (ys, q, 0)
    | _ => none
set_option maxHeartbeats 2000000 in
set_option maxRecDepth 100000 in
theorem Doc_Clone (h : IsDoc w ok g xs) (hF : Fit xs) (k : Nat) (n : Int) (r : List S79 × Int × Int) (hr : cloneR xs k n = some r) :
    Calls Try.prog 31 #[.pointer (some ⟨g, 0, none⟩), .int .i64 n] w fun e w' => e = .returned (.tuple #[.int .i64 r.2.1, .int .i64 r.2.2]) ∧ To w w' ok g r.1 := by
  have hS := Doc_some h n
  unfold cloneR someB at hr
  have HI := Aside0.mk h
  by_cases c0 : 0 < n ∧ n < (xs.length : Int)
  rotate_left
  · rw [decide_eq_false c0] at hS hr
    rw [if_pos rfl] at hr
    obtain rfl := Option.some.inj hr
    clear hr h
    go_enter Try.func31, Try.ntmps31
    go_wp2_with (first | (go_at_call 39; refine hS.mono ?_; rintro e w' ⟨rfl, ⟨m, rfl⟩⟩))
    go_ret2
    exact ⟨rfl, To.quiet HI.out (pw_below_drewN (Below.refl _ _) _)⟩
  rw [decide_eq_true c0] at hS hr
  rw [if_neg (by decide)] at hr
  cases hl : rowsR xs k n with
  | none => rw [hl] at hr; cases hr
  | some l =>
    rw [hl] at hr
    dsimp only at hr
    have hrows := fun m => Doc_Rows (h.drewN m) hF k n l hl
    obtain ⟨Ax, cx, hb, _, _⟩ := h.reads
    have hc := doc_cell hb
    have hgl := blk_lt hb
    have hx := hF.len
    have HBM := Aside0.mk (fun m W (h : Below (w.drewN m).heap.size (w.drewN m) W) => (pw_below_drewN (Below.refl w.heap.size w) m).trans (h.mono (Nat.le_refl _)))
    have hln := rowsR_length xs k n l hl
    have hw : wrap64 ((xs.length : Int) + (l.length : Int)) = (xs.length : Int) + (l.length : Int) := by unfold wrap64; omega
    by_cases hbig : 4096 < xs.length + l.length
    · rw [if_pos hbig] at hr
      obtain rfl := Option.some.inj hr
      have hbig2 : decide ((4096 : Int) < (xs.length : Int) + (l.length : Int)) = true := decide_eq_true (by omega)
      clear hr h hF hb c0
      go_enter Try.func31, Try.ntmps31
      go_wp2_with (first | (go_at_call 39; refine hS.mono ?_; rintro e w' ⟨rfl, ⟨m, rfl⟩⟩) | (go_at_call 11; refine (hrows _).mono ?_; rintro e w1 ⟨v, rfl, hSv, hB⟩; obtain ⟨A, c, rfl⟩ := Kd.S_slice hSv; have hB' := HBM.out _ w1 hB; have hc' := (hB'.cell (p := ⟨g, 0, none⟩) hgl).trans hc; have HB := Aside0.mk hB'; clear hB hB' hSv hrows))
      go_ret2
      exact ⟨rfl, To.quiet HI.out HB.out⟩
    · rw [if_neg hbig] at hr
      split at hr
      rotate_left
      · cases hr
      rename_i ys q rest hload0
      obtain rfl := Option.some.inj hr
      have hbig2 : decide ((4096 : Int) < (xs.length : Int) + (l.length : Int)) = false := decide_eq_false (by omega)
      have hload := fun (w1 : World) (A : Option Addr) (c : Nat) (hS : Kd.S k54 54 w1 w.heap.size (fun _ => True) (.slice A l.length c) l) (hB : Below w.heap.size w w1) =>
        Doc_load (okl := fun k => w.heap.size ≤ k) (HI.out.bound.below hB) l A c (Kd.S_F (Kd.S_mono (Kd.S_bound hS) fun k hk => hk.2.1)) (fun k hk h2 => by have := h2.2; omega) (Kd.S_reads' hS).2.1 (ys, q :: rest) hload0
      have HLO := Aside0.mk hload
      clear hr h hF hb c0 hload hload0
      go_enter Try.func31, Try.ntmps31
      go_wp2_with (first | (go_at_call 39; refine hS.mono ?_; rintro e w' ⟨rfl, ⟨m, rfl⟩⟩) | (go_at_call 11; refine (hrows _).mono ?_; rintro e w1 ⟨v, rfl, hSv, hB⟩; obtain ⟨A, c, rfl⟩ := Kd.S_slice hSv; have hB' := HBM.out _ w1 hB; have hc' := (hB'.cell (p := ⟨g, 0, none⟩) hgl).trans hc; have HB := Aside0.mk hB'; have HL := Aside0.mk (HLO.out w1 A c (Kd.S_lower hSv (Nat.le_refl _)) hB'); clear hB hB' hSv hrows) | (go_at_call 63; refine HL.out.mono ?_; rintro e w2 ⟨v, va, ar, ok1, rfl, hI⟩; obtain ⟨A2, c2, rfl⟩ := Kd.R_slice hI.rts; obtain ⟨ad2, e2, hq⟩ := Kd.at_int (Kd.R_reads' hI.rts).2.2 0 (by omega) (by simp); subst e2; obtain ⟨g2, e3⟩ := Kd.R_head hI.rts; subst e3; rw [add_plain] at hq; have hq2 : w2.cell? ⟨g2, 0, none⟩ = some (.int .i64 q) := hq; have HI2 := Aside0.mk hI; clear hI hq))
      go_ret2
      exact ⟨rfl, (HI2.out.after HB.out fun k hk => hk.1).to⟩
end
end Go.Proofs.Ytpkaliaaffgbdaa.QA
