/- The law's tells: a call of a script on both documents. What the calls of a script answer: there is always an answer; the answer's new document. A document on which a script was played. The law's document, beside what the law holds on to. -/
import Derived.Test.YtpkaliaaffgbdaaM10
namespace Go.Proofs.Ytpkaliaaffgbdaa.QA
open Go.RowKit Go.Proofs.YtpkaliaaffgbdaaW.PrintWords Go.Proofs.YtpkaliaaffgbdaaW.PrintLast Go.Proofs.YtpkaliaaffgbdaaW.PrintMore
attribute [local go_sem] max2_int min2_int max_two min_two max_three min_three max_four min_four   -- for this text's walks alone
set_option linter.unusedVariables false
set_option linter.unusedSimpArgs false

open Go
theorem R_same {W W' : World} {v : Value} {base : Nat} {l : List Int} (h : Kd.R kI 3 W base (fun _ => True) v l) (hs : ∀ k, some k = v.ownBlock → W'.heap[k]? = W.heap[k]?) : Kd.R kI 3 W' base (fun _ => True) v l :=
  Kd.R_mono (Kd.R_step (Kd.R_tight rfl h) fun k hk _ => hs k hk) fun _ _ => trivial
set_option maxHeartbeats 16000000 in
set_option maxRecDepth 100000 in
theorem tells_calls (w W : World) (g gk M : Nat) (xs xr ys yr : List S79) (h : Both w W (fun _ => False) g gk xs xr) (hG : Good M xs) (hM : M < 100000) (o : SOp) (A7 : Option Addr) (c7 : Nat) (hl7 : o.f7.length ≤ c7) (hC7 : Kd.C k54 w A7 o.f7.length o.f7) (hn : o.f5.size ≤ 140737488351232) (a a2 : List Int) (e e2 : Int) (hA : AnsA xs o a e ys) (hR : AnsR xr o a2 e2 yr) (ha : a.length < 1000000) :
    Calls Try.prog 23 #[.pointer (some ⟨g, 0, none⟩), .pointer (some ⟨gk, 0, none⟩), vop o A7 c7] W fun q w' => ∃ b, q = .returned (.bool b) ∧ (a = a2 → e = e2 → b = true) ∧ Both w w' (fun _ => False) g gk ys yr := by
  have HF := Aside0.mk (hG.fit hM)
  have HXL := Aside0.mk hG.len
  have HC := Aside0.mk hC7
  have HN := Aside0.mk hn
  have HAL := Aside0.mk ha
  obtain ⟨B, hB⟩ : ∃ B, B = W.heap.size := ⟨_, rfl⟩
  have HB := Aside0.mk (show Both w (W.alloc (.cells #[.int .i64 o.f0, .int .i64 o.f1, .int .i64 o.f2, .int .i64 o.f3, .int .i64 o.f4, .string o.f5, .string o.f6, .slice A7 o.f7.length c7] 25)) (fun k => k = B) g gk xs xr from by rw [hB]; exact h.box _)
  have hbx : (W.alloc (.cells #[.int .i64 o.f0, .int .i64 o.f1, .int .i64 o.f2, .int .i64 o.f3, .int .i64 o.f4, .string o.f5, .string o.f6, .slice A7 o.f7.length c7] 25)).heap[B]? = some (.cells #[.int .i64 o.f0, .int .i64 o.f1, .int .i64 o.f2, .int .i64 o.f3, .int .i64 o.f4, .string o.f5, .string o.f6, .slice A7 o.f7.length c7] 25 (0, 0)) := by rw [hB]; exact blk_new _ _
  obtain ⟨A_make, A_load, A_insert, A_remove, A_clone, A_attr, A_drop, A_data, A_none⟩ := hA
  have H_make := Aside0.mk (And.intro A_make hR.make)
  have H_load := Aside0.mk (And.intro A_load hR.load)
  have H_insert := Aside0.mk (And.intro A_insert hR.insert)
  have H_remove := Aside0.mk (And.intro A_remove hR.remove)
  have H_clone := Aside0.mk (And.intro A_clone hR.clone)
  have H_attr := Aside0.mk (And.intro A_attr hR.attr)
  have H_drop := Aside0.mk (And.intro A_drop hR.drop)
  have H_data := Aside0.mk (And.intro A_data hR.data)
  have H_none := Aside0.mk (And.intro A_none hR.none)
  clear A_make A_load A_insert A_remove A_clone A_attr A_drop A_data A_none hR h hG hM hC7 hn ha
  obtain ⟨f0, f1, f2, f3, f4, f5, f6, f7⟩ := o
  unfold vop
  dsimp only at HN HC hl7 hbx HB H_make H_load H_insert H_remove H_clone H_attr H_drop H_data H_none ⊢
  have hk : f0 = 0 ∨ f0 = 1 ∨ f0 = 2 ∨ f0 = 3 ∨ f0 = 4 ∨ f0 = 5 ∨ f0 = 6 ∨ f0 = 7 ∨ (f0 ≠ 0 ∧ f0 ≠ 1 ∧ f0 ≠ 2 ∧ f0 ≠ 3 ∧ f0 ≠ 4 ∧ f0 ≠ 5 ∧ f0 ≠ 6 ∧ f0 ≠ 7) := by omega
  rcases hk with rfl | rfl | rfl | rfl | rfl | rfl | rfl | rfl | ⟨m0, m1, m2, m3, m4, m5, m6, m7⟩
  · clear H_load H_insert H_remove H_clone H_attr H_drop H_data H_none
    obtain ⟨hA, hR⟩ := H_make.out
    obtain ⟨n, rfl, hA2⟩ := hA rfl
    obtain ⟨n2, rfl, hR2⟩ := hR rfl
    clear H_make hA hR
    have HA := Aside0.mk hA2
    have HR := Aside0.mk hR2
    clear hA2 hR2
    have hnn : n = n2 ∨ n ≠ n2 := by omega
    rcases hnn with rfl | hnn
    · obtain ⟨q0, q1, q2, q3, q4, q5, q6, q7⟩ := cells8 hbx
      have BX := Aside0.mk hbx
      clear hbx
      subst hB
      go_enter Try.func23, Try.ntmps23
      go_wp2_with (first | (go_at_call 21; refine (HB.out.viaA (P := fun q => q = .returned (.tuple #[.int .i64 n, .int .i64 e])) (fun ok hI => by have := Doc_Make hI f4 f5 f6 (f5.size * 9 + 1) (mayV f4 f5 f6) (may_val f4 f5 f6 HN.out); rw [HA.out] at this; exact this)).mono ?_; rintro q W2 ⟨rfl, hb2, hf2⟩; have bx := (hf2 W.heap.size rfl).trans BX.out; clear HB BX q0 q1 q2 q3 q4 q5 q6 q7; have HB := Aside0.mk hb2; have BX := Aside0.mk bx; obtain ⟨q0, q1, q2, q3, q4, q5, q6, q7⟩ := cells8 bx; clear bx hb2 hf2) | (go_at_call 49; refine (HB.out.viaR (P := fun q => q = .returned (.tuple #[.int .i64 n, .int .i64 e2])) (fun ok hI => HR.out _ ok gk hI)).mono ?_; rintro q W3 ⟨rfl, hb2, hf2⟩; clear HB BX q0 q1 q2 q3 q4 q5 q6 q7; have HB := Aside0.mk hb2; clear hb2 hf2))
      go_ret
      exact ⟨_, rfl, fun _ h => by rw [h]; exact beq_self_eq_true _, HB.out.less fun _ h => h.elim⟩
    · have hnb : (n == n2) = false := beq_eq_false_iff_ne.2 hnn
      have HNN := Aside0.mk hnn
      clear hnn
      obtain ⟨q0, q1, q2, q3, q4, q5, q6, q7⟩ := cells8 hbx
      have BX := Aside0.mk hbx
      clear hbx
      subst hB
      go_enter Try.func23, Try.ntmps23
      go_wp2_with (first | (go_at_call 21; refine (HB.out.viaA (P := fun q => q = .returned (.tuple #[.int .i64 n, .int .i64 e])) (fun ok hI => by have := Doc_Make hI f4 f5 f6 (f5.size * 9 + 1) (mayV f4 f5 f6) (may_val f4 f5 f6 HN.out); rw [HA.out] at this; exact this)).mono ?_; rintro q W2 ⟨rfl, hb2, hf2⟩; have bx := (hf2 W.heap.size rfl).trans BX.out; clear HB BX q0 q1 q2 q3 q4 q5 q6 q7; have HB := Aside0.mk hb2; have BX := Aside0.mk bx; obtain ⟨q0, q1, q2, q3, q4, q5, q6, q7⟩ := cells8 bx; clear bx hb2 hf2) | (go_at_call 49; refine (HB.out.viaR (P := fun q => q = .returned (.tuple #[.int .i64 n2, .int .i64 e2])) (fun ok hI => HR.out _ ok gk hI)).mono ?_; rintro q W3 ⟨rfl, hb2, hf2⟩; clear HB BX q0 q1 q2 q3 q4 q5 q6 q7; have HB := Aside0.mk hb2; clear hb2 hf2))
      go_ret
      exact ⟨_, rfl, fun h => absurd (List.head_eq_of_cons_eq h) HNN.out, HB.out.less fun _ h => h.elim⟩
  · clear H_make H_insert H_remove H_clone H_attr H_drop H_data H_none
    obtain ⟨hA, hR⟩ := H_load.out
    obtain ⟨k, hA2⟩ := hA rfl
    have hR2 := hR rfl
    have HA := Aside0.mk hA2
    have HR := Aside0.mk hR2
    have HL7 := Aside0.mk hl7
    have HLN := Aside0.mk (show xs.length < 100000 ∧ (treesL f7).length < 100000 from ⟨by have := HXL.out; omega, by have := (treesL_few f7).1; omega⟩)
    clear H_load hA hR hA2 hR2 hl7
    have k1 := Aside0.mk trivial
    have k2 := Aside0.mk trivial
    obtain ⟨q0, q1, q2, q3, q4, q5, q6, q7⟩ := cells8 hbx
    have BX := Aside0.mk hbx
    clear hbx
    subst hB
    go_enter Try.func23, Try.ntmps23
    go_wp2_with (first | (go_at_call 34; clear k1; refine (trees_calls w _ HB.out.bel A7 c7 f7 HC.out HL7.out).mono ?_; rintro q W2 ⟨At, ct, rfl, h1, hF1, hb1⟩; have bx := (hb1.block W.heap.size (by have := blk_lt BX.out; exact this)).trans BX.out; have HT := Aside0.mk (Both.loadA (HB.out.quiet hb1) hF1 (fun _ h => h) HB.out hb1 h1 HLN.out.1 HLN.out.2 HA.out); clear BX HB; have BX := Aside0.mk bx; clear h1 hF1 hb1 q0 q1 q2 q3 q4 q5 q6 q7 bx) | (go_at_call 33; refine HT.out.mono ?_; rintro q W3 ⟨v, rfl, hRv, hb2, hf2⟩; obtain ⟨Av, cv, rfl⟩ := Kd.R_slice hRv; have bx := (hf2 W.heap.size rfl).trans BX.out; clear HT BX; have HB := Aside0.mk hb2; have BX := Aside0.mk bx; have HV := Aside0.mk hRv; obtain ⟨q0, q1, q2, q3, q4, q5, q6, q7⟩ := cells8 bx; clear bx hb2 hf2 hRv) | (go_at_call 34; clear k2; refine (trees_calls w _ HB.out.bel A7 c7 f7 HC.out HL7.out).mono ?_; rintro q W4 ⟨At2, ct2, rfl, h1, hF1, hb1⟩; have hRv := Kd.R_below HV.out hb1; have HT := Aside0.mk (Both.loadR (HB.out.quiet hb1) hF1 (fun _ h => h) HB.out hb1 h1 HR.out); clear HB HV; have HV := Aside0.mk hRv; clear h1 hF1 hb1 q0 q1 q2 q3 q4 q5 q6 q7 BX hRv) | (go_at_call 50; refine HT.out.mono ?_; rintro q W5 ⟨v2, rfl, hRw, hb2, hf2⟩; obtain ⟨Aw, cw, rfl⟩ := Kd.R_slice hRw; have hRv := R_same HV.out (fun k hk => hf2 k (.inr hk)); clear HT HV; have HB := Aside0.mk hb2; have HV := Aside0.mk (Kd.R_reads' hRv); have HW := Aside0.mk (Kd.R_reads' hRw); clear hb2 hf2 hRv hRw) | (go_at_call 51; refine (boltinglaw11_nums.calls (a.length + 1) Av cv a Aw cw a2 (decide (a = a2)) _ HV.out.2.2 HV.out.2.1 HW.out.2.2 HW.out.2.1 (nums_is a a2 HAL.out)).mono ?_; rintro q W6 ⟨rfl, ⟨m, rfl⟩⟩; have hb2 := HB.out.quiet (pw_below_drewN (Below.refl _ _) m); clear HB; have HB := Aside0.mk hb2; clear hb2))
    · go_ret
      exact ⟨_, rfl, fun _ h => by rw [h]; exact beq_self_eq_true _, HB.out.less fun _ h => h.elim⟩
    · go_ret
      exact ⟨_, rfl, fun h => absurd h (by assumption), HB.out.less fun _ h => h.elim⟩
  · clear H_make H_load H_remove H_clone H_attr H_drop H_data H_none
    obtain ⟨hA, hR⟩ := H_insert.out
    obtain ⟨rfl, hA2⟩ := hA rfl
    obtain ⟨rfl, hR2⟩ := hR rfl
    clear H_insert hA hR
    obtain ⟨k, hA2⟩ := hA2
    have HA := Aside0.mk hA2
    clear hA2
    have HR := Aside0.mk hR2
    clear hR2
    obtain ⟨q0, q1, q2, q3, q4, q5, q6, q7⟩ := cells8 hbx
    have BX := Aside0.mk hbx
    clear hbx
    subst hB
    go_enter Try.func23, Try.ntmps23
    go_wp2_with (first | (go_at_call 12; refine (HB.out.viaA (P := fun q => q = .returned (.int .i64 e)) (fun ok hI => Doc_Insert hI HF.out k f1 f3 f2 (e, ys) HA.out)).mono ?_; rintro q W2 ⟨rfl, hb2, hf2⟩; have bx := (hf2 W.heap.size rfl).trans BX.out; clear HB BX q0 q1 q2 q3 q4 q5 q6 q7; have HB := Aside0.mk hb2; have BX := Aside0.mk bx; obtain ⟨q0, q1, q2, q3, q4, q5, q6, q7⟩ := cells8 bx; clear bx hb2 hf2) | (go_at_call 52; refine (HB.out.viaR (P := fun q => q = .returned (.int .i64 e2)) (fun ok hI => HR.out _ ok gk hI)).mono ?_; rintro q W3 ⟨rfl, hb2, hf2⟩; clear HB BX q0 q1 q2 q3 q4 q5 q6 q7; have HB := Aside0.mk hb2; clear hb2 hf2))
    go_ret
    exact ⟨_, rfl, fun _ h => by rw [h]; exact beq_self_eq_true _, HB.out.less fun _ h => h.elim⟩
  · clear H_make H_load H_insert H_clone H_attr H_drop H_data H_none
    obtain ⟨hA, hR⟩ := H_remove.out
    obtain ⟨rfl, hA2⟩ := hA rfl
    obtain ⟨rfl, hR2⟩ := hR rfl
    clear H_remove hA hR
    have HA := Aside0.mk hA2
    clear hA2
    have HR := Aside0.mk hR2
    clear hR2
    obtain ⟨q0, q1, q2, q3, q4, q5, q6, q7⟩ := cells8 hbx
    have BX := Aside0.mk hbx
    clear hbx
    subst hB
    go_enter Try.func23, Try.ntmps23
    go_wp2_with (first | (go_at_call 17; refine (HB.out.viaA (P := fun q => q = .returned (.int .i64 e)) (fun ok hI => by have := Doc_Remove hI HF.out f1; rw [HA.out] at this; exact this)).mono ?_; rintro q W2 ⟨rfl, hb2, hf2⟩; have bx := (hf2 W.heap.size rfl).trans BX.out; clear HB BX q0 q1 q2 q3 q4 q5 q6 q7; have HB := Aside0.mk hb2; have BX := Aside0.mk bx; obtain ⟨q0, q1, q2, q3, q4, q5, q6, q7⟩ := cells8 bx; clear bx hb2 hf2) | (go_at_call 53; refine (HB.out.viaR (P := fun q => q = .returned (.int .i64 e2)) (fun ok hI => HR.out _ ok gk hI)).mono ?_; rintro q W3 ⟨rfl, hb2, hf2⟩; clear HB BX q0 q1 q2 q3 q4 q5 q6 q7; have HB := Aside0.mk hb2; clear hb2 hf2))
    go_ret
    exact ⟨_, rfl, fun _ h => by rw [h]; exact beq_self_eq_true _, HB.out.less fun _ h => h.elim⟩
  · clear H_make H_load H_insert H_remove H_attr H_drop H_data H_none
    obtain ⟨hA, hR⟩ := H_clone.out
    obtain ⟨n, k, rfl, hA2⟩ := hA rfl
    obtain ⟨n2, rfl, hR2⟩ := hR rfl
    clear H_clone hA hR
    have HA := Aside0.mk hA2
    have HR := Aside0.mk hR2
    clear hA2 hR2
    have hnn : n = n2 ∨ n ≠ n2 := by omega
    rcases hnn with rfl | hnn
    · obtain ⟨q0, q1, q2, q3, q4, q5, q6, q7⟩ := cells8 hbx
      have BX := Aside0.mk hbx
      clear hbx
      subst hB
      go_enter Try.func23, Try.ntmps23
      go_wp2_with (first | (go_at_call 31; refine (HB.out.viaA (P := fun q => q = .returned (.tuple #[.int .i64 n, .int .i64 e])) (fun ok hI => Doc_Clone hI HF.out k f1 (ys, n, e) HA.out)).mono ?_; rintro q W2 ⟨rfl, hb2, hf2⟩; have bx := (hf2 W.heap.size rfl).trans BX.out; clear HB BX q0 q1 q2 q3 q4 q5 q6 q7; have HB := Aside0.mk hb2; have BX := Aside0.mk bx; obtain ⟨q0, q1, q2, q3, q4, q5, q6, q7⟩ := cells8 bx; clear bx hb2 hf2) | (go_at_call 54; refine (HB.out.viaR (P := fun q => q = .returned (.tuple #[.int .i64 n, .int .i64 e2])) (fun ok hI => HR.out _ ok gk hI)).mono ?_; rintro q W3 ⟨rfl, hb2, hf2⟩; clear HB BX q0 q1 q2 q3 q4 q5 q6 q7; have HB := Aside0.mk hb2; clear hb2 hf2))
      go_ret
      exact ⟨_, rfl, fun _ h => by rw [h]; exact beq_self_eq_true _, HB.out.less fun _ h => h.elim⟩
    · have hnb : (n == n2) = false := beq_eq_false_iff_ne.2 hnn
      have HNN := Aside0.mk hnn
      clear hnn
      obtain ⟨q0, q1, q2, q3, q4, q5, q6, q7⟩ := cells8 hbx
      have BX := Aside0.mk hbx
      clear hbx
      subst hB
      go_enter Try.func23, Try.ntmps23
      go_wp2_with (first | (go_at_call 31; refine (HB.out.viaA (P := fun q => q = .returned (.tuple #[.int .i64 n, .int .i64 e])) (fun ok hI => Doc_Clone hI HF.out k f1 (ys, n, e) HA.out)).mono ?_; rintro q W2 ⟨rfl, hb2, hf2⟩; have bx := (hf2 W.heap.size rfl).trans BX.out; clear HB BX q0 q1 q2 q3 q4 q5 q6 q7; have HB := Aside0.mk hb2; have BX := Aside0.mk bx; obtain ⟨q0, q1, q2, q3, q4, q5, q6, q7⟩ := cells8 bx; clear bx hb2 hf2) | (go_at_call 54; refine (HB.out.viaR (P := fun q => q = .returned (.tuple #[.int .i64 n2, .int .i64 e2])) (fun ok hI => HR.out _ ok gk hI)).mono ?_; rintro q W3 ⟨rfl, hb2, hf2⟩; clear HB BX q0 q1 q2 q3 q4 q5 q6 q7; have HB := Aside0.mk hb2; clear hb2 hf2))
      go_ret
      exact ⟨_, rfl, fun h => absurd (List.head_eq_of_cons_eq h) HNN.out, HB.out.less fun _ h => h.elim⟩
  · clear H_make H_load H_insert H_remove H_clone H_drop H_data H_none
    obtain ⟨hA, hR⟩ := H_attr.out
    obtain ⟨rfl, hA2⟩ := hA rfl
    obtain ⟨rfl, hR2⟩ := hR rfl
    clear H_attr hA hR
    have HA := Aside0.mk hA2
    clear hA2
    have HR := Aside0.mk hR2
    clear hR2
    obtain ⟨q0, q1, q2, q3, q4, q5, q6, q7⟩ := cells8 hbx
    have BX := Aside0.mk hbx
    clear hbx
    subst hB
    go_enter Try.func23, Try.ntmps23
    go_wp2_with (first | (go_at_call 22; refine (HB.out.viaA (P := fun q => q = .returned (.int .i64 e)) (fun ok hI => Doc_Attr hI HF.out (f5.size * 9 + 1) f1 f5 f6 (e, ys) HA.out)).mono ?_; rintro q W2 ⟨rfl, hb2, hf2⟩; have bx := (hf2 W.heap.size rfl).trans BX.out; clear HB BX q0 q1 q2 q3 q4 q5 q6 q7; have HB := Aside0.mk hb2; have BX := Aside0.mk bx; obtain ⟨q0, q1, q2, q3, q4, q5, q6, q7⟩ := cells8 bx; clear bx hb2 hf2) | (go_at_call 55; refine (HB.out.viaR (P := fun q => q = .returned (.int .i64 e2)) (fun ok hI => HR.out _ ok gk hI)).mono ?_; rintro q W3 ⟨rfl, hb2, hf2⟩; clear HB BX q0 q1 q2 q3 q4 q5 q6 q7; have HB := Aside0.mk hb2; clear hb2 hf2))
    go_ret
    exact ⟨_, rfl, fun _ h => by rw [h]; exact beq_self_eq_true _, HB.out.less fun _ h => h.elim⟩
  · clear H_make H_load H_insert H_remove H_clone H_attr H_data H_none
    obtain ⟨hA, hR⟩ := H_drop.out
    obtain ⟨rfl, hA2⟩ := hA rfl
    obtain ⟨rfl, hR2⟩ := hR rfl
    clear H_drop hA hR
    have HA := Aside0.mk hA2
    clear hA2
    have HR := Aside0.mk hR2
    clear hR2
    obtain ⟨q0, q1, q2, q3, q4, q5, q6, q7⟩ := cells8 hbx
    have BX := Aside0.mk hbx
    clear hbx
    subst hB
    go_enter Try.func23, Try.ntmps23
    go_wp2_with (first | (go_at_call 27; refine (HB.out.viaA (P := fun q => q = .returned (.int .i64 e)) (fun ok hI => by have := Doc_Drop hI HF.out f1 f5; rw [HA.out] at this; exact this)).mono ?_; rintro q W2 ⟨rfl, hb2, hf2⟩; have bx := (hf2 W.heap.size rfl).trans BX.out; clear HB BX q0 q1 q2 q3 q4 q5 q6 q7; have HB := Aside0.mk hb2; have BX := Aside0.mk bx; obtain ⟨q0, q1, q2, q3, q4, q5, q6, q7⟩ := cells8 bx; clear bx hb2 hf2) | (go_at_call 56; refine (HB.out.viaR (P := fun q => q = .returned (.int .i64 e2)) (fun ok hI => HR.out _ ok gk hI)).mono ?_; rintro q W3 ⟨rfl, hb2, hf2⟩; clear HB BX q0 q1 q2 q3 q4 q5 q6 q7; have HB := Aside0.mk hb2; clear hb2 hf2))
    go_ret
    exact ⟨_, rfl, fun _ h => by rw [h]; exact beq_self_eq_true _, HB.out.less fun _ h => h.elim⟩
  · clear H_make H_load H_insert H_remove H_clone H_attr H_drop H_none
    obtain ⟨hA, hR⟩ := H_data.out
    obtain ⟨rfl, hA2⟩ := hA rfl
    obtain ⟨rfl, hR2⟩ := hR rfl
    clear H_data hA hR
    have HA := Aside0.mk hA2
    clear hA2
    have HR := Aside0.mk hR2
    clear hR2
    obtain ⟨q0, q1, q2, q3, q4, q5, q6, q7⟩ := cells8 hbx
    have BX := Aside0.mk hbx
    clear hbx
    subst hB
    go_enter Try.func23, Try.ntmps23
    go_wp2_with (first | (go_at_call 32; refine (HB.out.viaA (P := fun q => q = .returned (.int .i64 e)) (fun ok hI => by have := Doc_Data hI f1 f6; rw [HA.out] at this; exact this)).mono ?_; rintro q W2 ⟨rfl, hb2, hf2⟩; have bx := (hf2 W.heap.size rfl).trans BX.out; clear HB BX q0 q1 q2 q3 q4 q5 q6 q7; have HB := Aside0.mk hb2; have BX := Aside0.mk bx; obtain ⟨q0, q1, q2, q3, q4, q5, q6, q7⟩ := cells8 bx; clear bx hb2 hf2) | (go_at_call 57; refine (HB.out.viaR (P := fun q => q = .returned (.int .i64 e2)) (fun ok hI => HR.out _ ok gk hI)).mono ?_; rintro q W3 ⟨rfl, hb2, hf2⟩; clear HB BX q0 q1 q2 q3 q4 q5 q6 q7; have HB := Aside0.mk hb2; clear hb2 hf2))
    go_ret
    exact ⟨_, rfl, fun _ h => by rw [h]; exact beq_self_eq_true _, HB.out.less fun _ h => h.elim⟩
  · clear H_make H_load H_insert H_remove H_clone H_attr H_drop H_data
    obtain ⟨hA, hR⟩ := H_none.out
    obtain ⟨rfl, rfl, rfl⟩ := hA m0 m1 m2 m3 m4 m5 m6 m7
    obtain ⟨rfl, rfl, rfl⟩ := hR m0 m1 m2 m3 m4 m5 m6 m7
    clear H_none hA hR
    have b0 : (f0 == 0) = false := beq_eq_false_iff_ne.2 m0
    have b1 : (f0 == 1) = false := beq_eq_false_iff_ne.2 m1
    have b2 : (f0 == 2) = false := beq_eq_false_iff_ne.2 m2
    have b3 : (f0 == 3) = false := beq_eq_false_iff_ne.2 m3
    have b4 : (f0 == 4) = false := beq_eq_false_iff_ne.2 m4
    have b5 : (f0 == 5) = false := beq_eq_false_iff_ne.2 m5
    have b6 : (f0 == 6) = false := beq_eq_false_iff_ne.2 m6
    have b7 : (f0 == 7) = false := beq_eq_false_iff_ne.2 m7
    clear m0 m1 m2 m3 m4 m5 m6 m7
    obtain ⟨q0, q1, q2, q3, q4, q5, q6, q7⟩ := cells8 hbx
    have BX := Aside0.mk hbx
    clear hbx
    subst hB
    go_enter Try.func23, Try.ntmps23
    go_wp2
    go_ret
    exact ⟨_, rfl, fun _ _ => rfl, HB.out.less fun _ h => h.elim⟩
end Go.Proofs.Ytpkaliaaffgbdaa.QA
namespace Go.Proofs.Ytpkaliaaffgbdaa.QA
open Go.RowKit Go.Proofs.YtpkaliaaffgbdaaW.PrintWords Go.Proofs.YtpkaliaaffgbdaaW.PrintLast Go.Proofs.YtpkaliaaffgbdaaW.PrintMore
attribute [local go_sem] max2_int min2_int max_two min_two max_three min_three max_four min_four   -- for this text's walks alone
set_option linter.unusedVariables false
set_option linter.unusedSimpArgs false

open Go
section
variable {M : Nat} {xs ys : List S79}
theorem few_of {l : List S54} (h : l.length ≤ 12 ∧ ∀ x ∈ l, x.f4.length ≤ 4) : Few l := ⟨by omega, fun x hx => by have := h.2 x hx; omega⟩
theorem loadR_roots {k : Nat} {l : List S54} {roots : List Int} {e : Int} (h : loadR xs k l = some (ys, roots, e)) (hx : 0 < xs.length) : roots.length ≤ l.length := by
  unfold loadR at h
  split at h
  · cases h
  split at h
  · injection h with h
    injection h with _ h
    injection h with h _
    rw [← h]
    exact Nat.zero_le _
  split at h
  · injection h with h
    injection h with _ h
    injection h with h _
    rw [← h]
    exact Nat.zero_le _
  obtain ⟨⟨ys', roots'⟩, hload, e2⟩ := Option.map_eq_some_iff.1 h
  injection e2 with e2 e3
  injection e3 with e3 _
  dsimp only at e3
  subst e3
  obtain ⟨rs, nks, e, hL⟩ := load_reads l xs [] [] ys' roots' hload hx (by simp) (by simp)
  rw [e, List.nil_append, hL.count]
  exact List.countP_le_length
open Classical in
theorem ansA_some (h : Good M xs) (hM : M < 100000) (hM4 : 4 ≤ M) (o : SOp) (hn : o.f5.size ≤ 140737488351232) : ∃ a e ys, AnsA xs o a e ys ∧ Keeps (M + 1) xs e ys ∧ a.length < 1000000 := by
  have hk : o.f0 = 0 ∨ o.f0 = 1 ∨ o.f0 = 2 ∨ o.f0 = 3 ∨ o.f0 = 4 ∨ o.f0 = 5 ∨ o.f0 = 6 ∨ o.f0 = 7 ∨ (o.f0 ≠ 0 ∧ o.f0 ≠ 1 ∧ o.f0 ≠ 2 ∧ o.f0 ≠ 3 ∧ o.f0 ≠ 4 ∧ o.f0 ≠ 5 ∧ o.f0 ≠ 6 ∧ o.f0 ≠ 7) := by omega
  have hpos := h.tree.pos
  rcases hk with c | c | c | c | c | c | c | c | ⟨m0, m1, m2, m3, m4, m5, m6, m7⟩
  · refine ⟨[(makeR xs (mayV o.f4 o.f5 o.f6) o.f4 o.f5 o.f6).1], _, _, ⟨fun _ => ⟨_, rfl, rfl⟩, ?_⟩, (keeps_make h (mayV o.f4 o.f5 o.f6) o.f4 o.f5 o.f6).weak, by simp⟩
    refine ⟨?_, ?_, ?_, ?_, ?_, ?_, ?_, ?_⟩ <;> intro h1 <;> omega
  · have hT := treesL_few o.f7
    obtain ⟨r, hr, hkp⟩ := keeps_load h (by omega) (treesL o.f7) (3 * (treesL o.f7).length + 201) (chkV (treesL o.f7)) (check_is _ (few_of hT) _ (by omega)) (fun he => by
      unfold chkV at he
      split at he
      · omega
      · split at he
        · exact depth_right _ 0 (by assumption)
        · omega) (fun x hx => Nat.le_trans (hT.2 x hx) hM4)
    refine ⟨r.2.1, r.2.2, r.1, ⟨?_, fun _ => ⟨_, hr⟩, ?_⟩, hkp.weak, ?_⟩
    · intro h1; omega
    · refine ⟨?_, ?_, ?_, ?_, ?_, ?_, ?_⟩ <;> intro h1 <;> omega
    · exact Nat.lt_of_le_of_lt (loadR_roots (ys := r.1) (roots := r.2.1) (e := r.2.2) hr hpos) (by omega)
  · obtain ⟨k, r, hr, hkp⟩ := keeps_insert h o.f1 o.f3 o.f2
    refine ⟨[], r.1, r.2, ⟨?_, ?_, fun _ => ⟨rfl, k, hr⟩, ?_⟩, hkp.weak, by decide⟩
    · intro h1; omega
    · intro h1; omega
    · refine ⟨?_, ?_, ?_, ?_, ?_, ?_⟩ <;> intro h1 <;> omega
  · refine ⟨[], _, _, ⟨?_, ?_, ?_, fun _ => ⟨rfl, rfl⟩, ?_⟩, (keeps_remove h o.f1).weak, by decide⟩
    · intro h1; omega
    · intro h1; omega
    · intro h1; omega
    · refine ⟨?_, ?_, ?_, ?_, ?_⟩ <;> intro h1 <;> omega
  · obtain ⟨k, r, hr, hkp⟩ := keeps_clone h (by omega) o.f1
    refine ⟨[r.2.1], r.2.2, r.1, ⟨?_, ?_, ?_, ?_, fun _ => ⟨_, k, rfl, hr⟩, ?_⟩, hkp.weak, by simp⟩
    · intro h1; omega
    · intro h1; omega
    · intro h1; omega
    · intro h1; omega
    · refine ⟨?_, ?_, ?_, ?_⟩ <;> intro h1 <;> omega
  · obtain ⟨r, hr, hkp⟩ := keeps_attr h (o.f5.size * 9 + 1) o.f1 o.f5 o.f6 _ (attr_is o.f5 hn _ (by omega))
    refine ⟨[], r.1, r.2, ⟨?_, ?_, ?_, ?_, ?_, fun _ => ⟨rfl, hr⟩, ?_⟩, hkp, by decide⟩
    · intro h1; omega
    · intro h1; omega
    · intro h1; omega
    · intro h1; omega
    · intro h1; omega
    · refine ⟨?_, ?_, ?_⟩ <;> intro h1 <;> omega
  · refine ⟨[], _, _, ⟨?_, ?_, ?_, ?_, ?_, ?_, fun _ => ⟨rfl, rfl⟩, ?_⟩, (keeps_drop h o.f1 o.f5).weak, by decide⟩
    · intro h1; omega
    · intro h1; omega
    · intro h1; omega
    · intro h1; omega
    · intro h1; omega
    · intro h1; omega
    · refine ⟨?_, ?_⟩ <;> intro h1 <;> omega
  · refine ⟨[], _, _, ⟨?_, ?_, ?_, ?_, ?_, ?_, ?_, fun _ => ⟨rfl, rfl⟩, ?_⟩, (keeps_data h o.f1 o.f6).weak, by decide⟩
    · intro h1; omega
    · intro h1; omega
    · intro h1; omega
    · intro h1; omega
    · intro h1; omega
    · intro h1; omega
    · intro h1; omega
    · intro h1; omega
  · refine ⟨[], 0, xs, ⟨?_, ?_, ?_, ?_, ?_, ?_, ?_, ?_, fun _ _ _ _ _ _ _ _ => ⟨rfl, rfl, rfl⟩⟩, .same (h.weak (Nat.le_succ M)) _, by decide⟩ <;> intro h1 <;> omega
theorem new_some (n : Int) : someB newDoc n = false := decide_eq_false (by show ¬ (0 < n ∧ n < ((1 : Nat) : Int)); omega)
theorem new_elem (n : Int) : elemB newDoc n = false := decide_eq_false (by show ¬ (0 < n ∧ n < ((1 : Nat) : Int) ∧ _); omega)
theorem ansR_new (o : SOp) (hn : o.f5.size ≤ 140737488351232) : ∃ a e yr, AnsR newDoc o a e yr := by
  have hk : o.f0 = 0 ∨ o.f0 = 1 ∨ o.f0 = 2 ∨ o.f0 = 3 ∨ o.f0 = 4 ∨ o.f0 = 5 ∨ o.f0 = 6 ∨ o.f0 = 7 ∨ (o.f0 ≠ 0 ∧ o.f0 ≠ 1 ∧ o.f0 ≠ 2 ∧ o.f0 ≠ 3 ∧ o.f0 ≠ 4 ∧ o.f0 ≠ 5 ∧ o.f0 ≠ 6 ∧ o.f0 ≠ 7) := by omega
  have hG := good_new.weak (show 0 ≤ 4 by omega)
  rcases hk with c | c | c | c | c | c | c | c | ⟨m0, m1, m2, m3, m4, m5, m6, m7⟩
  · refine ⟨_, _, _, ⟨fun _ => ⟨_, rfl, fun W ok g h => RD_Make h hG o.f4 o.f5 o.f6 hn⟩, ?_, ?_, ?_, ?_, ?_, ?_, ?_, ?_⟩⟩ <;> intro h1 <;> omega
  · have hT := treesL_few o.f7
    obtain ⟨r, hr, hkp⟩ := keeps_load hG (by omega) (treesL o.f7) (3 * (treesL o.f7).length + 201) (chkV (treesL o.f7)) (check_is _ (few_of hT) _ (by omega)) (fun he => by
      unfold chkV at he
      split at he
      · omega
      · split at he
        · exact depth_right _ 0 (by assumption)
        · omega) hT.2
    refine ⟨r.2.1, r.2.2, r.1, ⟨?_, fun _ W ok okl g A c h hF hd hc => Ref_Load h hG (by omega) A c hF hd hc hT.2 (by omega) _ (3 * (treesL o.f7).length + 201) _ (check_is _ (few_of hT) _ (by omega)) (refcheck_is _ (few_of hT) _ (by omega)) r hr, ?_, ?_, ?_, ?_, ?_, ?_, ?_⟩⟩ <;> intro h1 <;> omega
  · refine ⟨[], 110, newDoc, ⟨?_, ?_, fun _ => ⟨rfl, fun W ok g h => RD_Insert_no h o.f1 o.f3 o.f2 (.inr (new_some _))⟩, ?_, ?_, ?_, ?_, ?_, ?_⟩⟩ <;> intro h1 <;> omega
  · refine ⟨[], 110, newDoc, ⟨?_, ?_, ?_, fun _ => ⟨rfl, fun W ok g h => RD_Remove_no h o.f1 (new_some _)⟩, ?_, ?_, ?_, ?_, ?_⟩⟩ <;> intro h1 <;> omega
  · refine ⟨[0], 110, newDoc, ⟨?_, ?_, ?_, ?_, fun _ => ⟨0, rfl, fun W ok g h => RD_Clone_no h o.f1 (new_some _)⟩, ?_, ?_, ?_, ?_⟩⟩ <;> intro h1 <;> omega
  · refine ⟨[], 110, newDoc, ⟨?_, ?_, ?_, ?_, ?_, fun _ => ⟨rfl, fun W ok g h => RD_Attr_no h o.f1 o.f5 o.f6 (new_elem _)⟩, ?_, ?_, ?_⟩⟩ <;> intro h1 <;> omega
  · refine ⟨[], 110, newDoc, ⟨?_, ?_, ?_, ?_, ?_, ?_, fun _ => ⟨rfl, fun W ok g h => RD_Drop_no h o.f1 o.f5 (new_elem _)⟩, ?_, ?_⟩⟩ <;> intro h1 <;> omega
  · refine ⟨[], 110, newDoc, ⟨?_, ?_, ?_, ?_, ?_, ?_, ?_, fun _ => ⟨rfl, fun W ok g h => RD_Data_no h o.f1 o.f6 (new_some _)⟩, ?_⟩⟩ <;> intro h1 <;> omega
  · refine ⟨[], 0, newDoc, ⟨?_, ?_, ?_, ?_, ?_, ?_, ?_, ?_, fun _ _ _ _ _ _ _ _ => ⟨rfl, rfl, rfl⟩⟩⟩ <;> intro h1 <;> omega
/-- A document of the arena's beside a new one of the answer's. -/
theorem Both.start {w W W1 : World} {g gk : Nat} {xr : List S79} (h : Has w W g xs) (hB : Below W.heap.size W W1) (hr : RDoc W1 (fun k => W.heap.size ≤ k) gk xr) : Both w W1 (fun _ => False) g gk xs xr := by
  obtain ⟨ok, hs⟩ := h
  have hs1 := hs.quiet hB
  exact ⟨ok, _, ⟨hs1.doc, hr.bound, fun k hk => ⟨hs1.own k hk, hs1.lt k hk⟩, fun k hk => ⟨Nat.le_trans hs.bel.size hk.1, hk.2⟩, fun k hk h2 => by have := hs.lt k hk; have := h2.1; omega, hs1.bel⟩, fun _ h => h.elim⟩
end
end Go.Proofs.Ytpkaliaaffgbdaa.QA
namespace Go.Proofs.Ytpkaliaaffgbdaa.QA
open Go.RowKit Go.Proofs.YtpkaliaaffgbdaaW.PrintWords Go.Proofs.YtpkaliaaffgbdaaW.PrintLast Go.Proofs.YtpkaliaaffgbdaaW.PrintMore
attribute [local go_sem] max2_int min2_int max_two min_two max_three min_three max_four min_four   -- for this text's walks alone
set_option linter.unusedVariables false
set_option linter.unusedSimpArgs false
def reg10_5.T : Bool × List (List Nat × List Nat) := (true, [([], []), ([], []), ([], []), ([], []), ([2, 3], [2, 3]), ([4], [4]), ([0, 1, 5, 1], [0, 1, 5])])
def reg10_5.B : List Nat := [0, 0, 0, 0, 12, 28, 63]
theorem reg10_5.tab : rtab .any (opsOf Try.f10 5) = reg10_5.T := by kernel_rfl
theorem reg10_5.bits : waitsOk reg10_5.T.2 reg10_5.B = true := by kernel_rfl

open Go
theorem Has.to (w W : World) {F : Nat → Prop} {g gk : Nat} {xs xr : List S79} (h : Both w W F g gk xs xr) : Has w W g xs := h.hasA
set_option maxHeartbeats 8000000 in
set_option maxRecDepth 100000 in
theorem played_calls (w : World) (A0 : Option Addr) (c0 : Nat) (l0 : List SOp) (hC : Kd.C kOp w A0 l0.length l0) (hc0 : l0.length ≤ c0) (hs : ∀ a ∈ l0, a.f5.size ≤ 140737488351232) :
    Calls Try.prog 10 #[.slice A0 l0.length c0] w fun e w' => ∃ g, e = .returned (.pointer (some ⟨g, 0, none⟩)) ∧ ∃ xs, Has w w' g xs ∧ Good 44 xs := by
  have HC := Aside0.mk hC
  have HS0 := Aside0.mk hs
  clear hC hs
  go_enter Try.func10, Try.ntmps10
  have k1 := Aside0.mk trivial
  go_wp2_with (first | (go_at_call 18; clear k1; refine (Has.new w w (Below.refl _ _)).mono ?_; rintro e w1 ⟨g, rfl, hS⟩; have HS := Aside0.mk hS; clear hS))
  go_loopg [4] l0.length (fun gg v4 W => ∃ (kk : Nat) (xs : List S79), kk ≤ l0.length ∧ kk ≤ 40 ∧ l0.length - kk ≤ gg ∧ v4 = .int .i64 (kk : Int) ∧ Aside0 (Has w W g xs ∧ Good (kk + 4) xs))
  case atStart => exact ⟨0, newDoc, Nat.zero_le _, Nat.zero_le _, by omega, rfl, ⟨⟨HS.out, good_new.weak (Nat.zero_le _)⟩⟩⟩
  case round =>
    clear HS
    obtain ⟨kk, xs, hkk, hk40, hgg, rfl, HR⟩ := hrel
    have k1 := Aside0.mk trivial
    by_cases hlt : kk < l0.length ∧ kk < 40 ∧ xs.length < 300
    rotate_left
    · have hx : (¬ kk < l0.length) ∨ (kk < l0.length ∧ ¬ kk < 40) ∨ (kk < l0.length ∧ kk < 40 ∧ ¬ xs.length < 300) := by omega
      have HH := Aside0.mk HR.out.1
      have HG := Aside0.mk (HR.out.2.weak (show kk + 4 ≤ 44 by omega))
      clear HR hlt
      rcases hx with hx | ⟨hx, hy⟩ | ⟨hx, hy, hz⟩
      all_goals
        go_wp2_with (first | (go_at_call 30; clear k1; refine (HH.out.len rfl).mono ?_; rintro e w1 ⟨rfl, hS, _⟩; clear HH; have HH := Aside0.mk hS; clear hS))
        go_ret
        exact ⟨_, rfl, _, HH.out, HG.out⟩
    · obtain ⟨hlt1, hlt2, hlt3⟩ := hlt
      have d1 : decide ((kk : Int) < (l0.length : Int)) = true := decide_eq_true (by omega)
      have d2 : decide ((kk : Int) < 40) = true := decide_eq_true (by omega)
      have d3 : decide ((xs.length : Int) < 300) = true := decide_eq_true (by omega)
      have z1 : (kk : Int) < (l0.length : Int) := by omega
      obtain ⟨ad, A7, c7, e4, ⟨hx0, hx1, hx2, hx3, hx4, hx5, hx6, hx7⟩, hl7, hi7⟩ := at_Op HC.out kk hlt1
      subst e4
      have hn5 := HS0.out l0[kk] (List.getElem_mem hlt1)
      have HX : Aside0 (∀ W, Below w.heap.size w W → W.cell? (ad.add (kk * 8)) = some (.int .i64 l0[kk].f0) ∧ W.cell? ⟨(ad.add (kk * 8)).block, (ad.add (kk * 8)).off + 1, none⟩ = some (.int .i64 l0[kk].f1) ∧ W.cell? ⟨(ad.add (kk * 8)).block, (ad.add (kk * 8)).off + 2, none⟩ = some (.int .i64 l0[kk].f2) ∧ W.cell? ⟨(ad.add (kk * 8)).block, (ad.add (kk * 8)).off + 3, none⟩ = some (.int .i64 l0[kk].f3) ∧ W.cell? ⟨(ad.add (kk * 8)).block, (ad.add (kk * 8)).off + 4, none⟩ = some (.int .i64 l0[kk].f4) ∧ W.cell? ⟨(ad.add (kk * 8)).block, (ad.add (kk * 8)).off + 5, none⟩ = some (.string l0[kk].f5) ∧ W.cell? ⟨(ad.add (kk * 8)).block, (ad.add (kk * 8)).off + 6, none⟩ = some (.string l0[kk].f6) ∧ W.cell? ⟨(ad.add (kk * 8)).block, (ad.add (kk * 8)).off + 7, none⟩ = some (.slice A7 l0[kk].f7.length c7)) :=
        ⟨fun W hB => ⟨(hB.cell (block_lt_of_cell hx0)).trans hx0, (hB.cell (block_lt_of_cell hx1)).trans hx1, (hB.cell (block_lt_of_cell hx2)).trans hx2, (hB.cell (block_lt_of_cell hx3)).trans hx3, (hB.cell (block_lt_of_cell hx4)).trans hx4, (hB.cell (block_lt_of_cell hx5)).trans hx5, (hB.cell (block_lt_of_cell hx6)).trans hx6, (hB.cell (block_lt_of_cell hx7)).trans hx7⟩⟩
      have HL7 := Aside0.mk (And.intro hl7 hi7)
      clear hx0 hx1 hx2 hx3 hx4 hx5 hx6 hx7 hl7 hi7
      generalize l0[kk] = o at hn5 HX HL7
      have HN5 := Aside0.mk hn5
      clear hn5
      have HH := Aside0.mk HR.out.1
      have HG := Aside0.mk HR.out.2
      clear HR
      obtain ⟨a, e, ys, hA, hK, ha⟩ := ansA_some HG.out (by omega) (by omega) o HN5.out
      obtain ⟨a2, e2, yr, hR⟩ := ansR_new o HN5.out
      have HA := Aside0.mk (And.intro hA (And.intro hR ha))
      have HK := Aside0.mk hK
      clear hA hK ha hR
      go_upto_region 5 with (first | (go_at_call 30; clear k1; refine (HH.out.len rfl).mono ?_; rintro e w1 ⟨rfl, hS, _⟩; clear HH; have HH := Aside0.mk hS; clear hS))
      have hdr : Below w1.heap.size w1 w1.drew := below_drew1 (Below.refl _ _)
      have HH2 := Aside0.mk (HH.out.quiet hdr)
      have hx := HX.out _ HH2.out.bel
      clear HH hdr
      refine start_ (n := 7) (S := (fun w' => w'.cell? (ad.add (kk * 8)) = some (.int .i64 o.f0) ∧ w'.cell? ⟨(ad.add (kk * 8)).block, (ad.add (kk * 8)).off + 1, none⟩ = some (.int .i64 o.f1) ∧ w'.cell? ⟨(ad.add (kk * 8)).block, (ad.add (kk * 8)).off + 2, none⟩ = some (.int .i64 o.f2) ∧ w'.cell? ⟨(ad.add (kk * 8)).block, (ad.add (kk * 8)).off + 3, none⟩ = some (.int .i64 o.f3) ∧ w'.cell? ⟨(ad.add (kk * 8)).block, (ad.add (kk * 8)).off + 4, none⟩ = some (.int .i64 o.f4) ∧ w'.cell? ⟨(ad.add (kk * 8)).block, (ad.add (kk * 8)).off + 5, none⟩ = some (.string o.f5) ∧ w'.cell? ⟨(ad.add (kk * 8)).block, (ad.add (kk * 8)).off + 6, none⟩ = some (.string o.f6) ∧ w'.cell? ⟨(ad.add (kk * 8)).block, (ad.add (kk * 8)).off + 7, none⟩ = some (.slice A7 o.f7.length c7))) (ds := [6]) #[Z, Z, Z, Z, Z, Z, Z] (by kernel_rfl) rfl rfl hx (fun hHeld => ?_); refine with_tabW reg10_5.tab reg10_5.bits (fun HT_ HW_ => ?_)
      clear hx; generalize w1.drew = W2 at HH2 hHeld ⊢
      refine pA 0 25 #[Y, Z, Z, Z, Z, Z, Z] HT_ ?_
      refine pA 2 27 #[Y, Z, Y, Z, Z, Z, Z] HT_ ?_
      refine pA 3 28 #[Y, Z, Y, Y, Z, Z, Z] HT_ ?_
      refine pA 4 29 #[Y, Z, Y, Y, Y, Z, Z] HT_ ?_
      refine take_ (i := 5) (N := some 30) (v := ?_) (a' := ?_) #[Y, Z, Y, Y, Y, Y, Z] rfl rfl (take_ofW HT_.out HW_.out (by kernel_rfl)) (fun _ _ _ h => h) (Or.inl ⟨by rfl, ?_⟩) hHeld ?_ ?_
      rotate_left
      · rintro w' hs
        (try obtain ⟨s0, s1⟩ := hs)
        (try obtain ⟨s1, s2⟩ := s1)
        (try obtain ⟨s2, s3⟩ := s2)
        (try obtain ⟨s3, s4⟩ := s3)
        (try obtain ⟨s4, s5⟩ := s4)
        (try obtain ⟨s5, s6⟩ := s5)
        go_simp
        with_reducible rfl
      rotate_left
      · simp only [Act.put, List.setIfInBounds_toArray, List.set_cons_zero, List.set_cons_succ, i64_w, i32_w]
        rfl
      refine one_ (i := 1) (N := some 26) #[Y, Y, Y, Y, Y, Y, Z] rfl rfl (one_of HT_.out (by kernel_rfl)) (by decide) (fun K hK => ?_)
      refine goes_ Try.func19 (by kernel_rfl) rfl #[] (by rfl) rfl rfl (by simp only [List.map_toArray, List.map_nil]) ?_
      refine (RD_New W2).mono ?_
      rintro q W3 ⟨gk, rfl, hD, hB⟩
      refine ⟨_, rfl, hK.out _ _ (HX.out W3 (HH2.out.quiet hB).bel) (fun hHeld => ?_)⟩
      have HB := Aside0.mk (Both.start HH2.out hB hD)
      clear hK hD hB K
      refine last_ (i := 6) (N := some 31) #[Y, Y, Y, Y, Y, Y, Y] rfl rfl (one_of HT_.out (by kernel_rfl)) (by decide) (fun K hK => ?_)
      refine goes_ Try.func23 (by kernel_rfl) rfl #[.pointer (some ⟨g, 0, none⟩), .pointer (some ⟨gk, 0, none⟩), vop o A7 c7] (by rfl) rfl rfl (by simp only [List.map_toArray, List.map_cons, List.map_nil]; rfl) ?_
      refine (tells_calls w W3 g gk (kk + 4) xs newDoc ys yr HB.out HG.out (by omega) o A7 c7 HL7.out.1 HL7.out.2 HN5.out a a2 e e2 HA.out.1 HA.out.2.1 HA.out.2.2).mono ?_
      rintro q W4 ⟨b, rfl, _, hB2⟩
      refine ⟨_, rfl, hK.out _ _ ?_⟩
      have HE := Aside0.mk hB2.hasA
      clear hK K hB2 HB hHeld
      refine done_ (done_of HT_.out (by kernel_rfl)) ?_
      go_wp2
      go_roundg (l0.length - (kk + 1))
      case measure => omega
      case rel => exact ⟨kk + 1, ys, by omega, by omega, by omega, by go_num, ⟨⟨HE.out, by have h_ := HK.out.2.2; rwa [show kk + 4 + 1 = kk + 1 + 4 by omega] at h_⟩⟩⟩
end Go.Proofs.Ytpkaliaaffgbdaa.QA
namespace Go.Proofs.Ytpkaliaaffgbdaa.QA
open Go.RowKit Go.Proofs.YtpkaliaaffgbdaaW.PrintWords Go.Proofs.YtpkaliaaffgbdaaW.PrintLast Go.Proofs.YtpkaliaaffgbdaaW.PrintMore
attribute [local go_sem] max2_int min2_int max_two min_two max_three min_three max_four min_four   -- for this text's walks alone
set_option linter.unusedVariables false
set_option linter.unusedSimpArgs false

open Go
/-- A document; the blocks F are not its own. -/
def Held (w W : World) (F : Nat → Prop) (g : Nat) (xs : List S79) : Prop := ∃ ok, St w W ok g xs ∧ ∀ k, F k → k < W.heap.size ∧ ¬ ok k
def Or2 (F : Nat → Prop) (W W' : World) (k : Nat) : Prop := F k ∨ (W.heap.size ≤ k ∧ k < W'.heap.size)
section
variable {w W W' : World} {F F' : Nat → Prop} {g : Nat} {xs ys : List S79} {r : List S54}
theorem Has.held (h : Has w W g xs) : Held w W (fun _ => False) g xs := by
  obtain ⟨ok, h⟩ := h
  exact ⟨ok, h, fun _ h => h.elim⟩
theorem Held.has (h : Held w W F g xs) : Has w W g xs := h.imp fun _ h => h.1
theorem Held.bel (h : Held w W F g xs) : Below w.heap.size w W := h.has.bel
theorem Held.lt (h : Held w W F g xs) (k : Nat) (hk : F k) : k < W.heap.size := by
  obtain ⟨ok, _, h⟩ := h
  exact (h k hk).1
theorem Held.quiet (h : Held w W F g xs) (hb : Below W.heap.size W W') : Held w W' (Or2 F W W') g xs := by
  obtain ⟨ok, hs, hF⟩ := h
  refine ⟨ok, hs.quiet hb, fun k hk => ?_⟩
  rcases hk with hk | hk
  · exact ⟨Nat.lt_of_lt_of_le (hF k hk).1 hb.size, (hF k hk).2⟩
  · exact ⟨hk.2, fun h2 => by have := hs.lt k h2; omega⟩
theorem Held.less (h : Held w W F g xs) (hf : ∀ k, F' k → F k) : Held w W F' g xs := by
  obtain ⟨ok, hs, hF⟩ := h
  exact ⟨ok, hs, fun k hk => hF k (hf k hk)⟩
theorem Held.quiet0 (h : Held w W F g xs) (hb : Below W.heap.size W W') : Held w W' F g xs := (h.quiet hb).less fun _ h => .inl h
theorem Held.via {f : Nat} {args : Array Value} {P : Ending → Prop} (h : Held w W F g xs) (hc : ∀ ok, IsDoc W ok g xs → Calls Try.prog f args W fun e w' => P e ∧ To W w' ok g ys) : Calls Try.prog f args W fun e w' => P e ∧ Held w w' F g ys ∧ W.heap.size ≤ w'.heap.size ∧ ∀ k, F k → w'.heap[k]? = W.heap[k]? := by
  obtain ⟨ok, hs, hF⟩ := h
  refine (hc ok hs.doc).mono fun e w' ⟨h1, h2⟩ => ⟨h1, ?_⟩
  obtain ⟨ok', h3, h4⟩ := hs.op h2
  obtain ⟨_, _, _, _, hm⟩ := h2
  exact ⟨⟨ok', h3, fun k hk => ⟨Nat.lt_of_lt_of_le (hF k hk).1 hm.size, (h4 k (hF k hk).1 (hF k hk).2).2⟩⟩, hm.size, fun k hk => (h4 k (hF k hk).1 (hF k hk).2).1⟩
/-- Rows that are held. -/
def RowsIn (W : World) (F : Nat → Prop) (A : Option Addr) (c : Nat) (r : List S54) : Prop := r.length ≤ c ∧ Kd.F k54 W F A r.length r
theorem RowsIn.mono {A : Option Addr} {c : Nat} (h : RowsIn W F A c r) (hf : ∀ k, F k → F' k) : RowsIn W F' A c r := ⟨h.1, fun W' hW => h.2 W' fun k hk hl => hW k (hf k hk) hl⟩
theorem RowsIn.move {A : Option Addr} {c : Nat} (h : RowsIn W F A c r) (hs : W.heap.size ≤ W'.heap.size) (hm : ∀ k, F k → k < W.heap.size → W'.heap[k]? = W.heap[k]?) : RowsIn W' F A c r :=
  ⟨h.1, fun W2 hW => h.2 W2 fun k hk hl => (hW k hk (Nat.lt_of_lt_of_le hl hs)).trans (hm k hk hl)⟩
theorem RowsIn.below {A : Option Addr} {c : Nat} (h : RowsIn W F A c r) (hb : Below W.heap.size W W') : RowsIn W' F A c r := h.move hb.size fun k _ hl => hb.block k hl
theorem RowsIn.now {A : Option Addr} {c : Nat} (h : RowsIn W F A c r) : r.length ≤ c ∧ Kd.C k54 W A r.length r := ⟨h.1, Kd.F_now h.2⟩
/-- Numbers that are held. -/
def NumsIn (W : World) (F : Nat → Prop) (A : Option Addr) (c : Nat) (l : List Int) : Prop := Kd.R kI 3 W 0 F (.slice A l.length c) l
theorem NumsIn.mono {A : Option Addr} {c : Nat} {l : List Int} (h : NumsIn W F A c l) (hf : ∀ k, F k → F' k) : NumsIn W F' A c l := Kd.R_mono h hf
theorem NumsIn.move {A : Option Addr} {c : Nat} {l : List Int} (h : NumsIn W F A c l) (hm : ∀ k, F k → k < W.heap.size → W'.heap[k]? = W.heap[k]?) : NumsIn W' F A c l := Kd.R_step h hm
theorem NumsIn.below {A : Option Addr} {c : Nat} {l : List Int} (h : NumsIn W F A c l) (hb : Below W.heap.size W W') : NumsIn W' F A c l := Kd.R_below h hb
theorem Held.rows (h : Held w W F g xs) (hF : Fit xs) (k : Nat) (n : Int) (hr : rowsR xs k n = some r) : Calls Try.prog 11 #[.pointer (some ⟨g, 0, none⟩), .int .i64 n] W fun e w' => ∃ A c, e = .returned (.slice A r.length c) ∧ RowsIn w' (Or2 F W w') A c r ∧ Held w w' (Or2 F W w') g xs ∧ Below W.heap.size W w' := by
  obtain ⟨ok, hs, hf⟩ := h
  refine (Doc_Rows hs.doc hF k n r hr).mono ?_
  rintro e w' ⟨v, rfl, hS, hB⟩
  obtain ⟨A, c, rfl⟩ := Kd.S_slice hS
  exact ⟨A, c, rfl, ⟨(Kd.S_reads' hS).2.1, Kd.S_F (Kd.S_mono (Kd.S_bound hS) fun k hk => .inr ⟨hk.2.1, hk.2.2.1⟩)⟩, Held.quiet ⟨ok, hs, hf⟩ hB, hB⟩
theorem Held.kids (h : Held w W F g xs) (hF : Fit xs) (n : Int) : Calls Try.prog 14 #[.pointer (some ⟨g, 0, none⟩), .int .i64 n] W fun e w' => ∃ A c, e = .returned (.slice A (kidsN xs n).length c) ∧ NumsIn w' (Or2 F W w') A c (kidsN xs n) ∧ Held w w' (Or2 F W w') g xs ∧ Below W.heap.size W w' := by
  obtain ⟨ok, hs, hf⟩ := h
  refine (Doc_Kids hs.doc hF n).mono ?_
  rintro e w' ⟨v, rfl, hR, hB⟩
  obtain ⟨A, c, rfl⟩ := Kd.R_slice hR
  exact ⟨A, c, rfl, Kd.R_lower (Kd.R_mono (Kd.R_bound hR) fun k hk => .inr ⟨hk.2.1, hk.2.2.1⟩) (Nat.zero_le _), Held.quiet ⟨ok, hs, hf⟩ hB, hB⟩
theorem Held.parent (h : Held w W F g xs) (n : Int) {p : Int} (hn : inB xs n = true) (hp : (rd_T79 xs n).f1 = p) : Calls Try.prog 15 #[.pointer (some ⟨g, 0, none⟩), .int .i64 n] W fun e w' => e = .returned (.int .i64 p) ∧ Held w w' F g xs ∧ Below W.heap.size W w' := by
  obtain ⟨ok, hs, hf⟩ := h
  refine (Doc_Parent hs.doc n).mono ?_
  rintro e w' ⟨rfl, ⟨m, rfl⟩⟩
  have hB := pw_below_drewN (Below.refl W.heap.size W) m
  rw [if_pos (of_decide_eq_true hn), hp]
  exact ⟨rfl, Held.quiet0 ⟨ok, hs, hf⟩ hB, hB⟩
theorem Held.len (h : Held w W F g xs) {n : Int} (hn : (xs.length : Int) = n) : Calls Try.prog 30 #[.pointer (some ⟨g, 0, none⟩)] W fun e w' => e = .returned (.int .i64 n) ∧ Held w w' F g xs ∧ Below W.heap.size W w' := by
  subst hn
  obtain ⟨ok, hs, hf⟩ := h
  refine (Doc_Len hs.doc).mono ?_
  rintro e w' ⟨rfl, ⟨m, rfl⟩⟩
  have hB := pw_below_drewN (Below.refl W.heap.size W) m
  exact ⟨rfl, Held.quiet0 ⟨ok, hs, hf⟩ hB, hB⟩
/-- The same rows. -/
theorem rows_same {F1 F2 : Nat → Prop} {A1 A2 : Option Addr} {c1 c2 : Nat} (h1 : RowsIn W F1 A1 c1 r) (h2 : RowsIn W F2 A2 c2 r) : Calls Try.prog 16 #[.slice A1 r.length c1, .slice A2 r.length c2] W fun e w' => e = .returned (.bool true) ∧ Below W.heap.size W w' :=
  boltingref04_Same.calls A1 c1 r A2 c2 r true W h1.now.2 h1.now.1 h2.now.2 h2.now.1 (by simp [boltingref04_Same.f])
end
end Go.Proofs.Ytpkaliaaffgbdaa.QA
