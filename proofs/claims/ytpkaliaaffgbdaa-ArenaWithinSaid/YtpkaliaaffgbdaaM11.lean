/- The law's tells: a call of a script on both documents. The document's own answer (boltingref11): Within, Insert, Remove. What the calls of a script answer: there is always an answer; the answer's new document. -/
import Derived.Test.YtpkaliaaffgbdaaM10
namespace Go.Proofs.Ytpkaliaaffgbdaa.QA
open Go.RowKit Go.Proofs.YtpkaliaaffgbdaaW.PrintWords Go.Proofs.YtpkaliaaffgbdaaW.PrintLast Go.Proofs.YtpkaliaaffgbdaaW.PrintMore
attribute [local go_sem] max2_int min2_int max_two min_two max_three min_three max_four min_four   -- for this text's walks alone
set_option linter.unusedVariables false
set_option linter.unusedSimpArgs false

open Go
theorem R_same {W W' : World} {v : Value} {base : Nat} {l : List Int} (h : Kd.R kI 3 W base (fun _ => True) v l) (hs : ∀ k, some k = v.ownBlock → W'.heap[k]? = W.heap[k]?) : Kd.R kI 3 W' base (fun _ => True) v l :=
 Kd.R_mono (Kd.R_step (Kd.R_tight rfl h) fun k hk _ => hs k hk) fun _ _ => trivial
set_option maxHeartbeats 16000000 in
set_option maxRecDepth 100000 in
theorem tells_calls (w W : World) (g gk M : Nat) (xs xr ys yr : List S79) (h : Both w W (fun _ => False) g gk xs xr) (hG : Good M xs) (hM : M < 100000) (o : SOp) (A7 : Option Addr) (c7 : Nat) (hl7 : o.f7.length ≤ c7) (hC7 : Kd.C k54 w A7 o.f7.length o.f7) (hn : o.f5.size ≤ 140737488351232) (a a2 : List Int) (e e2 : Int) (hA : AnsA xs o a e ys) (hR : AnsR xr o a2 e2 yr) (ha : a.length < 1000000) :
  Calls Try.prog 23 #[.pointer (some ⟨g, 0, none⟩), .pointer (some ⟨gk, 0, none⟩), vop o A7 c7] W fun q w' => ∃ b, q = .returned (.bool b) ∧ (a = a2 → e = e2 → b = true) ∧ Both w w' (fun _ => False) g gk ys yr := by
 have HF := Aside0.mk (hG.fit hM)
 have HXL := Aside0.mk hG.len
 have HC := Aside0.mk hC7
 have HN := Aside0.mk hn
 have HAL := Aside0.mk ha
 obtain ⟨B, hB⟩ : ∃ B, B = W.heap.size := ⟨_, rfl⟩
 have HB := Aside0.mk (show Both w (W.alloc (.cells #[.int .i64 o.f0, .int .i64 o.f1, .int .i64 o.f2, .int .i64 o.f3, .int .i64 o.f4, .string o.f5, .string o.f6, .slice A7 o.f7.length c7] 25)) (fun k => k = B) g gk xs xr from by rw [hB]; exact h.box _)
 have hbx : (W.alloc (.cells #[.int .i64 o.f0, .int .i64 o.f1, .int .i64 o.f2, .int .i64 o.f3, .int .i64 o.f4, .string o.f5, .string o.f6, .slice A7 o.f7.length c7] 25)).heap[B]? = some (.cells #[.int .i64 o.f0, .int .i64 o.f1, .int .i64 o.f2, .int .i64 o.f3, .int .i64 o.f4, .string o.f5, .string o.f6, .slice A7 o.f7.length c7] 25 (0, 0)) := by rw [hB]; exact blk_new _ _
 obtain ⟨A_make, A_load, A_insert, A_remove, A_clone, A_attr, A_drop, A_data, A_none⟩ := hA
 have H_make := Aside0.mk (And.intro A_make hR.make)
 have H_load := Aside0.mk (And.intro A_load hR.load)
 have H_insert := Aside0.mk (And.intro A_insert hR.insert)
 have H_remove := Aside0.mk (And.intro A_remove hR.remove)
 have H_clone := Aside0.mk (And.intro A_clone hR.clone)
 have H_attr := Aside0.mk (And.intro A_attr hR.attr)
 have H_drop := Aside0.mk (And.intro A_drop hR.drop)
 have H_data := Aside0.mk (And.intro A_data hR.data)
 have H_none := Aside0.mk (And.intro A_none hR.none)
 clear A_make A_load A_insert A_remove A_clone A_attr A_drop A_data A_none hR h hG hM hC7 hn ha
 obtain ⟨f0, f1, f2, f3, f4, f5, f6, f7⟩ := o
 unfold vop
 dsimp only at HN HC hl7 hbx HB H_make H_load H_insert H_remove H_clone H_attr H_drop H_data H_none ⊢
 have hk : f0 = 0 ∨ f0 = 1 ∨ f0 = 2 ∨ f0 = 3 ∨ f0 = 4 ∨ f0 = 5 ∨ f0 = 6 ∨ f0 = 7 ∨ (f0 ≠ 0 ∧ f0 ≠ 1 ∧ f0 ≠ 2 ∧ f0 ≠ 3 ∧ f0 ≠ 4 ∧ f0 ≠ 5 ∧ f0 ≠ 6 ∧ f0 ≠ 7) := by omega
 rcases hk with rfl | rfl | rfl | rfl | rfl | rfl | rfl | rfl | ⟨m0, m1, m2, m3, m4, m5, m6, m7⟩
 ·clear H_load H_insert H_remove H_clone H_attr H_drop H_data H_none
  obtain ⟨hA, hR⟩ := H_make.out
  obtain ⟨n, rfl, hA2⟩ := hA rfl
  obtain ⟨n2, rfl, hR2⟩ := hR rfl
  clear H_make hA hR
  have HA := Aside0.mk hA2
  have HR := Aside0.mk hR2
  clear hA2 hR2
  have hnn : n = n2 ∨ n ≠ n2 := by omega
  rcases hnn with rfl | hnn
  ·obtain ⟨q0, q1, q2, q3, q4, q5, q6, q7⟩ := cells8 hbx
   have BX := Aside0.mk hbx
   clear hbx
   subst hB
   go_enter Try.func23, Try.ntmps23
   go_wp2_with (first | (go_at_call 21; refine (HB.out.viaA (P := fun q => q = .returned (.tuple #[.int .i64 n, .int .i64 e])) (fun ok hI => by have := Doc_Make hI f4 f5 f6 (f5.size * 9 + 1) (mayV f4 f5 f6) (may_val f4 f5 f6 HN.out); rw [HA.out] at this; exact this)).mono ?_; rintro q W2 ⟨rfl, hb2, hf2⟩; have bx := (hf2 W.heap.size rfl).trans BX.out; clear HB BX q0 q1 q2 q3 q4 q5 q6 q7; have HB := Aside0.mk hb2; have BX := Aside0.mk bx; obtain ⟨q0, q1, q2, q3, q4, q5, q6, q7⟩ := cells8 bx; clear bx hb2 hf2) | (go_at_call 49; refine (HB.out.viaR (P := fun q => q = .returned (.tuple #[.int .i64 n, .int .i64 e2])) (fun ok hI => HR.out _ ok gk hI)).mono ?_; rintro q W3 ⟨rfl, hb2, hf2⟩; clear HB BX q0 q1 q2 q3 q4 q5 q6 q7; have HB := Aside0.mk hb2; clear hb2 hf2))
   go_ret
   exact ⟨_, rfl, fun _ h => by rw [h]; exact beq_self_eq_true _, HB.out.less fun _ h => h.elim⟩
  ·have hnb : (n == n2) = false := beq_eq_false_iff_ne.2 hnn
   have HNN := Aside0.mk hnn
   clear hnn
   obtain ⟨q0, q1, q2, q3, q4, q5, q6, q7⟩ := cells8 hbx
   have BX := Aside0.mk hbx
   clear hbx
   subst hB
   go_enter Try.func23, Try.ntmps23
   go_wp2_with (first | (go_at_call 21; refine (HB.out.viaA (P := fun q => q = .returned (.tuple #[.int .i64 n, .int .i64 e])) (fun ok hI => by have := Doc_Make hI f4 f5 f6 (f5.size * 9 + 1) (mayV f4 f5 f6) (may_val f4 f5 f6 HN.out); rw [HA.out] at this; exact this)).mono ?_; rintro q W2 ⟨rfl, hb2, hf2⟩; have bx := (hf2 W.heap.size rfl).trans BX.out; clear HB BX q0 q1 q2 q3 q4 q5 q6 q7; have HB := Aside0.mk hb2; have BX := Aside0.mk bx; obtain ⟨q0, q1, q2, q3, q4, q5, q6, q7⟩ := cells8 bx; clear bx hb2 hf2) | (go_at_call 49; refine (HB.out.viaR (P := fun q => q = .returned (.tuple #[.int .i64 n2, .int .i64 e2])) (fun ok hI => HR.out _ ok gk hI)).mono ?_; rintro q W3 ⟨rfl, hb2, hf2⟩; clear HB BX q0 q1 q2 q3 q4 q5 q6 q7; have HB := Aside0.mk hb2; clear hb2 hf2))
   go_ret
   exact ⟨_, rfl, fun h => absurd (List.head_eq_of_cons_eq h) HNN.out, HB.out.less fun _ h => h.elim⟩
 ·clear H_make H_insert H_remove H_clone H_attr H_drop H_data H_none
  obtain ⟨hA, hR⟩ := H_load.out
  obtain ⟨k, hA2⟩ := hA rfl
  have hR2 := hR rfl
  have HA := Aside0.mk hA2
  have HR := Aside0.mk hR2
  have HL7 := Aside0.mk hl7
  have HLN := Aside0.mk (show xs.length < 100000 ∧ (treesL f7).length < 100000 from ⟨by have := HXL.out; omega, by have := (treesL_few f7).1; omega⟩)
  clear H_load hA hR hA2 hR2 hl7
  have k1 := Aside0.mk trivial
  have k2 := Aside0.mk trivial
  obtain ⟨q0, q1, q2, q3, q4, q5, q6, q7⟩ := cells8 hbx
  have BX := Aside0.mk hbx
  clear hbx
  subst hB
  go_enter Try.func23, Try.ntmps23
  go_wp2_with (first | (go_at_call 34; clear k1; refine (trees_calls w _ HB.out.bel A7 c7 f7 HC.out HL7.out).mono ?_; rintro q W2 ⟨At, ct, rfl, h1, hF1, hb1⟩; have bx := (hb1.block W.heap.size (by have := blk_lt BX.out; exact this)).trans BX.out; have HT := Aside0.mk (Both.loadA (HB.out.quiet hb1) hF1 (fun _ h => h) HB.out hb1 h1 HLN.out.1 HLN.out.2 HA.out); clear BX HB; have BX := Aside0.mk bx; clear h1 hF1 hb1 q0 q1 q2 q3 q4 q5 q6 q7 bx) | (go_at_call 33; refine HT.out.mono ?_; rintro q W3 ⟨v, rfl, hRv, hb2, hf2⟩; obtain ⟨Av, cv, rfl⟩ := Kd.R_slice hRv; have bx := (hf2 W.heap.size rfl).trans BX.out; clear HT BX; have HB := Aside0.mk hb2; have BX := Aside0.mk bx; have HV := Aside0.mk hRv; obtain ⟨q0, q1, q2, q3, q4, q5, q6, q7⟩ := cells8 bx; clear bx hb2 hf2 hRv) | (go_at_call 34; clear k2; refine (trees_calls w _ HB.out.bel A7 c7 f7 HC.out HL7.out).mono ?_; rintro q W4 ⟨At2, ct2, rfl, h1, hF1, hb1⟩; have hRv := Kd.R_below HV.out hb1; have HT := Aside0.mk (Both.loadR (HB.out.quiet hb1) hF1 (fun _ h => h) HB.out hb1 h1 HR.out); clear HB HV; have HV := Aside0.mk hRv; clear h1 hF1 hb1 q0 q1 q2 q3 q4 q5 q6 q7 BX hRv) | (go_at_call 50; refine HT.out.mono ?_; rintro q W5 ⟨v2, rfl, hRw, hb2, hf2⟩; obtain ⟨Aw, cw, rfl⟩ := Kd.R_slice hRw; have hRv := R_same HV.out (fun k hk => hf2 k (.inr hk)); clear HT HV; have HB := Aside0.mk hb2; have HV := Aside0.mk (Kd.R_reads' hRv); have HW := Aside0.mk (Kd.R_reads' hRw); clear hb2 hf2 hRv hRw) | (go_at_call 51; refine (boltinglaw11_nums.calls (a.length + 1) Av cv a Aw cw a2 (decide (a = a2)) _ HV.out.2.2 HV.out.2.1 HW.out.2.2 HW.out.2.1 (nums_is a a2 HAL.out)).mono ?_; rintro q W6 ⟨rfl, ⟨m, rfl⟩⟩; have hb2 := HB.out.quiet (pw_below_drewN (Below.refl _ _) m); clear HB; have HB := Aside0.mk hb2; clear hb2))
  ·go_ret
   exact ⟨_, rfl, fun _ h => by rw [h]; exact beq_self_eq_true _, HB.out.less fun _ h => h.elim⟩
  ·go_ret
   exact ⟨_, rfl, fun h => absurd h (by assumption), HB.out.less fun _ h => h.elim⟩
 ·clear H_make H_load H_remove H_clone H_attr H_drop H_data H_none
  obtain ⟨hA, hR⟩ := H_insert.out
  obtain ⟨rfl, hA2⟩ := hA rfl
  obtain ⟨rfl, hR2⟩ := hR rfl
  clear H_insert hA hR
  obtain ⟨k, hA2⟩ := hA2
  have HA := Aside0.mk hA2
  clear hA2
  have HR := Aside0.mk hR2
  clear hR2
  obtain ⟨q0, q1, q2, q3, q4, q5, q6, q7⟩ := cells8 hbx
  have BX := Aside0.mk hbx
  clear hbx
  subst hB
  go_enter Try.func23, Try.ntmps23
  go_wp2_with (first | (go_at_call 12; refine (HB.out.viaA (P := fun q => q = .returned (.int .i64 e)) (fun ok hI => Doc_Insert hI HF.out k f1 f3 f2 (e, ys) HA.out)).mono ?_; rintro q W2 ⟨rfl, hb2, hf2⟩; have bx := (hf2 W.heap.size rfl).trans BX.out; clear HB BX q0 q1 q2 q3 q4 q5 q6 q7; have HB := Aside0.mk hb2; have BX := Aside0.mk bx; obtain ⟨q0, q1, q2, q3, q4, q5, q6, q7⟩ := cells8 bx; clear bx hb2 hf2) | (go_at_call 52; refine (HB.out.viaR (P := fun q => q = .returned (.int .i64 e2)) (fun ok hI => HR.out _ ok gk hI)).mono ?_; rintro q W3 ⟨rfl, hb2, hf2⟩; clear HB BX q0 q1 q2 q3 q4 q5 q6 q7; have HB := Aside0.mk hb2; clear hb2 hf2))
  go_ret
  exact ⟨_, rfl, fun _ h => by rw [h]; exact beq_self_eq_true _, HB.out.less fun _ h => h.elim⟩
 ·clear H_make H_load H_insert H_clone H_attr H_drop H_data H_none
  obtain ⟨hA, hR⟩ := H_remove.out
  obtain ⟨rfl, hA2⟩ := hA rfl
  obtain ⟨rfl, hR2⟩ := hR rfl
  clear H_remove hA hR
  have HA := Aside0.mk hA2
  clear hA2
  have HR := Aside0.mk hR2
  clear hR2
  obtain ⟨q0, q1, q2, q3, q4, q5, q6, q7⟩ := cells8 hbx
  have BX := Aside0.mk hbx
  clear hbx
  subst hB
  go_enter Try.func23, Try.ntmps23
  go_wp2_with (first | (go_at_call 17; refine (HB.out.viaA (P := fun q => q = .returned (.int .i64 e)) (fun ok hI => by have := Doc_Remove hI HF.out f1; rw [HA.out] at this; exact this)).mono ?_; rintro q W2 ⟨rfl, hb2, hf2⟩; have bx := (hf2 W.heap.size rfl).trans BX.out; clear HB BX q0 q1 q2 q3 q4 q5 q6 q7; have HB := Aside0.mk hb2; have BX := Aside0.mk bx; obtain ⟨q0, q1, q2, q3, q4, q5, q6, q7⟩ := cells8 bx; clear bx hb2 hf2) | (go_at_call 53; refine (HB.out.viaR (P := fun q => q = .returned (.int .i64 e2)) (fun ok hI => HR.out _ ok gk hI)).mono ?_; rintro q W3 ⟨rfl, hb2, hf2⟩; clear HB BX q0 q1 q2 q3 q4 q5 q6 q7; have HB := Aside0.mk hb2; clear hb2 hf2))
  go_ret
  exact ⟨_, rfl, fun _ h => by rw [h]; exact beq_self_eq_true _, HB.out.less fun _ h => h.elim⟩
 ·clear H_make H_load H_insert H_remove H_attr H_drop H_data H_none
  obtain ⟨hA, hR⟩ := H_clone.out
  obtain ⟨n, k, rfl, hA2⟩ := hA rfl
  obtain ⟨n2, rfl, hR2⟩ := hR rfl
  clear H_clone hA hR
  have HA := Aside0.mk hA2
  have HR := Aside0.mk hR2
  clear hA2 hR2
  have hnn : n = n2 ∨ n ≠ n2 := by omega
  rcases hnn with rfl | hnn
  ·obtain ⟨q0, q1, q2, q3, q4, q5, q6, q7⟩ := cells8 hbx
   have BX := Aside0.mk hbx
   clear hbx
   subst hB
   go_enter Try.func23, Try.ntmps23
   go_wp2_with (first | (go_at_call 31; refine (HB.out.viaA (P := fun q => q = .returned (.tuple #[.int .i64 n, .int .i64 e])) (fun ok hI => Doc_Clone hI HF.out k f1 (ys, n, e) HA.out)).mono ?_; rintro q W2 ⟨rfl, hb2, hf2⟩; have bx := (hf2 W.heap.size rfl).trans BX.out; clear HB BX q0 q1 q2 q3 q4 q5 q6 q7; have HB := Aside0.mk hb2; have BX := Aside0.mk bx; obtain ⟨q0, q1, q2, q3, q4, q5, q6, q7⟩ := cells8 bx; clear bx hb2 hf2) | (go_at_call 54; refine (HB.out.viaR (P := fun q => q = .returned (.tuple #[.int .i64 n, .int .i64 e2])) (fun ok hI => HR.out _ ok gk hI)).mono ?_; rintro q W3 ⟨rfl, hb2, hf2⟩; clear HB BX q0 q1 q2 q3 q4 q5 q6 q7; have HB := Aside0.mk hb2; clear hb2 hf2))
   go_ret
   exact ⟨_, rfl, fun _ h => by rw [h]; exact beq_self_eq_true _, HB.out.less fun _ h => h.elim⟩
  ·have hnb : (n == n2) = false := beq_eq_false_iff_ne.2 hnn
   have HNN := Aside0.mk hnn
   clear hnn
   obtain ⟨q0, q1, q2, q3, q4, q5, q6, q7⟩ := cells8 hbx
   have BX := Aside0.mk hbx
   clear hbx
   subst hB
   go_enter Try.func23, Try.ntmps23
   go_wp2_with (first | (go_at_call 31; refine (HB.out.viaA (P := fun q => q = .returned (.tuple #[.int .i64 n, .int .i64 e])) (fun ok hI => Doc_Clone hI HF.out k f1 (ys, n, e) HA.out)).mono ?_; rintro q W2 ⟨rfl, hb2, hf2⟩; have bx := (hf2 W.heap.size rfl).trans BX.out; clear HB BX q0 q1 q2 q3 q4 q5 q6 q7; have HB := Aside0.mk hb2; have BX := Aside0.mk bx; obtain ⟨q0, q1, q2, q3, q4, q5, q6, q7⟩ := cells8 bx; clear bx hb2 hf2) | (go_at_call 54; refine (HB.out.viaR (P := fun q => q = .returned (.tuple #[.int .i64 n2, .int .i64 e2])) (fun ok hI => HR.out _ ok gk hI)).mono ?_; rintro q W3 ⟨rfl, hb2, hf2⟩; clear HB BX q0 q1 q2 q3 q4 q5 q6 q7; have HB := Aside0.mk hb2; clear hb2 hf2))
   go_ret
   exact ⟨_, rfl, fun h => absurd (List.head_eq_of_cons_eq h) HNN.out, HB.out.less fun _ h => h.elim⟩
 ·clear H_make H_load H_insert H_remove H_clone H_drop H_data H_none
  obtain ⟨hA, hR⟩ := H_attr.out
  obtain ⟨rfl, hA2⟩ := hA rfl
  obtain ⟨rfl, hR2⟩ := hR rfl
  clear H_attr hA hR
  have HA := Aside0.mk hA2
  clear hA2
  have HR := Aside0.mk hR2
  clear hR2
  obtain ⟨q0, q1, q2, q3, q4, q5, q6, q7⟩ := cells8 hbx
  have BX := Aside0.mk hbx
  clear hbx
  subst hB
  go_enter Try.func23, Try.ntmps23
  go_wp2_with (first | (go_at_call 22; refine (HB.out.viaA (P := fun q => q = .returned (.int .i64 e)) (fun ok hI => Doc_Attr hI HF.out (f5.size * 9 + 1) f1 f5 f6 (e, ys) HA.out)).mono ?_; rintro q W2 ⟨rfl, hb2, hf2⟩; have bx := (hf2 W.heap.size rfl).trans BX.out; clear HB BX q0 q1 q2 q3 q4 q5 q6 q7; have HB := Aside0.mk hb2; have BX := Aside0.mk bx; obtain ⟨q0, q1, q2, q3, q4, q5, q6, q7⟩ := cells8 bx; clear bx hb2 hf2) | (go_at_call 55; refine (HB.out.viaR (P := fun q => q = .returned (.int .i64 e2)) (fun ok hI => HR.out _ ok gk hI)).mono ?_; rintro q W3 ⟨rfl, hb2, hf2⟩; clear HB BX q0 q1 q2 q3 q4 q5 q6 q7; have HB := Aside0.mk hb2; clear hb2 hf2))
  go_ret
  exact ⟨_, rfl, fun _ h => by rw [h]; exact beq_self_eq_true _, HB.out.less fun _ h => h.elim⟩
 ·clear H_make H_load H_insert H_remove H_clone H_attr H_data H_none
  obtain ⟨hA, hR⟩ := H_drop.out
  obtain ⟨rfl, hA2⟩ := hA rfl
  obtain ⟨rfl, hR2⟩ := hR rfl
  clear H_drop hA hR
  have HA := Aside0.mk hA2
  clear hA2
  have HR := Aside0.mk hR2
  clear hR2
  obtain ⟨q0, q1, q2, q3, q4, q5, q6, q7⟩ := cells8 hbx
  have BX := Aside0.mk hbx
  clear hbx
  subst hB
  go_enter Try.func23, Try.ntmps23
  go_wp2_with (first | (go_at_call 27; refine (HB.out.viaA (P := fun q => q = .returned (.int .i64 e)) (fun ok hI => by have := Doc_Drop hI HF.out f1 f5; rw [HA.out] at this; exact this)).mono ?_; rintro q W2 ⟨rfl, hb2, hf2⟩; have bx := (hf2 W.heap.size rfl).trans BX.out; clear HB BX q0 q1 q2 q3 q4 q5 q6 q7; have HB := Aside0.mk hb2; have BX := Aside0.mk bx; obtain ⟨q0, q1, q2, q3, q4, q5, q6, q7⟩ := cells8 bx; clear bx hb2 hf2) | (go_at_call 56; refine (HB.out.viaR (P := fun q => q = .returned (.int .i64 e2)) (fun ok hI => HR.out _ ok gk hI)).mono ?_; rintro q W3 ⟨rfl, hb2, hf2⟩; clear HB BX q0 q1 q2 q3 q4 q5 q6 q7; have HB := Aside0.mk hb2; clear hb2 hf2))
  go_ret
  exact ⟨_, rfl, fun _ h => by rw [h]; exact beq_self_eq_true _, HB.out.less fun _ h => h.elim⟩
 ·clear H_make H_load H_insert H_remove H_clone H_attr H_drop H_none
  obtain ⟨hA, hR⟩ := H_data.out
  obtain ⟨rfl, hA2⟩ := hA rfl
  obtain ⟨rfl, hR2⟩ := hR rfl
  clear H_data hA hR
  have HA := Aside0.mk hA2
  clear hA2
  have HR := Aside0.mk hR2
  clear hR2
  obtain ⟨q0, q1, q2, q3, q4, q5, q6, q7⟩ := cells8 hbx
  have BX := Aside0.mk hbx
  clear hbx
  subst hB
  go_enter Try.func23, Try.ntmps23
  go_wp2_with (first | (go_at_call 32; refine (HB.out.viaA (P := fun q => q = .returned (.int .i64 e)) (fun ok hI => by have := Doc_Data hI f1 f6; rw [HA.out] at this; exact this)).mono ?_; rintro q W2 ⟨rfl, hb2, hf2⟩; have bx := (hf2 W.heap.size rfl).trans BX.out; clear HB BX q0 q1 q2 q3 q4 q5 q6 q7; have HB := Aside0.mk hb2; have BX := Aside0.mk bx; obtain ⟨q0, q1, q2, q3, q4, q5, q6, q7⟩ := cells8 bx; clear bx hb2 hf2) | (go_at_call 57; refine (HB.out.viaR (P := fun q => q = .returned (.int .i64 e2)) (fun ok hI => HR.out _ ok gk hI)).mono ?_; rintro q W3 ⟨rfl, hb2, hf2⟩; clear HB BX q0 q1 q2 q3 q4 q5 q6 q7; have HB := Aside0.mk hb2; clear hb2 hf2))
  go_ret
  exact ⟨_, rfl, fun _ h => by rw [h]; exact beq_self_eq_true _, HB.out.less fun _ h => h.elim⟩
 ·clear H_make H_load H_insert H_remove H_clone H_attr H_drop H_data
  obtain ⟨hA, hR⟩ := H_none.out
  obtain ⟨rfl, rfl, rfl⟩ := hA m0 m1 m2 m3 m4 m5 m6 m7
  obtain ⟨rfl, rfl, rfl⟩ := hR m0 m1 m2 m3 m4 m5 m6 m7
  clear H_none hA hR
  have b0 : (f0 == 0) = false := beq_eq_false_iff_ne.2 m0
  have b1 : (f0 == 1) = false := beq_eq_false_iff_ne.2 m1
  have b2 : (f0 == 2) = false := beq_eq_false_iff_ne.2 m2
  have b3 : (f0 == 3) = false := beq_eq_false_iff_ne.2 m3
  have b4 : (f0 == 4) = false := beq_eq_false_iff_ne.2 m4
  have b5 : (f0 == 5) = false := beq_eq_false_iff_ne.2 m5
  have b6 : (f0 == 6) = false := beq_eq_false_iff_ne.2 m6
  have b7 : (f0 == 7) = false := beq_eq_false_iff_ne.2 m7
  clear m0 m1 m2 m3 m4 m5 m6 m7
  obtain ⟨q0, q1, q2, q3, q4, q5, q6, q7⟩ := cells8 hbx
  have BX := Aside0.mk hbx
  clear hbx
  subst hB
  go_enter Try.func23, Try.ntmps23
  go_wp2
  go_ret
  exact ⟨_, rfl, fun _ _ => rfl, HB.out.less fun _ h => h.elim⟩
end Go.Proofs.Ytpkaliaaffgbdaa.QA
namespace Go.Proofs.Ytpkaliaaffgbdaa.QA
open Go.RowKit Go.Proofs.YtpkaliaaffgbdaaW.PrintWords Go.Proofs.YtpkaliaaffgbdaaW.PrintLast Go.Proofs.YtpkaliaaffgbdaaW.PrintMore
attribute [local go_sem] max2_int min2_int max_two min_two max_three min_three max_four min_four   -- for this text's walks alone
set_option linter.unusedVariables false
set_option linter.unusedSimpArgs false

open Go
section
variable {W w : World} {ok : Nat → Prop} {g M : Nat} {xs : List S79}
/-- What lies in memory, for the readers. -/
theorem RDoc.reads (h : RDoc W ok g xs) (hp : 0 < xs.length) : ∃ GX cX GU cU GR cR, (W.cell? ⟨g, 0, none⟩ = some (.slice (some ⟨GX, 0, none⟩) xs.length cX) ∧ W.cell? ⟨g, 1, none⟩ = some (.slice (some ⟨GU, 0, none⟩) xs.length cU) ∧ W.cell? ⟨g, 2, none⟩ = some (.slice (some ⟨GR, 0, none⟩) xs.length cR)) ∧ (xs.length ≤ cX ∧ xs.length ≤ cU ∧ xs.length ≤ cR) ∧
  (∀ i : Nat, i < xs.length → W.cell? ⟨GX, i * 5 + 1, none⟩ = some (.int .i64 (rd_T79 xs (i : Int)).f0.f1)) ∧ (∀ i : Nat, i < xs.length → W.cell? ⟨GU, i, none⟩ = some (.int .i64 (rd_T79 xs (i : Int)).f1)) ∧ Kd.C k54 W (some ⟨GX, 0, none⟩) xs.length (f0s xs) := by
 obtain ⟨R, vX, vU, vR, h, hR⟩ := h
 obtain ⟨GX, cX, GU, cU, GR, cR, rfl, rfl, rfl, ⟨l0, l1, l2⟩, hU, _⟩ := h.reads (by rw [f0s_length]; exact hp) (by rw [f0s_length, f1s_length]) (by rw [f0s_length, hR.len])
 obtain ⟨q0, q1, q2, _⟩ := ref_cells h.blk
 have hC := (Kd.R_reads' h.rX).2.2
 rw [f0s_length] at q0 q1 q2 l0 l1 l2 hU hC
 refine ⟨GX, cX, GU, cU, GR, cR, ⟨q0, q1, q2⟩, ⟨l0, l1, l2⟩, fun i hi => ?_, fun i hi => ?_, hC⟩
 ·obtain ⟨ad, A4, c4, e4, x0, x1, _⟩ := at_T54 hC (i : Int) (by omega) (by omega)
  injection e4 with e4
  subst e4
  have ex : rd_T54 (f0s xs) (i : Int) = (rd_T79 xs (i : Int)).f0 := by
   rw [rd_T54_at (f0s xs) i (by rw [f0s_length]; exact hi), nd_at i hi]
   simp [f0s]
  rw [ex, Int.toNat_natCast, add_plain] at x1
  exact x1
 ·have := hU i hi
  rw [rd_f1s hi] at this
  unfold up9 at this
  rwa [if_pos hi] at this
set_option maxHeartbeats 4000000 in
set_option maxRecDepth 100000 in
theorem RD_Within (h : RDoc w ok g xs) (hp : 0 < xs.length) (k : Nat) (n o : Int) (r : Bool) (hr : withinF xs k n o = some r) : Calls Try.prog 29 #[.pointer (some ⟨g, 0, none⟩), .int .i64 n, .int .i64 o] w fun e w' => e = .returned (.bool r) ∧ Drawn0 w w' := by
 obtain ⟨GX, cX, GU, cU, GR, cR, ⟨q0, q1, q2⟩, ⟨l0, l1, l2⟩, _, hU, _⟩ := h.reads hp
 have HU := Aside0.mk (And.intro hU (And.intro q0 q1))
 unfold withinF at hr
 by_cases c1 : (0 ≤ n ∧ n < (xs.length : Int)) ∧ (0 ≤ o ∧ o < (xs.length : Int))
 rotate_left
 ·rw [if_neg c1] at hr
  obtain rfl := Option.some.inj hr
  have hc : n < 0 ∨ (¬ n < 0 ∧ (xs.length : Int) ≤ n) ∨ (¬ n < 0 ∧ ¬ (xs.length : Int) ≤ n ∧ o < 0) ∨ (¬ n < 0 ∧ ¬ (xs.length : Int) ≤ n ∧ ¬ o < 0 ∧ (xs.length : Int) ≤ o) := by omega
  clear hr h c1 hU HU hp
  rcases hc with h1 | ⟨h1, h2⟩ | ⟨h1, h2, h3⟩ | ⟨h1, h2, h3, h4⟩
  all_goals
   go_enter Try.func29, Try.ntmps29
   go_wp2
   go_ret
   exact ⟨rfl, ⟨0, rfl⟩⟩
 ·rw [if_pos c1] at hr
  obtain ⟨⟨h1, h2⟩, h3, h4⟩ := c1
  have hr' := Aside0.mk hr
  clear hr h hp hU
  have e1 : ¬ n < 0 := by omega
  have e2 : ¬ (xs.length : Int) ≤ n := by omega
  have e3 : ¬ o < 0 := by omega
  have e4 : ¬ (xs.length : Int) ≤ o := by omega
  have HO := Aside0.mk h3
  clear h1 h2 h3 h4
  go_enter Try.func29, Try.ntmps29
  go_wp2
  go_loopg [1] k (fun kq v1 w' => ∃ (x1 : Int), v1 = .int .i64 x1 ∧ Aside0 (withinL xs kq x1 o = some r) ∧ Drawn0 w w')
  case atStart => exact ⟨n, rfl, hr', by repeat (first | exact Drawn0.refl _ | apply Drawn0.step)⟩
  case round =>
   clear hr' e1 e2 e3 e4 q0 q1 q2
   obtain ⟨x1, rfl, HA, ⟨m1, rfl⟩⟩ := hrel
   cases gk with
   | zero => exact absurd HA.out (by simp [withinL])
   | succ k1 =>
    have H := HA.out
    clear HA
    simp only [withinL] at H
    by_cases c4 : x1 = o
    ·rw [if_pos c4] at H
     obtain rfl := Option.some.inj H
     subst c4
     have d0 : decide (0 ≤ x1) = true := decide_eq_true HO.out
     go_wp2
     go_ret
     exact ⟨by simp, by repeat (first | exact Drawn0.refl _ | apply Drawn0.step)⟩
    ·rw [if_neg c4] at H
     have c4b0 : (x1 == o) = false := beq_eq_false_iff_ne.2 c4
     by_cases c5 : x1 = -1
     ·rw [if_pos c5] at H
      obtain rfl := Option.some.inj H
      subst c5
      clear c4
      go_wp2
      go_ret
      exact ⟨by simp, by repeat (first | exact Drawn0.refl _ | apply Drawn0.step)⟩
     ·rw [if_neg c5] at H
      by_cases c6 : 0 ≤ x1 ∧ x1 < (xs.length : Int)
      ·rw [if_pos c6] at H
       obtain ⟨i, rfl⟩ := Int.eq_ofNat_of_zero_le c6.1
       have hi : i < xs.length := by omega
       obtain ⟨hU, q0, q1⟩ := HU.out
       have hu := hU i hi
       have d0 : decide (0 ≤ (i : Int)) = true := decide_eq_true c6.1
       have hz : (i : Int) < (xs.length : Int) := by omega
       have H' := Aside0.mk H
       clear c6 H c4 c5 hU q0
       go_wp2
       go_roundg k1
       case measure => omega
       case rel => exact ⟨_, rfl, H', by repeat (first | exact Drawn0.refl _ | apply Drawn0.step)⟩
      ·rw [if_neg c6] at H
       cases H
set_option maxHeartbeats 8000000 in
set_option maxRecDepth 100000 in
theorem RD_Insert (h : RDoc w ok g xs) (hG : Good M xs) (k : Nat) (p a n : Int) (r : Int × List S79) (hr : insertR xs k p a n = some r) : Calls Try.prog 52 #[.pointer (some ⟨g, 0, none⟩), .int .i64 p, .int .i64 a, .int .i64 n] w fun e w' => e = .returned (.int .i64 r.1) ∧ ToRD w w' ok g r.2 := by
 by_cases hin : inB xs p = false ∨ someB xs n = false
 ·have hr2 : r = (110, xs) := by
   unfold insertR at hr
   rcases hin with hin | hin
   ·rw [if_pos hin] at hr
    exact (Option.some.inj hr).symm
   ·split at hr <;> first | exact (Option.some.inj hr).symm | (rw [if_pos hin] at hr; exact (Option.some.inj hr).symm)
  rw [hr2]
  exact RD_Insert_no h p a n hin
 have hp1 : inB xs p = true := by
  cases hc : inB xs p with
  | true => rfl
  | false => exact absurd (.inl hc) hin
 have hn1 : someB xs n = true := by
  cases hc : someB xs n with
  | true => rfl
  | false => exact absurd (.inr hc) hin
 have hp2 := of_decide_eq_true hp1
 obtain ⟨j, rfl⟩ := Int.eq_ofNat_of_zero_le hp2.1
 obtain ⟨i, rfl, hi0, hi⟩ := someB_iff.1 hn1
 have hj : j < xs.length := by omega
 unfold insertR at hr
 rw [if_neg (by rw [hp1]; decide), if_neg (by rw [hn1]; decide)] at hr
 simp only [Int.toNat_natCast] at hr
 obtain ⟨GX, cX, GU, cU, GR, cR, ⟨q0, q1, q2⟩, ⟨l0, l1, l2⟩, hK, hU, _⟩ := h.reads hG.tree.pos
 have hkj := hK j hj
 have hui := hU i hi
 have hgl := h.lt
 have a1 : ¬ (j : Int) < 0 := by omega
 have a2 : ¬ (xs.length : Int) ≤ (j : Int) := by omega
 have a3 : ¬ (i : Int) < 1 := by omega
 have a4 : ¬ (xs.length : Int) ≤ (i : Int) := by omega
 have z1 : (j : Int) < (xs.length : Int) := by omega
 have z2 : (i : Int) < (xs.length : Int) := by omega
 have HD := Aside0.mk h
 have HG := Aside0.mk hG
 have HW := Aside0.mk (fun W (hB : Below w.heap.size w W) => (show W.cell? ⟨g, 1, none⟩ = some (.slice (some ⟨GU, 0, none⟩) xs.length cU) ∧ W.cell? ⟨GU, i, none⟩ = some (.int .i64 (rd_T79 xs (i : Int)).f1) from ⟨(hB.cell (p := ⟨g, 1, none⟩) hgl).trans q1, (hB.cell (block_lt_of_cell hui)).trans hui⟩))
 have HJI := Aside0.mk (And.intro hj (And.intro hi hi0))
 clear h hG hK hU hin hp1 hn1 hp2 hj hui
 by_cases c2 : 0 < (j : Int) ∧ (rd_T79 xs (j : Int)).f0.f1 ≠ 0
 ·rw [if_pos c2] at hr
  obtain rfl := Option.some.inj hr
  have d1 : decide (0 < (j : Int)) = true := decide_eq_true c2.1
  have d2 : ((rd_T79 xs (j : Int)).f0.f1 != 0) = true := bne_iff_ne.2 c2.2
  have hj0 := c2.1
  clear hr c2
  go_enter Try.func52, Try.ntmps52
  go_wp2
  go_ret
  exact ⟨rfl, .quiet HD.out (by repeat (first | exact Below.refl _ _ | apply pw_below_drewN))⟩
 rw [if_neg c2] at hr
 have hc2 : (¬ 0 < (j : Int)) ∨ (0 < (j : Int) ∧ ((rd_T79 xs (j : Int)).f0.f1 != 0) = false) := by
  by_cases c : 0 < (j : Int)
  ·exact .inr ⟨c, bne_eq_false_iff_eq.2 (Classical.not_not.1 fun h => c2 ⟨c, h⟩)⟩
  ·exact .inl c
 clear c2
 cases hw : withinF xs k (j : Int) (i : Int) with
 | none => rw [hw] at hr; cases hr
 | some bw =>
  rw [hw] at hr
  have HWI := Aside0.mk (fun (W : World) (hB : Below w.heap.size w W) => RD_Within (HD.out.below hB) HG.out.tree.pos k (j : Int) (i : Int) bw hw)
  have HB0 := Aside0.mk (Below.refl w.heap.size w)
  cases bw with
  | true =>
   dsimp only at hr
   obtain rfl := Option.some.inj hr
   clear hr
   rcases hc2 with c | ⟨c, d2⟩
   ·have d1 : decide (0 < (j : Int)) = false := decide_eq_false c
    go_enter Try.func52, Try.ntmps52
    go_wp2_with (first | (go_at_call 29; refine (HWI.out _ HB0.out).mono ?_; rintro e w' ⟨rfl, ⟨m, rfl⟩⟩))
    go_ret
    exact ⟨rfl, .quiet HD.out (by repeat (first | exact Below.refl _ _ | apply pw_below_drewN))⟩
   ·have d1 : decide (0 < (j : Int)) = true := decide_eq_true c
    go_enter Try.func52, Try.ntmps52
    go_wp2_with (first | (go_at_call 29; refine (HWI.out _ HB0.out).mono ?_; rintro e w' ⟨rfl, ⟨m, rfl⟩⟩))
    go_ret
    exact ⟨rfl, .quiet HD.out (by repeat (first | exact Below.refl _ _ | apply pw_below_drewN))⟩
  | false =>
   dsimp only at hr
   have hL := mostN_take HG.out i j HJI.out.2.1 HJI.out.1
   have HKN : Aside0 (kidsN xs (j : Int) = ks9 xs j) := ⟨kidsN_nat j⟩
   have HKI := Aside0.mk (fun (W : World) (hB : Below w.heap.size w W) => RD_Kids (HD.out.below hB) HG.out (j : Int))
   have hne : j ≠ i := fun e => by
    obtain ⟨k2, b2, hk2, hb2⟩ := withinF_some HG.out (j : Int) (i : Int)
    have h1 := (hb2 i j rfl rfl HJI.out.1 HJI.out.2.1).2 (e ▸ .self)
    subst h1
    have := within_det hw hk2
    cases this
   have hmo : mostN xs (j : Int) (i : Int) = if (rd_T79 xs (i : Int)).f1 = (j : Int) then ((ks9 xs j).length : Int) - 1 else ((ks9 xs j).length : Int) := rfl
   have hLL := HG.out.kids_le j
   have hlen := HG.out.len
   obtain ⟨L, hLe⟩ : ∃ L, (ks9 xs j).length = L := ⟨_, rfl⟩
   rw [hLe] at hmo hLL
   have HLE := Aside0.mk hLe
   have HLL := Aside0.mk (show L ≤ 4096 by omega)
   have HNE := Aside0.mk hne
   clear hw hLe hLL hlen hne
   rw [hmo] at hr hL
   clear hmo
   rcases hc2 with c | ⟨c, d2⟩
   ·have d1 : decide (0 < (j : Int)) = false := decide_eq_false c
    by_cases cu : (rd_T79 xs (i : Int)).f1 = (j : Int)
    ·rw [if_pos cu] at hr hL
     by_cases ca : a < 0 ∨ (L : Int) - 1 < a
     ·rw [if_pos ca] at hr
      obtain rfl := Option.some.inj hr
      clear hr hL
      have ca2 : a < 0 ∨ (¬ a < 0 ∧ (L : Int) - 1 < a) := by omega
      clear ca
      rcases ca2 with ca | ca
      ·have e1 : ((rd_T79 xs (i : Int)).f1 == (j : Int)) = true := beq_iff_eq.2 cu
       have hwl : wrap64 ((L : Int) - 1) = (L : Int) - 1 := by unfold wrap64; have := HLL.out; omega
       have g1 : decide (a < 0) = true := decide_eq_true ca
       clear cu
       go_enter Try.func52, Try.ntmps52
       go_wp2_with (first | (go_at_call 29; refine (HWI.out _ HB0.out).mono ?_; rintro e w' ⟨rfl, ⟨m, rfl⟩⟩; have hb1 := pw_below_drewN (Below.refl w.heap.size w) m; have HB1 := Aside0.mk hb1; clear hb1) | (go_at_call 59; refine (HKI.out _ HB1.out).mono ?_; rintro e w2 ⟨v, rfl, hR, hB⟩; obtain ⟨Ak, ck, rfl⟩ := Kd.R_slice hR; rw [HKN.out, HLE.out]; have hb2 := below_step HB1.out hB; obtain ⟨r1, r2⟩ := HW.out w2 hb2; have HB2 := Aside0.mk hb2; clear hR hB hb2))
       go_ret
       exact ⟨rfl, .quiet HD.out HB2.out⟩
      ·have e1 : ((rd_T79 xs (i : Int)).f1 == (j : Int)) = true := beq_iff_eq.2 cu
       have hwl : wrap64 ((L : Int) - 1) = (L : Int) - 1 := by unfold wrap64; have := HLL.out; omega
       have g1 : decide (a < 0) = false := decide_eq_false (by omega)
       have g2 : decide ((L : Int) - 1 < a) = true := decide_eq_true (by omega)
       clear cu
       go_enter Try.func52, Try.ntmps52
       go_wp2_with (first | (go_at_call 29; refine (HWI.out _ HB0.out).mono ?_; rintro e w' ⟨rfl, ⟨m, rfl⟩⟩; have hb1 := pw_below_drewN (Below.refl w.heap.size w) m; have HB1 := Aside0.mk hb1; clear hb1) | (go_at_call 59; refine (HKI.out _ HB1.out).mono ?_; rintro e w2 ⟨v, rfl, hR, hB⟩; obtain ⟨Ak, ck, rfl⟩ := Kd.R_slice hR; rw [HKN.out, HLE.out]; have hb2 := below_step HB1.out hB; obtain ⟨r1, r2⟩ := HW.out w2 hb2; have HB2 := Aside0.mk hb2; clear hR hB hb2))
       go_ret
       exact ⟨rfl, .quiet HD.out HB2.out⟩
     ·rw [if_neg ca] at hr
      obtain rfl := Option.some.inj hr
      clear hr
      obtain ⟨b, rfl⟩ := Int.eq_ofNat_of_zero_le (show 0 ≤ a by omega)
      have HS := Aside0.mk (fun (W : World) (hB : Below w.heap.size w W) => RD_set (HD.out.below hB) HG.out j b i HJI.out.1 HJI.out.2.1 HNE.out (by omega))
      clear hL
      have e1 : ((rd_T79 xs (i : Int)).f1 == (j : Int)) = true := beq_iff_eq.2 cu
      have hwl : wrap64 ((L : Int) - 1) = (L : Int) - 1 := by unfold wrap64; have := HLL.out; omega
      have g1 : decide ((b : Int) < 0) = false := decide_eq_false (by omega)
      have g2 : decide ((L : Int) - 1 < (b : Int)) = false := decide_eq_false (by omega)
      clear cu
      go_enter Try.func52, Try.ntmps52
      go_wp2_with (first | (go_at_call 29; refine (HWI.out _ HB0.out).mono ?_; rintro e w' ⟨rfl, ⟨m, rfl⟩⟩; have hb1 := pw_below_drewN (Below.refl w.heap.size w) m; have HB1 := Aside0.mk hb1; clear hb1) | (go_at_call 59; refine (HKI.out _ HB1.out).mono ?_; rintro e w2 ⟨v, rfl, hR, hB⟩; obtain ⟨Ak, ck, rfl⟩ := Kd.R_slice hR; rw [HKN.out, HLE.out]; have hb2 := below_step HB1.out hB; obtain ⟨r1, r2⟩ := HW.out w2 hb2; have HB2 := Aside0.mk hb2; clear hR hB hb2) | (go_at_call 76; refine (HS.out _ HB2.out).mono ?_; rintro e w3 ⟨rfl, hT⟩; have HT := Aside0.mk (ToRD.after HB2.out hT); clear hT))
      go_ret
      exact ⟨rfl, by rw [Int.toNat_natCast]; exact HT.out⟩
    ·rw [if_neg cu] at hr hL
     by_cases ca : a < 0 ∨ (L : Int) < a
     ·rw [if_pos ca] at hr
      obtain rfl := Option.some.inj hr
      clear hr hL
      have ca2 : a < 0 ∨ (¬ a < 0 ∧ (L : Int) < a) := by omega
      clear ca
      rcases ca2 with ca | ca
      ·have e1 : ((rd_T79 xs (i : Int)).f1 == (j : Int)) = false := beq_eq_false_iff_ne.2 cu
       have g1 : decide (a < 0) = true := decide_eq_true ca
       clear cu
       go_enter Try.func52, Try.ntmps52
       go_wp2_with (first | (go_at_call 29; refine (HWI.out _ HB0.out).mono ?_; rintro e w' ⟨rfl, ⟨m, rfl⟩⟩; have hb1 := pw_below_drewN (Below.refl w.heap.size w) m; have HB1 := Aside0.mk hb1; clear hb1) | (go_at_call 59; refine (HKI.out _ HB1.out).mono ?_; rintro e w2 ⟨v, rfl, hR, hB⟩; obtain ⟨Ak, ck, rfl⟩ := Kd.R_slice hR; rw [HKN.out, HLE.out]; have hb2 := below_step HB1.out hB; obtain ⟨r1, r2⟩ := HW.out w2 hb2; have HB2 := Aside0.mk hb2; clear hR hB hb2))
       go_ret
       exact ⟨rfl, .quiet HD.out HB2.out⟩
      ·have e1 : ((rd_T79 xs (i : Int)).f1 == (j : Int)) = false := beq_eq_false_iff_ne.2 cu
       have g1 : decide (a < 0) = false := decide_eq_false (by omega)
       have g2 : decide ((L : Int) < a) = true := decide_eq_true (by omega)
       clear cu
       go_enter Try.func52, Try.ntmps52
       go_wp2_with (first | (go_at_call 29; refine (HWI.out _ HB0.out).mono ?_; rintro e w' ⟨rfl, ⟨m, rfl⟩⟩; have hb1 := pw_below_drewN (Below.refl w.heap.size w) m; have HB1 := Aside0.mk hb1; clear hb1) | (go_at_call 59; refine (HKI.out _ HB1.out).mono ?_; rintro e w2 ⟨v, rfl, hR, hB⟩; obtain ⟨Ak, ck, rfl⟩ := Kd.R_slice hR; rw [HKN.out, HLE.out]; have hb2 := below_step HB1.out hB; obtain ⟨r1, r2⟩ := HW.out w2 hb2; have HB2 := Aside0.mk hb2; clear hR hB hb2))
       go_ret
       exact ⟨rfl, .quiet HD.out HB2.out⟩
     ·rw [if_neg ca] at hr
      obtain rfl := Option.some.inj hr
      clear hr
      obtain ⟨b, rfl⟩ := Int.eq_ofNat_of_zero_le (show 0 ≤ a by omega)
      have HS := Aside0.mk (fun (W : World) (hB : Below w.heap.size w W) => RD_set (HD.out.below hB) HG.out j b i HJI.out.1 HJI.out.2.1 HNE.out (by omega))
      clear hL
      have e1 : ((rd_T79 xs (i : Int)).f1 == (j : Int)) = false := beq_eq_false_iff_ne.2 cu
      have g1 : decide ((b : Int) < 0) = false := decide_eq_false (by omega)
      have g2 : decide ((L : Int) < (b : Int)) = false := decide_eq_false (by omega)
      clear cu
      go_enter Try.func52, Try.ntmps52
      go_wp2_with (first | (go_at_call 29; refine (HWI.out _ HB0.out).mono ?_; rintro e w' ⟨rfl, ⟨m, rfl⟩⟩; have hb1 := pw_below_drewN (Below.refl w.heap.size w) m; have HB1 := Aside0.mk hb1; clear hb1) | (go_at_call 59; refine (HKI.out _ HB1.out).mono ?_; rintro e w2 ⟨v, rfl, hR, hB⟩; obtain ⟨Ak, ck, rfl⟩ := Kd.R_slice hR; rw [HKN.out, HLE.out]; have hb2 := below_step HB1.out hB; obtain ⟨r1, r2⟩ := HW.out w2 hb2; have HB2 := Aside0.mk hb2; clear hR hB hb2) | (go_at_call 76; refine (HS.out _ HB2.out).mono ?_; rintro e w3 ⟨rfl, hT⟩; have HT := Aside0.mk (ToRD.after HB2.out hT); clear hT))
      go_ret
      exact ⟨rfl, by rw [Int.toNat_natCast]; exact HT.out⟩
   ·have d1 : decide (0 < (j : Int)) = true := decide_eq_true c
    by_cases cu : (rd_T79 xs (i : Int)).f1 = (j : Int)
    ·rw [if_pos cu] at hr hL
     by_cases ca : a < 0 ∨ (L : Int) - 1 < a
     ·rw [if_pos ca] at hr
      obtain rfl := Option.some.inj hr
      clear hr hL
      have ca2 : a < 0 ∨ (¬ a < 0 ∧ (L : Int) - 1 < a) := by omega
      clear ca
      rcases ca2 with ca | ca
      ·have e1 : ((rd_T79 xs (i : Int)).f1 == (j : Int)) = true := beq_iff_eq.2 cu
       have hwl : wrap64 ((L : Int) - 1) = (L : Int) - 1 := by unfold wrap64; have := HLL.out; omega
       have g1 : decide (a < 0) = true := decide_eq_true ca
       clear cu
       go_enter Try.func52, Try.ntmps52
       go_wp2_with (first | (go_at_call 29; refine (HWI.out _ HB0.out).mono ?_; rintro e w' ⟨rfl, ⟨m, rfl⟩⟩; have hb1 := pw_below_drewN (Below.refl w.heap.size w) m; have HB1 := Aside0.mk hb1; clear hb1) | (go_at_call 59; refine (HKI.out _ HB1.out).mono ?_; rintro e w2 ⟨v, rfl, hR, hB⟩; obtain ⟨Ak, ck, rfl⟩ := Kd.R_slice hR; rw [HKN.out, HLE.out]; have hb2 := below_step HB1.out hB; obtain ⟨r1, r2⟩ := HW.out w2 hb2; have HB2 := Aside0.mk hb2; clear hR hB hb2))
       go_ret
       exact ⟨rfl, .quiet HD.out HB2.out⟩
      ·have e1 : ((rd_T79 xs (i : Int)).f1 == (j : Int)) = true := beq_iff_eq.2 cu
       have hwl : wrap64 ((L : Int) - 1) = (L : Int) - 1 := by unfold wrap64; have := HLL.out; omega
       have g1 : decide (a < 0) = false := decide_eq_false (by omega)
       have g2 : decide ((L : Int) - 1 < a) = true := decide_eq_true (by omega)
       clear cu
       go_enter Try.func52, Try.ntmps52
       go_wp2_with (first | (go_at_call 29; refine (HWI.out _ HB0.out).mono ?_; rintro e w' ⟨rfl, ⟨m, rfl⟩⟩; have hb1 := pw_below_drewN (Below.refl w.heap.size w) m; have HB1 := Aside0.mk hb1; clear hb1) | (go_at_call 59; refine (HKI.out _ HB1.out).mono ?_; rintro e w2 ⟨v, rfl, hR, hB⟩; obtain ⟨Ak, ck, rfl⟩ := Kd.R_slice hR; rw [HKN.out, HLE.out]; have hb2 := below_step HB1.out hB; obtain ⟨r1, r2⟩ := HW.out w2 hb2; have HB2 := Aside0.mk hb2; clear hR hB hb2))
       go_ret
       exact ⟨rfl, .quiet HD.out HB2.out⟩
     ·rw [if_neg ca] at hr
      obtain rfl := Option.some.inj hr
      clear hr
      obtain ⟨b, rfl⟩ := Int.eq_ofNat_of_zero_le (show 0 ≤ a by omega)
      have HS := Aside0.mk (fun (W : World) (hB : Below w.heap.size w W) => RD_set (HD.out.below hB) HG.out j b i HJI.out.1 HJI.out.2.1 HNE.out (by omega))
      clear hL
      have e1 : ((rd_T79 xs (i : Int)).f1 == (j : Int)) = true := beq_iff_eq.2 cu
      have hwl : wrap64 ((L : Int) - 1) = (L : Int) - 1 := by unfold wrap64; have := HLL.out; omega
      have g1 : decide ((b : Int) < 0) = false := decide_eq_false (by omega)
      have g2 : decide ((L : Int) - 1 < (b : Int)) = false := decide_eq_false (by omega)
      clear cu
      go_enter Try.func52, Try.ntmps52
      go_wp2_with (first | (go_at_call 29; refine (HWI.out _ HB0.out).mono ?_; rintro e w' ⟨rfl, ⟨m, rfl⟩⟩; have hb1 := pw_below_drewN (Below.refl w.heap.size w) m; have HB1 := Aside0.mk hb1; clear hb1) | (go_at_call 59; refine (HKI.out _ HB1.out).mono ?_; rintro e w2 ⟨v, rfl, hR, hB⟩; obtain ⟨Ak, ck, rfl⟩ := Kd.R_slice hR; rw [HKN.out, HLE.out]; have hb2 := below_step HB1.out hB; obtain ⟨r1, r2⟩ := HW.out w2 hb2; have HB2 := Aside0.mk hb2; clear hR hB hb2) | (go_at_call 76; refine (HS.out _ HB2.out).mono ?_; rintro e w3 ⟨rfl, hT⟩; have HT := Aside0.mk (ToRD.after HB2.out hT); clear hT))
      go_ret
      exact ⟨rfl, by rw [Int.toNat_natCast]; exact HT.out⟩
    ·rw [if_neg cu] at hr hL
     by_cases ca : a < 0 ∨ (L : Int) < a
     ·rw [if_pos ca] at hr
      obtain rfl := Option.some.inj hr
      clear hr hL
      have ca2 : a < 0 ∨ (¬ a < 0 ∧ (L : Int) < a) := by omega
      clear ca
      rcases ca2 with ca | ca
      ·have e1 : ((rd_T79 xs (i : Int)).f1 == (j : Int)) = false := beq_eq_false_iff_ne.2 cu
       have g1 : decide (a < 0) = true := decide_eq_true ca
       clear cu
       go_enter Try.func52, Try.ntmps52
       go_wp2_with (first | (go_at_call 29; refine (HWI.out _ HB0.out).mono ?_; rintro e w' ⟨rfl, ⟨m, rfl⟩⟩; have hb1 := pw_below_drewN (Below.refl w.heap.size w) m; have HB1 := Aside0.mk hb1; clear hb1) | (go_at_call 59; refine (HKI.out _ HB1.out).mono ?_; rintro e w2 ⟨v, rfl, hR, hB⟩; obtain ⟨Ak, ck, rfl⟩ := Kd.R_slice hR; rw [HKN.out, HLE.out]; have hb2 := below_step HB1.out hB; obtain ⟨r1, r2⟩ := HW.out w2 hb2; have HB2 := Aside0.mk hb2; clear hR hB hb2))
       go_ret
       exact ⟨rfl, .quiet HD.out HB2.out⟩
      ·have e1 : ((rd_T79 xs (i : Int)).f1 == (j : Int)) = false := beq_eq_false_iff_ne.2 cu
       have g1 : decide (a < 0) = false := decide_eq_false (by omega)
       have g2 : decide ((L : Int) < a) = true := decide_eq_true (by omega)
       clear cu
       go_enter Try.func52, Try.ntmps52
       go_wp2_with (first | (go_at_call 29; refine (HWI.out _ HB0.out).mono ?_; rintro e w' ⟨rfl, ⟨m, rfl⟩⟩; have hb1 := pw_below_drewN (Below.refl w.heap.size w) m; have HB1 := Aside0.mk hb1; clear hb1) | (go_at_call 59; refine (HKI.out _ HB1.out).mono ?_; rintro e w2 ⟨v, rfl, hR, hB⟩; obtain ⟨Ak, ck, rfl⟩ := Kd.R_slice hR; rw [HKN.out, HLE.out]; have hb2 := below_step HB1.out hB; obtain ⟨r1, r2⟩ := HW.out w2 hb2; have HB2 := Aside0.mk hb2; clear hR hB hb2))
       go_ret
       exact ⟨rfl, .quiet HD.out HB2.out⟩
     ·rw [if_neg ca] at hr
      obtain rfl := Option.some.inj hr
      clear hr
      obtain ⟨b, rfl⟩ := Int.eq_ofNat_of_zero_le (show 0 ≤ a by omega)
      have HS := Aside0.mk (fun (W : World) (hB : Below w.heap.size w W) => RD_set (HD.out.below hB) HG.out j b i HJI.out.1 HJI.out.2.1 HNE.out (by omega))
      clear hL
      have e1 : ((rd_T79 xs (i : Int)).f1 == (j : Int)) = false := beq_eq_false_iff_ne.2 cu
      have g1 : decide ((b : Int) < 0) = false := decide_eq_false (by omega)
      have g2 : decide ((L : Int) < (b : Int)) = false := decide_eq_false (by omega)
      clear cu
      go_enter Try.func52, Try.ntmps52
      go_wp2_with (first | (go_at_call 29; refine (HWI.out _ HB0.out).mono ?_; rintro e w' ⟨rfl, ⟨m, rfl⟩⟩; have hb1 := pw_below_drewN (Below.refl w.heap.size w) m; have HB1 := Aside0.mk hb1; clear hb1) | (go_at_call 59; refine (HKI.out _ HB1.out).mono ?_; rintro e w2 ⟨v, rfl, hR, hB⟩; obtain ⟨Ak, ck, rfl⟩ := Kd.R_slice hR; rw [HKN.out, HLE.out]; have hb2 := below_step HB1.out hB; obtain ⟨r1, r2⟩ := HW.out w2 hb2; have HB2 := Aside0.mk hb2; clear hR hB hb2) | (go_at_call 76; refine (HS.out _ HB2.out).mono ?_; rintro e w3 ⟨rfl, hT⟩; have HT := Aside0.mk (ToRD.after HB2.out hT); clear hT))
      go_ret
      exact ⟨rfl, by rw [Int.toNat_natCast]; exact HT.out⟩
end
end Go.Proofs.Ytpkaliaaffgbdaa.QA
namespace Go.Proofs.Ytpkaliaaffgbdaa.QA
open Go.RowKit Go.Proofs.YtpkaliaaffgbdaaW.PrintWords Go.Proofs.YtpkaliaaffgbdaaW.PrintLast Go.Proofs.YtpkaliaaffgbdaaW.PrintMore
attribute [local go_sem] max2_int min2_int max_two min_two max_three min_three max_four min_four   -- for this text's walks alone
set_option linter.unusedVariables false
set_option linter.unusedSimpArgs false

open Go
section
variable {M : Nat} {xs ys : List S79}
theorem few_of {l : List S54} (h : l.length ≤ 12 ∧ ∀ x ∈ l, x.f4.length ≤ 4) : Few l := ⟨by omega, fun x hx => by have := h.2 x hx; omega⟩
theorem loadR_roots {k : Nat} {l : List S54} {roots : List Int} {e : Int} (h : loadR xs k l = some (ys, roots, e)) (hx : 0 < xs.length) : roots.length ≤ l.length := by
 unfold loadR at h
 split at h
 ·cases h
 split at h
 ·injection h with h
  injection h with _ h
  injection h with h _
  rw [← h]
  exact Nat.zero_le _
 split at h
 ·injection h with h
  injection h with _ h
  injection h with h _
  rw [← h]
  exact Nat.zero_le _
 obtain ⟨⟨ys', roots'⟩, hload, e2⟩ := Option.map_eq_some_iff.1 h
 injection e2 with e2 e3
 injection e3 with e3 _
 dsimp only at e3
 subst e3
 obtain ⟨rs, nks, e, hL⟩ := load_reads l xs [] [] ys' roots' hload hx (by simp) (by simp)
 rw [e, List.nil_append, hL.count]
 exact List.countP_le_length
open Classical in
theorem ansA_some (h : Good M xs) (hM : M < 100000) (hM4 : 4 ≤ M) (o : SOp) (hn : o.f5.size ≤ 140737488351232) : ∃ a e ys, AnsA xs o a e ys ∧ Keeps (M + 1) xs e ys ∧ a.length < 1000000 := by
 have hk : o.f0 = 0 ∨ o.f0 = 1 ∨ o.f0 = 2 ∨ o.f0 = 3 ∨ o.f0 = 4 ∨ o.f0 = 5 ∨ o.f0 = 6 ∨ o.f0 = 7 ∨ (o.f0 ≠ 0 ∧ o.f0 ≠ 1 ∧ o.f0 ≠ 2 ∧ o.f0 ≠ 3 ∧ o.f0 ≠ 4 ∧ o.f0 ≠ 5 ∧ o.f0 ≠ 6 ∧ o.f0 ≠ 7) := by omega
 have hpos := h.tree.pos
 rcases hk with c | c | c | c | c | c | c | c | ⟨m0, m1, m2, m3, m4, m5, m6, m7⟩
 ·refine ⟨[(makeR xs (mayV o.f4 o.f5 o.f6) o.f4 o.f5 o.f6).1], _, _, ⟨fun _ => ⟨_, rfl, rfl⟩, ?_⟩, (keeps_make h (mayV o.f4 o.f5 o.f6) o.f4 o.f5 o.f6).weak, by simp⟩
  refine ⟨?_, ?_, ?_, ?_, ?_, ?_, ?_, ?_⟩ <;> intro h1 <;> omega
 ·have hT := treesL_few o.f7
  obtain ⟨r, hr, hkp⟩ := keeps_load h (by omega) (treesL o.f7) (3 * (treesL o.f7).length + 201) (chkV (treesL o.f7)) (check_is _ (few_of hT) _ (by omega)) (fun he => by
   unfold chkV at he
   split at he
   ·omega
   ·split at he
    ·exact depth_right _ 0 (by assumption)
    ·omega) (fun x hx => Nat.le_trans (hT.2 x hx) hM4)
  refine ⟨r.2.1, r.2.2, r.1, ⟨?_, fun _ => ⟨_, hr⟩, ?_⟩, hkp.weak, ?_⟩
  ·intro h1; omega
  ·refine ⟨?_, ?_, ?_, ?_, ?_, ?_, ?_⟩ <;> intro h1 <;> omega
  ·exact Nat.lt_of_le_of_lt (loadR_roots (ys := r.1) (roots := r.2.1) (e := r.2.2) hr hpos) (by omega)
 ·obtain ⟨k, r, hr, hkp⟩ := keeps_insert h o.f1 o.f3 o.f2
  refine ⟨[], r.1, r.2, ⟨?_, ?_, fun _ => ⟨rfl, k, hr⟩, ?_⟩, hkp.weak, by decide⟩
  ·intro h1; omega
  ·intro h1; omega
  ·refine ⟨?_, ?_, ?_, ?_, ?_, ?_⟩ <;> intro h1 <;> omega
 ·refine ⟨[], _, _, ⟨?_, ?_, ?_, fun _ => ⟨rfl, rfl⟩, ?_⟩, (keeps_remove h o.f1).weak, by decide⟩
  ·intro h1; omega
  ·intro h1; omega
  ·intro h1; omega
  ·refine ⟨?_, ?_, ?_, ?_, ?_⟩ <;> intro h1 <;> omega
 ·obtain ⟨k, r, hr, hkp⟩ := keeps_clone h (by omega) o.f1
  refine ⟨[r.2.1], r.2.2, r.1, ⟨?_, ?_, ?_, ?_, fun _ => ⟨_, k, rfl, hr⟩, ?_⟩, hkp.weak, by simp⟩
  ·intro h1; omega
  ·intro h1; omega
  ·intro h1; omega
  ·intro h1; omega
  ·refine ⟨?_, ?_, ?_, ?_⟩ <;> intro h1 <;> omega
 ·obtain ⟨r, hr, hkp⟩ := keeps_attr h (o.f5.size * 9 + 1) o.f1 o.f5 o.f6 _ (attr_is o.f5 hn _ (by omega))
  refine ⟨[], r.1, r.2, ⟨?_, ?_, ?_, ?_, ?_, fun _ => ⟨rfl, hr⟩, ?_⟩, hkp, by decide⟩
  ·intro h1; omega
  ·intro h1; omega
  ·intro h1; omega
  ·intro h1; omega
  ·intro h1; omega
  ·refine ⟨?_, ?_, ?_⟩ <;> intro h1 <;> omega
 ·refine ⟨[], _, _, ⟨?_, ?_, ?_, ?_, ?_, ?_, fun _ => ⟨rfl, rfl⟩, ?_⟩, (keeps_drop h o.f1 o.f5).weak, by decide⟩
  ·intro h1; omega
  ·intro h1; omega
  ·intro h1; omega
  ·intro h1; omega
  ·intro h1; omega
  ·intro h1; omega
  ·refine ⟨?_, ?_⟩ <;> intro h1 <;> omega
 ·refine ⟨[], _, _, ⟨?_, ?_, ?_, ?_, ?_, ?_, ?_, fun _ => ⟨rfl, rfl⟩, ?_⟩, (keeps_data h o.f1 o.f6).weak, by decide⟩
  ·intro h1; omega
  ·intro h1; omega
  ·intro h1; omega
  ·intro h1; omega
  ·intro h1; omega
  ·intro h1; omega
  ·intro h1; omega
  ·intro h1; omega
 ·refine ⟨[], 0, xs, ⟨?_, ?_, ?_, ?_, ?_, ?_, ?_, ?_, fun _ _ _ _ _ _ _ _ => ⟨rfl, rfl, rfl⟩⟩, .same (h.weak (Nat.le_succ M)) _, by decide⟩ <;> intro h1 <;> omega
theorem new_some (n : Int) : someB newDoc n = false := decide_eq_false (by show ¬ (0 < n ∧ n < ((1 : Nat) : Int)); omega)
theorem new_elem (n : Int) : elemB newDoc n = false := decide_eq_false (by show ¬ (0 < n ∧ n < ((1 : Nat) : Int) ∧ _); omega)
theorem ansR_new (o : SOp) (hn : o.f5.size ≤ 140737488351232) : ∃ a e yr, AnsR newDoc o a e yr := by
 have hk : o.f0 = 0 ∨ o.f0 = 1 ∨ o.f0 = 2 ∨ o.f0 = 3 ∨ o.f0 = 4 ∨ o.f0 = 5 ∨ o.f0 = 6 ∨ o.f0 = 7 ∨ (o.f0 ≠ 0 ∧ o.f0 ≠ 1 ∧ o.f0 ≠ 2 ∧ o.f0 ≠ 3 ∧ o.f0 ≠ 4 ∧ o.f0 ≠ 5 ∧ o.f0 ≠ 6 ∧ o.f0 ≠ 7) := by omega
 have hG := good_new.weak (show 0 ≤ 4 by omega)
 rcases hk with c | c | c | c | c | c | c | c | ⟨m0, m1, m2, m3, m4, m5, m6, m7⟩
 ·refine ⟨_, _, _, ⟨fun _ => ⟨_, rfl, fun W ok g h => RD_Make h hG o.f4 o.f5 o.f6 hn⟩, ?_, ?_, ?_, ?_, ?_, ?_, ?_, ?_⟩⟩ <;> intro h1 <;> omega
 ·have hT := treesL_few o.f7
  obtain ⟨r, hr, hkp⟩ := keeps_load hG (by omega) (treesL o.f7) (3 * (treesL o.f7).length + 201) (chkV (treesL o.f7)) (check_is _ (few_of hT) _ (by omega)) (fun he => by
   unfold chkV at he
   split at he
   ·omega
   ·split at he
    ·exact depth_right _ 0 (by assumption)
    ·omega) hT.2
  refine ⟨r.2.1, r.2.2, r.1, ⟨?_, fun _ W ok okl g A c h hF hd hc => Ref_Load h hG (by omega) A c hF hd hc hT.2 (by omega) _ (3 * (treesL o.f7).length + 201) _ (check_is _ (few_of hT) _ (by omega)) (refcheck_is _ (few_of hT) _ (by omega)) r hr, ?_, ?_, ?_, ?_, ?_, ?_, ?_⟩⟩ <;> intro h1 <;> omega
 ·refine ⟨[], 110, newDoc, ⟨?_, ?_, fun _ => ⟨rfl, fun W ok g h => RD_Insert_no h o.f1 o.f3 o.f2 (.inr (new_some _))⟩, ?_, ?_, ?_, ?_, ?_, ?_⟩⟩ <;> intro h1 <;> omega
 ·refine ⟨[], 110, newDoc, ⟨?_, ?_, ?_, fun _ => ⟨rfl, fun W ok g h => RD_Remove_no h o.f1 (new_some _)⟩, ?_, ?_, ?_, ?_, ?_⟩⟩ <;> intro h1 <;> omega
 ·refine ⟨[0], 110, newDoc, ⟨?_, ?_, ?_, ?_, fun _ => ⟨0, rfl, fun W ok g h => RD_Clone_no h o.f1 (new_some _)⟩, ?_, ?_, ?_, ?_⟩⟩ <;> intro h1 <;> omega
 ·refine ⟨[], 110, newDoc, ⟨?_, ?_, ?_, ?_, ?_, fun _ => ⟨rfl, fun W ok g h => RD_Attr_no h o.f1 o.f5 o.f6 (new_elem _)⟩, ?_, ?_, ?_⟩⟩ <;> intro h1 <;> omega
 ·refine ⟨[], 110, newDoc, ⟨?_, ?_, ?_, ?_, ?_, ?_, fun _ => ⟨rfl, fun W ok g h => RD_Drop_no h o.f1 o.f5 (new_elem _)⟩, ?_, ?_⟩⟩ <;> intro h1 <;> omega
 ·refine ⟨[], 110, newDoc, ⟨?_, ?_, ?_, ?_, ?_, ?_, ?_, fun _ => ⟨rfl, fun W ok g h => RD_Data_no h o.f1 o.f6 (new_some _)⟩, ?_⟩⟩ <;> intro h1 <;> omega
 ·refine ⟨[], 0, newDoc, ⟨?_, ?_, ?_, ?_, ?_, ?_, ?_, ?_, fun _ _ _ _ _ _ _ _ => ⟨rfl, rfl, rfl⟩⟩⟩ <;> intro h1 <;> omega
/-- A document of the arena's beside a new one of the answer's. -/
theorem Both.start {w W W1 : World} {g gk : Nat} {xr : List S79} (h : Has w W g xs) (hB : Below W.heap.size W W1) (hr : RDoc W1 (fun k => W.heap.size ≤ k) gk xr) : Both w W1 (fun _ => False) g gk xs xr := by
 obtain ⟨ok, hs⟩ := h
 have hs1 := hs.quiet hB
 exact ⟨ok, _, ⟨hs1.doc, hr.bound, fun k hk => ⟨hs1.own k hk, hs1.lt k hk⟩, fun k hk => ⟨Nat.le_trans hs.bel.size hk.1, hk.2⟩, fun k hk h2 => by have := hs.lt k hk; have := h2.1; omega, hs1.bel⟩, fun _ h => h.elim⟩
end
end Go.Proofs.Ytpkaliaaffgbdaa.QA
