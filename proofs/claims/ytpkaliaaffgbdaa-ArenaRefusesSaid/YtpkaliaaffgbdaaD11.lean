/- The document of package arena, along a run of calls; the calls whose answers the document fixes. -/
import Derived.Test.YtpkaliaaffgbdaaD10
import Derived.Test.YtpkaliaaffgbdaaQAx3
namespace Go.Proofs.Ytpkaliaaffgbdaa.QA
open Go.RowKit Go.Proofs.YtpkaliaaffgbdaaW.PrintWords Go.Proofs.YtpkaliaaffgbdaaW.PrintLast Go.Proofs.YtpkaliaaffgbdaaW.PrintMore
attribute [local go_sem] max2_int min2_int max_two min_two max_three min_three max_four min_four   -- for this text's walks alone
set_option linter.unusedVariables false
set_option linter.unusedSimpArgs false

open Go
/-- A document of the law's own. -/
structure St (w W : World) (ok : Nat → Prop) (g : Nat) (xs : List S79) : Prop where
  doc : IsDoc W ok g xs
  own : ∀ k, ok k → w.heap.size ≤ k
  lt : ∀ k, ok k → k < W.heap.size
  bel : Below w.heap.size w W
theorem St.op {w W W' : World} {ok : Nat → Prop} {g : Nat} {xs ys : List S79} (h : St w W ok g xs) (ht : To W W' ok g ys) : ∃ ok', St w W' ok' g ys ∧ ∀ k, k < W.heap.size → ¬ ok k → W'.heap[k]? = W.heap[k]? ∧ ¬ ok' k := by
  obtain ⟨ok', hI, hg, hl, hm⟩ := ht
  exact ⟨ok', ⟨hI, fun k hk => (hg k hk).elim (h.own k) fun h2 => Nat.le_trans h.bel.size h2, hl, hm.below h.bel h.bel.size h.own⟩, fun k hk hn => ⟨hm.block k hk hn, fun h2 => (hg k h2).elim hn fun h3 => by omega⟩⟩
theorem St.quiet {w W W' : World} {ok : Nat → Prop} {g : Nat} {xs : List S79} (h : St w W ok g xs) (hb : Below W.heap.size W W') : St w W' ok g xs :=
  ⟨h.doc.below hb, h.own, fun k hk => Nat.lt_of_lt_of_le (h.lt k hk) hb.size, below_step h.bel hb⟩
def Has (w W : World) (g : Nat) (xs : List S79) : Prop := ∃ ok, St w W ok g xs
theorem Has.quiet {w W W' : World} {g : Nat} {xs : List S79} (h : Has w W g xs) (hb : Below W.heap.size W W') : Has w W' g xs := h.imp fun _ h => h.quiet hb
theorem Has.bel {w W : World} {g : Nat} {xs : List S79} (h : Has w W g xs) : Below w.heap.size w W := by
  obtain ⟨_, h⟩ := h
  exact h.bel
theorem Has.via {w W : World} {g : Nat} {xs ys : List S79} {f : Nat} {args : Array Value} {P : Ending → Prop} (h : Has w W g xs) (hc : ∀ ok, IsDoc W ok g xs → Calls Try.prog f args W fun e w' => P e ∧ To W w' ok g ys) : Calls Try.prog f args W fun e w' => P e ∧ Has w w' g ys := by
  obtain ⟨ok, hs⟩ := h
  exact (hc ok hs.doc).mono fun e w' ⟨h1, h2⟩ => ⟨h1, (hs.op h2).imp fun _ h => h.1⟩
/-! #### the fixed calls -/
def fixP : S54 := ⟨0, 0, ⟨#[112]⟩, ⟨#[]⟩, []⟩
def fixPA : S54 := ⟨0, 0, ⟨#[112]⟩, ⟨#[]⟩, [⟨⟨#[105, 100]⟩, ⟨#[118]⟩⟩]⟩
def fixT : S54 := ⟨0, 1, ⟨#[]⟩, ⟨#[120]⟩, []⟩
def fix1 : List S79 := [⟨z54, -1, []⟩, ⟨fixP, -1, []⟩]
def fix2 : List S79 := [⟨z54, -1, [1]⟩, ⟨fixP, 0, []⟩]
def fix3 : List S79 := [⟨z54, -1, [1]⟩, ⟨fixP, 0, []⟩, ⟨fixT, -1, []⟩]
def fix4 : List S79 := [⟨z54, -1, [1]⟩, ⟨fixP, 0, [2]⟩, ⟨fixT, 1, []⟩]
def fix5 : List S79 := [⟨z54, -1, [1]⟩, ⟨fixPA, 0, [2]⟩, ⟨fixT, 1, []⟩]
def fix6 : List S79 := [⟨z54, -1, [1]⟩, ⟨fixPA, 0, [2]⟩, ⟨fixT, 1, []⟩, ⟨fixPA, -1, [4]⟩, ⟨fixT, 3, []⟩]
def fixL : List S54 := [fixPA, ⟨1, 1, ⟨#[]⟩, ⟨#[120]⟩, []⟩]
theorem fixM1 : arena_may.f 99 0 ⟨#[112]⟩ ⟨#[]⟩ = some true := by kernel_rfl
theorem fixM2 : arena_may.f 99 1 ⟨#[]⟩ ⟨#[120]⟩ = some true := by kernel_rfl
theorem fixM3 : arena_may.f 99 0 ⟨#[]⟩ ⟨#[]⟩ = some false := by kernel_rfl
theorem fixR1 : makeR newDoc true 0 ⟨#[112]⟩ ⟨#[]⟩ = (1, 0, fix1) := by kernel_rfl
theorem fixR2 : makeR fix2 true 1 ⟨#[]⟩ ⟨#[120]⟩ = (2, 0, fix3) := by kernel_rfl
theorem fixR3 : makeR fix6 false 0 ⟨#[]⟩ ⟨#[]⟩ = (0, 1, fix6) := by kernel_rfl
theorem fixI1 : insertR fix1 9 0 0 1 = some (0, fix2) := by kernel_rfl
theorem fixI2 : insertR fix2 9 1 0 1 = some (111, fix2) := by kernel_rfl
theorem fixI3 : insertR fix3 9 1 0 2 = some (0, fix4) := by kernel_rfl
theorem fixI4 : insertR fix4 9 2 0 1 = some (111, fix4) := by kernel_rfl
theorem fixA1 : attrR fix4 99 1 ⟨#[105, 100]⟩ ⟨#[118]⟩ = some (0, fix5) := by kernel_rfl
theorem fixD1 : dropR fix5 1 ⟨#[120]⟩ = (1, fix5) := by kernel_rfl
theorem fixC1 : cloneR fix5 9 1 = some (fix6, 3, 0) := by kernel_rfl
theorem fixW1 : rowsR fix6 9 0 = some fixL := by kernel_rfl
theorem fixW2 : rowsR fix6 9 3 = some fixL := by kernel_rfl
theorem fixN1 : withinF fix6 9 2 0 = some true := by kernel_rfl
theorem fixN2 : withinF fix6 9 3 0 = some false := by kernel_rfl
theorem fixV1 : removeR fix6 0 = (110, fix6) := by kernel_rfl
def fitB (xs : List S79) : Bool := (List.range xs.length).all (fun i =>
  ((rd_T79 xs i).f1 == -1 || (decide (0 ≤ (rd_T79 xs i).f1) && decide ((rd_T79 xs i).f1 < (xs.length : Int)) && (((rd_T79 xs (rd_T79 xs i).f1).f2.filter fun k => !(k == (i : Int))).length + 1 == (rd_T79 xs (rd_T79 xs i).f1).f2.length))) &&
  decide ((rd_T79 xs i).f2.length < 100000) && decide ((rd_T79 xs i).f0.f4.length < 100000)) && decide (xs.length ≤ 100000)
theorem fit_of {xs : List S79} (h : fitB xs = true) : Fit xs := by
  simp only [fitB, Bool.and_eq_true, List.all_eq_true, List.mem_range, Bool.or_eq_true, beq_iff_eq, decide_eq_true_iff] at h
  obtain ⟨h, hl⟩ := h
  refine ⟨fun i hi => ?_, fun i hi => ?_, fun i hi => ?_, hl⟩
  · have h1 := (h i hi).1.1
    rw [nd_at i hi] at h1
    rcases h1 with h1 | ⟨⟨h1, h2⟩, h3⟩
    · exact .inl h1
    · obtain ⟨p, hp⟩ := Int.eq_ofNat_of_zero_le h1
      rw [hp] at h2 h3
      have hpl : p < xs.length := by omega
      rw [nd_at p hpl] at h3
      exact .inr ⟨p, hpl, hp, h3⟩
  · have h1 := (h i hi).1.2
    rwa [nd_at i hi] at h1
  · have h1 := (h i hi).2
    rwa [nd_at i hi] at h1
section
variable {w W : World} {g : Nat} {xs : List S79}
theorem Has.len (h : Has w W g xs) {n : Int} (hn : (xs.length : Int) = n) : Calls Try.prog 30 #[.pointer (some ⟨g, 0, none⟩)] W fun e w' => e = .returned (.int .i64 n) ∧ Has w w' g xs ∧ Below W.heap.size W w' := by
  subst hn
  obtain ⟨ok, hs⟩ := h
  refine (Doc_Len hs.doc).mono ?_
  rintro e w' ⟨rfl, ⟨m, rfl⟩⟩
  exact ⟨rfl, ⟨ok, hs.quiet (pw_below_drewN (Below.refl _ _) _)⟩, pw_below_drewN (Below.refl _ _) _⟩
theorem Has.make (h : Has w W g xs) (kind : Int) (name data : ByteArray) (k : Nat) (m : Bool) (hm : arena_may.f k kind name data = some m) {r : Int × Int × List S79} (hr : makeR xs m kind name data = r) :
    Calls Try.prog 21 #[.pointer (some ⟨g, 0, none⟩), .int .i64 kind, .string name, .string data] W fun e w' => e = .returned (.tuple #[.int .i64 r.1, .int .i64 r.2.1]) ∧ Has w w' g r.2.2 := by
  subst hr
  exact h.via (P := fun e => e = _) fun ok hI => Doc_Make hI kind name data k m hm
theorem Has.insert (h : Has w W g xs) (hF : Fit xs) (k : Nat) (p a n : Int) {r : Int × List S79} (hr : insertR xs k p a n = some r) : Calls Try.prog 12 #[.pointer (some ⟨g, 0, none⟩), .int .i64 p, .int .i64 a, .int .i64 n] W fun e w' => e = .returned (.int .i64 r.1) ∧ Has w w' g r.2 :=
  h.via (P := fun e => e = _) fun ok hI => Doc_Insert hI hF k p a n r hr
theorem Has.attr (h : Has w W g xs) (hF : Fit xs) (k : Nat) (n : Int) (name value : ByteArray) {r : Int × List S79} (hr : attrR xs k n name value = some r) : Calls Try.prog 22 #[.pointer (some ⟨g, 0, none⟩), .int .i64 n, .string name, .string value] W fun e w' => e = .returned (.int .i64 r.1) ∧ Has w w' g r.2 :=
  h.via (P := fun e => e = _) fun ok hI => Doc_Attr hI hF k n name value r hr
theorem Has.drop (h : Has w W g xs) (hF : Fit xs) (n : Int) (name : ByteArray) {r : Int × List S79} (hr : dropR xs n name = r) : Calls Try.prog 27 #[.pointer (some ⟨g, 0, none⟩), .int .i64 n, .string name] W fun e w' => e = .returned (.int .i64 r.1) ∧ Has w w' g r.2 := by
  subst hr
  exact h.via (P := fun e => e = _) fun ok hI => Doc_Drop hI hF n name
theorem Has.remove (h : Has w W g xs) (hF : Fit xs) (n : Int) {r : Int × List S79} (hr : removeR xs n = r) : Calls Try.prog 17 #[.pointer (some ⟨g, 0, none⟩), .int .i64 n] W fun e w' => e = .returned (.int .i64 r.1) ∧ Has w w' g r.2 := by
  subst hr
  exact h.via (P := fun e => e = _) fun ok hI => Doc_Remove hI hF n
theorem Has.clone (h : Has w W g xs) (hF : Fit xs) (k : Nat) (n : Int) {r : List S79 × Int × Int} (hr : cloneR xs k n = some r) : Calls Try.prog 31 #[.pointer (some ⟨g, 0, none⟩), .int .i64 n] W fun e w' => e = .returned (.tuple #[.int .i64 r.2.1, .int .i64 r.2.2]) ∧ Has w w' g r.1 :=
  h.via (P := fun e => e = _) fun ok hI => Doc_Clone hI hF k n r hr
theorem Has.rows (h : Has w W g xs) (hF : Fit xs) (k : Nat) (n : Int) {r : List S54} (hr : rowsR xs k n = some r) : Calls Try.prog 11 #[.pointer (some ⟨g, 0, none⟩), .int .i64 n] W fun e w' => ∃ A c, e = .returned (.slice A r.length c) ∧ Kd.S k54 54 w' W.heap.size (fun _ => True) (.slice A r.length c) r ∧ Has w w' g xs ∧ Below W.heap.size W w' := by
  obtain ⟨ok, hs⟩ := h
  refine (Doc_Rows hs.doc hF k n r hr).mono ?_
  rintro e w' ⟨v, rfl, hS, hB⟩
  obtain ⟨A, c, rfl⟩ := Kd.S_slice hS
  exact ⟨A, c, rfl, hS, ⟨ok, hs.quiet hB⟩, hB⟩
theorem Has.parent (h : Has w W g xs) (n : Int) {r : Int} (hr : (if 0 ≤ n ∧ n < (xs.length : Int) then (rd_T79 xs n).f1 else -1) = r) : Calls Try.prog 15 #[.pointer (some ⟨g, 0, none⟩), .int .i64 n] W fun e w' => e = .returned (.int .i64 r) ∧ Has w w' g xs ∧ Below W.heap.size W w' := by
  subst hr
  obtain ⟨ok, hs⟩ := h
  refine (Doc_Parent hs.doc n).mono ?_
  rintro e w' ⟨rfl, ⟨m, rfl⟩⟩
  exact ⟨rfl, ⟨ok, hs.quiet (pw_below_drewN (Below.refl _ _) _)⟩, pw_below_drewN (Below.refl _ _) _⟩
theorem Has.within (h : Has w W g xs) (k : Nat) (n o : Int) {r : Bool} (hr : withinF xs k n o = some r) : Calls Try.prog 28 #[.pointer (some ⟨g, 0, none⟩), .int .i64 n, .int .i64 o] W fun e w' => e = .returned (.bool r) ∧ Has w w' g xs ∧ Below W.heap.size W w' := by
  obtain ⟨ok, hs⟩ := h
  refine (Doc_Within hs.doc k n o r hr).mono ?_
  rintro e w' ⟨rfl, ⟨m, rfl⟩⟩
  exact ⟨rfl, ⟨ok, hs.quiet (pw_below_drewN (Below.refl _ _) _)⟩, pw_below_drewN (Below.refl _ _) _⟩
theorem Has.new (w W : World) (hB : Below w.heap.size w W) : Calls Try.prog 18 #[] W fun e w' => ∃ g, e = .returned (.pointer (some ⟨g, 0, none⟩)) ∧ Has w w' g newDoc := by
  refine (Doc_New W).mono ?_
  rintro e w' ⟨g, rfl, hI, hb⟩
  exact ⟨g, rfl, ⟨_, hI.bound, fun k hk => Nat.le_trans hB.size hk.1, fun k hk => hk.2, below_step hB hb⟩⟩
end
theorem fixF1 : Fit fix1 := fit_of (by kernel_rfl)
theorem fixF2 : Fit fix2 := fit_of (by kernel_rfl)
theorem fixF3 : Fit fix3 := fit_of (by kernel_rfl)
theorem fixF4 : Fit fix4 := fit_of (by kernel_rfl)
theorem fixF5 : Fit fix5 := fit_of (by kernel_rfl)
theorem fixF6 : Fit fix6 := fit_of (by kernel_rfl)
/-- The rows that the document fixes, in memory. -/
theorem fixL_rows {W : World} {ga gl : Nat} (ha : W.heap[ga]? = some (.cells #[.string ⟨#[105, 100]⟩, .string ⟨#[118]⟩] 52 (0, 0))) (hl : W.heap[gl]? = some (.cells #[.int .i64 0, .int .i64 0, .string ⟨#[112]⟩, .string ⟨#[]⟩, .slice (some ⟨ga, 0, none⟩) 1 1, .int .i64 1, .int .i64 1, .string ⟨#[]⟩, .string ⟨#[120]⟩, .slice none 0 0] 54 (0, 0))) :
    Kd.R k54 54 W 0 (fun _ => True) (.slice (some ⟨gl, 0, none⟩) fixL.length 2) fixL := by
  have hne : ga ≠ gl := fun e => by rw [e, hl] at ha; injection ha with ha; injection ha with _ ha _; exact absurd ha (by decide)
  have hA : Kd.R k52 52 W 0 (fun k => True ∧ some k ≠ (Value.slice (some ⟨gl, 0, none⟩) fixL.length 2).ownBlock) (.slice (some ⟨ga, 0, none⟩) 1 1) fixPA.f4 :=
    ⟨fun k hk => ⟨trivial, fun e => hne (by simp only [Value.ownBlock] at hk e; injection hk with hk; injection e with e; omega)⟩, _, ⟨rfl, .inr ⟨ga, 1, _, rfl, Nat.zero_le _, ha, Nat.le_refl _, by decide, rfl, rfl⟩⟩, Reps.c2 (k52_mkM _ _ _ ⟨⟨#[105, 100]⟩, ⟨#[118]⟩⟩) (Reps.none _ _)⟩
  exact ⟨fun _ _ => trivial, _, ⟨rfl, .inr ⟨gl, 2, _, rfl, Nat.zero_le _, hl, Nat.le_refl _, by decide, rfl, rfl⟩⟩, Reps.c5 (k54_mkM W 0 _ fixPA hA) (Reps.c5 (k54_mkM W 0 _ ⟨1, 1, ⟨#[]⟩, ⟨#[120]⟩, []⟩ (Kd.R_nil _ _ _ _ _)) (Reps.none _ _))⟩
theorem fixSame : boltingref04_Same.f fixL fixL = some true := by simp [boltingref04_Same.f]
set_option maxHeartbeats 8000000 in
set_option maxRecDepth 100000 in
theorem fixed_calls (w : World) : Calls Try.prog 13 #[] w fun e w' => e = .returned (.bool true) ∧ Below w.heap.size w w' := by
  go_enter Try.func13, Try.ntmps13
  have k1 := Aside0.mk trivial
  have k2 := Aside0.mk trivial
  have k3 := Aside0.mk trivial
  have k4 := Aside0.mk trivial
  have k5 := Aside0.mk trivial
  have k6 := Aside0.mk trivial
  have k7 := Aside0.mk trivial
  have k8 := Aside0.mk trivial
  have k9 := Aside0.mk trivial
  have k10 := Aside0.mk trivial
  have k11 := Aside0.mk trivial
  have k12 := Aside0.mk trivial
  have k13 := Aside0.mk trivial
  have k14 := Aside0.mk trivial
  have k15 := Aside0.mk trivial
  have k16 := Aside0.mk trivial
  have k17 := Aside0.mk trivial
  have k18 := Aside0.mk trivial
  have k19 := Aside0.mk trivial
  have k20 := Aside0.mk trivial
  have k21 := Aside0.mk trivial
  go_wp2_with (first | (go_at_call 18; clear k1; refine (Has.new w w (Below.refl _ _)).mono ?_; rintro e w1 ⟨g, rfl, hS⟩; have HS := Aside0.mk hS; clear hS) | (go_at_call 30; clear k2; refine (HS.out.len (n := 1) rfl).mono ?_; rintro e w1 ⟨rfl, hS, _⟩; clear HS; have HS := Aside0.mk hS; clear hS) | (go_at_call 21; clear k3; refine (HS.out.make 0 ⟨#[112]⟩ ⟨#[]⟩ 99 true fixM1 fixR1).mono ?_; rintro e w1 ⟨rfl, hS⟩; clear HS; have HS := Aside0.mk hS; clear hS) | (go_at_call 12; clear k4; refine (HS.out.insert fixF1 9 0 0 1 fixI1).mono ?_; rintro e w1 ⟨rfl, hS⟩; clear HS; have HS := Aside0.mk hS; clear hS) | (go_at_call 12; clear k5; refine (HS.out.insert fixF2 9 1 0 1 fixI2).mono ?_; rintro e w1 ⟨rfl, hS⟩; clear HS; have HS := Aside0.mk hS; clear hS) | (go_at_call 21; clear k6; refine (HS.out.make 1 ⟨#[]⟩ ⟨#[120]⟩ 99 true fixM2 fixR2).mono ?_; rintro e w1 ⟨rfl, hS⟩; clear HS; have HS := Aside0.mk hS; clear hS) | (go_at_call 12; clear k7; refine (HS.out.insert fixF3 9 1 0 2 fixI3).mono ?_; rintro e w1 ⟨rfl, hS⟩; clear HS; have HS := Aside0.mk hS; clear hS) | (go_at_call 12; clear k8; refine (HS.out.insert fixF4 9 2 0 1 fixI4).mono ?_; rintro e w1 ⟨rfl, hS⟩; clear HS; have HS := Aside0.mk hS; clear hS) | (go_at_call 22; clear k9; refine (HS.out.attr fixF4 99 1 ⟨#[105, 100]⟩ ⟨#[118]⟩ fixA1).mono ?_; rintro e w1 ⟨rfl, hS⟩; clear HS; have HS := Aside0.mk hS; clear hS) | (go_at_call 27; clear k10; refine (HS.out.drop fixF5 1 ⟨#[120]⟩ fixD1).mono ?_; rintro e w1 ⟨rfl, hS⟩; clear HS; have HS := Aside0.mk hS; clear hS) | (go_at_call 31; clear k11; refine (HS.out.clone fixF5 9 1 fixC1).mono ?_; rintro e w1 ⟨rfl, hS⟩; clear HS; have HS := Aside0.mk hS; clear hS) | (go_at_call 21; clear k12; refine (HS.out.make 0 ⟨#[]⟩ ⟨#[]⟩ 99 false fixM3 fixR3).mono ?_; rintro e w1 ⟨rfl, hS⟩; clear HS; have HS := Aside0.mk hS; clear hS) | (go_at_call 11; clear k13; have hL := fixL_rows (W := (w1.alloc (.cells #[.string ⟨#[105, 100]⟩, .string ⟨#[118]⟩] 52)).alloc (.cells #[.int .i64 0, .int .i64 0, .string ⟨#[112]⟩, .string ⟨#[]⟩, .slice (some ⟨w1.heap.size, 0, none⟩) 1 1, .int .i64 1, .int .i64 1, .string ⟨#[]⟩, .string ⟨#[120]⟩, .slice none 0 0] 54)) (ga := w1.heap.size) (gl := w1.heap.size + 1) (blk_alloc (blk_new _ _) _) (blk_new1 _ _ _); refine ((HS.out.quiet (below_alloc (below_alloc (Below.refl _ _) _) _)).rows fixF6 9 0 fixW1).mono ?_; rintro e w1 ⟨A, c, rfl, hV, hS, hB⟩; clear HS; have HS := Aside0.mk hS; have HL := Aside0.mk (Kd.C_below (Kd.R_reads' hL).2.2 hB); have HV := Aside0.mk (Kd.S_reads' hV); clear hS hL hV hB) | (go_at_call 11; clear k14; refine (HS.out.rows fixF6 9 3 fixW2).mono ?_; rintro e w1 ⟨A, c, rfl, hV, hS, hB⟩; clear HS; have HS := Aside0.mk hS; have hL := Kd.C_below HL.out hB; clear HL; have HL := Aside0.mk hL; have HV := Aside0.mk (Kd.S_reads' hV); clear hS hL hV hB) | (go_at_call 16; clear k15; refine (boltingref04_Same.calls A c fixL _ 2 fixL true w1 HV.out.2.2 HV.out.2.1 HL.out (Nat.le_refl _) fixSame).mono ?_; rintro e w1 ⟨rfl, hB⟩; have hS := HS.out.quiet hB; clear HS; have HS := Aside0.mk hS; have hL := Kd.C_below HL.out hB; clear HL; have HL := Aside0.mk hL; clear hS hB hL HV) | (go_at_call 16; clear k21; refine (boltingref04_Same.calls A c fixL _ 2 fixL true w1 HV.out.2.2 HV.out.2.1 HL.out (Nat.le_refl _) fixSame).mono ?_; rintro e w1 ⟨rfl, hB⟩; have hS := HS.out.quiet hB; clear HS; have HS := Aside0.mk hS; have hL := Kd.C_below HL.out hB; clear HL; have HL := Aside0.mk hL; clear hS hB hL HV) | (go_at_call 15; clear k16; refine (HS.out.parent 2 (r := 1) (by kernel_rfl)).mono ?_; rintro e w1 ⟨rfl, hS, hB⟩; clear HS; have HS := Aside0.mk hS; have hL := Kd.C_below HL.out hB; clear HL; have HL := Aside0.mk hL; clear hS hB hL) | (go_at_call 15; clear k17; refine (HS.out.parent 3 (r := -1) (by kernel_rfl)).mono ?_; rintro e w1 ⟨rfl, hS, hB⟩; clear HS; have HS := Aside0.mk hS; have hL := Kd.C_below HL.out hB; clear HL; have HL := Aside0.mk hL; clear hS hB hL) | (go_at_call 28; clear k18; refine (HS.out.within 9 2 0 fixN1).mono ?_; rintro e w1 ⟨rfl, hS, hB⟩; clear HS; have HS := Aside0.mk hS; have hL := Kd.C_below HL.out hB; clear HL; have HL := Aside0.mk hL; clear hS hB hL) | (go_at_call 28; clear k19; refine (HS.out.within 9 3 0 fixN2).mono ?_; rintro e w1 ⟨rfl, hS, hB⟩; clear HS; have HS := Aside0.mk hS; have hL := Kd.C_below HL.out hB; clear HL; have HL := Aside0.mk hL; clear hS hB hL) | (go_at_call 17; clear k20; refine (HS.out.remove fixF6 0 fixV1).mono ?_; rintro e w1 ⟨rfl, hS⟩; clear HS; have HS := Aside0.mk hS; clear hS))
  go_ret
  exact ⟨rfl, HS.out.bel⟩
end Go.Proofs.Ytpkaliaaffgbdaa.QA
