/- The document of package arena, along a run of calls; the calls whose answers the document fixes. []string as an argument: each text, its weight. []Op as an argument: a script. The law ArenaRefuses: one call of a script. -/
import Derived.Test.YtpkaliaaffgbdaaM5
import Derived.Test.YtpkaliaaffgbdaaQAx3
import Derived.Deep.Slices
import Derived.Deep.Fields
import Derived.ChangeSame
import Derived.WalkKit
import Derived.ProofKit
import Derived.OpenShut
import Derived.SizedLaws
namespace Go.Proofs.Ytpkaliaaffgbdaa.QA
open Go.RowKit Go.Proofs.YtpkaliaaffgbdaaW.PrintWords Go.Proofs.YtpkaliaaffgbdaaW.PrintLast Go.Proofs.YtpkaliaaffgbdaaW.PrintMore
attribute [local go_sem] max2_int min2_int max_two min_two max_three min_three max_four min_four   -- for this text's walks alone
set_option linter.unusedVariables false
set_option linter.unusedSimpArgs false

open Go
/-- A document of the law's own. -/
structure St (w W : World) (ok : Nat → Prop) (g : Nat) (xs : List S79) : Prop where
 doc : IsDoc W ok g xs
 own : ∀ k, ok k → w.heap.size ≤ k
 lt : ∀ k, ok k → k < W.heap.size
 bel : Below w.heap.size w W
theorem St.op {w W W' : World} {ok : Nat → Prop} {g : Nat} {xs ys : List S79} (h : St w W ok g xs) (ht : To W W' ok g ys) : ∃ ok', St w W' ok' g ys ∧ ∀ k, k < W.heap.size → ¬ ok k → W'.heap[k]? = W.heap[k]? ∧ ¬ ok' k := by
 obtain ⟨ok', hI, hg, hl, hm⟩ := ht
 exact ⟨ok', ⟨hI, fun k hk => (hg k hk).elim (h.own k) fun h2 => Nat.le_trans h.bel.size h2, hl, hm.below h.bel h.bel.size h.own⟩, fun k hk hn => ⟨hm.block k hk hn, fun h2 => (hg k h2).elim hn fun h3 => by omega⟩⟩
theorem St.quiet {w W W' : World} {ok : Nat → Prop} {g : Nat} {xs : List S79} (h : St w W ok g xs) (hb : Below W.heap.size W W') : St w W' ok g xs :=
 ⟨h.doc.below hb, h.own, fun k hk => Nat.lt_of_lt_of_le (h.lt k hk) hb.size, below_step h.bel hb⟩
def Has (w W : World) (g : Nat) (xs : List S79) : Prop := ∃ ok, St w W ok g xs
theorem Has.quiet {w W W' : World} {g : Nat} {xs : List S79} (h : Has w W g xs) (hb : Below W.heap.size W W') : Has w W' g xs := h.imp fun _ h => h.quiet hb
theorem Has.bel {w W : World} {g : Nat} {xs : List S79} (h : Has w W g xs) : Below w.heap.size w W := by
 obtain ⟨_, h⟩ := h
 exact h.bel
theorem Has.via {w W : World} {g : Nat} {xs ys : List S79} {f : Nat} {args : Array Value} {P : Ending → Prop} (h : Has w W g xs) (hc : ∀ ok, IsDoc W ok g xs → Calls Try.prog f args W fun e w' => P e ∧ To W w' ok g ys) : Calls Try.prog f args W fun e w' => P e ∧ Has w w' g ys := by
 obtain ⟨ok, hs⟩ := h
 exact (hc ok hs.doc).mono fun e w' ⟨h1, h2⟩ => ⟨h1, (hs.op h2).imp fun _ h => h.1⟩
/-! #### the fixed calls -/
def fixP : S54 := ⟨0, 0, ⟨#[112]⟩, ⟨#[]⟩, []⟩
def fixPA : S54 := ⟨0, 0, ⟨#[112]⟩, ⟨#[]⟩, [⟨⟨#[105, 100]⟩, ⟨#[118]⟩⟩]⟩
def fixT : S54 := ⟨0, 1, ⟨#[]⟩, ⟨#[120]⟩, []⟩
def fix1 : List S79 := [⟨z54, -1, []⟩, ⟨fixP, -1, []⟩]
def fix2 : List S79 := [⟨z54, -1, [1]⟩, ⟨fixP, 0, []⟩]
def fix3 : List S79 := [⟨z54, -1, [1]⟩, ⟨fixP, 0, []⟩, ⟨fixT, -1, []⟩]
def fix4 : List S79 := [⟨z54, -1, [1]⟩, ⟨fixP, 0, [2]⟩, ⟨fixT, 1, []⟩]
def fix5 : List S79 := [⟨z54, -1, [1]⟩, ⟨fixPA, 0, [2]⟩, ⟨fixT, 1, []⟩]
def fix6 : List S79 := [⟨z54, -1, [1]⟩, ⟨fixPA, 0, [2]⟩, ⟨fixT, 1, []⟩, ⟨fixPA, -1, [4]⟩, ⟨fixT, 3, []⟩]
def fixL : List S54 := [fixPA, ⟨1, 1, ⟨#[]⟩, ⟨#[120]⟩, []⟩]
theorem fixM1 : arena_may.f 99 0 ⟨#[112]⟩ ⟨#[]⟩ = some true := by kernel_rfl
theorem fixM2 : arena_may.f 99 1 ⟨#[]⟩ ⟨#[120]⟩ = some true := by kernel_rfl
theorem fixM3 : arena_may.f 99 0 ⟨#[]⟩ ⟨#[]⟩ = some false := by kernel_rfl
theorem fixR1 : makeR newDoc true 0 ⟨#[112]⟩ ⟨#[]⟩ = (1, 0, fix1) := by kernel_rfl
theorem fixR2 : makeR fix2 true 1 ⟨#[]⟩ ⟨#[120]⟩ = (2, 0, fix3) := by kernel_rfl
theorem fixR3 : makeR fix6 false 0 ⟨#[]⟩ ⟨#[]⟩ = (0, 1, fix6) := by kernel_rfl
theorem fixI1 : insertR fix1 9 0 0 1 = some (0, fix2) := by kernel_rfl
theorem fixI2 : insertR fix2 9 1 0 1 = some (111, fix2) := by kernel_rfl
theorem fixI3 : insertR fix3 9 1 0 2 = some (0, fix4) := by kernel_rfl
theorem fixI4 : insertR fix4 9 2 0 1 = some (111, fix4) := by kernel_rfl
theorem fixA1 : attrR fix4 99 1 ⟨#[105, 100]⟩ ⟨#[118]⟩ = some (0, fix5) := by kernel_rfl
theorem fixD1 : dropR fix5 1 ⟨#[120]⟩ = (1, fix5) := by kernel_rfl
theorem fixC1 : cloneR fix5 9 1 = some (fix6, 3, 0) := by kernel_rfl
theorem fixW1 : rowsR fix6 9 0 = some fixL := by kernel_rfl
theorem fixW2 : rowsR fix6 9 3 = some fixL := by kernel_rfl
theorem fixN1 : withinF fix6 9 2 0 = some true := by kernel_rfl
theorem fixN2 : withinF fix6 9 3 0 = some false := by kernel_rfl
theorem fixV1 : removeR fix6 0 = (110, fix6) := by kernel_rfl
def fitB (xs : List S79) : Bool := (List.range xs.length).all (fun i =>
 ((rd_T79 xs i).f1 == -1 || (decide (0 ≤ (rd_T79 xs i).f1) && decide ((rd_T79 xs i).f1 < (xs.length : Int)) && (((rd_T79 xs (rd_T79 xs i).f1).f2.filter fun k => !(k == (i : Int))).length + 1 == (rd_T79 xs (rd_T79 xs i).f1).f2.length))) &&
 decide ((rd_T79 xs i).f2.length < 100000) && decide ((rd_T79 xs i).f0.f4.length < 100000)) && decide (xs.length ≤ 100000)
theorem fit_of {xs : List S79} (h : fitB xs = true) : Fit xs := by
 simp only [fitB, Bool.and_eq_true, List.all_eq_true, List.mem_range, Bool.or_eq_true, beq_iff_eq, decide_eq_true_iff] at h
 obtain ⟨h, hl⟩ := h
 refine ⟨fun i hi => ?_, fun i hi => ?_, fun i hi => ?_, hl⟩
 ·have h1 := (h i hi).1.1
  rw [nd_at i hi] at h1
  rcases h1 with h1 | ⟨⟨h1, h2⟩, h3⟩
  ·exact .inl h1
  ·obtain ⟨p, hp⟩ := Int.eq_ofNat_of_zero_le h1
   rw [hp] at h2 h3
   have hpl : p < xs.length := by omega
   rw [nd_at p hpl] at h3
   exact .inr ⟨p, hpl, hp, h3⟩
 ·have h1 := (h i hi).1.2
  rwa [nd_at i hi] at h1
 ·have h1 := (h i hi).2
  rwa [nd_at i hi] at h1
section
variable {w W : World} {g : Nat} {xs : List S79}
theorem Has.len (h : Has w W g xs) {n : Int} (hn : (xs.length : Int) = n) : Calls Try.prog 30 #[.pointer (some ⟨g, 0, none⟩)] W fun e w' => e = .returned (.int .i64 n) ∧ Has w w' g xs ∧ Below W.heap.size W w' := by
 subst hn
 obtain ⟨ok, hs⟩ := h
 refine (Doc_Len hs.doc).mono ?_
 rintro e w' ⟨rfl, ⟨m, rfl⟩⟩
 exact ⟨rfl, ⟨ok, hs.quiet (pw_below_drewN (Below.refl _ _) _)⟩, pw_below_drewN (Below.refl _ _) _⟩
theorem Has.make (h : Has w W g xs) (kind : Int) (name data : ByteArray) (k : Nat) (m : Bool) (hm : arena_may.f k kind name data = some m) {r : Int × Int × List S79} (hr : makeR xs m kind name data = r) :
  Calls Try.prog 21 #[.pointer (some ⟨g, 0, none⟩), .int .i64 kind, .string name, .string data] W fun e w' => e = .returned (.tuple #[.int .i64 r.1, .int .i64 r.2.1]) ∧ Has w w' g r.2.2 := by
 subst hr
 exact h.via (P := fun e => e = _) fun ok hI => Doc_Make hI kind name data k m hm
theorem Has.insert (h : Has w W g xs) (hF : Fit xs) (k : Nat) (p a n : Int) {r : Int × List S79} (hr : insertR xs k p a n = some r) : Calls Try.prog 12 #[.pointer (some ⟨g, 0, none⟩), .int .i64 p, .int .i64 a, .int .i64 n] W fun e w' => e = .returned (.int .i64 r.1) ∧ Has w w' g r.2 :=
 h.via (P := fun e => e = _) fun ok hI => Doc_Insert hI hF k p a n r hr
theorem Has.attr (h : Has w W g xs) (hF : Fit xs) (k : Nat) (n : Int) (name value : ByteArray) {r : Int × List S79} (hr : attrR xs k n name value = some r) : Calls Try.prog 22 #[.pointer (some ⟨g, 0, none⟩), .int .i64 n, .string name, .string value] W fun e w' => e = .returned (.int .i64 r.1) ∧ Has w w' g r.2 :=
 h.via (P := fun e => e = _) fun ok hI => Doc_Attr hI hF k n name value r hr
theorem Has.drop (h : Has w W g xs) (hF : Fit xs) (n : Int) (name : ByteArray) {r : Int × List S79} (hr : dropR xs n name = r) : Calls Try.prog 27 #[.pointer (some ⟨g, 0, none⟩), .int .i64 n, .string name] W fun e w' => e = .returned (.int .i64 r.1) ∧ Has w w' g r.2 := by
 subst hr
 exact h.via (P := fun e => e = _) fun ok hI => Doc_Drop hI hF n name
theorem Has.remove (h : Has w W g xs) (hF : Fit xs) (n : Int) {r : Int × List S79} (hr : removeR xs n = r) : Calls Try.prog 17 #[.pointer (some ⟨g, 0, none⟩), .int .i64 n] W fun e w' => e = .returned (.int .i64 r.1) ∧ Has w w' g r.2 := by
 subst hr
 exact h.via (P := fun e => e = _) fun ok hI => Doc_Remove hI hF n
theorem Has.clone (h : Has w W g xs) (hF : Fit xs) (k : Nat) (n : Int) {r : List S79 × Int × Int} (hr : cloneR xs k n = some r) : Calls Try.prog 31 #[.pointer (some ⟨g, 0, none⟩), .int .i64 n] W fun e w' => e = .returned (.tuple #[.int .i64 r.2.1, .int .i64 r.2.2]) ∧ Has w w' g r.1 :=
 h.via (P := fun e => e = _) fun ok hI => Doc_Clone hI hF k n r hr
theorem Has.rows (h : Has w W g xs) (hF : Fit xs) (k : Nat) (n : Int) {r : List S54} (hr : rowsR xs k n = some r) : Calls Try.prog 11 #[.pointer (some ⟨g, 0, none⟩), .int .i64 n] W fun e w' => ∃ A c, e = .returned (.slice A r.length c) ∧ Kd.S k54 54 w' W.heap.size (fun _ => True) (.slice A r.length c) r ∧ Has w w' g xs ∧ Below W.heap.size W w' := by
 obtain ⟨ok, hs⟩ := h
 refine (Doc_Rows hs.doc hF k n r hr).mono ?_
 rintro e w' ⟨v, rfl, hS, hB⟩
 obtain ⟨A, c, rfl⟩ := Kd.S_slice hS
 exact ⟨A, c, rfl, hS, ⟨ok, hs.quiet hB⟩, hB⟩
theorem Has.parent (h : Has w W g xs) (n : Int) {r : Int} (hr : (if 0 ≤ n ∧ n < (xs.length : Int) then (rd_T79 xs n).f1 else -1) = r) : Calls Try.prog 15 #[.pointer (some ⟨g, 0, none⟩), .int .i64 n] W fun e w' => e = .returned (.int .i64 r) ∧ Has w w' g xs ∧ Below W.heap.size W w' := by
 subst hr
 obtain ⟨ok, hs⟩ := h
 refine (Doc_Parent hs.doc n).mono ?_
 rintro e w' ⟨rfl, ⟨m, rfl⟩⟩
 exact ⟨rfl, ⟨ok, hs.quiet (pw_below_drewN (Below.refl _ _) _)⟩, pw_below_drewN (Below.refl _ _) _⟩
theorem Has.within (h : Has w W g xs) (k : Nat) (n o : Int) {r : Bool} (hr : withinF xs k n o = some r) : Calls Try.prog 28 #[.pointer (some ⟨g, 0, none⟩), .int .i64 n, .int .i64 o] W fun e w' => e = .returned (.bool r) ∧ Has w w' g xs ∧ Below W.heap.size W w' := by
 obtain ⟨ok, hs⟩ := h
 refine (Doc_Within hs.doc k n o r hr).mono ?_
 rintro e w' ⟨rfl, ⟨m, rfl⟩⟩
 exact ⟨rfl, ⟨ok, hs.quiet (pw_below_drewN (Below.refl _ _) _)⟩, pw_below_drewN (Below.refl _ _) _⟩
theorem Has.new (w W : World) (hB : Below w.heap.size w W) : Calls Try.prog 18 #[] W fun e w' => ∃ g, e = .returned (.pointer (some ⟨g, 0, none⟩)) ∧ Has w w' g newDoc := by
 refine (Doc_New W).mono ?_
 rintro e w' ⟨g, rfl, hI, hb⟩
 exact ⟨g, rfl, ⟨_, hI.bound, fun k hk => Nat.le_trans hB.size hk.1, fun k hk => hk.2, below_step hB hb⟩⟩
end
theorem fixF1 : Fit fix1 := fit_of (by kernel_rfl)
theorem fixF2 : Fit fix2 := fit_of (by kernel_rfl)
theorem fixF3 : Fit fix3 := fit_of (by kernel_rfl)
theorem fixF4 : Fit fix4 := fit_of (by kernel_rfl)
theorem fixF5 : Fit fix5 := fit_of (by kernel_rfl)
theorem fixF6 : Fit fix6 := fit_of (by kernel_rfl)
/-- The rows that the document fixes, in memory. -/
theorem fixL_rows {W : World} {ga gl : Nat} (ha : W.heap[ga]? = some (.cells #[.string ⟨#[105, 100]⟩, .string ⟨#[118]⟩] 52 (0, 0))) (hl : W.heap[gl]? = some (.cells #[.int .i64 0, .int .i64 0, .string ⟨#[112]⟩, .string ⟨#[]⟩, .slice (some ⟨ga, 0, none⟩) 1 1, .int .i64 1, .int .i64 1, .string ⟨#[]⟩, .string ⟨#[120]⟩, .slice none 0 0] 54 (0, 0))) :
  Kd.R k54 54 W 0 (fun _ => True) (.slice (some ⟨gl, 0, none⟩) fixL.length 2) fixL := by
 have hne : ga ≠ gl := fun e => by rw [e, hl] at ha; injection ha with ha; injection ha with _ ha _; exact absurd ha (by decide)
 have hA : Kd.R k52 52 W 0 (fun k => True ∧ some k ≠ (Value.slice (some ⟨gl, 0, none⟩) fixL.length 2).ownBlock) (.slice (some ⟨ga, 0, none⟩) 1 1) fixPA.f4 :=
  ⟨fun k hk => ⟨trivial, fun e => hne (by simp only [Value.ownBlock] at hk e; injection hk with hk; injection e with e; omega)⟩, _, ⟨rfl, .inr ⟨ga, 1, _, rfl, Nat.zero_le _, ha, Nat.le_refl _, by decide, rfl, rfl⟩⟩, Reps.c2 (k52_mkM _ _ _ ⟨⟨#[105, 100]⟩, ⟨#[118]⟩⟩) (Reps.none _ _)⟩
 exact ⟨fun _ _ => trivial, _, ⟨rfl, .inr ⟨gl, 2, _, rfl, Nat.zero_le _, hl, Nat.le_refl _, by decide, rfl, rfl⟩⟩, Reps.c5 (k54_mkM W 0 _ fixPA hA) (Reps.c5 (k54_mkM W 0 _ ⟨1, 1, ⟨#[]⟩, ⟨#[120]⟩, []⟩ (Kd.R_nil _ _ _ _ _)) (Reps.none _ _))⟩
theorem fixSame : boltingref04_Same.f fixL fixL = some true := by simp [boltingref04_Same.f]
set_option maxHeartbeats 8000000 in
set_option maxRecDepth 100000 in
theorem fixed_calls (w : World) : Calls Try.prog 13 #[] w fun e w' => e = .returned (.bool true) ∧ Below w.heap.size w w' := by
 go_enter Try.func13, Try.ntmps13
 have k1 := Aside0.mk trivial
 have k2 := Aside0.mk trivial
 have k3 := Aside0.mk trivial
 have k4 := Aside0.mk trivial
 have k5 := Aside0.mk trivial
 have k6 := Aside0.mk trivial
 have k7 := Aside0.mk trivial
 have k8 := Aside0.mk trivial
 have k9 := Aside0.mk trivial
 have k10 := Aside0.mk trivial
 have k11 := Aside0.mk trivial
 have k12 := Aside0.mk trivial
 have k13 := Aside0.mk trivial
 have k14 := Aside0.mk trivial
 have k15 := Aside0.mk trivial
 have k16 := Aside0.mk trivial
 have k17 := Aside0.mk trivial
 have k18 := Aside0.mk trivial
 have k19 := Aside0.mk trivial
 have k20 := Aside0.mk trivial
 have k21 := Aside0.mk trivial
 go_wp2_with (first | (go_at_call 18; clear k1; refine (Has.new w w (Below.refl _ _)).mono ?_; rintro e w1 ⟨g, rfl, hS⟩; have HS := Aside0.mk hS; clear hS) | (go_at_call 30; clear k2; refine (HS.out.len (n := 1) rfl).mono ?_; rintro e w1 ⟨rfl, hS, _⟩; clear HS; have HS := Aside0.mk hS; clear hS) | (go_at_call 21; clear k3; refine (HS.out.make 0 ⟨#[112]⟩ ⟨#[]⟩ 99 true fixM1 fixR1).mono ?_; rintro e w1 ⟨rfl, hS⟩; clear HS; have HS := Aside0.mk hS; clear hS) | (go_at_call 12; clear k4; refine (HS.out.insert fixF1 9 0 0 1 fixI1).mono ?_; rintro e w1 ⟨rfl, hS⟩; clear HS; have HS := Aside0.mk hS; clear hS) | (go_at_call 12; clear k5; refine (HS.out.insert fixF2 9 1 0 1 fixI2).mono ?_; rintro e w1 ⟨rfl, hS⟩; clear HS; have HS := Aside0.mk hS; clear hS) | (go_at_call 21; clear k6; refine (HS.out.make 1 ⟨#[]⟩ ⟨#[120]⟩ 99 true fixM2 fixR2).mono ?_; rintro e w1 ⟨rfl, hS⟩; clear HS; have HS := Aside0.mk hS; clear hS) | (go_at_call 12; clear k7; refine (HS.out.insert fixF3 9 1 0 2 fixI3).mono ?_; rintro e w1 ⟨rfl, hS⟩; clear HS; have HS := Aside0.mk hS; clear hS) | (go_at_call 12; clear k8; refine (HS.out.insert fixF4 9 2 0 1 fixI4).mono ?_; rintro e w1 ⟨rfl, hS⟩; clear HS; have HS := Aside0.mk hS; clear hS) | (go_at_call 22; clear k9; refine (HS.out.attr fixF4 99 1 ⟨#[105, 100]⟩ ⟨#[118]⟩ fixA1).mono ?_; rintro e w1 ⟨rfl, hS⟩; clear HS; have HS := Aside0.mk hS; clear hS) | (go_at_call 27; clear k10; refine (HS.out.drop fixF5 1 ⟨#[120]⟩ fixD1).mono ?_; rintro e w1 ⟨rfl, hS⟩; clear HS; have HS := Aside0.mk hS; clear hS) | (go_at_call 31; clear k11; refine (HS.out.clone fixF5 9 1 fixC1).mono ?_; rintro e w1 ⟨rfl, hS⟩; clear HS; have HS := Aside0.mk hS; clear hS) | (go_at_call 21; clear k12; refine (HS.out.make 0 ⟨#[]⟩ ⟨#[]⟩ 99 false fixM3 fixR3).mono ?_; rintro e w1 ⟨rfl, hS⟩; clear HS; have HS := Aside0.mk hS; clear hS) | (go_at_call 11; clear k13; have hL := fixL_rows (W := (w1.alloc (.cells #[.string ⟨#[105, 100]⟩, .string ⟨#[118]⟩] 52)).alloc (.cells #[.int .i64 0, .int .i64 0, .string ⟨#[112]⟩, .string ⟨#[]⟩, .slice (some ⟨w1.heap.size, 0, none⟩) 1 1, .int .i64 1, .int .i64 1, .string ⟨#[]⟩, .string ⟨#[120]⟩, .slice none 0 0] 54)) (ga := w1.heap.size) (gl := w1.heap.size + 1) (blk_alloc (blk_new _ _) _) (blk_new1 _ _ _); refine ((HS.out.quiet (below_alloc (below_alloc (Below.refl _ _) _) _)).rows fixF6 9 0 fixW1).mono ?_; rintro e w1 ⟨A, c, rfl, hV, hS, hB⟩; clear HS; have HS := Aside0.mk hS; have HL := Aside0.mk (Kd.C_below (Kd.R_reads' hL).2.2 hB); have HV := Aside0.mk (Kd.S_reads' hV); clear hS hL hV hB) | (go_at_call 11; clear k14; refine (HS.out.rows fixF6 9 3 fixW2).mono ?_; rintro e w1 ⟨A, c, rfl, hV, hS, hB⟩; clear HS; have HS := Aside0.mk hS; have hL := Kd.C_below HL.out hB; clear HL; have HL := Aside0.mk hL; have HV := Aside0.mk (Kd.S_reads' hV); clear hS hL hV hB) | (go_at_call 16; clear k15; refine (boltingref04_Same.calls A c fixL _ 2 fixL true w1 HV.out.2.2 HV.out.2.1 HL.out (Nat.le_refl _) fixSame).mono ?_; rintro e w1 ⟨rfl, hB⟩; have hS := HS.out.quiet hB; clear HS; have HS := Aside0.mk hS; have hL := Kd.C_below HL.out hB; clear HL; have HL := Aside0.mk hL; clear hS hB hL HV) | (go_at_call 16; clear k21; refine (boltingref04_Same.calls A c fixL _ 2 fixL true w1 HV.out.2.2 HV.out.2.1 HL.out (Nat.le_refl _) fixSame).mono ?_; rintro e w1 ⟨rfl, hB⟩; have hS := HS.out.quiet hB; clear HS; have HS := Aside0.mk hS; have hL := Kd.C_below HL.out hB; clear HL; have HL := Aside0.mk hL; clear hS hB hL HV) | (go_at_call 15; clear k16; refine (HS.out.parent 2 (r := 1) (by kernel_rfl)).mono ?_; rintro e w1 ⟨rfl, hS, hB⟩; clear HS; have HS := Aside0.mk hS; have hL := Kd.C_below HL.out hB; clear HL; have HL := Aside0.mk hL; clear hS hB hL) | (go_at_call 15; clear k17; refine (HS.out.parent 3 (r := -1) (by kernel_rfl)).mono ?_; rintro e w1 ⟨rfl, hS, hB⟩; clear HS; have HS := Aside0.mk hS; have hL := Kd.C_below HL.out hB; clear HL; have HL := Aside0.mk hL; clear hS hB hL) | (go_at_call 28; clear k18; refine (HS.out.within 9 2 0 fixN1).mono ?_; rintro e w1 ⟨rfl, hS, hB⟩; clear HS; have HS := Aside0.mk hS; have hL := Kd.C_below HL.out hB; clear HL; have HL := Aside0.mk hL; clear hS hB hL) | (go_at_call 28; clear k19; refine (HS.out.within 9 3 0 fixN2).mono ?_; rintro e w1 ⟨rfl, hS, hB⟩; clear HS; have HS := Aside0.mk hS; have hL := Kd.C_below HL.out hB; clear HL; have HL := Aside0.mk hL; clear hS hB hL) | (go_at_call 17; clear k20; refine (HS.out.remove fixF6 0 fixV1).mono ?_; rintro e w1 ⟨rfl, hS⟩; clear HS; have HS := Aside0.mk hS; clear hS))
 go_ret
 exact ⟨rfl, HS.out.bel⟩
end Go.Proofs.Ytpkaliaaffgbdaa.QA
namespace Go.Proofs.Ytpkaliaaffgbdaa.QA
open Go.RowKit Go.Proofs.YtpkaliaaffgbdaaW.PrintWords Go.Proofs.YtpkaliaaffgbdaaW.PrintLast Go.Proofs.YtpkaliaaffgbdaaW.PrintMore
attribute [local go_sem] max2_int min2_int max_two min_two max_three min_three max_four min_four   -- for this text's walks alone
set_option linter.unusedVariables false
set_option linter.unusedSimpArgs false

set_option maxRecDepth 100000
open Go
section
open Go.ChangeShapes Go.WideShapes Go.Deep
variable {H : Type} {enc : TypeId × Value → H} {w : World} {base : Nat} {held : Bool}
/-- A slice as an argument: a row of elements that are read, each with its datum. -/
theorem open_rowKD {α : Type} [Inhabited α] (d : Kd α) (OK : DataW H → α → Prop) {t e : TypeId} {fuel : Nat} {cs : List Value} {x : DataW H × List MemPlace} (ht : Try.prog.underlying t = some (.slice e)) (hsz : Try.prog.cellsOf e = d.sz)
  (hel : ∀ n cs x, DataW.trod enc Try.prog w base (fun _ => true) held n e cs = some x → ∃ p : α, d.K w p cs ∧ OK x.1 p)
  (h : DataW.trod enc Try.prog w base (fun _ => true) held fuel t cs = some x) :
  ∃ (A : Option Addr) (c : Nat) (l : List α), cs = [.slice A l.length c] ∧ l.length ≤ c ∧ c ≤ maxLen ∧ Kd.C d w A l.length l ∧
   ((x.1 = .nil ∧ l = []) ∨ ∃ (D : Nat → DataW H) (sp : List (DataW H)), x.1 = .slice ((List.range l.length).map D) sp ∧ ∀ (i : Nat) (h : i < l.length), OK (D i) l[i]) := by
 rcases open_slice ht h with ⟨rfl, rfl⟩ | ⟨a, len, cap, m, n, D, Pl, rfl, _, hl, hm, hmm, hxx, hi⟩
 ·exact ⟨none, 0, [], rfl, Nat.le_refl _, Nat.zero_le _, ⟨rfl, by simp, fun h => absurd h (by simp)⟩, .inl ⟨rfl, rfl⟩⟩
 ·have hlm : len ≤ m := by
   rw [hmm]
   split
   ·exact hl
   ·exact Nat.le_refl _
  have hch : ∀ i, ∃ p : α, i < len → OK (D i) p ∧ ∃ c, c.length = d.sz ∧ d.K w p c ∧ ∀ j u, c[j]? = some u → w.cell? (a.add (i * d.sz + j)) = some u := by
   intro i
   by_cases hil : i < len
   ·obtain ⟨cs', hc, ht'⟩ := hi i (by omega)
    obtain ⟨p, hK, hOK⟩ := hel _ _ _ ht'
    obtain ⟨_, hcl, hat⟩ := World.cells?_some hc
    refine ⟨p, fun _ => ⟨hOK, cs', d.K_len hK, hK, fun j u hj => ?_⟩⟩
    have hjl : j < cs'.length := by
     rcases Nat.lt_or_ge j cs'.length with h' | h'
     ·exact h'
     ·rw [List.getElem?_eq_none h'] at hj; cases hj
    have h1 := hat j (by omega)
    rw [hsz] at h1
    rw [← Go.Deep.add_add, h1, hj]
   ·exact ⟨default, fun h => absurd h hil⟩
  have hf := fun i => Classical.choose_spec (hch i)
  have hlen : ((List.range len).map fun i => Classical.choose (hch i)).length = len := by simp
  refine ⟨some a, cap, (List.range len).map fun i => Classical.choose (hch i), by rw [hlen], by rw [hlen]; exact hl, hm, ⟨rfl, ?_, fun _ => ⟨a, rfl, fun j p hj => ?_⟩⟩, .inr ⟨D, _, by rw [hxx, hlen], fun i h => ?_⟩⟩
  ·rw [hlen]; unfold maxLen at hm; omega
  ·rw [List.getElem?_map] at hj
   obtain ⟨i, hi', rfl⟩ := Option.map_eq_some_iff.1 hj
   have hjl : j < len := by
    rcases Nat.lt_or_ge j len with h' | h'
    ·exact h'
    ·rw [List.getElem?_eq_none (by simpa using h')] at hi'; cases hi'
   rw [List.getElem?_range hjl] at hi'
   cases hi'
   obtain ⟨_, c, hc⟩ := hf j hjl
   exact ⟨c, hc⟩
  ·rw [hlen] at h
   rw [List.getElem_map, List.getElem_range]
   exact (hf i h).1
/-- Texts stand in their datum. -/
def TextD (d : DataW H) (x : ByteArray) : Prop := d = .lit (.string x.data.toList)
theorem el_text {n : Nat} {cs : List Value} {x : DataW H × List MemPlace} (h : DataW.trod enc Try.prog w base (fun _ => true) held n 9 cs = some x) : ∃ p : ByteArray, Kd.string.K w p cs ∧ TextD x.1 p := by
 obtain ⟨s, rfl, rfl, _⟩ := DataW.trod_string Try.underlying9 h
 exact ⟨s, rfl, rfl⟩
def TextsD (d : DataW H) (l : List ByteArray) : Prop := l = [] ∨ ∃ (D : Nat → DataW H) (sp : List (DataW H)), d = .slice ((List.range l.length).map D) sp ∧ ∀ (i : Nat) (h : i < l.length), TextD (D i) l[i]
theorem open_texts {v : Value} {dd : DataW H} {p : List MemPlace} (hv : Value.okWide Try.prog w .any 0 49 v) (h : DataW.Trod enc Try.prog w base (fun _ => true) held 49 v dd p) :
  ∃ (A : Option Addr) (c : Nat) (l : List ByteArray), v = .slice A l.length c ∧ l.length ≤ c ∧ Kd.C Kd.string w A l.length l ∧ TextsD dd l := by
 obtain ⟨a, n, c, rfl⟩ := okWide_slice Try.underlying49 hv
 obtain ⟨fuel, hf⟩ := h
 obtain ⟨A, c', l, e, hc, _, hC, hOK⟩ := open_rowKD Kd.string TextD Try.underlying49 (by kernel_rfl) (fun n cs x h => el_text h) hf
 simp [Value.cells] at e
 obtain ⟨rfl, rfl, rfl⟩ := e
 exact ⟨_, _, l, rfl, hc, hC, hOK.imp (·.2) id⟩
theorem weights_mem_all {P : Program} {e : TypeId} : ∀ {ds : List (DataW H)} {d : DataW H}, d ∈ ds → ∀ n ∈ d.weights P e, n ∈ DataW.weightsAll P e ds
 | [], _, h, _, _ => by cases h
 | d' :: ds, d, h, n, hn => by
  unfold DataW.weightsAll
  rcases List.mem_cons.1 h with rfl | h
  ·exact List.mem_append_left _ hn
  ·exact List.mem_append_right _ (weights_mem_all h n hn)
theorem sized_texts {ts : List TypeId} {ds : List (DataW H)} {j : Nat} {dd : DataW H} {l : List ByteArray} (hsz : (DataW.weightsEach Try.prog ts ds).all (· ≤ reachBytes) = true) (ht : ts[j]? = some 49) (hd : ds[j]? = some dd) (h : TextsD dd l) : ∀ x ∈ l, x.size ≤ 140737488351232 := by
 intro x hx
 rcases h with rfl | ⟨D, sp, e, hD⟩
 ·cases hx
 ·obtain ⟨i, hi, rfl⟩ := List.getElem_of_mem hx
  have h1 : (l[i]'hi).data.toList.length ∈ (D i).weights Try.prog 9 := by
   rw [hD i hi]
   unfold DataW.weights
   exact List.mem_singleton.2 rfl
  have h2 : (l[i]'hi).data.toList.length ∈ dd.weights Try.prog 49 := by
   rw [e]
   unfold DataW.weights
   rw [Try.underlying49]
   exact List.mem_cons_of_mem _ (List.mem_append_left _ (weights_mem_all (List.mem_map.2 ⟨i, List.mem_range.2 hi, rfl⟩) _ h1))
  have h3 := List.all_eq_true.1 hsz _ (DataW.weights_mem_each ht hd _ h2)
  have h4 := of_decide_eq_true h3
  have h5 : (l[i]'hi).size = (l[i]'hi).data.toList.length := by simp
  rw [h5]
  exact h4
end
end Go.Proofs.Ytpkaliaaffgbdaa.QA
namespace Go.Proofs.Ytpkaliaaffgbdaa.QA
open Go.RowKit Go.Proofs.YtpkaliaaffgbdaaW.PrintWords Go.Proofs.YtpkaliaaffgbdaaW.PrintLast Go.Proofs.YtpkaliaaffgbdaaW.PrintMore
attribute [local go_sem] max2_int min2_int max_two min_two max_three min_three max_four min_four   -- for this text's walks alone
set_option linter.unusedVariables false
set_option linter.unusedSimpArgs false

set_option maxRecDepth 100000
open Go
/-- A call of a script. -/
structure SOp where
 f0 : Int
 f1 : Int
 f2 : Int
 f3 : Int
 f4 : Int
 f5 : ByteArray
 f6 : ByteArray
 f7 : List S54
def zOp : SOp := ⟨0, 0, 0, 0, 0, ByteArray.empty, ByteArray.empty, []⟩
instance : Inhabited SOp := ⟨zOp⟩
def kOp : Kd SOp := Kd.iso (Kd.pair (Kd.int .i64) (Kd.pair (Kd.int .i64) (Kd.pair (Kd.int .i64) (Kd.pair (Kd.int .i64) (Kd.pair (Kd.int .i64) (Kd.pair Kd.string (Kd.pair Kd.string (Kd.slice 54 k54)))))))) (fun x : SOp => (x.f0, x.f1, x.f2, x.f3, x.f4, x.f5, x.f6, x.f7))
theorem kOp_mk (w : World) (x : SOp) {A : Option Addr} {c : Nat} (l : x.f7.length ≤ c) (g : k54.C w A x.f7.length x.f7) : kOp.K w x [.int .i64 x.f0, .int .i64 x.f1, .int .i64 x.f2, .int .i64 x.f3, .int .i64 x.f4, .string x.f5, .string x.f6, .slice A x.f7.length c] :=
 ⟨[.int .i64 x.f0], _, rfl, rfl, [.int .i64 x.f1], _, rfl, rfl, [.int .i64 x.f2], _, rfl, rfl, [.int .i64 x.f3], _, rfl, rfl, [.int .i64 x.f4], _, rfl, rfl, [.string x.f5], _, rfl, rfl, [.string x.f6], [.slice A x.f7.length c], rfl, rfl, A, c, rfl, l, g⟩
theorem kOp_open {w : World} {x : SOp} {cs : List Value} (h : kOp.K w x cs) : ∃ A c, cs = [.int .i64 x.f0, .int .i64 x.f1, .int .i64 x.f2, .int .i64 x.f3, .int .i64 x.f4, .string x.f5, .string x.f6, .slice A x.f7.length c] ∧ x.f7.length ≤ c ∧ k54.C w A x.f7.length x.f7 := by
 obtain ⟨_, _, rfl, rfl, _, _, rfl, rfl, _, _, rfl, rfl, _, _, rfl, rfl, _, _, rfl, rfl, _, _, rfl, rfl, _, _, rfl, rfl, A, c, rfl, l, g⟩ := h
 exact ⟨A, c, rfl, l, g⟩
theorem at_Op {w : World} {A : Option Addr} {n : Nat} {xs : List SOp} (h : Kd.C kOp w A n xs) (i : Nat) (hi : i < xs.length) : ∃ ad A7 c7, A = some ad ∧ (w.cell? (ad.add (i * 8)) = some (.int .i64 xs[i].f0) ∧ w.cell? ⟨(ad.add (i * 8)).block, (ad.add (i * 8)).off + 1, none⟩ = some (.int .i64 xs[i].f1) ∧ w.cell? ⟨(ad.add (i * 8)).block, (ad.add (i * 8)).off + 2, none⟩ = some (.int .i64 xs[i].f2) ∧ w.cell? ⟨(ad.add (i * 8)).block, (ad.add (i * 8)).off + 3, none⟩ = some (.int .i64 xs[i].f3) ∧ w.cell? ⟨(ad.add (i * 8)).block, (ad.add (i * 8)).off + 4, none⟩ = some (.int .i64 xs[i].f4) ∧
  w.cell? ⟨(ad.add (i * 8)).block, (ad.add (i * 8)).off + 5, none⟩ = some (.string xs[i].f5) ∧ w.cell? ⟨(ad.add (i * 8)).block, (ad.add (i * 8)).off + 6, none⟩ = some (.string xs[i].f6) ∧ w.cell? ⟨(ad.add (i * 8)).block, (ad.add (i * 8)).off + 7, none⟩ = some (.slice A7 xs[i].f7.length c7)) ∧ xs[i].f7.length ≤ c7 ∧ k54.C w A7 xs[i].f7.length xs[i].f7 := by
 have hn := h.1
 obtain ⟨ad, c, e, _, hK, hc0⟩ := Kd.C_get h zOp (i : Int) (by omega) (by omega)
 rw [Int.toNat_natCast, List.getD_eq_getElem?_getD, List.getElem?_eq_getElem hi, Option.getD_some] at hK
 have hc : ∀ j u, c[j]? = some u → w.cell? (ad.add (i * 8 + j)) = some u := hc0
 obtain ⟨A7, c7, rfl, l7, g7⟩ := kOp_open hK
 exact ⟨ad, A7, c7, e, ⟨hc 0 _ rfl, by rw [← add_field _ _ 1 (by omega)]; exact hc 1 _ rfl, by rw [← add_field _ _ 2 (by omega)]; exact hc 2 _ rfl, by rw [← add_field _ _ 3 (by omega)]; exact hc 3 _ rfl, by rw [← add_field _ _ 4 (by omega)]; exact hc 4 _ rfl, by rw [← add_field _ _ 5 (by omega)]; exact hc 5 _ rfl, by rw [← add_field _ _ 6 (by omega)]; exact hc 6 _ rfl, by rw [← add_field _ _ 7 (by omega)]; exact hc 7 _ rfl⟩, l7, g7⟩
section
open Go.ChangeShapes Go.WideShapes Go.Deep
variable {H : Type} {enc : TypeId × Value → H} {w : World} {base : Nat} {held : Bool}
/-- A slice as an argument: a row of elements that are read. -/
theorem open_rowK {α : Type} [Inhabited α] (d : Kd α) (OK : α → Prop) {t e : TypeId} {fuel : Nat} {cs : List Value} {x : DataW H × List MemPlace} (ht : Try.prog.underlying t = some (.slice e)) (hsz : Try.prog.cellsOf e = d.sz)
  (hel : ∀ n cs x, DataW.trod enc Try.prog w base (fun _ => true) held n e cs = some x → ∃ p : α, d.K w p cs ∧ OK p)
  (h : DataW.trod enc Try.prog w base (fun _ => true) held fuel t cs = some x) :
  ∃ (A : Option Addr) (c : Nat) (l : List α), cs = [.slice A l.length c] ∧ l.length ≤ c ∧ c ≤ maxLen ∧ Kd.C d w A l.length l ∧ ∀ p ∈ l, OK p := by
 rcases open_slice ht h with ⟨rfl, _⟩ | ⟨a, len, cap, m, n, D, Pl, rfl, _, hl, hm, hmm, _, hi⟩
 ·exact ⟨none, 0, [], rfl, Nat.le_refl _, Nat.zero_le _, ⟨rfl, by simp, fun h => absurd h (by simp)⟩, by simp⟩
 ·have hlm : len ≤ m := by
   rw [hmm]
   split
   ·exact hl
   ·exact Nat.le_refl _
  have hch : ∀ i, ∃ p : α, i < len → OK p ∧ ∃ c, c.length = d.sz ∧ d.K w p c ∧ ∀ j u, c[j]? = some u → w.cell? (a.add (i * d.sz + j)) = some u := by
   intro i
   by_cases hil : i < len
   ·obtain ⟨cs', hc, ht'⟩ := hi i (by omega)
    obtain ⟨p, hK, hOK⟩ := hel _ _ _ ht'
    obtain ⟨_, hcl, hat⟩ := World.cells?_some hc
    refine ⟨p, fun _ => ⟨hOK, cs', d.K_len hK, hK, fun j u hj => ?_⟩⟩
    have hjl : j < cs'.length := by
     rcases Nat.lt_or_ge j cs'.length with h' | h'
     ·exact h'
     ·rw [List.getElem?_eq_none h'] at hj; cases hj
    have h1 := hat j (by omega)
    rw [hsz] at h1
    rw [← Go.Deep.add_add, h1, hj]
   ·exact ⟨default, fun h => absurd h hil⟩
  have hf := fun i => Classical.choose_spec (hch i)
  have hlen : ((List.range len).map fun i => Classical.choose (hch i)).length = len := by simp
  refine ⟨some a, cap, (List.range len).map fun i => Classical.choose (hch i), by rw [hlen], by rw [hlen]; exact hl, hm, ⟨rfl, ?_, fun _ => ⟨a, rfl, fun j p hj => ?_⟩⟩, ?_⟩
  ·rw [hlen]; unfold maxLen at hm; omega
  ·rw [List.getElem?_map] at hj
   obtain ⟨i, hi', rfl⟩ := Option.map_eq_some_iff.1 hj
   have hjl : j < len := by
    rcases Nat.lt_or_ge j len with h' | h'
    ·exact h'
    ·rw [List.getElem?_eq_none (by simpa using h')] at hi'; cases hi'
   rw [List.getElem?_range hjl] at hi'
   cases hi'
   obtain ⟨_, c, hc⟩ := hf j hjl
   exact ⟨c, hc⟩
  ·intro p hp
   obtain ⟨i, hi', rfl⟩ := List.mem_map.1 hp
   exact (hf i (List.mem_range.1 hi')).1
theorem el_attr {n : Nat} {cs : List Value} {x : DataW H × List MemPlace} (h : DataW.trod enc Try.prog w base (fun _ => true) held n 52 cs = some x) : ∃ p : S52, k52.K w p cs ∧ (p.f0.size ≤ maxLen ∧ p.f1.size ≤ maxLen) := by
 obtain ⟨xs, m, _, _, hlen, hxl, hf⟩ := DataW.trod_struct Try.underlying52 h
 have hl : cs.length = 2 := hlen.trans (by kernel_rfl)
 have hc9 : Try.prog.cellsOf 9 = 1 := by kernel_rfl
 match cs, hl with
 | [c0, c1], _ =>
  match xs, hxl with
  | [y0, y1], _ =>
   have h0 : DataW.trod enc Try.prog w base (fun _ => true) held m 9 (([c0, c1].drop 0).take (Try.prog.cellsOf 9)) = some y0 := hf 0 _ rfl
   have h1 : DataW.trod enc Try.prog w base (fun _ => true) held m 9 (([c0, c1].drop 1).take (Try.prog.cellsOf 9)) = some y1 := hf 1 _ rfl
   rw [hc9] at h0 h1
   obtain ⟨s0, e0, _, l0⟩ := DataW.trod_string Try.underlying9 h0
   obtain ⟨s1, e1, _, l1⟩ := DataW.trod_string Try.underlying9 h1
   obtain rfl : c0 = .string s0 := by simpa using e0
   obtain rfl : c1 = .string s1 := by simpa using e1
   exact ⟨⟨s0, s1⟩, k52_mk w ⟨s0, s1⟩, l0, l1⟩
instance : Inhabited S52 := ⟨z52⟩
instance : Inhabited S54 := ⟨z54⟩
/-- What holds of any row that came in. -/
def RowIn (x : S54) : Prop := (-9223372036854775808 ≤ x.f0 ∧ x.f0 < 9223372036854775808) ∧ (-9223372036854775808 ≤ x.f1 ∧ x.f1 < 9223372036854775808) ∧ x.f4.length ≤ maxLen
theorem wf_range {n : Int} (h : (Lit.int .i64 n).wf = true) : -9223372036854775808 ≤ n ∧ n < 9223372036854775808 := by
 simp [Lit.wf] at h
 have e0 : IntKind.i64.min = -9223372036854775808 := by decide
 rw [e0] at h
 omega
theorem el_row {n : Nat} {cs : List Value} {x : DataW H × List MemPlace} (h : DataW.trod enc Try.prog w base (fun _ => true) held n 54 cs = some x) : ∃ p : S54, k54.K w p cs ∧ RowIn p := by
 obtain ⟨xs, m, _, _, hlen, hxl, hf⟩ := DataW.trod_struct Try.underlying54 h
 have hl : cs.length = 5 := hlen.trans (by kernel_rfl)
 have hc9 : Try.prog.cellsOf 9 = 1 := by kernel_rfl
 have hc3 : Try.prog.cellsOf 3 = 1 := by kernel_rfl
 have hcA : Try.prog.cellsOf 50 = 1 := by kernel_rfl
 match cs, hl with
 | [c0, c1, c2, c3, c4], _ =>
  match xs, hxl with
  | [y0, y1, y2, y3, y4], _ =>
   have h0 : DataW.trod enc Try.prog w base (fun _ => true) held m 3 (([c0, c1, c2, c3, c4].drop 0).take (Try.prog.cellsOf 3)) = some y0 := hf 0 _ rfl
   have h1 : DataW.trod enc Try.prog w base (fun _ => true) held m 3 (([c0, c1, c2, c3, c4].drop 1).take (Try.prog.cellsOf 3)) = some y1 := hf 1 _ rfl
   have h2 : DataW.trod enc Try.prog w base (fun _ => true) held m 9 (([c0, c1, c2, c3, c4].drop 2).take (Try.prog.cellsOf 9)) = some y2 := hf 2 _ rfl
   have h3 : DataW.trod enc Try.prog w base (fun _ => true) held m 9 (([c0, c1, c2, c3, c4].drop 3).take (Try.prog.cellsOf 9)) = some y3 := hf 3 _ rfl
   have h4 : DataW.trod enc Try.prog w base (fun _ => true) held m 50 (([c0, c1, c2, c3, c4].drop 4).take (Try.prog.cellsOf 50)) = some y4 := hf 4 _ rfl
   rw [hc3] at h0 h1
   rw [hc9] at h2 h3
   rw [hcA] at h4
   obtain ⟨n0, e0, _, w0⟩ := DataW.trod_int Try.underlying3 h0
   obtain ⟨n1, e1, _, w1⟩ := DataW.trod_int Try.underlying3 h1
   obtain ⟨s2, e2, _, l2⟩ := DataW.trod_string Try.underlying9 h2
   obtain ⟨s3, e3, _, l3⟩ := DataW.trod_string Try.underlying9 h3
   obtain ⟨A4, k4, l4, e4, hk4, hm4, hC4, _⟩ := open_rowK k52 (fun _ => True) Try.underlying50 (by kernel_rfl) (fun n cs x h => by obtain ⟨p, hp, _⟩ := el_attr h; exact ⟨p, hp, trivial⟩) h4
   obtain rfl : c0 = .int .i64 n0 := by simpa using e0
   obtain rfl : c1 = .int .i64 n1 := by simpa using e1
   obtain rfl : c2 = .string s2 := by simpa using e2
   obtain rfl : c3 = .string s3 := by simpa using e3
   obtain rfl : c4 = .slice A4 l4.length k4 := by simpa using e4
   exact ⟨⟨n0, n1, s2, s3, l4⟩, k54_mk w ⟨n0, n1, s2, s3, l4⟩ hk4 hC4, wf_range w0, wf_range w1, Nat.le_trans hk4 hm4⟩
def OpD (d : DataW H) (x : SOp) : Prop := ∃ a b c e f g h, d = .agg [a, b, c, e, f, .lit (.string x.f5.data.toList), g, h]
theorem el_op {n : Nat} {cs : List Value} {x : DataW H × List MemPlace} (h : DataW.trod enc Try.prog w base (fun _ => true) held n 25 cs = some x) : ∃ p : SOp, kOp.K w p cs ∧ OpD x.1 p := by
 obtain ⟨xs, m, _, hx, hlen, hxl, hf⟩ := DataW.trod_struct Try.underlying25 h
 have hl : cs.length = 8 := hlen.trans (by kernel_rfl)
 have hc9 : Try.prog.cellsOf 9 = 1 := by kernel_rfl
 have hc3 : Try.prog.cellsOf 3 = 1 := by kernel_rfl
 have hcR : Try.prog.cellsOf 23 = 1 := by kernel_rfl
 match cs, hl with
 | [c0, c1, c2, c3, c4, c5, c6, c7], _ =>
  match xs, hxl with
  | [y0, y1, y2, y3, y4, y5, y6, y7], _ =>
   have h0 : DataW.trod enc Try.prog w base (fun _ => true) held m 3 (([c0, c1, c2, c3, c4, c5, c6, c7].drop 0).take (Try.prog.cellsOf 3)) = some y0 := hf 0 _ rfl
   have h1 : DataW.trod enc Try.prog w base (fun _ => true) held m 3 (([c0, c1, c2, c3, c4, c5, c6, c7].drop 1).take (Try.prog.cellsOf 3)) = some y1 := hf 1 _ rfl
   have h2 : DataW.trod enc Try.prog w base (fun _ => true) held m 3 (([c0, c1, c2, c3, c4, c5, c6, c7].drop 2).take (Try.prog.cellsOf 3)) = some y2 := hf 2 _ rfl
   have h3 : DataW.trod enc Try.prog w base (fun _ => true) held m 3 (([c0, c1, c2, c3, c4, c5, c6, c7].drop 3).take (Try.prog.cellsOf 3)) = some y3 := hf 3 _ rfl
   have h4 : DataW.trod enc Try.prog w base (fun _ => true) held m 3 (([c0, c1, c2, c3, c4, c5, c6, c7].drop 4).take (Try.prog.cellsOf 3)) = some y4 := hf 4 _ rfl
   have h5 : DataW.trod enc Try.prog w base (fun _ => true) held m 9 (([c0, c1, c2, c3, c4, c5, c6, c7].drop 5).take (Try.prog.cellsOf 9)) = some y5 := hf 5 _ rfl
   have h6 : DataW.trod enc Try.prog w base (fun _ => true) held m 9 (([c0, c1, c2, c3, c4, c5, c6, c7].drop 6).take (Try.prog.cellsOf 9)) = some y6 := hf 6 _ rfl
   have h7 : DataW.trod enc Try.prog w base (fun _ => true) held m 23 (([c0, c1, c2, c3, c4, c5, c6, c7].drop 7).take (Try.prog.cellsOf 23)) = some y7 := hf 7 _ rfl
   rw [hc3] at h0 h1 h2 h3 h4
   rw [hc9] at h5 h6
   rw [hcR] at h7
   obtain ⟨n0, e0, _, _⟩ := DataW.trod_int Try.underlying3 h0
   obtain ⟨n1, e1, _, _⟩ := DataW.trod_int Try.underlying3 h1
   obtain ⟨n2, e2, _, _⟩ := DataW.trod_int Try.underlying3 h2
   obtain ⟨n3, e3, _, _⟩ := DataW.trod_int Try.underlying3 h3
   obtain ⟨n4, e4, _, _⟩ := DataW.trod_int Try.underlying3 h4
   obtain ⟨s5, e5, d5, _⟩ := DataW.trod_string Try.underlying9 h5
   obtain ⟨s6, e6, _, _⟩ := DataW.trod_string Try.underlying9 h6
   obtain ⟨A7, k7, l7, e7, hk7, _, hC7, _⟩ := open_rowK k54 RowIn Try.underlying23 (by kernel_rfl) (fun n cs x h => el_row h) h7
   obtain rfl : c0 = .int .i64 n0 := by simpa using e0
   obtain rfl : c1 = .int .i64 n1 := by simpa using e1
   obtain rfl : c2 = .int .i64 n2 := by simpa using e2
   obtain rfl : c3 = .int .i64 n3 := by simpa using e3
   obtain rfl : c4 = .int .i64 n4 := by simpa using e4
   obtain rfl : c5 = .string s5 := by simpa using e5
   obtain rfl : c6 = .string s6 := by simpa using e6
   obtain rfl : c7 = .slice A7 l7.length k7 := by simpa using e7
   exact ⟨⟨n0, n1, n2, n3, n4, s5, s6, l7⟩, kOp_mk w ⟨n0, n1, n2, n3, n4, s5, s6, l7⟩ hk7 hC7, y0.1, y1.1, y2.1, y3.1, y4.1, y6.1, y7.1, by rw [hx, d5]; rfl⟩
def OpsD (d : DataW H) (l : List SOp) : Prop := l = [] ∨ ∃ (D : Nat → DataW H) (sp : List (DataW H)), d = .slice ((List.range l.length).map D) sp ∧ ∀ (i : Nat) (h : i < l.length), OpD (D i) l[i]
/-- A script as an argument. -/
theorem open_ops {v : Value} {dd : DataW H} {p : List MemPlace} (hv : Value.okWide Try.prog w .any 0 22 v) (h : DataW.Trod enc Try.prog w base (fun _ => true) held 22 v dd p) :
  ∃ (A : Option Addr) (c : Nat) (l : List SOp), v = .slice A l.length c ∧ l.length ≤ c ∧ Kd.C kOp w A l.length l ∧ OpsD dd l := by
 obtain ⟨a, n, c, rfl⟩ := okWide_slice Try.underlying22 hv
 obtain ⟨fuel, hf⟩ := h
 obtain ⟨A, c', l, e, hc, _, hC, hOK⟩ := open_rowKD kOp OpD Try.underlying22 (by kernel_rfl) (fun n cs x h => el_op h) hf
 simp [Value.cells] at e
 obtain ⟨rfl, rfl, rfl⟩ := e
 exact ⟨_, _, l, rfl, hc, hC, hOK.imp (·.2) id⟩
theorem sized_ops {ts : List TypeId} {ds : List (DataW H)} {j : Nat} {dd : DataW H} {l : List SOp} (hsz : (DataW.weightsEach Try.prog ts ds).all (· ≤ reachBytes) = true) (ht : ts[j]? = some 22) (hd : ds[j]? = some dd) (h : OpsD dd l) : ∀ x ∈ l, x.f5.size ≤ 140737488351232 := by
 intro x hx
 rcases h with rfl | ⟨D, sp, e, hD⟩
 ·cases hx
 ·obtain ⟨i, hi, rfl⟩ := List.getElem_of_mem hx
  obtain ⟨a, b, c, e1, f, g, h, hagg⟩ := hD i hi
  have h1 : (l[i]'hi).f5.data.toList.length ∈ (D i).weights Try.prog 25 := by
   rw [hagg]
   unfold DataW.weights
   rw [Try.underlying25]
   refine DataW.weights_mem_each (j := 5) (t := 9) (d := .lit (.string (l[i]'hi).f5.data.toList)) (by kernel_rfl) rfl _ ?_
   unfold DataW.weights
   exact List.mem_singleton.2 rfl
  have h2 : (l[i]'hi).f5.data.toList.length ∈ dd.weights Try.prog 22 := by
   rw [e]
   unfold DataW.weights
   rw [Try.underlying22]
   exact List.mem_cons_of_mem _ (List.mem_append_left _ (weights_mem_all (List.mem_map.2 ⟨i, List.mem_range.2 hi, rfl⟩) _ h1))
  have h3 := List.all_eq_true.1 hsz _ (DataW.weights_mem_each ht hd _ h2)
  have h4 := of_decide_eq_true h3
  have h5 : (l[i]'hi).f5.size = (l[i]'hi).f5.data.toList.length := by simp
  rw [h5]
  exact h4
end
end Go.Proofs.Ytpkaliaaffgbdaa.QA
namespace Go.Proofs.Ytpkaliaaffgbdaa.QA
open Go.RowKit Go.Proofs.YtpkaliaaffgbdaaW.PrintWords Go.Proofs.YtpkaliaaffgbdaaW.PrintLast Go.Proofs.YtpkaliaaffgbdaaW.PrintMore
attribute [local go_sem] max2_int min2_int max_two min_two max_three min_three max_four min_four   -- for this text's walks alone
set_option linter.unusedVariables false
set_option linter.unusedSimpArgs false

open Go
/-- The law's document beside rows that were told of it. -/
def LInv (w W : World) (g : Nat) (xs : List S79) (v : Value) (r : List S54) : Prop := ∃ ok, St w W ok g xs ∧ Kd.S k54 54 W 0 (fun k => ¬ ok k) v r
section
variable {w W W' : World} {g M : Nat} {xs ys : List S79} {v : Value} {r : List S54}
theorem LInv.has (h : LInv w W g xs v r) : Has w W g xs := h.imp fun _ h => h.1
theorem LInv.quiet (h : LInv w W g xs v r) (hb : Below W.heap.size W W') : LInv w W' g xs v r := h.imp fun _ h => ⟨h.1.quiet hb, Kd.S_step h.2 fun k _ hl => hb.block k hl⟩
theorem LInv.via {f : Nat} {args : Array Value} {P : Ending → Prop} (h : LInv w W g xs v r) (hc : ∀ ok, IsDoc W ok g xs → Calls Try.prog f args W fun e w' => P e ∧ To W w' ok g ys) : Calls Try.prog f args W fun e w' => P e ∧ LInv w w' g ys v r := by
 obtain ⟨ok, hs, hR⟩ := h
 refine (hc ok hs.doc).mono fun e w' ⟨h1, h2⟩ => ⟨h1, ?_⟩
 obtain ⟨ok', h3, h4⟩ := hs.op h2
 exact ⟨ok', h3, Kd.S_mono (Kd.S_step (Kd.S_bound hR) fun k hk hl => (h4 k hl hk.1).1) fun k hk => (h4 k hk.2.2.1 hk.1).2⟩
theorem LInv.reads {A : Option Addr} {n c : Nat} (h : LInv w W g xs (.slice A n c) r) : n = r.length ∧ n ≤ c ∧ Kd.C k54 W A r.length r := by
 obtain ⟨ok, _, hR⟩ := h
 exact Kd.S_reads' hR
theorem rows_LInv (h : Has w W g xs) (hF : Fit xs) (k : Nat) {r : List S54} (hr : rowsR xs k 0 = some r) : Calls Try.prog 11 #[.pointer (some ⟨g, 0, none⟩), .int .i64 0] W fun e w' => ∃ A c, e = .returned (.slice A r.length c) ∧ LInv w w' g xs (.slice A r.length c) r ∧ Below W.heap.size W w' := by
 obtain ⟨ok, hs⟩ := h
 refine (Doc_Rows hs.doc hF k 0 r hr).mono ?_
 rintro e w' ⟨v, rfl, hS, hB⟩
 obtain ⟨A, c, rfl⟩ := Kd.S_slice hS
 exact ⟨A, c, rfl, ⟨ok, hs.quiet hB, Kd.S_mono (Kd.S_lower (Kd.S_bound hS) (Nat.zero_le _)) fun k hk ho => by have := hs.lt k ho; have := hk.2.1; omega⟩, hB⟩
theorem LInv.rows2 {A1 : Option Addr} {c1 : Nat} (h : LInv w W g xs (.slice A1 r.length c1) r) (hF : Fit xs) (k : Nat) (hr : rowsR xs k 0 = some r) : Calls Try.prog 11 #[.pointer (some ⟨g, 0, none⟩), .int .i64 0] W fun e w' => ∃ A c, e = .returned (.slice A r.length c) ∧ (r.length ≤ c ∧ Kd.C k54 w' A r.length r) ∧ LInv w w' g xs (.slice A1 r.length c1) r := by
 obtain ⟨ok, hs, hR⟩ := h
 refine (Doc_Rows hs.doc hF k 0 r hr).mono ?_
 rintro e w' ⟨v, rfl, hS, hB⟩
 obtain ⟨A, c, rfl⟩ := Kd.S_slice hS
 exact ⟨A, c, rfl, (Kd.S_reads' hS).2, ok, hs.quiet hB, Kd.S_step hR fun k _ hl => hB.block k hl⟩
theorem LInv.same {A1 A : Option Addr} {c1 c : Nat} (h : LInv w W g xs (.slice A1 r.length c1) r) (hC : r.length ≤ c ∧ Kd.C k54 W A r.length r) : Calls Try.prog 16 #[.slice A r.length c, .slice A1 r.length c1] W fun e w' => e = .returned (.bool true) ∧ LInv w w' g xs (.slice A1 r.length c1) r := by
 refine (boltingref04_Same.calls A c r A1 c1 r true W hC.2 hC.1 h.reads.2.2 h.reads.2.1 (by simp [boltingref04_Same.f])).mono ?_
 rintro e w' ⟨rfl, hB⟩
 exact ⟨rfl, h.quiet hB⟩
theorem LInv.len (h : LInv w W g xs v r) {n : Int} (hn : (xs.length : Int) = n) : Calls Try.prog 30 #[.pointer (some ⟨g, 0, none⟩)] W fun e w' => e = .returned (.int .i64 n) ∧ LInv w w' g xs v r := by
 subst hn
 obtain ⟨ok, hs, hR⟩ := h
 refine (Doc_Len hs.doc).mono ?_
 rintro e w' ⟨rfl, ⟨m, rfl⟩⟩
 have hB := pw_below_drewN (Below.refl W.heap.size W) m
 exact ⟨rfl, ok, hs.quiet hB, Kd.S_step hR fun k _ hl => hB.block k hl⟩
/-! #### a call: its error, the nodes behind it -/
def Op1 (w : World) (g M : Nat) (xs : List S79) (e : Int) (ys : List S79) (f : Nat) (args : Array Value) : Prop :=
 Keeps (M + 1) xs e ys ∧ ∀ W v r, LInv w W g xs v r → Calls Try.prog f args W fun o w' => o = .returned (.int .i64 e) ∧ LInv w w' g ys v r
def Op2 (w : World) (g M : Nat) (xs : List S79) (e : Int) (ys : List S79) (f : Nat) (args : Array Value) : Prop :=
 Keeps (M + 1) xs e ys ∧ ∀ W v r, LInv w W g xs v r → Calls Try.prog f args W fun o w' => ∃ a, o = .returned (.tuple #[a, .int .i64 e]) ∧ LInv w w' g ys v r
theorem Keeps.weak {e : Int} (h : Keeps M xs e ys) : Keeps (M + 1) xs e ys := ⟨h.1, h.2.1, h.2.2.weak (Nat.le_succ M)⟩
theorem op_make (w : World) (g : Nat) (h : Good M xs) (kind : Int) (name data : ByteArray) (hn : name.size ≤ 140737488351232) : ∃ e ys, Op2 w g M xs e ys 21 #[.pointer (some ⟨g, 0, none⟩), .int .i64 kind, .string name, .string data] := by
 obtain ⟨k, b, hb⟩ := may_some kind name data hn
 refine ⟨_, _, (keeps_make h b kind name data).weak, fun W v r hL => ?_⟩
 refine (hL.via (P := fun e => e = _) fun ok hI => Doc_Make hI kind name data k b hb).mono ?_
 rintro e w' ⟨rfl, h2⟩
 exact ⟨_, rfl, h2⟩
theorem op_insert (w : World) (g : Nat) (h : Good M xs) (hM : M < 100000) (p a n : Int) : ∃ e ys, Op1 w g M xs e ys 12 #[.pointer (some ⟨g, 0, none⟩), .int .i64 p, .int .i64 a, .int .i64 n] := by
 obtain ⟨k, q, hq, hk⟩ := keeps_insert h p a n
 exact ⟨_, _, hk.weak, fun W v r hL => hL.via (P := fun e => e = _) fun ok hI => Doc_Insert hI (h.fit hM) k p a n q hq⟩
theorem op_remove (w : World) (g : Nat) (h : Good M xs) (hM : M < 100000) (n : Int) : ∃ e ys, Op1 w g M xs e ys 17 #[.pointer (some ⟨g, 0, none⟩), .int .i64 n] :=
 ⟨_, _, (keeps_remove h n).weak, fun W v r hL => hL.via (P := fun e => e = _) fun ok hI => Doc_Remove hI (h.fit hM) n⟩
theorem op_clone (w : World) (g : Nat) (h : Good M xs) (hM : M < 100000) (n : Int) : ∃ e ys, Op2 w g M xs e ys 31 #[.pointer (some ⟨g, 0, none⟩), .int .i64 n] := by
 obtain ⟨k, q, hq, hk⟩ := keeps_clone h (by omega) n
 refine ⟨_, _, hk.weak, fun W v r hL => ?_⟩
 refine (hL.via (P := fun e => e = _) fun ok hI => Doc_Clone hI (h.fit hM) k n q hq).mono ?_
 rintro e w' ⟨rfl, h2⟩
 exact ⟨_, rfl, h2⟩
theorem op_attr (w : World) (g : Nat) (h : Good M xs) (hM : M < 100000) (n : Int) (name value : ByteArray) (hn : name.size ≤ 140737488351232) : ∃ e ys, Op1 w g M xs e ys 22 #[.pointer (some ⟨g, 0, none⟩), .int .i64 n, .string name, .string value] := by
 obtain ⟨q, hq, hk⟩ := keeps_attr h (name.size * 9 + 1) n name value _ (attr_is name hn _ (by omega))
 exact ⟨_, _, hk, fun W v r hL => hL.via (P := fun e => e = _) fun ok hI => Doc_Attr hI (h.fit hM) _ n name value q hq⟩
theorem op_drop (w : World) (g : Nat) (h : Good M xs) (hM : M < 100000) (n : Int) (name : ByteArray) : ∃ e ys, Op1 w g M xs e ys 27 #[.pointer (some ⟨g, 0, none⟩), .int .i64 n, .string name] :=
 ⟨_, _, (keeps_drop h n name).weak, fun W v r hL => hL.via (P := fun e => e = _) fun ok hI => Doc_Drop hI (h.fit hM) n name⟩
theorem op_data (w : World) (g : Nat) (h : Good M xs) (n : Int) (s : ByteArray) : ∃ e ys, Op1 w g M xs e ys 32 #[.pointer (some ⟨g, 0, none⟩), .int .i64 n, .string s] :=
 ⟨_, _, (keeps_data h n s).weak, fun W v r hL => hL.via (P := fun e => e = _) fun ok hI => Doc_Data hI n s⟩
theorem treesL_few (l : List S54) : (treesL l).length ≤ 12 ∧ ∀ x ∈ treesL l, x.f4.length ≤ 4 := by
 refine ⟨by simp [treesL]; omega, fun x hx => ?_⟩
 obtain ⟨y, _, rfl⟩ := List.mem_map.1 hx
 simp [cutRow]
 omega
/-- Load of what trees handed over. -/
theorem op_load (w : World) (g : Nat) (h : Good M xs) (hM : M < 100000) (hM4 : 4 ≤ M) (l : List S54) : ∃ e ys, Keeps (M + 1) xs e ys ∧ ∀ W W0 v r A c, LInv w W g xs v r → (treesL l).length ≤ c → Below W0.heap.size W0 W → (∃ ok, St w W0 ok g xs ∧ Kd.S k54 54 W0 0 (fun k => ¬ ok k) v r) → Kd.F k54 W (fun k => k < w.heap.size ∨ W0.heap.size ≤ k) A (treesL l).length (treesL l) →
  Calls Try.prog 33 #[.pointer (some ⟨g, 0, none⟩), .slice A (treesL l).length c] W fun o w' => ∃ a, o = .returned (.tuple #[a, .int .i64 e]) ∧ LInv w w' g ys v r := by
 have hT := treesL_few l
 obtain ⟨k, e, hk, hd⟩ := check_some (treesL l) ⟨by omega, fun x hx => by have := hT.2 x hx; omega⟩
 obtain ⟨q, hq, hkp⟩ := keeps_load h (by omega) (treesL l) k e hk hd fun x hx => Nat.le_trans (hT.2 x hx) hM4
 have hlen := h.len
 refine ⟨_, _, hkp.weak, fun W W0 v r A c _ hc hB hok hF => ?_⟩
 obtain ⟨ok, hs, hS⟩ := hok
 have hs2 := hs.quiet hB
 refine (Doc_Load hs2.doc (treesL l) A c hF (fun k hk ho => ?_) hc (by omega) (by omega) k q hq).mono ?_
 ·have h1 := hs.own k ho
  have h2 := hs.lt k ho
  rcases hk with hk | hk <;> omega
 ·rintro o w' ⟨a, va, ar, ok1, rfl, hI⟩
  obtain ⟨ok', h3, h4⟩ := hs2.op hI.to
  have hS2 := Kd.S_step hS fun k _ hl => hB.block k hl
  exact ⟨a, rfl, ok', h3, Kd.S_mono (Kd.S_step (Kd.S_bound hS2) fun k hk hl => (h4 k hl hk.1).1) fun k hk => (h4 k hk.2.2.1 hk.1).2⟩
end
end Go.Proofs.Ytpkaliaaffgbdaa.QA
