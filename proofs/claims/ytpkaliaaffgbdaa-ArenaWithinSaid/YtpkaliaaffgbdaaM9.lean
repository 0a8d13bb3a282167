/- Copies and loaded trees, in plain Lean: what a document tells behind them. The document's own answer beside the arena's nodes: numbers among the kids, in plain Lean. The document's own answer (boltingref11) beside nodes: add, Kids, set. Whether rows are trees: the document's own answer. -/
import Derived.Test.YtpkaliaaffgbdaaM8
import Derived.Test.YtpkaliaaffgbdaaQAx9
namespace Go.Proofs.Ytpkaliaaffgbdaa.QA
open Go.RowKit Go.Proofs.YtpkaliaaffgbdaaW.PrintWords Go.Proofs.YtpkaliaaffgbdaaW.PrintLast Go.Proofs.YtpkaliaaffgbdaaW.PrintMore
attribute [local go_sem] max2_int min2_int max_two min_two max_three min_three max_four min_four   -- for this text's walks alone
set_option linter.unusedVariables false
set_option linter.unusedSimpArgs false

open Go
/-- The first n nodes are what they were, but for those that have them. -/
def Old (n : Nat) (xs ys : List S79) : Prop := ∀ v : Nat, v < n → (rd_T79 ys (v : Int)).f0 = (rd_T79 xs (v : Int)).f0 ∧ (rd_T79 ys (v : Int)).f2 = (rd_T79 xs (v : Int)).f2
section
variable {M M' : Nat} {xs ys zs : List S79} {s : List (Int × Int)} {r l : List S54}
theorem Old.trans {n : Nat} (h : Old n xs ys) (h2 : Old n ys zs) : Old n xs zs := fun v hv => ⟨(h2 v hv).1.trans (h v hv).1, (h2 v hv).2.trans (h v hv).2⟩
theorem old_set {n i : Nat} (h : n ≤ i) (x : S79) : Old n ys (ys.set i x) := fun v hv => by
 rw [rd_set, if_neg (by omega)]
 exact ⟨rfl, rfl⟩
theorem reads_depth (h : Reads xs s r) : ∀ d : Int, (∀ p ∈ s, d ≤ p.2) → ∀ x ∈ r, d ≤ x.f0 := by
 induction h with
 | nil => intro d _ x hx; cases hx
 | @cons p rest r h ih =>
  intro d hs x hx
  have hp := hs p List.mem_cons_self
  rcases List.mem_append.1 hx with hx | hx
  ·split at hx
   ·cases hx
   ·rw [List.mem_singleton.1 hx]
    exact hp
  ·refine ih d (fun q hq => ?_) x hx
   rcases List.mem_append.1 hq with hq | hq
   ·obtain ⟨k, _, rfl⟩ := List.mem_map.1 hq
    dsimp only
    omega
   ·exact hs q (List.mem_cons_of_mem _ hq)
theorem reads_old (h : Good M xs) (ho : Old xs.length xs ys) (hr : Reads xs s r) (hs : ∀ p ∈ s, inB xs p.1 = true) : Reads ys s r := by
 refine hr.congr (fun v => inB xs v = true) (fun v hv => ?_) hs
 have hv' := of_decide_eq_true hv
 obtain ⟨j, rfl⟩ := Int.eq_ofNat_of_zero_le hv'.1
 refine ⟨(ho j (by omega)).1, (ho j (by omega)).2, fun q hq => ?_⟩
 obtain ⟨i, rfl, hi, _⟩ := h.tree.kid j q hq
 exact inB_nat.2 hi
theorem rows_old (h : Good M xs) (hy : Good M' ys) (ho : Old xs.length xs ys) (hl : xs.length ≤ ys.length) {n : Int} (hn : inB xs n = true) {k : Nat} (hr : rowsR xs k n = some r) : rowsR ys (ys.length + 1) n = some r := by
 have hn' := of_decide_eq_true hn
 refine rowsR_of hy (decide_eq_true (by omega)) (reads_old h ho (rowsR_reads hr hn) fun p hp => ?_)
 rw [List.mem_singleton.1 hp]
 exact hn
/-- A copy of a node's tree. -/
structure Cloned (M : Nat) (xs ys : List S79) (c : Int) (l : List S54) : Prop where
 good : Good M ys
 num : c = (xs.length : Int)
 len : ys.length = xs.length + l.length
 has : someB ys c = true
 rows : rowsR ys (ys.length + 1) c = some l
 old : Old xs.length xs ys
 par : (rd_T79 ys c).f1 = -1
theorem cloned_of (h : Good M xs) (hM : M < 900000) (k : Nat) (n c : Int) (hn : someB xs n = true) (hr : cloneR xs k n = some (ys, c, 0)) : ∃ l, rowsR xs (xs.length + 1) n = some l ∧ Cloned M xs ys c l := by
 obtain ⟨l, h1, h2, h3, h4, h5⟩ := rowsR_some h n
 have hin := someB_inB hn
 unfold cloneR at hr
 rw [if_neg (by rw [hn]; decide)] at hr
 split at hr
 ·cases hr
 rename_i l1 hl1
 obtain rfl := (rowsR_reads hl1 hin).det (rowsR_reads h1 hin)
 split at hr
 ·injection hr with hr; injection hr with _ hr; injection hr with _ hr; cases hr
 rename_i hbig
 split at hr
 rotate_left
 ·cases hr
 rename_i ys' q rest hload
 injection hr with hr
 injection hr with e1 e2
 injection e2 with e2 _
 subst e1
 subst e2
 obtain ⟨ys2, rs2, g1, g2, g3, g4⟩ := loadL_some l1 xs [] [] h hM h4 (by simpa using h2) (by omega) (by simp) (by simp) (by simp)
 obtain ⟨rfl, _⟩ := Prod.mk.inj (Option.some.inj (hload.symm.trans g1))
 have hpos := h.tree.pos
 obtain ⟨rs, nks, e, hL⟩ := load_reads l1 xs [] [] ys' (q :: rest) hload hpos (by simp) (by simp)
 have hnk : nks = [] := List.eq_nil_of_length_eq_zero hL.nlen
 subst hnk
 rw [List.nil_append] at e
 subst e
 obtain ⟨i, rfl, hi0, hi⟩ := someB_iff.1 hn
 have hr0 := rowsR_reads h1 hin
 unfold topD at hr0
 rw [if_neg (by omega)] at hr0
 cases hr0 with
 | @cons _ _ r' hr1 =>
  rw [if_neg (show ¬ ((i : Int), (0 : Int)).1 = 0 by dsimp only; omega)] at hL g3 hload h1
  have hd := reads_depth hr1 1 fun p hp => by
   rw [List.append_nil] at hp
   obtain ⟨k, _, rfl⟩ := List.mem_map.1 hp
   exact Int.le_refl _
  have hc : (([rowAt xs ((i : Int), 0)] ++ r').countP fun x => x.f0 == 0) = 1 := by
   rw [List.countP_append, List.countP_cons, if_pos (by rfl)]
   have : r'.countP (fun x => x.f0 == 0) = 0 := List.countP_eq_zero.2 fun x hx => by have := hd x hx; simp; omega
   rw [this]
   rfl
  have hrest : rest = [] := by
   have := hL.count
   rw [hc] at this
   exact List.eq_nil_of_length_eq_zero (by simpa using this)
  subst hrest
  have hq : q = (xs.length : Int) := by
   have h7 := hload
   simp only [List.cons_append, List.nil_append, loadL] at h7
   split at h7
   rotate_left
   ·cases h7
   rw [if_pos (show (rowAt xs ((i : Int), 0)).f0 = 0 from rfl)] at h7
   obtain ⟨rs3, _, e3, _⟩ := load_reads r' _ _ _ _ _ h7 (by simp [addN]) (by simp) (fun v hv => by rw [List.mem_singleton.1 hv]; simp [addN]; omega)
   injection e3
  have hrq := hL.roots q List.mem_cons_self
  have hsq : someB ys' q = true := by subst hq; exact someB_iff.2 ⟨_, rfl, hpos, by omega⟩
  refine ⟨_, h1, g2, hq, hL.len, hsq, rowsR_of g2 (someB_inB hsq) ?_, fun v hv => ⟨hL.f0 v hv, hL.other v hv (by simp)⟩, hrq.2.2⟩
  have h8 := hL.reads
  unfold topD
  rw [if_neg (by omega)]
  exact h8
/-! #### trees that were loaded, put into the root behind all others -/
structure Planted (M : Nat) (xs ys zs : List S79) (roots : List Int) (j : Nat) : Prop where
 good : Good M zs
 len : zs.length = ys.length
 k0 : (rd_T79 zs ((0 : Nat) : Int)).f2 = (rd_T79 xs ((0 : Nat) : Int)).f2 ++ roots.take j
 f2 : ∀ v : Nat, v ≠ 0 → (rd_T79 zs (v : Int)).f2 = (rd_T79 ys (v : Int)).f2
 f0 : ∀ v : Nat, (rd_T79 zs (v : Int)).f0 = (rd_T79 ys (v : Int)).f0
 f1 : ∀ i, j ≤ i → ∀ q, roots[i]? = some q → (rd_T79 zs q).f1 = -1
theorem planted_start (h : Good M xs) (hM : M < 900000) (k : Nat) (roots : List Int) (hx : ∀ x ∈ l, x.f4.length ≤ M) (hd : ∀ k, rows_Check.f k l = some 0 → DepthOk 0 l) (hr : loadR xs k l = some (ys, roots, 0)) : Loaded xs ys [] roots [] l ∧ Planted M xs ys ys roots 0 := by
 unfold loadR at hr
 split at hr
 ·cases hr
 rename_i e he
 split at hr
 ·rename_i c
  injection hr with hr; injection hr with _ hr; injection hr with _ hr
  exact absurd hr c
 rename_i c
 split at hr
 ·injection hr with hr; injection hr with _ hr; injection hr with _ hr; cases hr
 obtain ⟨⟨ys', roots'⟩, hload, e2⟩ := Option.map_eq_some_iff.1 hr
 injection e2 with e2 e3
 injection e3 with e3 _
 dsimp only at e2 e3
 subst e2
 subst e3
 have he0 : e = 0 := by omega
 subst he0
 obtain ⟨ys2, rs2, g1, g2, g3, g4⟩ := loadL_some l xs [] [] h hM hx (by simpa using hd k he) (by omega) (by simp) (by simp) (by simp)
 obtain ⟨rfl, _⟩ := Prod.mk.inj (Option.some.inj (hload.symm.trans g1))
 have hpos := h.tree.pos
 obtain ⟨rs, nks, e, hL⟩ := load_reads l xs [] [] ys' roots' hload hpos (by simp) (by simp)
 have hnk : nks = [] := List.eq_nil_of_length_eq_zero hL.nlen
 subst hnk
 rw [List.nil_append] at e
 subst e
 exact ⟨hL, g2, rfl, by rw [hL.other 0 hpos (by simp), List.take_zero, List.append_nil], fun _ _ => rfl, fun _ => rfl, fun i _ q hq => (hL.roots q (List.mem_of_getElem? hq)).2.2⟩
theorem under_zero {n : Nat} {up : Nat → Int} {ks : Nat → List Int} (h : Tree n up ks) {i : Nat} (hu : Under up i 0) : i = 0 := by
 cases hu with
 | self => rfl
 | step h1 _ => rw [h.root] at h1; omega
theorem planted_step (hx : 0 < xs.length) {roots : List Int} (hL : Loaded xs ys [] roots [] l) {j : Nat} (h : Planted M xs ys zs roots j) {q : Int} (hq : roots[j]? = some q) : ∃ k zs', insertR zs k 0 ((kidsN zs 0).length : Int) q = some (0, zs') ∧ Planted M xs ys zs' roots (j + 1) := by
 have hrq := hL.roots q (List.mem_of_getElem? hq)
 obtain ⟨i, rfl⟩ := Int.eq_ofNat_of_zero_le (show 0 ≤ q by omega)
 have hil : i < zs.length := by rw [h.len]; omega
 have hi0 : 0 < i := by omega
 have hin : inB zs ((0 : Nat) : Int) = true := inB_nat.2 (by omega)
 have hiu : up9 zs i = -1 := by unfold up9; rw [if_pos hil]; exact h.f1 j (Nat.le_refl _) _ hq
 obtain ⟨k, b, hk, hb⟩ := withinF_some h.good ((0 : Nat) : Int) (i : Int)
 have hb0 : b = false := by
  cases b with
  | false => rfl
  | true =>
   have := under_zero h.good.tree ((hb i 0 rfl rfl (by omega) hil).1 rfl)
   omega
 subst hb0
 have hkl : (kidsN zs 0).length = (rd_T79 zs ((0 : Nat) : Int)).f2.length := by unfold kidsN; rw [if_pos (show inB zs 0 = true from hin)]; rfl
 have hmost : mostN zs 0 (i : Int) = ((rd_T79 zs ((0 : Nat) : Int)).f2.length : Int) := by
  unfold mostN
  rw [if_neg (by rw [h.f1 j (Nat.le_refl _) _ hq]; decide)]
  rfl
 have hT := h.good.take i hil
 obtain ⟨t1, t2, t3⟩ := takeN_up h.good i hil
 have htl : (takeN zs i).length = zs.length := takeN_length zs i
 have hnu : ¬ Under (up9 (takeN zs i)) i 0 := fun hu => by have := under_zero hT.tree hu; omega
 obtain ⟨p1, p2, p3⟩ := putN_up (xs := takeN zs i) 0 (kidsN zs 0).length i (by omega) (by omega) (by omega)
 have hk2 : ks9 (takeN zs i) 0 = ks9 zs 0 := by
  rw [t2]
  dsimp only
  rw [if_neg (by rw [hiu]; omega)]
 refine ⟨k, putN (takeN zs i) 0 (kidsN zs 0).length i, ?_, hT.put 0 _ i (by omega) (by omega) (by omega) (by rw [t1]; exact if_pos rfl) hnu, ?_, ?_, fun v hv => ?_, fun v => ?_, fun m hm q2 hq2 => ?_⟩
 ·unfold insertR
  rw [if_neg (by rw [show inB zs 0 = true from hin]; decide), if_neg (by rw [someB_iff.2 ⟨i, rfl, hi0, hil⟩]; decide), if_neg (by simp)]
  rw [show withinF zs k 0 (i : Int) = some false from hk]
  dsimp only
  rw [if_neg (by rw [hmost, hkl]; omega)]
  rfl
 ·rw [putN_length, htl, h.len]
 ·have := congrFun p2 0
  rw [if_pos rfl, hk2] at this
  refine this.trans ?_
  unfold ks9 insAt
  rw [hkl, List.take_length, List.drop_length, h.k0, List.take_add_one, hq, List.append_assoc]
  rfl
 ·have := congrFun p2 v
  rw [if_neg hv, t2] at this
  dsimp only at this
  rw [if_neg (by rw [hiu]; omega)] at this
  exact this.trans (h.f2 v hv)
 ·rw [p3 v, t3 v, h.f0 v]
 ·have hrq2 := hL.roots q2 (List.mem_of_getElem? hq2)
  obtain ⟨i2, rfl⟩ := Int.eq_ofNat_of_zero_le (show 0 ≤ q2 by omega)
  have hne : i2 ≠ i := fun e => by subst e; have := rise_lt hL.rise hq hq2 (by omega); omega
  have hil2 : i2 < zs.length := by rw [h.len]; omega
  have e1 := congrFun p1 i2
  rw [if_neg hne, t1] at e1
  dsimp only at e1
  rw [if_neg hne] at e1
  unfold up9 at e1
  rw [if_pos (by rw [putN_length]; omega), if_pos hil2] at e1
  exact e1.trans (h.f1 m (by omega) _ hq2)
theorem planted_end (hG : Good M xs) {roots : List Int} (hL : Loaded xs ys [] roots [] l) (hY : Good M ys) (h : Planted M xs ys zs roots roots.length) {k : Nat} {was : List S54} (hw : rowsR xs k 0 = some was) : rowsR zs (zs.length + 1) 0 = some (was ++ l) := by
 have hpos := hG.tree.pos
 have hll := hL.len
 have hzl := h.len
 have hz : inB zs ((0 : Nat) : Int) = true := inB_nat.2 (by omega)
 refine rowsR_of h.good hz ?_
 have hr := rowsR_reads hw (show inB xs ((0 : Nat) : Int) = true from inB_nat.2 hpos)
 have hR2 := hL.reads
 cases hr with
 | @cons _ _ r' hr1 =>
  rw [if_pos (by rfl), List.nil_append]
  have e : r' ++ l = (if ((0 : Int), topD 0).1 = 0 then [] else [rowAt zs (0, topD 0)]) ++ (r' ++ l) := by rw [if_pos (by rfl)]; rfl
  rw [e]
  refine .cons ?_
  have e2 : kidsAt zs (0, topD 0) ++ [] = kidsAt xs (0, topD 0) ++ roots.map fun q => (q, (0 : Int)) := by
   unfold kidsAt
   rw [List.append_nil]
   have := h.k0
   rw [List.take_length] at this
   rw [show (rd_T79 zs ((0 : Int), topD 0).1).f2 = _ from this, List.map_append]
   rfl
  rw [e2]
  refine Reads.append ?_ ?_
  ·rw [List.append_nil] at hr1
   refine hr1.congr (fun v => v ≠ 0 ∧ inB xs v = true) (fun v hv => ?_) fun p hp => ?_
   ·have hv' := of_decide_eq_true hv.2
    obtain ⟨i, rfl⟩ := Int.eq_ofNat_of_zero_le hv'.1
    refine ⟨by rw [h.f0, hL.f0 i (by omega)], by rw [h.f2 i (by have := hv.1; omega), hL.other i (by omega) (by simp)], fun q hq => ?_⟩
    obtain ⟨m, rfl, hm, _⟩ := hG.tree.kid i q hq
    exact ⟨fun e => hG.tree.zero i (by rw [e] at hq; exact hq), inB_nat.2 hm⟩
   ·obtain ⟨q, hq, rfl⟩ := List.mem_map.1 hp
    obtain ⟨m, rfl, hm, _⟩ := hG.tree.kid 0 q hq
    exact ⟨fun e => hG.tree.zero 0 (by dsimp only at e; rw [e] at hq; exact hq), inB_nat.2 hm⟩
  ·have hR3 : Reads ys (roots.map fun q => (q, (0 : Int))) l := hR2
   refine hR3.congr (fun v => v ≠ 0 ∧ inB ys v = true) (fun v hv => ?_) fun p hp => ?_
   ·have hv' := of_decide_eq_true hv.2
    obtain ⟨i, rfl⟩ := Int.eq_ofNat_of_zero_le hv'.1
    refine ⟨h.f0 i, h.f2 i (by have := hv.1; omega), fun q hq => ?_⟩
    obtain ⟨m, rfl, hm, _⟩ := hY.tree.kid i q hq
    exact ⟨fun e => hY.tree.zero i (by rw [e] at hq; exact hq), inB_nat.2 hm⟩
   ·obtain ⟨q, hq, rfl⟩ := List.mem_map.1 hp
    have h9 := hL.roots q hq
    exact ⟨fun e => by dsimp only at e; omega, decide_eq_true (by omega)⟩
end
end Go.Proofs.Ytpkaliaaffgbdaa.QA
namespace Go.Proofs.Ytpkaliaaffgbdaa.QA
open Go.RowKit Go.Proofs.YtpkaliaaffgbdaaW.PrintWords Go.Proofs.YtpkaliaaffgbdaaW.PrintLast Go.Proofs.YtpkaliaaffgbdaaW.PrintMore
attribute [local go_sem] max2_int min2_int max_two min_two max_three min_three max_four min_four   -- for this text's walks alone
set_option linter.unusedVariables false
set_option linter.unusedSimpArgs false

open Go
def f0s (xs : List S79) : List S54 := xs.map fun x => x.f0
def f1s (xs : List S79) : List Int := xs.map fun x => x.f1
/-- Numbers that rise along each node's kids. -/
structure Ranked (xs : List S79) (R : List Int) : Prop where
 len : R.length = xs.length
 ord : ∀ p : Nat, (ks9 xs p).Pairwise fun a b => rd R a < rd R b
 lo : ∀ p : Nat, ∀ k ∈ ks9 xs p, 0 ≤ rd R k
section
variable {M : Nat} {xs : List S79} {R : List Int}
theorem f0s_length (xs : List S79) : (f0s xs).length = xs.length := by simp [f0s]
theorem f1s_length (xs : List S79) : (f1s xs).length = xs.length := by simp [f1s]
theorem rd_f1s {i : Nat} (h : i < xs.length) : rd (f1s xs) (i : Int) = up9 xs i := by
 unfold up9 f1s rd
 rw [if_pos h, nd_at i h, Int.toNat_natCast, List.getD_eq_getElem?_getD, List.getElem?_map, List.getElem?_eq_getElem h]
 rfl
theorem kids_of (h : Good M xs) (hR : Ranked xs R) (p : Nat) : KidsOf (f1s xs) R (p : Int) (ks9 xs p) where
 mem i hi := by
  rw [f1s_length] at hi
  rw [rd_f1s hi]
  constructor
  ·intro h1
   exact (h.tree.lt h1).2.2
  ·intro h1
   obtain ⟨j, hj, _, hu⟩ := h.tree.kid p _ h1
   obtain rfl : i = j := by omega
   exact hu
 nat k hk := by
  obtain ⟨j, hj, hl, _⟩ := h.tree.kid p k hk
  exact ⟨j, hj, by rw [f1s_length]; exact hl⟩
 ord := hR.ord p
 lo := hR.lo p
theorem kidsN_nat (p : Nat) : kidsN xs (p : Int) = ks9 xs p := by
 unfold kidsN ks9
 by_cases c : p < xs.length
 ·rw [if_pos (inB_nat.2 c)]
 ·rw [if_neg (fun h => c (inB_nat.1 h)), rd_out xs p (by omega)]
  rfl
theorem kidsN_neg {n : Int} (h : n < 0) : kidsN xs n = [] := by
 unfold kidsN inB
 rw [decide_eq_false (by omega)]
 rfl
theorem kidsN_le (h : Good M xs) (n : Int) : (kidsN xs n).length ≤ 4096 := by
 by_cases c : n < 0
 ·rw [kidsN_neg c]; exact Nat.zero_le _
 ·obtain ⟨p, rfl⟩ := Int.eq_ofNat_of_zero_le (show 0 ≤ n by omega)
  rw [kidsN_nat]
  have := h.kids_le p
  have := h.len
  omega
theorem rd_snoc {l : List Int} {x : Int} {k : Nat} (h : k < l.length) : rd (l ++ [x]) (k : Int) = rd l (k : Int) := by
 unfold rd
 rw [Int.toNat_natCast, List.getD_eq_getElem?_getD, List.getElem?_append_left h, ← List.getD_eq_getElem?_getD]
theorem rd_setI {l : List Int} {x : Int} {i k : Nat} : rd (l.set i x) (k : Int) = if k = i ∧ i < l.length then x else rd l (k : Int) := by
 unfold rd
 simp only [Int.toNat_natCast, List.getD_eq_getElem?_getD, List.getElem?_set]
 by_cases e : i = k
 ·subst e
  by_cases h : i < l.length
  ·simp [h]
  ·simp [h, List.getElem?_eq_none (Nat.le_of_not_lt h)]
 ·rw [if_neg e, if_neg (fun h => e h.1.symm)]
theorem ranked_new : Ranked newDoc [0] := by
 refine ⟨rfl, fun p => ?_, fun p k hk => ?_⟩
 ·match p with
  | 0 => exact List.Pairwise.nil
  | p + 1 => unfold ks9; rw [rd_out _ _ (by simp [newDoc])]; exact List.Pairwise.nil
 ·match p with
  | 0 => cases hk
  | p + 1 => unfold ks9 at hk; rw [rd_out _ _ (by simp [newDoc])] at hk; cases hk
theorem add_facts (xs : List S79) (x : S54) : (addN xs x).length = xs.length + 1 ∧ (∀ q, ks9 (addN xs x) q = ks9 xs q) ∧ f0s (addN xs x) = f0s xs ++ [⟨0, x.f1, x.f2, x.f3, x.f4⟩] ∧ f1s (addN xs x) = f1s xs ++ [-1] := by
 refine ⟨by simp [addN], fun q => ?_, by simp [f0s, addN], by simp [f1s, addN]⟩
 unfold ks9 addN
 rw [rd_add]
 split
 ·rename_i e
  rw [e, rd_out xs xs.length (Nat.le_refl _)]
  rfl
 ·rfl
theorem ranked_add (h : Good M xs) (hR : Ranked xs R) (x : S54) : Ranked (addN xs x) (R ++ [0]) := by
 obtain ⟨a1, a2, _, _⟩ := add_facts xs x
 have hrd : ∀ p : Nat, ∀ k ∈ ks9 xs p, rd (R ++ [0]) k = rd R k := fun p k hk => by
  obtain ⟨j, rfl, hj, _⟩ := h.tree.kid p k hk
  exact rd_snoc (by rw [hR.len]; exact hj)
 refine ⟨by simp [hR.len, a1], fun p => ?_, fun p k hk => ?_⟩
 ·rw [a2]
  exact (hR.ord p).imp_of_mem fun {a b} ha hb hab => by rw [hrd p a ha, hrd p b hb]; exact hab
 ·rw [a2] at hk
  rw [hrd p k hk]
  exact hR.lo p k hk
theorem list_ext_up {ys : List S79} {l : List Int} (hl : l.length = ys.length) (h : ∀ j : Nat, j < ys.length → rd l (j : Int) = up9 ys j) : f1s ys = l := by
 refine List.ext_getElem (by rw [f1s_length, hl]) fun j h1 h2 => ?_
 have h3 := h j (by omega)
 rw [← rd_f1s (by omega), rd_at h2, rd_at h1] at h3
 exact h3.symm
theorem list_ext_f0 {xs ys : List S79} (hl : ys.length = xs.length) (h : ∀ j : Nat, (rd_T79 ys (j : Int)).f0 = (rd_T79 xs (j : Int)).f0) : f0s ys = f0s xs := by
 refine List.ext_getElem (by rw [f0s_length, f0s_length, hl]) fun j h1 h2 => ?_
 rw [f0s_length] at h1 h2
 have := h j
 rw [nd_at j h1, nd_at j h2] at this
 simpa [f0s] using this
theorem take_facts (h : Good M xs) (i : Nat) (hi : i < xs.length) : f0s (takeN xs i) = f0s xs ∧ f1s (takeN xs i) = (f1s xs).set i (-1) := by
 obtain ⟨e1, e2, e3⟩ := takeN_up h i hi
 refine ⟨list_ext_f0 (takeN_length xs i) e3, list_ext_up (by rw [List.length_set, f1s_length, takeN_length]) fun j hj => ?_⟩
 rw [takeN_length] at hj
 rw [rd_setI, e1]
 dsimp only
 by_cases e : j = i
 ·rw [if_pos ⟨e, by rw [f1s_length]; exact hi⟩, if_pos e]
 ·rw [if_neg (fun h => e h.1), if_neg e, rd_f1s hj]
theorem put_facts (p a i : Nat) (hp : p < xs.length) (hi : i < xs.length) (hne : p ≠ i) : f0s (putN xs p a i) = f0s xs ∧ f1s (putN xs p a i) = (f1s xs).set i (p : Int) := by
 obtain ⟨e1, e2, e3⟩ := putN_up (xs := xs) p a i hp hi hne
 refine ⟨list_ext_f0 (putN_length xs p a i) e3, list_ext_up (by rw [List.length_set, f1s_length, putN_length]) fun j hj => ?_⟩
 rw [putN_length] at hj
 rw [rd_setI, e1]
 dsimp only
 by_cases e : j = i
 ·rw [if_pos ⟨e, by rw [f1s_length]; exact hi⟩, if_pos e]
 ·rw [if_neg (fun h => e h.1), if_neg e, rd_f1s hj]
theorem ranked_take (h : Good M xs) (hR : Ranked xs R) (i : Nat) (hi : i < xs.length) : Ranked (takeN xs i) R := by
 obtain ⟨_, e2, _⟩ := takeN_up h i hi
 refine ⟨by rw [hR.len, takeN_length], fun p => ?_, fun p k hk => ?_⟩
 ·rw [e2]
  dsimp only
  split
  ·exact (hR.ord p).filter _
  ·exact hR.ord p
 ·rw [e2] at hk
  dsimp only at hk
  split at hk
  ·exact hR.lo p k (List.mem_filter.1 hk).1
  ·exact hR.lo p k hk
/-- Numbers that were given anew: those of the first m are 2 i + 1, no other changes. -/
theorem numU_at (ks : List Int) (hd : ks.Nodup) (hn : ∀ k ∈ ks, ∃ i : Nat, k = (i : Int) ∧ i < R.length) : ∀ (m : Nat), m ≤ ks.length → (∀ (j : Nat) (hj : j < ks.length), j < m → rd (numU ks R m) ks[j] = 2 * (j : Int) + 1) ∧ ∀ k : Nat, (k : Int) ∉ ks → rd (numU ks R m) (k : Int) = rd R (k : Int)
 | 0, _ => ⟨fun j _ h => absurd h (Nat.not_lt_zero j), fun _ _ => rfl⟩
 | m + 1, hm => by
  obtain ⟨h1, h2⟩ := numU_at ks hd hn m (by omega)
  obtain ⟨i, hi, hil⟩ := hn _ (List.getElem_mem (show m < ks.length by omega))
  have hset : numU ks R (m + 1) = (numU ks R m).set i (2 * (m : Int) + 1) := by rw [numU, rd_at (by omega), hi, Int.toNat_natCast]
  refine ⟨fun j hj hjm => ?_, fun k hk => ?_⟩
  ·obtain ⟨q, hq, hql⟩ := hn _ (List.getElem_mem hj)
   rw [hset, hq, rd_setI, numU_length]
   by_cases e : j = m
   ·subst e
    rw [if_pos ⟨by omega, hil⟩]
   ·have hne : q ≠ i := fun e2 => by
     subst e2
     have hp := List.pairwise_iff_getElem.1 hd
     rcases Nat.lt_or_gt_of_ne e with h5 | h5
     ·exact hp j m hj (by omega) h5 (hq.trans hi.symm)
     ·exact hp m j (by omega) hj h5 (hi.trans hq.symm)
    rw [if_neg (fun h => hne h.1), ← hq, h1 j hj (by omega)]
  ·have hne : k ≠ i := fun e => hk (by rw [e, ← hi]; exact List.getElem_mem _)
   rw [hset, rd_setI, if_neg (fun h => hne h.1), h2 k hk]
theorem ranked_put (h : Good M xs) (hR : Ranked xs R) (p a i : Nat) (hp : p < xs.length) (hi : i < xs.length) (hne : p ≠ i) (hu : up9 xs i = -1) (ha : a ≤ (ks9 xs p).length) : Ranked (putN xs p a i) ((numU (ks9 xs p) R (ks9 xs p).length).set i (2 * (a : Int))) := by
 obtain ⟨_, e2, _⟩ := putN_up (xs := xs) p a i hp hi hne
 have hnat : ∀ q : Nat, ∀ k ∈ ks9 xs q, ∃ j : Nat, k = (j : Int) ∧ j < R.length := fun q k hk => by
  obtain ⟨j, hj, hl, _⟩ := h.tree.kid q k hk
  exact ⟨j, hj, by rw [hR.len]; exact hl⟩
 obtain ⟨n1, n2⟩ := numU_at (R := R) (ks9 xs p) (h.tree.nodup p) (hnat p) (ks9 xs p).length (Nat.le_refl _)
 have hni : ∀ q : Nat, (i : Int) ∉ ks9 xs q := fun q hk => by
  obtain ⟨j, hj, _, hup⟩ := h.tree.kid q _ hk
  obtain rfl : i = j := by omega
  omega
 have hkid : ∀ (j : Nat) (hj : j < (ks9 xs p).length), rd ((numU (ks9 xs p) R (ks9 xs p).length).set i (2 * (a : Int))) (ks9 xs p)[j] = 2 * (j : Int) + 1 := fun j hj => by
  obtain ⟨q, hq, _⟩ := hnat p _ (List.getElem_mem hj)
  have hqi : q ≠ i := fun e => hni p (by rw [← e, ← hq]; exact List.getElem_mem hj)
  rw [hq, rd_setI, if_neg (fun h => hqi h.1), ← hq]
  exact n1 j hj hj
 have hself : rd ((numU (ks9 xs p) R (ks9 xs p).length).set i (2 * (a : Int))) (i : Int) = 2 * (a : Int) := by
  rw [rd_setI, if_pos ⟨rfl, by rw [numU_length, hR.len]; exact hi⟩]
 have hother : ∀ q : Nat, q ≠ p → ∀ k ∈ ks9 xs q, rd ((numU (ks9 xs p) R (ks9 xs p).length).set i (2 * (a : Int))) k = rd R k := fun q hq k hk => by
  obtain ⟨j, rfl, hj, hup⟩ := h.tree.kid q k hk
  have hji : j ≠ i := fun e => by subst e; exact hni q hk
  have hnp : (j : Int) ∉ ks9 xs p := fun hk2 => by
   obtain ⟨j2, hj2, _, hup2⟩ := h.tree.kid p _ hk2
   obtain rfl : j = j2 := by omega
   omega
  rw [rd_setI, if_neg (fun h => hji h.1), n2 j hnp]
 have hget : ∀ k ∈ ks9 xs p, ∃ (j : Nat) (hj : j < (ks9 xs p).length), (ks9 xs p)[j] = k := fun k hk => List.getElem_of_mem hk
 refine ⟨by rw [List.length_set, numU_length, hR.len, putN_length], fun q => ?_, fun q k hk => ?_⟩
 ·rw [e2]
  dsimp only
  by_cases e : q = p
  ·rw [if_pos e]
   unfold insAt
   refine List.pairwise_iff_getElem.2 fun u v hu hv huv => ?_
   have hta : ((ks9 xs p).take a).length = a := by rw [List.length_take]; omega
   have key : ∀ (z : Nat) (hz : z < ((ks9 xs p).take a ++ (i : Int) :: (ks9 xs p).drop a).length), rd ((numU (ks9 xs p) R (ks9 xs p).length).set i (2 * (a : Int))) (((ks9 xs p).take a ++ (i : Int) :: (ks9 xs p).drop a)[z]) = if z < a then 2 * (z : Int) + 1 else if z = a then 2 * (a : Int) else 2 * ((z : Int) - 1) + 1 := fun z hz => by
    rcases Nat.lt_trichotomy z a with h1 | rfl | h1
    ·rw [if_pos h1, List.getElem_append_left (by omega), List.getElem_take]
     exact hkid z (by omega)
    ·rw [if_neg (Nat.lt_irrefl _), if_pos rfl, List.getElem_append_right (by omega)]
     simp only [hta, Nat.sub_self, List.getElem_cons_zero]
     exact hself
    ·rw [if_neg (by omega), if_neg (by omega), List.getElem_append_right (by omega)]
     obtain ⟨y, hy⟩ : ∃ y, z - ((ks9 xs p).take a).length = y + 1 := ⟨z - a - 1, by omega⟩
     simp only [hy, List.getElem_cons_succ, List.getElem_drop]
     have hyz : a + y = z - 1 := by omega
     have hzl : a + y < (ks9 xs p).length := by simp only [List.length_append, List.length_cons, List.length_drop] at hz; omega
     rw [hkid (a + y) hzl]
     omega
   rw [key u hu, key v hv]
   (repeat' split) <;> omega
  ·rw [if_neg e]
   exact (hR.ord q).imp_of_mem fun {x y} hx hy hxy => by rw [hother q e x hx, hother q e y hy]; exact hxy
 ·rw [e2] at hk
  dsimp only at hk
  by_cases e : q = p
  ·rw [if_pos e] at hk
   rcases mem_insAt.1 hk with rfl | hk
   ·rw [hself]; omega
   ·obtain ⟨j, hj, rfl⟩ := hget k hk
    rw [hkid j hj]
    omega
  ·rw [if_neg e] at hk
   rw [hother q e k hk]
   exact hR.lo q k hk
end
end Go.Proofs.Ytpkaliaaffgbdaa.QA
namespace Go.Proofs.Ytpkaliaaffgbdaa.QA
open Go.RowKit Go.Proofs.YtpkaliaaffgbdaaW.PrintWords Go.Proofs.YtpkaliaaffgbdaaW.PrintLast Go.Proofs.YtpkaliaaffgbdaaW.PrintMore
attribute [local go_sem] max2_int min2_int max_two min_two max_three min_three max_four min_four   -- for this text's walks alone
set_option linter.unusedVariables false
set_option linter.unusedSimpArgs false

open Go
/-- A document of the answer's that holds these nodes. -/
def RDoc (W : World) (ok : Nat → Prop) (g : Nat) (xs : List S79) : Prop := ∃ R vX vU vR, RefAt W ok g vX vU vR (f0s xs) (f1s xs) R ∧ Ranked xs R
/-- .. along a call. -/
def RD (w W : World) (ok ok1 : Nat → Prop) (g : Nat) (xs : List S79) : Prop := ∃ R vX vU vR, RSt w W ok ok1 g vX vU vR (f0s xs) (f1s xs) R ∧ Ranked xs R
def ToRD (w W : World) (ok : Nat → Prop) (g : Nat) (xs : List S79) : Prop := ∃ ok1, RD w W ok ok1 g xs
section
variable {w W W0 W1 : World} {ok ok' ok1 : Nat → Prop} {g : Nat} {xs ys : List S79} {M : Nat} {R : List Int}
theorem RDoc.lt (h : RDoc W ok g xs) : g < W.heap.size := by
 obtain ⟨_, _, _, _, h, _⟩ := h
 exact h.lt
theorem RDoc.own (h : RDoc W ok g xs) : ok g := by
 obtain ⟨_, _, _, _, h, _⟩ := h
 exact h.own
theorem RDoc.mono (h : RDoc W ok g xs) (ho : ∀ k, ok k → ok' k) : RDoc W ok' g xs := by
 obtain ⟨R, vX, vU, vR, h, hR⟩ := h
 exact ⟨R, vX, vU, vR, h.mono ho, hR⟩
theorem RDoc.move (h : RDoc W ok g xs) (hm : ∀ k, ok k → k < W.heap.size → W1.heap[k]? = W.heap[k]?) : RDoc W1 ok g xs := by
 obtain ⟨R, vX, vU, vR, h, hR⟩ := h
 exact ⟨R, vX, vU, vR, h.move hm, hR⟩
theorem RDoc.bound (h : RDoc W ok g xs) : RDoc W (fun k => ok k ∧ k < W.heap.size) g xs := by
 obtain ⟨R, vX, vU, vR, h, hR⟩ := h
 exact ⟨R, vX, vU, vR, h.bound, hR⟩
theorem RDoc.below (h : RDoc W ok g xs) (hb : Below W.heap.size W W1) : RDoc W1 ok g xs := h.move fun k _ hl => hb.block k hl
theorem RDoc.start (h : RDoc w ok g xs) : RD w w ok (fun k => ok k ∧ k < w.heap.size) g xs := by
 obtain ⟨R, vX, vU, vR, h, hR⟩ := h
 exact ⟨R, vX, vU, vR, .start h, hR⟩
theorem RD.doc (h : RD w W ok ok1 g xs) : RDoc W ok1 g xs := by
 obtain ⟨R, vX, vU, vR, h, hR⟩ := h
 exact ⟨R, vX, vU, vR, h.at_, hR⟩
theorem RD.new (h : RD w W ok ok1 g xs) : ∀ k, ok1 k → ok k ∨ w.heap.size ≤ k := by
 obtain ⟨R, vX, vU, vR, h, hR⟩ := h
 exact h.new
theorem RD.lt (h : RD w W ok ok1 g xs) : ∀ k, ok1 k → k < W.heap.size := by
 obtain ⟨R, vX, vU, vR, h, hR⟩ := h
 exact h.lt
theorem RD.mod (h : RD w W ok ok1 g xs) : Mod w W ok := by
 obtain ⟨R, vX, vU, vR, h, hR⟩ := h
 exact h.mod
theorem RD.mk (h : RDoc W ok1 g xs) (hn : ∀ k, ok1 k → ok k ∨ w.heap.size ≤ k) (hl : ∀ k, ok1 k → k < W.heap.size) (hm : Mod w W ok) : RD w W ok ok1 g xs := by
 obtain ⟨R, vX, vU, vR, h, hR⟩ := h
 exact ⟨R, vX, vU, vR, ⟨h, hn, hl, hm⟩, hR⟩
theorem RD.to (h : RD w W ok ok1 g xs) : ToRD w W ok g xs := ⟨ok1, h⟩
theorem RD.quiet (h : RD w W ok ok1 g xs) (hb : Below W.heap.size W W1) : RD w W1 ok ok1 g xs :=
 .mk (h.doc.below hb) h.new (fun k hk => Nat.lt_of_lt_of_le (h.lt k hk) hb.size) (h.mod.step hb)
theorem ToRD.quiet (h : RDoc w ok g xs) (hb : Below w.heap.size w W1) : ToRD w W1 ok g xs := (h.start.quiet hb).to
/-- Behind a call of its own. -/
theorem RD.then_ (h : RD w W ok ok1 g xs) (hb : Below W.heap.size W W0) (ht : ToRD W0 W1 ok1 g ys) : ∃ ok2, RD w W1 ok ok2 g ys ∧ ∀ k, k < W0.heap.size → ¬ ok1 k → W1.heap[k]? = W0.heap[k]? ∧ ¬ ok2 k := by
 obtain ⟨ok2, h2⟩ := ht
 have hs := hb.size
 refine ⟨ok2, .mk h2.doc (fun k hk => (h2.new k hk).elim (h.new k) fun h3 => .inr (by have := h.mod.size; omega)) h2.lt ((h.mod.step hb).trans h2.mod fun k hk => h.new k hk), fun k hk hn => ⟨h2.mod.block k hk hn, fun h3 => (h2.new k h3).elim hn fun h4 => by omega⟩⟩
theorem ToRD.after (hb : Below w.heap.size w W) (h : ToRD W W1 ok g ys) : ToRD w W1 ok g ys := by
 obtain ⟨ok2, h2⟩ := h
 exact ⟨ok2, .mk h2.doc (fun k hk => (h2.new k hk).imp id fun h3 => Nat.le_trans hb.size h3) h2.lt ((Mod.of_below hb).trans h2.mod fun k hk => .inl hk)⟩
theorem ToRD.link (hR : ToRef w W ok g (f0s ys) (f1s ys) R) (hk : Ranked ys R) : ToRD w W ok g ys := by
 obtain ⟨ok1, vX, vU, vR, h⟩ := hR
 exact ⟨ok1, R, vX, vU, vR, h, hk⟩
theorem RD_New (w : World) : Calls Try.prog 19 #[] w fun e w' => ∃ g, e = .returned (.pointer (some ⟨g, 0, none⟩)) ∧ RDoc w' (fun k => w.heap.size ≤ k) g newDoc ∧ Below w.heap.size w w' := by
 refine (Ref_New w).mono ?_
 rintro e w' ⟨g, rfl, ⟨vX, vU, vR, h⟩, hB⟩
 exact ⟨g, rfl, ⟨[0], vX, vU, vR, h, ranked_new⟩, hB⟩
theorem RD_add (h : RDoc w ok g xs) (hG : Good M xs) (x : S54) (A : Option Addr) (c : Nat) (hC : Kd.C k52 w A x.f4.length x.f4) (hc : x.f4.length ≤ c) (hA : x.f4.length < 1000000) :
  Calls Try.prog 73 #[.pointer (some ⟨g, 0, none⟩), vrow x A c] w fun e w' => e = .returned (.int .i64 (xs.length : Nat)) ∧ ToRD w w' ok g (addN xs x) := by
 obtain ⟨R, vX, vU, vR, h, hR⟩ := h
 have hl := hG.len
 obtain ⟨_, _, e0, e1⟩ := add_facts xs x
 refine (Ref_add h (by rw [f0s_length]; omega) (by rw [f1s_length]; omega) (by rw [hR.len]; omega) x A c hC hc hA).mono ?_
 rintro e w' ⟨rfl, ht⟩
 rw [← e0, ← e1] at ht
 exact ⟨by rw [f0s_length], .link ht (ranked_add hG hR x)⟩
theorem RD_Kids (h : RDoc w ok g xs) (hG : Good M xs) (n : Int) : Calls Try.prog 59 #[.pointer (some ⟨g, 0, none⟩), .int .i64 n] w fun e w' => ∃ v, e = .returned v ∧ Kd.R kI 3 w' w.heap.size (fun _ => True) v (kidsN xs n) ∧ Below w.heap.size w w' := by
 obtain ⟨R, vX, vU, vR, h, hR⟩ := h
 have hl := hG.len
 have hp := hG.tree.pos
 have hk := kidsN_le hG n
 refine Ref_Kids h (by rw [f0s_length]; omega) (by rw [f0s_length, f1s_length]) (by rw [f0s_length, hR.len]) (by rw [f0s_length]; omega) n _ (fun hn => ?_) (fun hn => kidsN_neg hn) (by omega)
 obtain ⟨p, rfl⟩ := Int.eq_ofNat_of_zero_le hn
 rw [kidsN_nat]
 exact kids_of hG hR p
theorem RD_set (h : RDoc w ok g xs) (hG : Good M xs) (p a i : Nat) (hp : p < xs.length) (hi : i < xs.length) (hne : p ≠ i) (ha : a ≤ (ks9 (takeN xs i) p).length) :
  Calls Try.prog 76 #[.pointer (some ⟨g, 0, none⟩), .int .i64 (p : Int), .int .i64 (a : Int), .int .i64 (i : Int)] w fun e w' => e = .returned (.tuple #[]) ∧ ToRD w w' ok g (putN (takeN xs i) p a i) := by
 obtain ⟨R, vX, vU, vR, h, hR⟩ := h
 have hl := hG.len
 have hT := hG.take i hi
 have hRT := ranked_take hG hR i hi
 obtain ⟨t0, t1⟩ := take_facts hG i hi
 have htl := takeN_length xs i
 have hk := hT.kids_le p
 have hu : up9 (takeN xs i) i = -1 := by rw [(takeN_up hG i hi).1]; exact if_pos rfl
 have hK := kids_of hT hRT p
 rw [t1] at hK
 obtain ⟨p0, p1⟩ := put_facts (xs := takeN xs i) p a i (by omega) (by omega) hne
 refine (Ref_set h (by rw [f0s_length]; omega) (by rw [f0s_length, f1s_length]) (by rw [f0s_length, hR.len]) (by rw [f0s_length]; omega) p i a (by rw [f0s_length]; exact hp) (by rw [f0s_length]; exact hi) (by omega) _ hK (by omega)).mono ?_
 rintro e w' ⟨rfl, ht⟩
 refine ⟨rfl, .link (R := (numU (ks9 (takeN xs i) p) R (ks9 (takeN xs i) p).length).set i (2 * (a : Int))) ?_ (ranked_put hT hRT p a i (by omega) (by omega) hne hu ha)⟩
 rw [p0, t0, p1, t1, List.set_set]
 exact ht
theorem takeN_none (i : Nat) (hi : i < xs.length) (hu : (rd_T79 xs (i : Int)).f1 = -1) : takeN xs i = xs := by
 unfold takeN
 dsimp only
 rw [if_pos hu]
 have : withUp (rd_T79 xs (i : Int)) (-1) = rd_T79 xs (i : Int) := by
  unfold withUp
  rw [← hu]
 rw [this, nd_at i hi]
 exact List.set_getElem_self hi
end
/-- The last row so deep among the first k. -/
def lastAt (l : List S54) (d : Int) : Nat → Int
 | 0 => -1
 | k + 1 => if (rd_T54 l (k : Int)).f0 = d then (k : Int) else lastAt l d k
theorem lastAt_zero (l : List S54) (d : Int) : lastAt l d 0 = -1 := rfl
theorem lastAt_succ (l : List S54) (d : Int) (k : Nat) : lastAt l d (k + 1) = if (rd_T54 l (k : Int)).f0 = d then (k : Int) else lastAt l d k := rfl
theorem parent_l0 (l : List S54) (i : Nat) (hi : i < l.length) (hl : l.length < 1000000) : ∀ (e j k : Nat), j + e = i → 2 * e + 1 < k → boltingref04_Parent.l0 k l (i : Int) (lastAt l (wrap64 ((rd_T54 l (i : Int)).f0 - 1)) j) (j : Int) = some (lastAt l (wrap64 ((rd_T54 l (i : Int)).f0 - 1)) i)
 | 0, j, k + 2, h, _ => by
  obtain rfl : j = i := by omega
  simp only [boltingref04_Parent.l0, boltingref04_Parent.j1]
  rw [if_neg (by omega), if_neg (by decide)]
 | e + 1, j, k + 2, h, hk => by
  have ih := parent_l0 l i hi hl e (j + 1) k (by omega) (by omega)
  rw [lastAt_succ] at ih
  simp only [boltingref04_Parent.l0, boltingref04_Parent.j1]
  rw [if_pos (by omega), if_pos (decide_eq_true (by omega)), if_pos (by omega), if_pos (by omega), if_pos (by omega), if_pos (by omega), wrap1 (by omega)]
  split
  ·rename_i c
   rw [if_pos c] at ih
   exact ih
  ·rename_i c
   rw [if_neg c] at ih
   exact ih
theorem parent_is (l : List S54) (i : Nat) (hi : i < l.length) (hl : l.length < 1000000) : boltingref04_Parent.f (2 * i + 2) l (i : Int) = some (lastAt l (wrap64 ((rd_T54 l (i : Int)).f0 - 1)) i) :=
 parent_l0 l i hi hl i 0 (2 * i + 2) (by omega) (by omega)
/-- The open nodes are the last rows of their depths. -/
structure Path (l : List S54) (first i : Nat) (ar : List Int) : Prop where
 at_ : ∀ D, D < ar.length → ar.getD D 0 = (first : Int) + lastAt l (D : Int) i ∧ 0 ≤ lastAt l (D : Int) i
 none : lastAt l (-1) i = -1
theorem path_start (l : List S54) (first : Nat) : Path l first 0 [] := ⟨fun D h => absurd h (Nat.not_lt_zero D), rfl⟩
theorem path_step {l : List S54} {first i : Nat} {ar : List Int} (h : Path l first i ar) (h0 : 0 ≤ (rd_T54 l (i : Int)).f0) (h1 : (rd_T54 l (i : Int)).f0.toNat ≤ ar.length) : Path l first (i + 1) (ar.take (rd_T54 l (i : Int)).f0.toNat ++ [((first + i : Nat) : Int)]) := by
 obtain ⟨D, hD⟩ := Int.eq_ofNat_of_zero_le h0
 rw [hD, Int.toNat_natCast] at h1 ⊢
 have ht : (ar.take D).length = D := by rw [List.length_take]; omega
 refine ⟨fun E hE => ?_, ?_⟩
 ·rw [List.length_append, ht, List.length_singleton] at hE
  rw [lastAt_succ, hD]
  by_cases e : E = D
  ·subst e
   rw [if_pos rfl, List.getD_eq_getElem?_getD, List.getElem?_append_right (by omega), ht, Nat.sub_self]
   exact ⟨by show ((first + i : Nat) : Int) = _; omega, by omega⟩
  ·rw [if_neg (by omega), List.getD_eq_getElem?_getD, List.getElem?_append_left (by omega), List.getElem?_take, if_pos (by omega), ← List.getD_eq_getElem?_getD]
   exact h.at_ E (by omega)
 ·rw [lastAt_succ, hD, if_neg (by omega)]
  exact h.none
theorem path_root {l : List S54} {first i : Nat} {ar : List Int} (h : Path l first i ar) (h0 : (rd_T54 l (i : Int)).f0 = 0) : Path l first (i + 1) [((first + i : Nat) : Int)] := by
 have := path_step h (by omega) (by rw [h0]; exact Nat.zero_le _)
 rw [h0] at this
 exact this
end Go.Proofs.Ytpkaliaaffgbdaa.QA
namespace Go.Proofs.Ytpkaliaaffgbdaa.QA
open Go.RowKit Go.Proofs.YtpkaliaaffgbdaaW.PrintWords Go.Proofs.YtpkaliaaffgbdaaW.PrintLast Go.Proofs.YtpkaliaaffgbdaaW.PrintMore
attribute [local go_sem] max2_int min2_int max_two min_two max_three min_three max_four min_four   -- for this text's walks alone
set_option linter.unusedVariables false
set_option linter.unusedSimpArgs false

open Go
/-! The document's answers. -/
def refFin (a1 : Int) (a2 a3 : ByteArray) : Bool := if a1 = 0 then (if a2.toList = ([] : List UInt8) then false else a3.toList == ([] : List UInt8)) else false
open Classical in
theorem refrow_l1 (l : List S52) (hm : l.length < 9223372036854775807) (a0 a1 : Int) (a2 a3 : ByteArray) (i : Nat) (hi : i < l.length) (K : Nat) (v : Bool)
  (hnext : ∀ k, K < k → boltingref04_Row.l0 k ((i + 1 : Nat) : Int) a0 a1 a2 a3 l = some v) : ∀ e j k, j + e = i → K + e + 1 < k →
  boltingref04_Row.l1 k (i : Int) (j : Int) a0 a1 a2 a3 l = some (decide (NoneLike l i j) && v) := by
 intro e
 induction e with
 | zero =>
  intro j k hj hk
  obtain ⟨k, rfl⟩ : ∃ m, k = m + 1 := ⟨k - 1, by omega⟩
  simp only [boltingref04_Row.l1]
  rw [if_neg (by omega), up1 (by omega), hnext k (by omega)]
  have : NoneLike l i j := fun a ha hai => by omega
  simp [this]
 | succ e ih =>
  intro j k hj hk
  obtain ⟨k, rfl⟩ : ∃ m, k = m + 1 := ⟨k - 1, by omega⟩
  simp only [boltingref04_Row.l1]
  rw [if_pos (by omega), if_pos (by omega), if_pos (by omega), if_pos (by omega), if_pos (by omega)]
  have hs := noneLike_step (l := l) (i := i) (j := j) (by omega)
  by_cases hq : (rd_T52 l (i : Int)).f0.toList = (rd_T52 l (j : Int)).f0.toList
  ·rw [if_pos hq]
   have : ¬ NoneLike l i j := fun h => (hs.1 h).1 hq.symm
   simp [this]
  ·rw [if_neg hq, up1 (by omega), ih (j + 1) k (by omega) (by omega)]
   have : decide (NoneLike l i j) = decide (NoneLike l i (j + 1)) := by
    apply decide_eq_decide.2
    exact ⟨fun h => (hs.1 h).2, fun h => hs.2 ⟨fun e => hq e.symm, h⟩⟩
   rw [this]
open Classical in
theorem refrow_l0 (l : List S52) (hm : l.length < 9223372036854775807) (a0 a1 : Int) (a2 a3 : ByteArray) : ∀ d i k, i + d = l.length → d * (l.length + 3) < k →
  boltingref04_Row.l0 k (i : Int) a0 a1 a2 a3 l = some (decide (NoTwo l i) && refFin a1 a2 a3) := by
 intro d
 induction d with
 | zero =>
  intro i k hi hk
  obtain ⟨k, rfl⟩ : ∃ m, k = m + 1 := ⟨k - 1, by omega⟩
  simp only [boltingref04_Row.l0]
  rw [if_neg (by omega)]
  have : NoTwo l i := fun a b hab hib hb => by omega
  simp only [this, decide_true, Bool.true_and, refFin]
  split <;> (try rfl)
  split <;> rfl
 | succ d ih =>
  intro i k hi hk
  obtain ⟨k, rfl⟩ : ∃ m, k = m + 1 := ⟨k - 1, by omega⟩
  rw [Nat.succ_mul] at hk
  simp only [boltingref04_Row.l0]
  rw [if_pos (by omega)]
  have h1 := refrow_l1 l hm a0 a1 a2 a3 i (by omega) (d * (l.length + 3)) (decide (NoTwo l (i + 1)) && refFin a1 a2 a3) (fun k hk => ih (i + 1) k (by omega) hk) i 0 k (by omega) (by omega)
  rw [Int.natCast_zero] at h1
  rw [h1, ← Bool.and_assoc]
  congr 2
  rw [← Bool.decide_and]
  exact decide_eq_decide.2 (noTwo_step (by omega)).symm
open Classical in
theorem refrow_is (x : S54) (hm : x.f4.length < 9223372036854775807) (k : Nat) (hk : x.f4.length * (x.f4.length + 3) + 4 < k) : boltingref04_Row.f k x.f0 x.f1 x.f2 x.f3 x.f4 = some (decide (RowOk x)) := by
 obtain ⟨k, rfl⟩ : ∃ m, k = m + 1 := ⟨k - 1, by omega⟩
 have h0 := refrow_l0 x.f4 hm x.f0 x.f1 x.f2 x.f3 x.f4.length 0 k (by omega) (by omega)
 rw [Int.natCast_zero] at h0
 unfold boltingref04_Row.f RowOk
 by_cases h1 : x.f1 = 1
 ·simp only [h1, boltingref04_Row.j0, true_or, if_true]
  by_cases h2 : x.f2.toList = []
  ·simp [h2, len_eq0]
  ·simp [h2]
 ·by_cases h2 : x.f1 = 2
  ·simp only [h2, boltingref04_Row.j0, or_true, if_true, beq_self_eq_true]
   by_cases h3 : x.f2.toList = []
   ·simp [h3, len_eq0]
   ·simp [h3]
  ·have hb : (x.f1 == 2) = false := beq_eq_false_iff_ne.2 h2
   simp only [h1, h2, hb, boltingref04_Row.j0, or_self, if_false, Bool.false_eq_true]
   rw [h0]
   by_cases h3 : x.f1 = 0
   ·by_cases h4 : x.f2.toList = []
    ·simp [h3, h4, refFin]
    ·by_cases h5 : x.f3.toList = []
     ·simp [h3, h4, h5, refFin]
     ·simp [h3, h4, h5, refFin]
   ·simp [h3, refFin]
open Classical in
theorem refright_l0 (l : List S54) (hF : Few l) : ∀ e i k (d : Int), i + e = l.length → (if h : 0 < i ∧ i ≤ l.length then d = nxt (l[i - 1]'(by omega)) ∧ 0 ≤ (l[i - 1]'(by omega)).f0 ∧ (l[i - 1]'(by omega)).f0 + 1 ≤ i else d = 0) → 3 * e + 200 < k →
  boltingref04_Right.l0 k l (i : Int) = some (decide (RightL d (l.drop i))) := by
 have hn := hF.1
 intro e
 induction e with
 | zero =>
  intro i k d hi h0 hk
  obtain ⟨k, rfl⟩ : ∃ m, k = m + 1 := ⟨k - 1, by omega⟩
  simp only [boltingref04_Right.l0]
  rw [if_neg (by omega), List.drop_of_length_le (by omega)]
  exact congrArg some (decide_eq_true (show RightL d [] from trivial)).symm
 | succ e ih =>
  intro i k d hi h0 hk
  obtain ⟨k, rfl⟩ : ∃ m, k = m + 2 := ⟨k - 2, by omega⟩
  have hil : i < l.length := by omega
  have hx8 := hF.2 l[i] (List.getElem_mem hil)
  have hnext : ∀ (hh : 0 ≤ l[i].f0 ∧ l[i].f0 ≤ i), boltingref04_Right.l0 k l ((i + 1 : Nat) : Int) = some (decide (RightL (nxt l[i]) (l.drop (i + 1)))) := by
   intro hh
   refine ih (i + 1) k _ (by omega) ?_ (by omega)
   rw [dif_pos ⟨by omega, by omega⟩]
   exact ⟨rfl, hh.1, by have := hh.2; simp only [Nat.add_sub_cancel]; omega⟩
  simp only [boltingref04_Right.l0]
  rw [if_pos (by omega), if_pos (by omega), rd_T54_at l i hil, List.drop_eq_getElem_cons hil]
  obtain ⟨x, hx⟩ : ∃ x, l[i] = x := ⟨_, rfl⟩
  rw [hx] at hx8 hnext ⊢
  have hf := few_fuel hx8
  rw [refrow_is x (by omega) (k + 1) (by omega)]
  simp only [Option.bind_some]
  by_cases c2 : RowOk x
  ·rw [decide_eq_true c2, if_pos rfl]
   by_cases c0 : x.f0 < 0
   ·rw [if_pos c0]
    have : ¬ RightL d (x :: l.drop (i + 1)) := fun h => by have := h.1.1; omega
    simp [boltingref04_Right.j1, this]
   ·rw [if_neg c0]
    by_cases ci : i = 0
    ·subst ci
     rw [dif_neg (by omega)] at h0
     subst h0
     rw [if_pos (by omega)]
     by_cases c1 : x.f0 = 0
     ·have he : RightL 0 (x :: l.drop (0 + 1)) ↔ RightL (nxt x) (l.drop (0 + 1)) := ⟨fun h => h.2, fun h => ⟨⟨by omega, by omega, c2⟩, h⟩⟩
      have hb : (x.f0 != 0) = false := bne_eq_false_iff_eq.2 c1
      rw [hb]
      simp only [boltingref04_Right.j1]
      rw [if_neg (by decide), if_neg (by omega), up1 (by omega), decide_eq_decide.2 he]
      exact hnext ⟨by omega, by omega⟩
     ·have : ¬ RightL 0 (x :: l.drop (0 + 1)) := fun h => by have := h.1.2.1; omega
      have hb : (x.f0 != 0) = true := bne_iff_ne.2 c1
      rw [hb]
      simp only [boltingref04_Right.j1, if_true]
      exact congrArg some (decide_eq_false this).symm
    ·obtain ⟨i, rfl⟩ : ∃ j, i = j + 1 := ⟨i - 1, by omega⟩
     rw [dif_pos ⟨by omega, by omega⟩] at h0
     simp only [Nat.add_sub_cancel] at h0
     obtain ⟨y, hy⟩ : ∃ y, l[i]'(by omega) = y := ⟨_, rfl⟩
     rw [hy] at h0
     obtain ⟨hd, y0, y1⟩ := h0
     rw [if_neg (by omega)]
     simp only [boltingref04_Right.j1]
     rw [if_neg (by decide), if_pos (by omega), dn1 (by omega), if_pos (by omega), if_pos (by omega), rd_T54_at l i (by omega), hy, upI (by omega) (by omega)]
     by_cases c3 : x.f0 > y.f0 + 1
     ·rw [if_pos c3]
      have : ¬ RightL d (x :: l.drop (i + 1 + 1)) := fun h => by have := h.1.2.1; unfold nxt at hd; split at hd <;> omega
      simp [this]
     ·rw [if_neg c3]
      by_cases c4 : x.f0 = y.f0 + 1
      ·rw [if_pos c4]
       by_cases c5 : y.f1 = 0
       ·have he : RightL d (x :: l.drop (i + 1 + 1)) ↔ RightL (nxt x) (l.drop (i + 1 + 1)) := ⟨fun h => h.2, fun h => ⟨⟨by omega, by simp only [nxt, c5, if_true] at hd; omega, c2⟩, h⟩⟩
        rw [if_pos c5, up1 (by omega), decide_eq_decide.2 he]
        exact hnext ⟨by omega, by omega⟩
       ·have : ¬ RightL d (x :: l.drop (i + 1 + 1)) := fun h => by have := h.1.2.1; simp only [nxt, c5, if_false] at hd; omega
        rw [if_neg c5]
        simp [this]
      ·have he : RightL d (x :: l.drop (i + 1 + 1)) ↔ RightL (nxt x) (l.drop (i + 1 + 1)) := ⟨fun h => h.2, fun h => ⟨⟨by omega, by unfold nxt at hd; split at hd <;> omega, c2⟩, h⟩⟩
       rw [if_neg c4, up1 (by omega), decide_eq_decide.2 he]
       exact hnext ⟨by omega, by omega⟩
  ·have : ¬ RightL d (x :: l.drop (i + 1)) := fun h => c2 h.1.2.2
   rw [decide_eq_false c2, if_neg (by decide)]
   simp [boltingref04_Right.j1, this]
open Classical in
theorem refright_is (l : List S54) (hF : Few l) (k : Nat) (hk : 3 * l.length + 200 < k) : boltingref04_Right.f k l = some (decide (RightL 0 l)) := by
 have := refright_l0 l hF l.length 0 k 0 (by omega) (by rw [dif_neg (by omega)]) hk
 rw [Int.natCast_zero, List.drop_zero] at this
 exact this
theorem refbig_l0 (l : List S54) (hn : l.length ≤ 1000000) : ∀ e i k, i + e = l.length → e < k →
  boltingref04_Big.l0 k l (i : Int) = some ((l.drop i).any bigB || decide ((l.length : Int) > 4096)) := by
 intro e
 induction e with
 | zero =>
  intro i k hi hk
  obtain ⟨k, rfl⟩ : ∃ m, k = m + 1 := ⟨k - 1, by omega⟩
  simp only [boltingref04_Big.l0]
  rw [if_neg (by omega), List.drop_of_length_le (by omega)]
  simp
 | succ e ih =>
  intro i k hi hk
  obtain ⟨k, rfl⟩ : ∃ m, k = m + 1 := ⟨k - 1, by omega⟩
  simp only [boltingref04_Big.l0]
  rw [if_pos (by omega), if_pos (by omega), rd_T54_at l i (by omega), List.drop_eq_getElem_cons (show i < l.length by omega), List.any_cons]
  by_cases c : (l[i]'(by omega)).f0 ≥ 60
  ·rw [if_pos c]
   have : bigB (l[i]'(by omega)) = true := decide_eq_true c
   rw [this]; rfl
  ·rw [if_neg c, up1 (by omega), ih (i + 1) k (by omega) (by omega)]
   have : bigB (l[i]'(by omega)) = false := decide_eq_false c
   rw [this, Bool.false_or]
open Classical in
theorem refcheck_is (l : List S54) (hF : Few l) (k : Nat) (hk : 3 * l.length + 200 < k) : boltingref04_Check.f k l = some (chkV l) := by
 unfold boltingref04_Check.f chkV
 have hb : boltingref04_Big.f k l = some (bigL l) := by
  have := refbig_l0 l hF.1 l.length 0 k (by omega) (by omega)
  rw [Int.natCast_zero, List.drop_zero] at this
  exact this
 rw [hb, refright_is l hF k hk]
 simp only [Option.bind_some]
 by_cases c : bigL l = true
 ·rw [if_pos c, if_pos c]
 ·rw [if_neg c, if_neg c]
  by_cases c1 : RightL 0 l
  ·rw [if_pos c1, decide_eq_true c1]; rfl
  ·rw [if_neg c1, decide_eq_false c1]; rfl
end Go.Proofs.Ytpkaliaaffgbdaa.QA
