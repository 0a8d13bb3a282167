/- slices.Clone, slices.Insert, slices.DeleteFunc at []int, as the document calls them: rows of the call's own. The document of package arena: what is stored into a node; take, put. -/
import Derived.Test.YtpkaliaaffgbdaaM0
import Derived.Shelf.Spec.SlicesInsertGrow
import Derived.Shelf.Spec.SlicesInsert
import Derived.Shelf.SlicesE.DeleteFunc
namespace Go.Proofs.Ytpkaliaaffgbdaa.QA
open Go.RowKit Go.Proofs.YtpkaliaaffgbdaaW.PrintWords Go.Proofs.YtpkaliaaffgbdaaW.PrintLast Go.Proofs.YtpkaliaaffgbdaaW.PrintMore
attribute [local go_sem] max2_int min2_int max_two min_two max_three min_three max_four min_four   -- for this text's walks alone
set_option linter.unusedVariables false
set_option linter.unusedSimpArgs false

open Go
def int_clone.f (l0 : List Int) : Option (List Int) := if l0.length < 4398046511104 then some l0 else none
set_option maxHeartbeats 2000000 in
set_option maxRecDepth 100000 in
theorem int_clone.calls (A0 : Option Addr) (c0 : Nat) (l0 : List Int) (r : List Int) (w : World) (hr0 : Kd.C (Kd.int .i64) w A0 l0.length l0) (hc0 : l0.length ≤ c0) (h : int_clone.f l0 = some r) :
  Calls Try.prog 42 #[.slice A0 l0.length c0] w fun e w' => ∃ v0_ : Value, e = .returned (v0_) ∧ Kd.R (Kd.int .i64) 3 w' w.heap.size (fun _ => True) v0_ r ∧ Below w.heap.size w w' := by
 have HB := Aside0.mk (Below.refl w.heap.size w)
 unfold int_clone.f at h
 by_cases c : l0.length < 4398046511104
 rotate_left
 ·rw [if_neg c] at h; exact absurd h (by simp)
 rw [if_pos c] at h
 obtain rfl := Option.some.inj h
 clear h
 have LM := Aside0.mk c
 have HR0 := Aside0.mk hr0
 have HC0 := Aside0.mk hc0
 clear hr0 hc0 c
 cases A0 with
 | none =>
  have hz : l0 = [] := by
   cases l0 with
   | nil => rfl
   | cons x l =>
    obtain ⟨ad, e, _⟩ := Kd.at_int HR0.out 0 (by omega) (by simp)
    cases e
  subst hz
  clear HR0 LM
  have hnil := fun w : World => Lib.run_eql_slice_nil (P := Try.prog) w 32 3 none 0 c0 0 0 Try.underlying32
  go_enter Try.func42, Try.ntmps42
  go_wp2
  go_ret
  exact ⟨_, rfl, Kd.R_nil _ _ _ _ _, HB.out⟩
 | some ad =>
  have hnil := fun w : World => Lib.run_eql_slice_nil (P := Try.prog) w 32 3 (some ad) l0.length c0 0 0 Try.underlying32
  go_enter Try.func42, Try.ntmps42
  go_wp2_with (first | ((with_reducible refine gate_dst (N := 5) rfl ?_); refine Kd.R_lit (Kd.int .i64) _ 3 ?hg (N := 5) ?hd (xs := ([] : List Int)) (inner := []) (ok := fun _ => True) (okp := fun _ => True) ?hr ?hp (fun _ hk => hk) trivial (Below.refl _ _) (Nat.le_refl _) (by simp) ?_; (case hd => rfl); (case hg => rfl); (case hr => first | (go_simp; done) | (go_simp; rfl)); (case hp => exact (Reps.none _ _)); intro v5 w5 ho hb hg_ hnew_; clear hg_ hnew_; have n0_ := Aside0.mk (Kd.R_lower ho (below_size HB.out)); have n1_ := Aside0.mk (below_step HB.out hb); clear HB; have HO := n0_; have HB := n1_; clear n0_ n1_ hb ho) | ((with_reducible refine gate_builtin (b := .append) (xs := #[.tmp 5, .tmp 6]) rfl ?_); at_builtin; refine Kd.R_append_rows (Kd.int .i64) (w0 := w) w.heap.size rfl (.tmp 5) (.tmp 6) 32 3 (.int .i64 0) 8 rfl Try.underlying32 info3 rfl (by decide) (by omega) v5 ([] : List Int) l0 _ _ _ (fun _ => True) (fun _ => False) rfl rfl ?aO ?aR (fun _ _ h => h) (fun _ h => h.elim) ?aF ?aB ?aS ?aL ?_; (case aR => exact Kd.C_below HR0.out HB.out); (case aB => exact HB.out); (case aF => exact (fun _ _ => trivial)); (case aO => exact HO.out); (case aS => exact below_size HB.out); (case aL => have := LM.out; simp; omega); intro v7 w7 ho hb hg hat; have HO2 := Aside0.mk ho; have HB2 := Aside0.mk hb; clear ho hb hg hat))
  go_ret
  exact ⟨_, rfl, HO2.out, HB2.out⟩

/-- x stands at place i. -/
def insAt (xs : List Int) (i : Nat) (x : Int) : List Int := xs.take i ++ x :: xs.drop i
section
open Go.Shelf Go.Lib
def insRen : Go.Shelf.Ren := ⟨fun | 21 => 69 | 27 => 82 | 28 => 83 | 35 => 92 | 39 => 96 | n => n, fun | 22 => 32 | n => n, fun n => n⟩
theorem insLays : Lays2.n21 Try.prog insRen := {
 mixed := by kernel_rfl
 f21 := Try.func69.trans (congrArg some (by kernel_rfl))
 f27 := Try.func82.trans (congrArg some (by kernel_rfl))
 f28 := Try.func83.trans (congrArg some (by kernel_rfl))
 f35 := Try.func92.trans (congrArg some (by kernel_rfl))
 f39 := Try.func96.trans (congrArg some (by kernel_rfl))
 t0 := Try.underlying0
 a0 := Try.isAgg0
 z0 := Try.sizeOf0
 v0 := Try.zeroValue0
 t3 := Try.underlying3
 a3 := Try.isAgg3
 z3 := Try.sizeOf3
 v3 := Try.zeroValue3
 t4 := Try.underlying4
 a4 := Try.isAgg4
 z4 := Try.sizeOf4
 v4 := Try.zeroValue4
 t22 := Try.underlying32
 a22 := Try.isAgg32
 z22 := Try.sizeOf32
 v22 := Try.zeroValue32
 i3 := info3 }
theorem ins_cells (xs : List Int) (i : Nat) (x : Int) : encs (Value.int .i64) (insAt xs i x) = (encs (Value.int .i64) xs).take i ++ .int .i64 x :: (encs (Value.int .i64) xs).drop i := by
 simp [insAt, encs, List.map_take, List.map_drop]
theorem ins_len (xs : List Int) (i : Nat) (x : Int) (h : i ≤ xs.length) : (insAt xs i x).length = xs.length + 1 := by
 simp [insAt]
 omega
/-- A row of ints whose block holds these cells. -/
theorem R_int_block {w : World} {base g cap : Nat} {cur : Array Value} {xs : List Int} (hb : base ≤ g) (h : w.heap[g]? = some (.cells cur 3 (0, 0))) (hc : xs.length ≤ cap) (hm : cap ≤ maxLen) (hs : cur.size = cap) (ht : cur.toList.take xs.length = encs (Value.int .i64) xs) :
  Kd.R (Kd.int .i64) 3 w base (fun _ => True) (.slice (some ⟨g, 0, none⟩) xs.length cap) xs :=
 Kd.R_of_own (h1 := fun _ => rfl) ⟨by simp [encs], .inr ⟨g, cap, cur, rfl, hb, h, hc, hm, by omega, by rw [Nat.mul_one]; exact ht⟩⟩ fun _ _ => trivial
theorem ins_take {α : Type} (C R : List α) (i : Nat) (x : α) (h : i ≤ C.length) : (C.take i ++ x :: C.drop i ++ R).take (C.length + 1) = C.take i ++ x :: C.drop i :=
 List.take_left' (by simp; omega)
theorem ins_end {α : Type} (C : List α) (x : α) : C.take C.length ++ x :: C.drop C.length = C ++ [x] := by simp
theorem ins_shift {α : Type} (cur C : List α) (i : Nat) (x : α) (h : cur.take C.length = C) (hi : i < C.length) (hn : C.length ≤ cur.length) :
  (((cur.take (i + 1) ++ C.drop i ++ cur.drop (i + 1 + (C.drop i).length)).take i ++ [x] ++ (cur.take (i + 1) ++ C.drop i ++ cur.drop (i + 1 + (C.drop i).length)).drop (i + [x].length)).take (C.length + 1)) = C.take i ++ x :: C.drop i := by
 have h1 : (cur.take (i + 1) ++ C.drop i ++ cur.drop (i + 1 + (C.drop i).length)).take i = C.take i := by
  rw [List.append_assoc, List.take_append_of_le_length (by simp; omega), List.take_take]
  conv => rhs; rw [← h, List.take_take]
  congr 1
  omega
 have h2 : (cur.take (i + 1) ++ C.drop i ++ cur.drop (i + 1 + (C.drop i).length)).drop (i + [x].length) = C.drop i ++ cur.drop (i + 1 + (C.drop i).length) := by
  rw [List.append_assoc]
  exact List.drop_left' (by simp; omega)
 rw [h1, h2]
 have := ins_take C (cur.drop (i + 1 + (C.drop i).length)) i x (by omega)
 simpa using this
theorem ins_grow {α : Type} (cur C : List α) (i : Nat) (x : α) (h : cur.take i = C.take i) (hi : i < C.length) (hn : C.length + 1 ≤ cur.length) :
  (((cur.take i ++ [x] ++ cur.drop (i + [x].length)).take (i + 1) ++ C.drop i ++ (cur.take i ++ [x] ++ cur.drop (i + [x].length)).drop (i + 1 + (C.drop i).length)).take (C.length + 1)) = C.take i ++ x :: C.drop i := by
 have h1 : (cur.take i ++ [x] ++ cur.drop (i + [x].length)).take (i + 1) = C.take i ++ [x] := by
  rw [h]
  exact List.take_left' (by simp; omega)
 rw [h1]
 have := ins_take C ((cur.take i ++ [x] ++ cur.drop (i + [x].length)).drop (i + 1 + (C.drop i).length)) i x (by omega)
 simpa using this
theorem grown_size {xs : Array Value} {n G : Nat} (hx : xs.size = n) (h : n ≤ G) : (xs ++ Builtin.zeroCells (Value.int .i64 0).cells (G - n)).size = G := by
 rw [Array.size_append, hx]
 simp [Builtin.zeroCells, Value.cells]
 omega
theorem below_drew1' {n0 : Nat} {w0 w : World} (h : Below n0 w0 w) : Below n0 w0 w.drew := ⟨h.os, h.tape, h.output, h.size, h.block⟩
theorem below_setCells {n0 g : Nat} {w0 w : World} (h : Below n0 w0 w) (hg : n0 ≤ g) : ∀ (vs : List Value) (o : Nat), Below n0 w0 (w.setCells g o vs) := fun vs o => by
 have h1 := setCells_same g vs o w
 exact ⟨h1.1.trans h.os, h1.2.1.trans h.tape, h1.2.2.1.trans h.output, by have := h.size; rw [h1.2.2.2]; exact this, fun k hk => (setCells_far vs o k (by omega)).trans (h.block k hk)⟩
set_option maxHeartbeats 1000000 in
theorem int_insert (v : Value) (xs : List Int) (i : Nat) (x : Int) (vb n0 : Nat) (w w0 : World) (hR : Kd.R (Kd.int .i64) 3 w n0 (fun _ => True) v xs) (hB : Below n0 w0 w) (hn0 : n0 ≤ w.heap.size) (hi : i ≤ xs.length) (hvb : w.heap[vb]? = some (.cells #[.int .i64 x] 3 (0, 0))) (hne : v.ownBlock ≠ some vb) (hl : xs.length < 1000000) :
  Calls Try.prog 69 #[v, .int .i64 i, .slice (some ⟨vb, 0, none⟩) 1 1] w fun e w' => ∃ v', e = .returned v' ∧ Kd.R (Kd.int .i64) 3 w' n0 (fun _ => True) v' (insAt xs i x) ∧ Below n0 w0 w' := by
 have ho := Kd.own_of_R hR
 have hcl : (encs (Value.int .i64) xs).length = xs.length := by simp [encs]
 have hvs : ∀ (j : Nat) (u : Value), [Value.int .i64 x][j]? = some u → w.cell? ⟨vb, 0 + j, none⟩ = some u := by
  intro j u hj
  match j, hj with
  | 0, hj => exact (blk_cell hvb 0).trans (by simpa using hj)
  | j + 1, hj => simp at hj
 have h1v : ∀ u ∈ [Value.int .i64 x], u.oneCell' = true := by simp [Value.oneCell']
 have h1c : ∀ u ∈ encs (Value.int .i64) xs, u.oneCell' = true := by
  intro u hu
  obtain ⟨y, _, rfl⟩ := List.mem_map.1 hu
  rfl
 rcases ho.2 with ⟨rfl, h0⟩ | ⟨g, cap, cur, rfl, hg, hh, hnc, hcm, hcs, ht⟩
 ·have hx : xs = [] := List.length_eq_zero_iff.1 h0
  subst hx
  have hi0 : i = 0 := by simpa using hi
  subst hi0
  refine (Any2.slices_Insert_int_end_grow insLays none 0 0 vb 0 1 1 [] [.int .i64 x] w (by decide) (Nat.le_refl _) (by decide) (by decide) rfl rfl (fun _ => rfl) (fun a h => by cases h) hvs h1v).mono ?_
  rintro e w' ⟨rfl, rfl⟩
  refine ⟨_, rfl, R_int_block (cur := _) (by simpa using hn0) (blk_new _ _) ?_ ?_ ?_ ?_, ?_⟩
  ·show 0 + 1 ≤ _
   exact grownCap_ge _ _ _ _
  ·exact grownCap_le_maxLen _ _ _ _ (by decide)
  ·exact grown_size (by simp) (grownCap_ge _ _ _ _)
  ·simp [insAt, encs]
  ·exact (below_drew1' hB).alloc hn0 _
 ·have hcap63 : cap ≤ 9223372036854775807 := by unfold maxLen at hcm; omega
  have hcell : ∀ j, w.cell? ⟨g, j, none⟩ = cur[j]? := fun j => blk_cell hh j
  have hcs0 : ∀ (j : Nat) (u : Value), (encs (Value.int .i64) xs)[j]? = some u → w.cell? ⟨g, 0 + j, none⟩ = some u := by
   intro j u hj
   rw [Nat.mul_one] at ht
   rw [Nat.zero_add, hcell, ← Array.getElem?_toList]
   rw [← ht, List.getElem?_take] at hj
   split at hj
   ·exact hj
   ·cases hj
  have hsome : ∀ j, j < cap → (w.cell? ⟨g, 0 + j, none⟩).isSome = true := by
   intro j hj
   rw [Nat.zero_add, hcell, Array.getElem?_eq_getElem (by omega)]
   rfl
  have hfz : ∀ j, w.frozen? ⟨g, j, none⟩ = false := fun j => blk_frozen hh j
  have hvg : vb ≠ g := fun e => hne (by rw [e]; rfl)
  rw [Nat.mul_one] at ht
  by_cases hroom : xs.length + 1 ≤ cap
  ·by_cases hin : i = xs.length
   ·subst hin
    refine (Any2.slices_Insert_int_end_room insLays g 0 xs.length cap vb 0 1 1 [.int .i64 x] w (by decide) hroom hcap63 rfl (fun j hj => ?_) (fun j hj => hfz _) hvs h1v).mono ?_
    ·have := hsome (xs.length + j) (by omega)
     rwa [← Nat.add_assoc] at this
    rintro e w' ⟨rfl, rfl⟩
    rw [Nat.zero_add]
    obtain ⟨cur', h1, h2, h3⟩ := setCells_row [Value.int .i64 x] xs.length w cur hh (by simp; omega)
    refine ⟨_, rfl, ?_, ?_⟩
    ·rw [← ins_len xs xs.length x (Nat.le_refl _)]
     refine R_int_block hg h1 (by rw [ins_len _ _ _ (Nat.le_refl _)]; exact hroom) hcm (by omega) ?_
     rw [h3, ht, ins_cells, ins_len _ _ _ (Nat.le_refl _)]
     have h4 := ins_take (encs (Value.int .i64) xs) (cur.toList.drop (xs.length + [Value.int .i64 x].length)) xs.length (Value.int .i64 x) (by omega)
     rw [hcl] at h4
     rw [← h4]
     simp [hcl, List.take_of_length_le, List.drop_of_length_le]
    ·exact below_setCells hB hg _ _
   ·have hlt : i < xs.length := by omega
    refine (Any2.slices_Insert_int_shift insLays g 0 xs.length cap i vb 0 1 1 (encs (Value.int .i64) xs) [.int .i64 x] w hlt (by decide) hroom hcap63 hvg hcl rfl hcs0 (fun j hj => hsome j (by omega)) (fun j hj => hfz _) hvs h1c h1v 3 3 1 cur.size (by simp [World.shape?, hvb]) (by simp [World.shape?, hh]) (by omega) (blk_frozen hvb _) (blk_frozen hvb _)).mono ?_
    rintro e w' ⟨rfl, rfl⟩
    rw [Nat.zero_add, Nat.zero_add]
    have hdl : ((encs (Value.int .i64) xs).drop i).length = xs.length - i := by rw [List.length_drop, hcl]
    obtain ⟨cur1, h1, h2, h3⟩ := setCells_row ((encs (Value.int .i64) xs).drop i) (i + 1) w.drew cur hh (by omega)
    obtain ⟨cur2, h4, h5, h6⟩ := setCells_row [Value.int .i64 x] i _ cur1 h1 (by simp; omega)
    refine ⟨_, rfl, ?_, below_setCells (below_setCells (below_drew1' hB) hg _ _) hg _ _⟩
    rw [← ins_len xs i x hi]
    refine R_int_block hg h4 (by rw [ins_len _ _ _ hi]; exact hroom) hcm (by omega) ?_
    rw [h6, h3, ins_cells, ins_len _ _ _ hi, ← hcl]
    exact ins_shift cur.toList _ i _ (by rw [hcl]; exact ht) (by omega) (by have := Array.length_toList (xs := cur); omega)
  ·by_cases hin : i = xs.length
   ·subst hin
    refine (Any2.slices_Insert_int_end_grow insLays (some ⟨g, 0, none⟩) xs.length cap vb 0 1 1 (encs (Value.int .i64) xs) [.int .i64 x] w (by decide) hnc (by omega) (by omega) hcl rfl (fun h => by cases h) (fun a ha j u hj => ?_) hvs h1v).mono ?_
    ·cases ha
     rw [Addr.add_lit]
     exact hcs0 j u hj
    rintro e w' ⟨rfl, rfl⟩
    refine ⟨_, rfl, ?_, (below_drew1' hB).alloc hn0 _⟩
    rw [← ins_len xs xs.length x (Nat.le_refl _)]
    refine R_int_block (by simpa using hn0) (blk_new _ _) (by rw [ins_len _ _ _ (Nat.le_refl _)]; exact grownCap_ge _ _ _ _) (grownCap_le_maxLen _ _ _ _ (by rw [ins_len _ _ _ (Nat.le_refl _)]; unfold maxLen; omega)) (grown_size (by simp [hcl, ins_len]) (grownCap_ge _ _ _ _)) ?_
    rw [ins_cells, ins_len _ _ _ (Nat.le_refl _)]
    have h4 := ins_take (encs (Value.int .i64) xs) (Builtin.zeroCells (Value.int .i64 0).cells (grownCap w (xs.length + 1) cap (insRen.t 3) - (xs.length + 1))).toList xs.length (Value.int .i64 x) (by omega)
    rw [hcl] at h4
    conv => rhs; rw [← h4]
    simp [hcl, List.take_of_length_le, List.drop_of_length_le]
   ·have hlt : i < xs.length := by omega
    refine (Any2.slices_Insert_int_grow insLays g 0 xs.length cap i vb 0 1 1 (encs (Value.int .i64) xs) [.int .i64 x] w hlt (by decide) hnc (by omega) (by omega) hcl rfl hcs0 hvs h1c h1v).mono ?_
    rintro e w' ⟨rfl, rfl⟩
    have hdl : ((encs (Value.int .i64) xs).drop i).length = xs.length - i := by rw [List.length_drop, hcl]
    have hGn := grownCap_ge w (xs.length + 1) cap 3
    obtain ⟨ROW, hROW⟩ : ∃ ROW : Array Value, ROW = ((encs (Value.int .i64) xs).take i).toArray ++ Builtin.zeroCells (Value.int .i64 0).cells (xs.length + 1 - i) ++ Builtin.zeroCells (Value.int .i64 0).cells (grownCap w (xs.length + 1) cap (insRen.t 3) - (xs.length + 1)) := ⟨_, rfl⟩
    have hRs : ROW.size = grownCap w (xs.length + 1) cap 3 := by
     rw [hROW]
     refine grown_size ?_ hGn
     simp [Builtin.zeroCells, Value.cells, hcl]
     omega
    have hRt : ROW.toList.take i = (encs (Value.int .i64) xs).take i := by
     rw [hROW, Array.toList_append, Array.toList_append, List.append_assoc]
     exact List.take_left' (by simp [hcl]; omega)
    rw [← hROW]
    clear hROW
    obtain ⟨cur1, h1, h2, h3⟩ := setCells_row [Value.int .i64 x] i (w.alloc (.cells ROW 3)).drew ROW (blk_new _ _) (by simp; omega)
    obtain ⟨cur2, h4, h5, h6⟩ := setCells_row ((encs (Value.int .i64) xs).drop i) (i + 1) ((w.alloc (.cells ROW 3)).drew.setCells w.heap.size i [Value.int .i64 x]).drew cur1 h1 (by omega)
    refine ⟨_, rfl, ?_, below_setCells (below_drew1' (below_setCells (below_drew1' (hB.alloc hn0 _)) hn0 _ _)) hn0 _ _⟩
    rw [← ins_len xs i x hi]
    refine R_int_block hn0 h4 (by rw [ins_len _ _ _ hi]; exact hGn) (grownCap_le_maxLen _ _ _ _ (by rw [ins_len _ _ _ hi]; unfold maxLen; omega)) (by rw [ins_len _ _ _ hi]; show cur2.size = grownCap w (xs.length + 1) cap 3; omega) ?_
    rw [h6, h3, ins_cells, ins_len _ _ _ hi, ← hcl]
    exact ins_grow ROW.toList _ i _ hRt (by omega) (by have := Array.length_toList (xs := ROW); omega)
end
section
open Go.Shelf Go.Lib Go.Sort
def delRen : Go.Shelf.Ren := ⟨fun | 10 => 67 | 6 => 81 | n => n, fun | 22 => 32 | 23 => 3 | 25 => 70 | n => n, fun n => n⟩
theorem delLays : SlLaysH.n10 Try.prog delRen := {
 mixed := by kernel_rfl
 f6 := ⟨Try.f81.name, by kernel_rfl, Try.func81.trans (congrArg some (by kernel_rfl))⟩
 f10 := ⟨Try.f67.name, by kernel_rfl, Try.func67.trans (congrArg some (by kernel_rfl))⟩
 t0 := Try.underlying0
 a0 := Try.isAgg0
 z0 := Try.sizeOf0
 v0 := Try.zeroValue0
 t3 := Try.underlying3
 a3 := Try.isAgg3
 z3 := Try.sizeOf3
 v3 := Try.zeroValue3
 t4 := Try.underlying4
 a4 := Try.isAgg4
 z4 := Try.sizeOf4
 v4 := Try.zeroValue4
 t22 := Try.underlying32
 a22 := Try.isAgg32
 z22 := Try.sizeOf32
 v22 := Try.zeroValue32
 a23 := Try.isAgg3
 z23 := Try.sizeOf3
 t25 := Try.underlying70
 a25 := Try.isAgg70
 z25 := Try.sizeOf70
 v25 := Try.zeroValue70 }
set_option maxHeartbeats 1000000 in
theorem take1_gives (n x : Int) (B : Nat) (W : World) (hc : W.cell? ⟨B, 0, none⟩ = some (.int .i64 n)) : FnGives Try.prog 68 #[.pointer (some ⟨B, 0, none⟩)] #[.int .i64 x] (.bool (x == n)) W := by
 show Calls Try.prog 68 #[.int .i64 x, .pointer (some ⟨B, 0, none⟩)] W _
 go_enter Try.func68, Try.ntmps68
 go_wp2
 all_goals (go_ret; exact ⟨rfl, 0, rfl⟩)
theorem put_block {w : World} {g : Nat} {cur : Array Value} (d : Array Int) (h : w.heap[g]? = some (.cells cur 3 (0, 0))) : (putRow (Value.int .i64) w g 0 d).heap[g]? = some (.cells (putCells (Value.int .i64) 0 d cur) 3 (0, 0)) := by
 unfold putRow mapBlock
 simp [Array.getElem?_modify, h, onCells]
theorem put_far {w : World} {g k : Nat} (d : Array Int) (h : k ≠ g) : (putRow (Value.int .i64) w g 0 d).heap[k]? = w.heap[k]? := by
 unfold putRow mapBlock
 simp [Array.getElem?_modify, Ne.symm h]
theorem put_take {cur : Array Value} (ys zs : List Int) (h : (ys ++ zs).length ≤ cur.size) : (putCells (Value.int .i64) 0 (ys ++ zs).toArray cur).toList.take ys.length = encs (Value.int .i64) ys := by
 apply List.ext_getElem?
 intro j
 rw [List.getElem?_take]
 by_cases hj : j < ys.length
 ·rw [if_pos hj, Array.getElem?_toList, putCells, Array.getElem?_mapIdx]
  have hj2 : j < cur.size := by rw [List.length_append] at h; omega
  have hj3 : j < (ys ++ zs).length := by rw [List.length_append]; omega
  rw [Array.getElem?_eq_getElem hj2, Option.map_some, if_pos (by simp only [Nat.zero_le, true_and, Nat.zero_add, List.size_toArray]; exact hj3)]
  rw [Nat.sub_zero, getElem!_pos _ j (by simpa using hj3)]
  simp [encs, List.getElem_append_left hj, List.getElem?_eq_getElem hj]
 ·rw [if_neg hj, List.getElem?_eq_none (by simp [encs]; omega)]
set_option maxHeartbeats 1000000 in
theorem int_delete (v : Value) (xs : List Int) (n : Int) (B n0 : Nat) (w w0 : World) (hR : Kd.R (Kd.int .i64) 3 w n0 (fun _ => True) v xs) (hB : Below n0 w0 w) (hn0 : n0 ≤ w.heap.size) (hp : 0 < xs.length) (hb : w.heap[B]? = some (.cells #[.int .i64 n] 3 (0, 0))) (hne : v.ownBlock ≠ some B) :
  Calls Try.prog 67 #[v, .func (.func 68) #[] #[.pointer (some ⟨B, 0, none⟩)]] w fun e w' => ∃ v', e = .returned v' ∧ Kd.R (Kd.int .i64) 3 w' n0 (fun _ => True) v' (xs.filter fun k => !(k == n)) ∧ Below n0 w0 w' := by
 have ho := Kd.own_of_R hR
 rcases ho.2 with ⟨rfl, h0⟩ | ⟨g, cap, cur, rfl, hg, hh, hnc, hcm, hcs, ht⟩
 ·omega
 have hcell : ∀ j, w.cell? ⟨g, j, none⟩ = cur[j]? := fun j => blk_cell hh j
 have hBg : B ≠ g := fun e => hne (by rw [e]; rfl)
 have hBc := (blk_cell hb 0).trans rfl
 have hBl := blk_lt hb
 have eg : ∀ args w, (callFunc 68 args).run Try.prog w = .ok (.enter 68 args) w := enters_of Try.func68 (by kernel_rfl) rfl
 have hH : Holds (Value.int .i64) w g 0 xs.toArray := by
  intro j hj
  simp only [List.size_toArray] at hj
  refine ⟨?_, blk_frozen hh _⟩
  rw [Nat.zero_add, hcell, ← Array.getElem?_toList]
  rw [Nat.mul_one] at ht
  have h1 : (cur.toList.take xs.length)[j]? = (encs (Value.int .i64) xs)[j]? := by rw [ht]
  rw [List.getElem?_take, if_pos hj] at h1
  rw [h1, getElem!_pos _ j (by simpa using hj)]
  simp [encs, List.getElem?_eq_getElem hj]
 have hat : PredAt Try.prog 68 #[.pointer (some ⟨B, 0, none⟩)] (Value.int .i64) (fun k => k == n) w :=
  fun W x hbw => take1_gives n x B W ((hbw.cell (p := ⟨B, 0, none⟩) hBl).trans hBc)
 have hov : PredOver Try.prog 68 #[.pointer (some ⟨B, 0, none⟩)] (Value.int .i64) (fun k => k == n) g 0 xs.toArray.size w :=
  fun m os dk x _ => take1_gives n x B _ (by
   unfold sortWorld
   rw [cell?_grow _ _ _ (by show B < (putRow _ _ _ _ _).heap.size; rw [size_putRow]; exact hBl), cell?_putRow_other _ _ g 0 _ _ (Or.inl hBg)]
   exact hBc)
 have hcap63 : cap ≤ 9223372036854775807 := by unfold maxLen at hcm; omega
 have hcon := AnyE.slices_DeleteFunc delLays (Value.int .i64) (fun _ => rfl) (fun k => k == n) 68 #[.pointer (some ⟨B, 0, none⟩)] eg 0 Try.zeroValue3 g 0 cap xs.toArray w hat hov hH (by simp; omega) (by simpa using hnc)
 simp only [List.size_toArray] at hcon
 refine Calls.mono hcon ?_
 rintro e w' ⟨rfl, q, rfl⟩
 have hfl : (xs.filter fun k => !(k == n)).length ≤ xs.length := List.length_filter_le _ _
 have h1 := put_block (w := Sort.ahead w q) ((xs.filter fun k => !(k == n)) ++ List.replicate (xs.length - (xs.filter fun k => !(k == n)).length) 0).toArray hh
 refine ⟨_, rfl, R_int_block hg h1 (by omega) hcm (by simp [putCells]; omega) (put_take _ _ (by rw [List.length_append, List.length_replicate]; omega)), ?_⟩
 exact ⟨hB.os, hB.tape, hB.output, by rw [size_putRow]; exact hB.size, fun k hk => (put_far _ (by omega)).trans (hB.block k hk)⟩
end
end Go.Proofs.Ytpkaliaaffgbdaa.QA
namespace Go.Proofs.Ytpkaliaaffgbdaa.QA
open Go.RowKit Go.Proofs.YtpkaliaaffgbdaaW.PrintWords Go.Proofs.YtpkaliaaffgbdaaW.PrintLast Go.Proofs.YtpkaliaaffgbdaaW.PrintMore
attribute [local go_sem] max2_int min2_int max_two min_two max_three min_three max_four min_four   -- for this text's walks alone
set_option linter.unusedVariables false
set_option linter.unusedSimpArgs false
def reg40_3.T : Bool × List (List Nat × List Nat) := (true, [([], []), ([0], [0]), ([1], [1]), ([2], [2]), ([], []), ([], []), ([5], [5]), ([6], [6]), ([7], [7]), ([], []), ([8, 9], [8, 9]), ([10], [10]), ([11], [11]), ([12], [12]), ([], []), ([13, 14, 13], [13, 14]), ([3, 4, 0, 1, 2, 3, 4, 5, 6, 7, 8, 9, 10, 11, 12, 13, 14, 15], [3, 4]), ([16, 0, 1, 2, 3, 4, 5, 6, 7, 8, 9, 10, 11, 12, 13, 14, 15], [16]), ([17, 15, 15, 0, 1, 2, 3, 4, 5, 6, 7, 8, 9, 10, 11, 12, 13, 14, 15], [15, 17])])
def reg40_3.B : List Nat := [0, 1, 3, 7, 0, 0, 32, 96, 224, 0, 992, 2016, 4064, 8160, 0, 32736, 65535, 131071, 262143]
theorem reg40_3.tab : rtab .any (opsOf Try.f40 3) = reg40_3.T := by kernel_rfl
theorem reg40_3.bits : waitsOk reg40_3.T.2 reg40_3.B = true := by kernel_rfl

def reg41_0.T : Bool × List (List Nat × List Nat) := (true, [([], []), ([0], [0]), ([1], [1]), ([2], [2]), ([], []), ([], []), ([5], [5]), ([6], [6]), ([7], [7]), ([], []), ([8, 9], [8, 9]), ([10], [10]), ([11], [11]), ([12], [12]), ([], []), ([], []), ([15], [15]), ([13, 14, 16, 13], [13, 14, 16]), ([3, 4, 0, 1, 2, 3, 4, 5, 6, 7, 8, 9, 10, 11, 12, 13, 14, 15, 16, 17], [3, 4]), ([18, 0, 1, 2, 3, 4, 5, 6, 7, 8, 9, 10, 11, 12, 13, 14, 15, 16, 17], [18]), ([19, 17, 17, 0, 1, 2, 3, 4, 5, 6, 7, 8, 9, 10, 11, 12, 13, 14, 15, 16, 17], [17, 19])])
def reg41_0.B : List Nat := [0, 1, 3, 7, 0, 0, 32, 96, 224, 0, 992, 2016, 4064, 8160, 0, 0, 32768, 131040, 262143, 524287, 1048575]
theorem reg41_0.tab : rtab .any (opsOf Try.f41 0) = reg41_0.T := by kernel_rfl
theorem reg41_0.bits : waitsOk reg41_0.T.2 reg41_0.B = true := by kernel_rfl

open Go
section
variable {W w : World} {ok okn : Nat → Prop} {g : Nat} {xs : List S79}
/-- One cell of node i is written: the node is x' then; what it leads to is what it led to, or nobody's so far (okn). -/
theorem IsDoc.store (h : IsDoc W ok g xs) (i : Nat) (hi : i < xs.length) (hn : ∀ k, okn k → ¬ ok k) (x' : S79) (j : Nat) (hj : j < 7) (u : Value)
  (hM : ∀ oki c, c.length = 7 → k79.M W 0 oki xs[i] c → ∃ okp, (∀ k, okp k → oki k ∨ okn k) ∧ k79.M W 0 okp x' (c.take j ++ [u] ++ c.drop (j + 1)))
  {G n c : Nat} (hb : W.heap[g]? = some (.cells #[.slice (some ⟨G, 0, none⟩) n c] 82 (0, 0))) :
  IsDoc (W.setCell ⟨G, i * 7 + j, none⟩ u) (fun k => ok k ∨ okn k) g (xs.set i x') ∧ Mod W (W.setCell ⟨G, i * 7 + j, none⟩ u) ok := by
 obtain ⟨v, hb', hg, hS⟩ := h
 have e := hb'.symm.trans hb
 injection e with e
 injection e with e _ _
 injection e with e
 injection e with e _
 subst e
 have hR := Kd.S_R hS
 have hG := hR.1 G rfl
 have hS2 : Kd.S k79 79 W 0 (fun k => ((ok k ∨ okn k) ∧ k ≠ g) ∧ ¬ okn k) (.slice (some ⟨G, 0, none⟩) n c) xs := Kd.S_mono hS fun k hk => ⟨⟨.inl hk.1, hk.2⟩, fun h2 => hn k h2 hk.1⟩
 have hln := (Kd.R_reads' hR).1
 obtain ⟨oki, cs, hcl, hMi, _, _, _, hH⟩ := Kd.S_elem hS2 z79 (i : Int) (by omega) (by omega)
 rw [Int.toNat_natCast, List.getD_eq_getElem?_getD, List.getElem?_eq_getElem hi, Option.getD_some] at hMi
 obtain ⟨okp, hokp, hM2⟩ := hM oki cs hcl hMi
 have h3 := Kd.S_seg (okg := okn) hH (by omega) (by omega) (seg := [u]) (j := j) (x' := x') (okp := okp) hj hM2 hokp fun k hk => ⟨⟨.inr hk, fun e => hn k hk (e ▸ hg)⟩, fun e => hn k hk (e ▸ hG.1)⟩
 have h4 := h3.1
 rw [Int.toNat_natCast] at h4
 exact ⟨⟨_, (Below.heap_setCell W _ _ g (fun e => hG.2 e.symm)).trans hb, .inl hg, h4⟩, (Mod.refl W ok).set _ _ (.inl hG.1)⟩
def withUp (x : S79) (p : Int) : S79 := ⟨x.f0, p, x.f2⟩
def withKids (x : S79) (l : List Int) : S79 := ⟨x.f0, x.f1, l⟩
def withData (x : S79) (s : ByteArray) : S79 := ⟨⟨x.f0.f0, x.f0.f1, x.f0.f2, s, x.f0.f4⟩, x.f1, x.f2⟩
def withAttrs (x : S79) (l : List S52) : S79 := ⟨⟨x.f0.f0, x.f0.f1, x.f0.f2, x.f0.f3, l⟩, x.f1, x.f2⟩
theorem IsDoc.set_up (h : IsDoc W ok g xs) (i : Nat) (hi : i < xs.length) (p : Int) {G n c : Nat} (hb : W.heap[g]? = some (.cells #[.slice (some ⟨G, 0, none⟩) n c] 82 (0, 0))) :
  IsDoc (W.setCell ⟨G, i * 7 + 5, none⟩ (.int .i64 p)) ok g (xs.set i (withUp xs[i] p)) ∧ Mod W (W.setCell ⟨G, i * 7 + 5, none⟩ (.int .i64 p)) ok := by
 refine (h.store (okn := fun _ => False) i hi (fun _ h => h.elim) (withUp xs[i] p) 5 (by omega) _ (fun oki cs _ hM => ⟨oki, fun k hk => .inl hk, ?_⟩) hb).imp (fun h => h.mono fun k hk => hk.elim id False.elim) id
 obtain ⟨v4, v6, rfl, h4, h6⟩ := k79_openM hM
 exact k79_mkM W 0 oki (withUp xs[i] p) h4 h6
theorem IsDoc.set_data (h : IsDoc W ok g xs) (i : Nat) (hi : i < xs.length) (s : ByteArray) {G n c : Nat} (hb : W.heap[g]? = some (.cells #[.slice (some ⟨G, 0, none⟩) n c] 82 (0, 0))) :
  IsDoc (W.setCell ⟨G, i * 7 + 3, none⟩ (.string s)) ok g (xs.set i (withData xs[i] s)) ∧ Mod W (W.setCell ⟨G, i * 7 + 3, none⟩ (.string s)) ok := by
 refine (h.store (okn := fun _ => False) i hi (fun _ h => h.elim) (withData xs[i] s) 3 (by omega) _ (fun oki cs _ hM => ⟨oki, fun k hk => .inl hk, ?_⟩) hb).imp (fun h => h.mono fun k hk => hk.elim id False.elim) id
 obtain ⟨v4, v6, rfl, h4, h6⟩ := k79_openM hM
 exact k79_mkM W 0 oki (withData xs[i] s) h4 h6
theorem IsDoc.set_kids (h : IsDoc W ok g xs) (i : Nat) (hi : i < xs.length) (v : Value) (l : List Int) (hR : Kd.R (Kd.int .i64) 3 W 0 okn v l) (hn : ∀ k, okn k → ¬ ok k) {G n c : Nat} (hb : W.heap[g]? = some (.cells #[.slice (some ⟨G, 0, none⟩) n c] 82 (0, 0))) :
  IsDoc (W.setCell ⟨G, i * 7 + 6, none⟩ v) (fun k => ok k ∨ okn k) g (xs.set i (withKids xs[i] l)) ∧ Mod W (W.setCell ⟨G, i * 7 + 6, none⟩ v) ok := by
 refine h.store (okn := okn) i hi hn (withKids xs[i] l) 6 (by omega) _ (fun oki cs _ hM => ⟨fun k => oki k ∨ okn k, fun k hk => hk, ?_⟩) hb
 obtain ⟨v4, v6, rfl, h4, h6⟩ := k79_openM hM
 exact k79_mkM W 0 _ (withKids xs[i] l) (Kd.R_mono h4 fun k hk => .inl hk) (Kd.R_mono hR fun k hk => .inr hk)

/-- take: node i stands nowhere. -/
def takeN (xs : List S79) (i : Nat) : List S79 :=
 let ys := if (rd_T79 xs i).f1 = -1 then xs else xs.set (rd_T79 xs i).f1.toNat (withKids (rd_T79 xs (rd_T79 xs i).f1) ((rd_T79 xs (rd_T79 xs i).f1).f2.filter fun k => !(k == (i : Int))))
 ys.set i (withUp (rd_T79 ys i) (-1))
set_option maxHeartbeats 4000000 in
set_option maxRecDepth 100000 in
theorem Doc_take (h : IsDoc w ok g xs) (i : Nat) (hi : i < xs.length) (hp : xs[i].f1 = -1 ∨ ∃ p : Nat, ∃ h : p < xs.length, xs[i].f1 = (p : Int) ∧ 0 < xs[p].f2.length ∧ xs[p].f2.length < 1000000) :
  Calls Try.prog 40 #[.pointer (some ⟨g, 0, none⟩), .int .i64 i] w fun e w' => e = .returned (.tuple #[]) ∧ To w w' ok g (takeN xs i) := by
 obtain ⟨G, c, A4, c4, A6, c6, hb, hl, ⟨h0, h1, h2, h3, h4, h5, h6⟩, _, _, hf, hok, hGg⟩ := h.node i hi
 have hc := doc_cell hb
 have hz : (i : Int) < (xs.length : Int) := by omega
 have HI := Aside0.mk h.bound
 have HB := Aside0.mk hb
 have hg := blk_lt hb
 have hG := block_lt_of_cell h5
 clear h0 h1 h2 h3 h4 h6
 unfold takeN
 rw [nd_at i hi]
 rcases hp with c0 | ⟨p, hpl, c0, hp0, hp1⟩
 ·rw [if_pos c0]
  rw [c0] at h5
  clear hb hl h c0
  go_enter Try.func40, Try.ntmps40
  go_wp2
  repeat (go_quiet (fail); try go_wp2)
  go_region
  go_end0
  have hBl : Below w.heap.size w ((w.alloc (.cells #[.int .i64 (i : Int)] 3)).drewN nq).drew := below_drew (pw_below_drewN (below_alloc (Below.refl _ _) _) _)
  have h9 := (HI.out.below hBl).set_up i hi (-1) (show ((w.alloc (.cells #[.int .i64 (i : Int)] 3)).drewN nq).drew.heap[g]? = _ from (hBl.block g hg).trans HB.out)
  rw [nd_at i hi]
  exact ⟨rfl, To.mk h9.1 (fun k hk => .inl hk.1) ((Mod.of_below hBl).trans h9.2 fun k hk => .inl hk.1)⟩
 ·have hpn : ((p : Int)).toNat = p := Int.toNat_natCast p
  rw [if_neg (by omega), c0, nd_at p hpl, hpn]
  generalize hys : xs.set p (withKids xs[p] (xs[p].f2.filter fun k => !(k == (i : Int)))) = ys
  rw [c0] at h5
  obtain ⟨G', c', A4', c4', A6', c6', hb', hl', ⟨h0', h1', h2', h3', h4', h5', h6'⟩, _, ⟨l6', g6'⟩, hf', _, _⟩ := h.node p hpl
  have e := hb'.symm.trans hb
  injection e with e
  injection e with e _ _
  injection e with e
  injection e with e
  injection e with e _ e2
  injection e with e
  injection e with e _
  subst e
  subst e2
  have hz2 : (p : Int) < (xs.length : Int) := by omega
  have hne : ((p : Int) != -1) = true := bne_iff_ne.2 (by omega)
  have HC6 := Aside0.mk g6'
  have HL6 := Aside0.mk l6'
  have HP := Aside0.mk (And.intro hp0 hp1)
  clear hb hl h c0 hb' hl' h0' h1' h2' h3' h4' h5' g6' l6' hp0 hp1
  go_enter Try.func40, Try.ntmps40
  go_wp2
  repeat (go_quiet (fail); try go_wp2)
  obtain ⟨W2, hW2⟩ : ∃ W2, W2 = (w.alloc (.cells #[.int .i64 (i : Int)] 3)).drewN nq := ⟨_, rfl⟩
  have hB2 : Below w.heap.size w W2.drew := by rw [hW2]; exact below_drew (pw_below_drewN (below_alloc (Below.refl _ _) _) _)
  have hbox : W2.drew.heap[w.heap.size]? = some (.cells #[.int .i64 (i : Int)] 3 (0, 0)) := by rw [hW2]; exact blk_drewN (blk_new _ _) nq
  rw [← hW2]
  have q0 : W2.drew.cell? ⟨g, 0, none⟩ = _ := (hB2.cell (p := ⟨g, 0, none⟩) hg).trans hc
  have q1 : W2.drew.cell? ⟨G', p * 7 + 6, none⟩ = _ := (hB2.cell (p := ⟨G', p * 7 + 6, none⟩) hG).trans h6'
  have HB2 := Aside0.mk hB2
  have HX := Aside0.mk hbox
  have HGG := Aside0.mk hGg
  clear hbox hB2 hW2 hc h6' h5 hGg
  refine start_ (n := 19) (S := (fun w' => w'.cell? ⟨g, 0, none⟩ = some (.slice (some ⟨G', 0, none⟩) xs.length c') ∧ w'.cell? ⟨G', p * 7 + 6, none⟩ = some (.slice A6' xs[p].f2.length c6'))) (ds := [18]) #[Z, Z, Z, Z, Z, Z, Z, Z, Z, Z, Z, Z, Z, Z, Z, Z, Z, Z, Z] (by kernel_rfl) rfl rfl ⟨q0, q1⟩ (fun hHeld => ?_); refine with_tabW reg40_3.tab reg40_3.bits (fun HT_ HW_ => ?_)
  generalize W2.drew = W3 at HB2 HX hHeld ⊢; clear q0 q1 W2
  refine pA 0 15 #[Y, Z, Z, Z, Z, Z, Z, Z, Z, Z, Z, Z, Z, Z, Z, Z, Z, Z, Z] HT_ ?_
  refine pA 1 16 #[Y, Y, Z, Z, Z, Z, Z, Z, Z, Z, Z, Z, Z, Z, Z, Z, Z, Z, Z] HT_ ?_
  refine pA 2 17 #[Y, Y, Y, Z, Z, Z, Z, Z, Z, Z, Z, Z, Z, Z, Z, Z, Z, Z, Z] HT_ ?_
  refine take_ (i := 3) (N := some 18) (v := ?_) (a' := ?_) #[Y, Y, Y, Y, Z, Z, Z, Z, Z, Z, Z, Z, Z, Z, Z, Z, Z, Z, Z] rfl rfl (take_ofW HT_.out HW_.out (by kernel_rfl)) (fun _ _ _ h => h) (Or.inl ⟨by rfl, ?_⟩) hHeld ?_ ?_
  rotate_left
  ·rintro w' hs
   (try obtain ⟨s0, s1⟩ := hs)
   (try obtain ⟨s1, s2⟩ := s1)
   (try obtain ⟨s2, s3⟩ := s2)
   (try obtain ⟨s3, s4⟩ := s3)
   (try obtain ⟨s4, s5⟩ := s4)
   (try obtain ⟨s5, s6⟩ := s5)
   go_simp
   with_reducible rfl
  rotate_left
  ·simp only [Act.put, List.setIfInBounds_toArray, List.set_cons_zero, List.set_cons_succ, i64_w, i32_w]
   rfl
  refine pA 4 19 #[Y, Y, Y, Y, Y, Z, Z, Z, Z, Z, Z, Z, Z, Z, Z, Z, Z, Z, Z] HT_ ?_
  refine pA 5 20 #[Y, Y, Y, Y, Y, Y, Z, Z, Z, Z, Z, Z, Z, Z, Z, Z, Z, Z, Z] HT_ ?_
  refine pA 6 21 #[Y, Y, Y, Y, Y, Y, Y, Z, Z, Z, Z, Z, Z, Z, Z, Z, Z, Z, Z] HT_ ?_
  refine pA 7 22 #[Y, Y, Y, Y, Y, Y, Y, Y, Z, Z, Z, Z, Z, Z, Z, Z, Z, Z, Z] HT_ ?_
  refine take_ (i := 8) (N := some 23) (v := ?_) (a' := ?_) #[Y, Y, Y, Y, Y, Y, Y, Y, Y, Z, Z, Z, Z, Z, Z, Z, Z, Z, Z] rfl rfl (take_ofW HT_.out HW_.out (by kernel_rfl)) (fun _ _ _ h => h) (Or.inl ⟨by rfl, ?_⟩) hHeld ?_ ?_
  rotate_left
  ·rintro w' hs
   (try obtain ⟨s0, s1⟩ := hs)
   (try obtain ⟨s1, s2⟩ := s1)
   (try obtain ⟨s2, s3⟩ := s2)
   (try obtain ⟨s3, s4⟩ := s3)
   (try obtain ⟨s4, s5⟩ := s4)
   (try obtain ⟨s5, s6⟩ := s5)
   go_simp
   with_reducible rfl
  rotate_left
  ·simp only [Act.put, List.setIfInBounds_toArray, List.set_cons_zero, List.set_cons_succ, i64_w, i32_w]
   rfl
  refine pA 9 24 #[Y, Y, Y, Y, Y, Y, Y, Y, Y, Y, Z, Z, Z, Z, Z, Z, Z, Z, Z] HT_ ?_
  refine pA 10 25 #[Y, Y, Y, Y, Y, Y, Y, Y, Y, Y, Y, Z, Z, Z, Z, Z, Z, Z, Z] HT_ ?_
  refine pA 11 26 #[Y, Y, Y, Y, Y, Y, Y, Y, Y, Y, Y, Y, Z, Z, Z, Z, Z, Z, Z] HT_ ?_
  refine take_ (i := 12) (N := some 27) (v := ?_) (a' := ?_) #[Y, Y, Y, Y, Y, Y, Y, Y, Y, Y, Y, Y, Y, Z, Z, Z, Z, Z, Z] rfl rfl (take_ofW HT_.out HW_.out (by kernel_rfl)) (fun _ _ _ h => h) (Or.inl ⟨by rfl, ?_⟩) hHeld ?_ ?_
  rotate_left
  ·rintro w' hs
   (try obtain ⟨s0, s1⟩ := hs)
   (try obtain ⟨s1, s2⟩ := s1)
   (try obtain ⟨s2, s3⟩ := s2)
   (try obtain ⟨s3, s4⟩ := s3)
   (try obtain ⟨s4, s5⟩ := s4)
   (try obtain ⟨s5, s6⟩ := s5)
   go_simp
   with_reducible rfl
  rotate_left
  ·simp only [Act.put, List.setIfInBounds_toArray, List.set_cons_zero, List.set_cons_succ, i64_w, i32_w]
   rfl
  refine pA 14 29 #[Y, Y, Y, Y, Y, Y, Y, Y, Y, Y, Y, Y, Y, Z, Y, Z, Z, Z, Z] HT_ ?_
  refine one_ (i := 13) (N := some 28) #[Y, Y, Y, Y, Y, Y, Y, Y, Y, Y, Y, Y, Y, Y, Y, Z, Z, Z, Z] rfl rfl (one_of HT_.out (by kernel_rfl)) (by decide) (fun K hK => ?_)
  refine goes_ Try.func42 (by kernel_rfl) rfl #[.slice A6' xs[p].f2.length c6'] (by rfl) rfl rfl (by simp only [List.map_toArray, List.map_cons, List.map_nil]; rfl) ?_
  refine (int_clone.calls A6' c6' xs[p].f2 xs[p].f2 W3 (Kd.C_below HC6.out HB2.out) HL6.out (by unfold int_clone.f; rw [if_pos (by have := HP.out.2; omega)])).mono ?_
  rintro e w4 ⟨v4, rfl, hR4, hB4⟩
  have hs4 := HB2.out.size
  have s4 := (hB4.cell (p := ⟨g, 0, none⟩) (by simp only; omega)).trans hHeld.1
  have s5 := (hB4.cell (p := ⟨G', p * 7 + 6, none⟩) (by simp only; omega)).trans hHeld.2
  refine ⟨_, rfl, hK.out _ _ ⟨s4, s5⟩ (fun hHeld => ?_)⟩
  have HR4 := Aside0.mk hR4
  have HB4 := Aside0.mk hB4
  clear hK K hR4 hB4 s4 s5
  refine one_ (i := 15) (N := some 30) #[Y, Y, Y, Y, Y, Y, Y, Y, Y, Y, Y, Y, Y, Y, Y, Y, Z, Z, Z] rfl rfl (one_of HT_.out (by kernel_rfl)) (by decide) (fun K hK => ?_)
  have hbx := HX.out
  have hlx := blk_lt hbx
  refine goes_ Try.func67 (by kernel_rfl) rfl #[v4, .func (.func 68) #[] #[.pointer (some ⟨w.heap.size, 0, none⟩)]] (by rfl) rfl rfl (by simp only [List.map_toArray, List.map_cons, List.map_nil]; rfl) ?_
  refine (int_delete v4 xs[p].f2 (i : Int) w.heap.size W3.heap.size w4 W3 HR4.out HB4.out HB4.out.size HP.out.1 ((HB4.out.block _ hlx).trans hbx) (fun e => by have := Kd.R_base HR4.out _ e; omega)).mono ?_
  rintro e w5 ⟨v5, rfl, hR5, hB5⟩
  have s4 := (hB5.cell (p := ⟨g, 0, none⟩) (by simp only; have := HB2.out.size; omega)).trans ((HB4.out.cell (p := ⟨g, 0, none⟩) (by simp only; have := HB2.out.size; omega)).symm.trans hHeld.1)
  have s5 := (hB5.cell (p := ⟨G', p * 7 + 6, none⟩) (by simp only; have := HB2.out.size; omega)).trans ((HB4.out.cell (p := ⟨G', p * 7 + 6, none⟩) (by simp only; have := HB2.out.size; omega)).symm.trans hHeld.2)
  refine ⟨_, rfl, hK.out _ _ ⟨s4, s5⟩ (fun hHeld => ?_)⟩
  have HR5 := Aside0.mk hR5
  have HB5 := Aside0.mk hB5
  clear hK K hR5 hB5 s4 s5 HR4 HB4
  refine pA 16 31 #[Y, Y, Y, Y, Y, Y, Y, Y, Y, Y, Y, Y, Y, Y, Y, Y, Y, Z, Z] HT_ ?_
  refine pA 17 32 #[Y, Y, Y, Y, Y, Y, Y, Y, Y, Y, Y, Y, Y, Y, Y, Y, Y, Y, Z] HT_ ?_
  refine last_ (i := 18) (N := none) #[Y, Y, Y, Y, Y, Y, Y, Y, Y, Y, Y, Y, Y, Y, Y, Y, Y, Y, Y] rfl rfl (one_of HT_.out (by kernel_rfl)) (by decide) (fun K hK => ?_)
  obtain ⟨A5, c5, rfl⟩ := Kd.R_slice HR5.out
  have hs3 := HB2.out.size
  have hB6 : Below w.heap.size w w5 := HB2.out.trans (HB5.out.mono (by omega))
  have hf5 : w5.frozen? ⟨G', p * 7 + 6, none⟩ = false := (hB6.frozen (p := ⟨G', p * 7 + 6, none⟩) hG).trans (hf' 6)
  refine skip_ (w1 := ?_) (by rfl) rfl ?_ ?_
  rotate_left
  ·go_simp
   rfl
  refine hK.out _ _ ?_
  clear hK K
  refine done_ (done_of HT_.out (by kernel_rfl)) ?_
  have hbx : w5.heap[w.heap.size]? = _ := (HB5.out.block _ (blk_lt HX.out)).trans HX.out
  have h9 := (HI.out.below hB6).set_kids (okn := fun k => W3.heap.size ≤ k) p hpl _ _ (Kd.R_lower (Kd.R_mono (Kd.R_bound HR5.out) fun k hk => hk.2.1) (Nat.zero_le _)) (fun k hk h2 => by have := h2.2; omega) ((hB6.block g hg).trans HB.out)
  have hbx6 : (w5.setCell ⟨G', p * 7 + 6, none⟩ (.slice A5 (xs[p].f2.filter fun k => !(k == (i : Int))).length c5)).heap[w.heap.size]? = _ := (Below.heap_setCell w5 _ _ _ (fun e => by have : w.heap.size = G' := e; omega)).trans hbx
  generalize w5.setCell ⟨G', p * 7 + 6, none⟩ (.slice A5 (xs[p].f2.filter fun k => !(k == (i : Int))).length c5) = W6 at h9 hbx6 ⊢
  clear hbx hf5 hHeld HR5 HC6 HL6
  rw [hys] at h9
  have hly : ys.length = xs.length := by rw [← hys, List.length_set]
  have hi2 : i < ys.length := by omega
  obtain ⟨G2, c2, _, _, _, _, hb2, hl2, ⟨_, _, _, _, _, h52, _⟩, _, _, hf2, _, _⟩ := h9.1.node i hi2
  have hc2 := doc_cell hb2
  have hbc := doc_cell hbx6
  have HI2 := Aside0.mk h9.1
  have HM2 := Aside0.mk h9.2
  have HB6 := Aside0.mk hB6
  have HD2 := Aside0.mk hb2
  have hz2 : (i : Int) < (ys.length : Int) := by omega
  clear h9 hb2 hbx6 hB6 hl2 HP HB5
  go_wp2
  go_region
  go_end0
  have h10 := (HI2.out.below (below_drew (Below.refl _ _))).set_up i hi2 (-1) HD2.out
  rw [nd_at i hi2]
  refine ⟨rfl, To.mk h10.1 (fun k hk => hk.elim (fun h => .inl h.1) (fun h => .inr (by omega))) ?_⟩
  exact ((Mod.of_below HB6.out).trans HM2.out fun k hk => .inl hk.1).trans ((Mod.of_below (below_drew (Below.refl _ _))).trans h10.2 fun k hk => .inl hk) fun k hk => hk.elim (fun h => .inl h.1) (fun h => .inr (by omega))
/-- put: node n stands in node p, as its kid of number a. -/
def putN (xs : List S79) (p a n : Nat) : List S79 :=
 let ys := xs.set p (withKids (rd_T79 xs p) (insAt (rd_T79 xs p).f2 a n))
 ys.set n (withUp (rd_T79 ys n) p)
set_option maxHeartbeats 4000000 in
set_option maxRecDepth 100000 in
theorem Doc_put (h : IsDoc w ok g xs) (p a n : Nat) (hp : p < xs.length) (hn : n < xs.length) (ha : a ≤ xs[p].f2.length) (hk : xs[p].f2.length < 1000000) :
  Calls Try.prog 41 #[.pointer (some ⟨g, 0, none⟩), .int .i64 p, .int .i64 a, .int .i64 n] w fun e w' => e = .returned (.tuple #[]) ∧ To w w' ok g (putN xs p a n) := by
 obtain ⟨G, c, A4, c4, A6, c6, hb, hl, ⟨_, _, _, _, _, _, h6⟩, _, ⟨l6, g6⟩, hf, hok, hGg⟩ := h.node p hp
 have hc := doc_cell hb
 have hz : (p : Int) < (xs.length : Int) := by omega
 have hg := blk_lt hb
 have hG := block_lt_of_cell h6
 unfold putN
 rw [nd_at p hp]
 generalize hys : xs.set p (withKids xs[p] (insAt xs[p].f2 a (n : Int))) = ys
 have hly : ys.length = xs.length := by rw [← hys, List.length_set]
 have HI := Aside0.mk h.bound
 have HB := Aside0.mk hb
 have HC6 := Aside0.mk g6
 have HL6 := Aside0.mk l6
 have HP := Aside0.mk (And.intro ha hk)
 have HGG := Aside0.mk hGg
 have hB0 : Below w.heap.size w w.drew := below_drew (Below.refl _ _)
 have q0 : w.drew.cell? ⟨g, 0, none⟩ = _ := (hB0.cell (p := ⟨g, 0, none⟩) hg).trans hc
 have q1 : w.drew.cell? ⟨G, p * 7 + 6, none⟩ = _ := (hB0.cell (p := ⟨G, p * 7 + 6, none⟩) hG).trans h6
 have HB2 := Aside0.mk hB0
 clear hb hl h g6 l6 ha hk hGg hc h6
 go_enter Try.func41, Try.ntmps41
 go_wp2
 refine start_ (n := 21) (S := (fun w' => w'.cell? ⟨g, 0, none⟩ = some (.slice (some ⟨G, 0, none⟩) xs.length c) ∧ w'.cell? ⟨G, p * 7 + 6, none⟩ = some (.slice A6 xs[p].f2.length c6))) (ds := [20]) #[Z, Z, Z, Z, Z, Z, Z, Z, Z, Z, Z, Z, Z, Z, Z, Z, Z, Z, Z, Z, Z] (by kernel_rfl) rfl rfl ⟨q0, q1⟩ (fun hHeld => ?_); refine with_tabW reg41_0.tab reg41_0.bits (fun HT_ HW_ => ?_)
 generalize w.drew = W3 at HB2 hHeld hB0 ⊢; clear q0 q1; have hs3 := hB0.size; clear hB0
 refine pA 0 8 #[Y, Z, Z, Z, Z, Z, Z, Z, Z, Z, Z, Z, Z, Z, Z, Z, Z, Z, Z, Z, Z] HT_ ?_
 refine pA 1 9 #[Y, Y, Z, Z, Z, Z, Z, Z, Z, Z, Z, Z, Z, Z, Z, Z, Z, Z, Z, Z, Z] HT_ ?_
 refine pA 2 10 #[Y, Y, Y, Z, Z, Z, Z, Z, Z, Z, Z, Z, Z, Z, Z, Z, Z, Z, Z, Z, Z] HT_ ?_
 refine take_ (i := 3) (N := some 11) (v := ?_) (a' := ?_) #[Y, Y, Y, Y, Z, Z, Z, Z, Z, Z, Z, Z, Z, Z, Z, Z, Z, Z, Z, Z, Z] rfl rfl (take_ofW HT_.out HW_.out (by kernel_rfl)) (fun _ _ _ h => h) (Or.inl ⟨by rfl, ?_⟩) hHeld ?_ ?_
 rotate_left
 ·rintro w' hs
  (try obtain ⟨s0, s1⟩ := hs)
  (try obtain ⟨s1, s2⟩ := s1)
  (try obtain ⟨s2, s3⟩ := s2)
  (try obtain ⟨s3, s4⟩ := s3)
  (try obtain ⟨s4, s5⟩ := s4)
  (try obtain ⟨s5, s6⟩ := s5)
  go_simp
  with_reducible rfl
 rotate_left
 ·simp only [Act.put, List.setIfInBounds_toArray, List.set_cons_zero, List.set_cons_succ, i64_w, i32_w]
  rfl
 refine pA 4 12 #[Y, Y, Y, Y, Y, Z, Z, Z, Z, Z, Z, Z, Z, Z, Z, Z, Z, Z, Z, Z, Z] HT_ ?_
 refine pA 5 13 #[Y, Y, Y, Y, Y, Y, Z, Z, Z, Z, Z, Z, Z, Z, Z, Z, Z, Z, Z, Z, Z] HT_ ?_
 refine pA 6 14 #[Y, Y, Y, Y, Y, Y, Y, Z, Z, Z, Z, Z, Z, Z, Z, Z, Z, Z, Z, Z, Z] HT_ ?_
 refine pA 7 15 #[Y, Y, Y, Y, Y, Y, Y, Y, Z, Z, Z, Z, Z, Z, Z, Z, Z, Z, Z, Z, Z] HT_ ?_
 refine take_ (i := 8) (N := some 16) (v := ?_) (a' := ?_) #[Y, Y, Y, Y, Y, Y, Y, Y, Y, Z, Z, Z, Z, Z, Z, Z, Z, Z, Z, Z, Z] rfl rfl (take_ofW HT_.out HW_.out (by kernel_rfl)) (fun _ _ _ h => h) (Or.inl ⟨by rfl, ?_⟩) hHeld ?_ ?_
 rotate_left
 ·rintro w' hs
  (try obtain ⟨s0, s1⟩ := hs)
  (try obtain ⟨s1, s2⟩ := s1)
  (try obtain ⟨s2, s3⟩ := s2)
  (try obtain ⟨s3, s4⟩ := s3)
  (try obtain ⟨s4, s5⟩ := s4)
  (try obtain ⟨s5, s6⟩ := s5)
  go_simp
  with_reducible rfl
 rotate_left
 ·simp only [Act.put, List.setIfInBounds_toArray, List.set_cons_zero, List.set_cons_succ, i64_w, i32_w]
  rfl
 refine pA 9 17 #[Y, Y, Y, Y, Y, Y, Y, Y, Y, Y, Z, Z, Z, Z, Z, Z, Z, Z, Z, Z, Z] HT_ ?_
 refine pA 10 18 #[Y, Y, Y, Y, Y, Y, Y, Y, Y, Y, Y, Z, Z, Z, Z, Z, Z, Z, Z, Z, Z] HT_ ?_
 refine pA 11 19 #[Y, Y, Y, Y, Y, Y, Y, Y, Y, Y, Y, Y, Z, Z, Z, Z, Z, Z, Z, Z, Z] HT_ ?_
 refine take_ (i := 12) (N := some 20) (v := ?_) (a' := ?_) #[Y, Y, Y, Y, Y, Y, Y, Y, Y, Y, Y, Y, Y, Z, Z, Z, Z, Z, Z, Z, Z] rfl rfl (take_ofW HT_.out HW_.out (by kernel_rfl)) (fun _ _ _ h => h) (Or.inl ⟨by rfl, ?_⟩) hHeld ?_ ?_
 rotate_left
 ·rintro w' hs
  (try obtain ⟨s0, s1⟩ := hs)
  (try obtain ⟨s1, s2⟩ := s1)
  (try obtain ⟨s2, s3⟩ := s2)
  (try obtain ⟨s3, s4⟩ := s3)
  (try obtain ⟨s4, s5⟩ := s4)
  (try obtain ⟨s5, s6⟩ := s5)
  go_simp
  with_reducible rfl
 rotate_left
 ·simp only [Act.put, List.setIfInBounds_toArray, List.set_cons_zero, List.set_cons_succ, i64_w, i32_w]
  rfl
 refine pA 14 22 #[Y, Y, Y, Y, Y, Y, Y, Y, Y, Y, Y, Y, Y, Z, Y, Z, Z, Z, Z, Z, Z] HT_ ?_
 refine pA 15 23 #[Y, Y, Y, Y, Y, Y, Y, Y, Y, Y, Y, Y, Y, Z, Y, Y, Z, Z, Z, Z, Z] HT_ ?_
 refine two_ (i := 13) (j := 16) (Ni := some 21) (Nj := some 24) #[Y, Y, Y, Y, Y, Y, Y, Y, Y, Y, Y, Y, Y, Y, Y, Y, Z, Z, Z, Z, Z] #[Y, Y, Y, Y, Y, Y, Y, Y, Y, Y, Y, Y, Y, Z, Y, Y, Y, Z, Z, Z, Z] rfl rfl rfl rfl (two_of HT_.out (by kernel_rfl)) (by decide) (by decide) (fun K hK => ?_) (fun K hK => ?_)
 ·refine goes_ Try.func42 (by kernel_rfl) rfl #[.slice A6 xs[p].f2.length c6] (by rfl) rfl rfl (by simp only [List.map_toArray, List.map_cons, List.map_nil]; rfl) ?_
  refine (int_clone.calls A6 c6 xs[p].f2 xs[p].f2 W3 (Kd.C_below HC6.out HB2.out) HL6.out (by unfold int_clone.f; rw [if_pos (by have := HP.out.2; omega)])).mono ?_
  rintro e w4 ⟨v4, rfl, hR4, hB4⟩
  have s4 := (hB4.cell (p := ⟨g, 0, none⟩) (by simp only; omega)).trans hHeld.1
  have s5 := (hB4.cell (p := ⟨G, p * 7 + 6, none⟩) (by simp only; omega)).trans hHeld.2
  refine ⟨_, rfl, hK.out _ _ ⟨s4, s5⟩ (fun hHeld => ?_)⟩
  have HR4 := Aside0.mk hR4
  have HB4 := Aside0.mk hB4
  clear hK K hR4 hB4 s4 s5
  refine one_ (i := 16) (N := some 24) #[Y, Y, Y, Y, Y, Y, Y, Y, Y, Y, Y, Y, Y, Y, Y, Y, Y, Z, Z, Z, Z] rfl rfl (one_of HT_.out (by kernel_rfl)) (by decide) (fun K hK => ?_)
  refine value_ (v := .slice (some ⟨w4.heap.size, 0, none⟩) 1 1) (w1 := w4.alloc (.cells #[.int .i64 (n : Int)] 3)) (by rfl) rfl (by first | (go_simp; done) | (go_simp; rfl)) ?_
  refine hK.out _ _ ⟨Lib.cell?_alloc_some _ hHeld.1, Lib.cell?_alloc_some _ hHeld.2⟩ (fun hHeld => ?_)
  clear hK K
  have HE := Aside0.mk (show Kd.R (Kd.int .i64) 3 (w4.alloc (.cells #[.int .i64 (n : Int)] 3)) W3.heap.size (fun _ => True) v4 xs[p].f2 ∧ (w4.alloc (.cells #[.int .i64 (n : Int)] 3)).heap[w4.heap.size]? = some (.cells #[.int .i64 (n : Int)] 3 (0, 0)) ∧ v4.ownBlock ≠ some w4.heap.size ∧ Below W3.heap.size W3 (w4.alloc (.cells #[.int .i64 (n : Int)] 3)) from ⟨Kd.R_alloc HR4.out _, blk_new _ _, fun e => by have := Kd.R_lt HR4.out _ e; omega, below_alloc HB4.out _⟩)
  generalize w4.alloc (.cells #[.int .i64 (n : Int)] 3) = w5 at HE hHeld ⊢
  generalize w4.heap.size = vb at HE ⊢
  clear HR4 HB4
  refine one_ (i := 17) (N := some 25) #[Y, Y, Y, Y, Y, Y, Y, Y, Y, Y, Y, Y, Y, Y, Y, Y, Y, Y, Z, Z, Z] rfl rfl (one_of HT_.out (by kernel_rfl)) (by decide) (fun K hK => ?_)
  refine goes_ Try.func69 (by kernel_rfl) rfl #[v4, .int .i64 (a : Int), .slice (some ⟨vb, 0, none⟩) 1 1] (by rfl) rfl rfl (by simp only [List.map_toArray, List.map_cons, List.map_nil]; rfl) ?_
  refine (int_insert v4 xs[p].f2 a (n : Int) vb W3.heap.size w5 W3 HE.out.1 HE.out.2.2.2 HE.out.2.2.2.size HP.out.1 HE.out.2.1 HE.out.2.2.1 HP.out.2).mono ?_
  rintro e w6 ⟨v5, rfl, hR5, hB5⟩
  have s4 := (hB5.cell (p := ⟨g, 0, none⟩) (by simp only; omega)).trans ((HE.out.2.2.2.cell (p := ⟨g, 0, none⟩) (by simp only; omega)).symm.trans hHeld.1)
  have s5 := (hB5.cell (p := ⟨G, p * 7 + 6, none⟩) (by simp only; omega)).trans ((HE.out.2.2.2.cell (p := ⟨G, p * 7 + 6, none⟩) (by simp only; omega)).symm.trans hHeld.2)
  refine ⟨_, rfl, hK.out _ _ ⟨s4, s5⟩ (fun hHeld => ?_)⟩
  have HR5 := Aside0.mk hR5
  have HB5 := Aside0.mk hB5
  clear hK K hR5 hB5 s4 s5 HE
  refine pA 18 26 #[Y, Y, Y, Y, Y, Y, Y, Y, Y, Y, Y, Y, Y, Y, Y, Y, Y, Y, Y, Z, Z] HT_ ?_
  refine pA 19 27 #[Y, Y, Y, Y, Y, Y, Y, Y, Y, Y, Y, Y, Y, Y, Y, Y, Y, Y, Y, Y, Z] HT_ ?_
  refine last_ (i := 20) (N := none) #[Y, Y, Y, Y, Y, Y, Y, Y, Y, Y, Y, Y, Y, Y, Y, Y, Y, Y, Y, Y, Y] rfl rfl (one_of HT_.out (by kernel_rfl)) (by decide) (fun K hK => ?_)
  obtain ⟨A5, c5, rfl⟩ := Kd.R_slice HR5.out
  have hB6 : Below w.heap.size w w6 := HB2.out.trans (HB5.out.mono (by omega))
  have hf5 : w6.frozen? ⟨G, p * 7 + 6, none⟩ = false := (hB6.frozen (p := ⟨G, p * 7 + 6, none⟩) hG).trans (hf 6)
  refine skip_ (w1 := ?_) (by rfl) rfl ?_ ?_
  rotate_left
  ·go_simp
   rfl
  refine hK.out _ _ ?_
  clear hK K
  refine done_ (done_of HT_.out (by kernel_rfl)) ?_
  have h9 := (HI.out.below hB6).set_kids (okn := fun k => W3.heap.size ≤ k) p hp _ _ (Kd.R_lower (Kd.R_mono (Kd.R_bound HR5.out) fun k hk => hk.2.1) (Nat.zero_le _)) (fun k hk h2 => by have := h2.2; omega) ((hB6.block g hg).trans HB.out)
  generalize w6.setCell ⟨G, p * 7 + 6, none⟩ (.slice A5 (insAt xs[p].f2 a (n : Int)).length c5) = W6 at h9 ⊢
  rw [hys] at h9
  clear hf5 hHeld HR5 HC6 HL6
  have hn2 : n < ys.length := by omega
  obtain ⟨G2, c2, _, _, _, _, hb2, hl2, ⟨_, _, _, _, _, h52, _⟩, _, _, hf2, _, _⟩ := h9.1.node n hn2
  have hc2 := doc_cell hb2
  have HI2 := Aside0.mk h9.1
  have HM2 := Aside0.mk h9.2
  have HB6 := Aside0.mk hB6
  have HD2 := Aside0.mk hb2
  have hz2 : (n : Int) < (ys.length : Int) := by omega
  clear h9 hb2 hB6 hl2 HP HB5
  go_wp2
  go_end0
  have h10 := HI2.out.set_up n hn2 p HD2.out
  rw [nd_at n hn2]
  refine ⟨rfl, To.mk h10.1 (fun k hk => hk.elim (fun h => .inl h.1) (fun h => .inr (by omega))) ?_⟩
  exact ((Mod.of_below HB6.out).trans HM2.out fun k hk => .inl hk.1).trans h10.2 fun k hk => hk.elim (fun h => .inl h.1) (fun h => .inr (by omega))
 ·refine value_ (v := .slice (some ⟨W3.heap.size, 0, none⟩) 1 1) (w1 := W3.alloc (.cells #[.int .i64 (n : Int)] 3)) (by rfl) rfl (by first | (go_simp; done) | (go_simp; rfl)) ?_
  refine hK.out _ _ ⟨Lib.cell?_alloc_some _ hHeld.1, Lib.cell?_alloc_some _ hHeld.2⟩ (fun hHeld => ?_)
  clear hK K
  refine one_ (i := 13) (N := some 21) #[Y, Y, Y, Y, Y, Y, Y, Y, Y, Y, Y, Y, Y, Y, Y, Y, Y, Z, Z, Z, Z] rfl rfl (one_of HT_.out (by kernel_rfl)) (by decide) (fun K hK => ?_)
  refine goes_ Try.func42 (by kernel_rfl) rfl #[.slice A6 xs[p].f2.length c6] (by rfl) rfl rfl (by simp only [List.map_toArray, List.map_cons, List.map_nil]; rfl) ?_
  have hBa : Below w.heap.size w (W3.alloc (.cells #[.int .i64 (n : Int)] 3)) := below_alloc HB2.out _
  have hsa : (W3.alloc (.cells #[.int .i64 (n : Int)] 3)).heap.size = W3.heap.size + 1 := by simp
  refine (int_clone.calls A6 c6 xs[p].f2 xs[p].f2 _ (Kd.C_below HC6.out hBa) HL6.out (by unfold int_clone.f; rw [if_pos (by have := HP.out.2; omega)])).mono ?_
  rintro e w5 ⟨v4, rfl, hR4, hB4⟩
  have s4 := (hB4.cell (p := ⟨g, 0, none⟩) (by simp only; omega)).trans hHeld.1
  have s5 := (hB4.cell (p := ⟨G, p * 7 + 6, none⟩) (by simp only; omega)).trans hHeld.2
  refine ⟨_, rfl, hK.out _ _ ⟨s4, s5⟩ (fun hHeld => ?_)⟩
  obtain ⟨vb, hvb, HE⟩ : ∃ vb, vb = W3.heap.size ∧ Aside0 (Kd.R (Kd.int .i64) 3 w5 W3.heap.size (fun _ => True) v4 xs[p].f2 ∧ w5.heap[vb]? = some (.cells #[.int .i64 (n : Int)] 3 (0, 0)) ∧ v4.ownBlock ≠ some vb ∧ Below W3.heap.size W3 w5) := ⟨_, rfl, ⟨⟨Kd.R_lower hR4 (by omega), (hB4.block _ (by omega)).trans (blk_new _ _), fun e => by have := Kd.R_base hR4 _ e; omega, (below_alloc (Below.refl _ _) _).trans (hB4.mono (by omega))⟩⟩⟩
  rw [← hvb]
  clear hK K hR4 hB4 s4 s5 hBa hsa hvb
  refine one_ (i := 17) (N := some 25) #[Y, Y, Y, Y, Y, Y, Y, Y, Y, Y, Y, Y, Y, Y, Y, Y, Y, Y, Z, Z, Z] rfl rfl (one_of HT_.out (by kernel_rfl)) (by decide) (fun K hK => ?_)
  refine goes_ Try.func69 (by kernel_rfl) rfl #[v4, .int .i64 (a : Int), .slice (some ⟨vb, 0, none⟩) 1 1] (by rfl) rfl rfl (by simp only [List.map_toArray, List.map_cons, List.map_nil]; rfl) ?_
  refine (int_insert v4 xs[p].f2 a (n : Int) vb W3.heap.size w5 W3 HE.out.1 HE.out.2.2.2 HE.out.2.2.2.size HP.out.1 HE.out.2.1 HE.out.2.2.1 HP.out.2).mono ?_
  rintro e w6 ⟨v5, rfl, hR5, hB5⟩
  have s4 := (hB5.cell (p := ⟨g, 0, none⟩) (by simp only; omega)).trans ((HE.out.2.2.2.cell (p := ⟨g, 0, none⟩) (by simp only; omega)).symm.trans hHeld.1)
  have s5 := (hB5.cell (p := ⟨G, p * 7 + 6, none⟩) (by simp only; omega)).trans ((HE.out.2.2.2.cell (p := ⟨G, p * 7 + 6, none⟩) (by simp only; omega)).symm.trans hHeld.2)
  refine ⟨_, rfl, hK.out _ _ ⟨s4, s5⟩ (fun hHeld => ?_)⟩
  have HR5 := Aside0.mk hR5
  have HB5 := Aside0.mk hB5
  clear hK K hR5 hB5 s4 s5 HE
  refine pA 18 26 #[Y, Y, Y, Y, Y, Y, Y, Y, Y, Y, Y, Y, Y, Y, Y, Y, Y, Y, Y, Z, Z] HT_ ?_
  refine pA 19 27 #[Y, Y, Y, Y, Y, Y, Y, Y, Y, Y, Y, Y, Y, Y, Y, Y, Y, Y, Y, Y, Z] HT_ ?_
  refine last_ (i := 20) (N := none) #[Y, Y, Y, Y, Y, Y, Y, Y, Y, Y, Y, Y, Y, Y, Y, Y, Y, Y, Y, Y, Y] rfl rfl (one_of HT_.out (by kernel_rfl)) (by decide) (fun K hK => ?_)
  obtain ⟨A5, c5, rfl⟩ := Kd.R_slice HR5.out
  have hB6 : Below w.heap.size w w6 := HB2.out.trans (HB5.out.mono (by omega))
  have hf5 : w6.frozen? ⟨G, p * 7 + 6, none⟩ = false := (hB6.frozen (p := ⟨G, p * 7 + 6, none⟩) hG).trans (hf 6)
  refine skip_ (w1 := ?_) (by rfl) rfl ?_ ?_
  rotate_left
  ·go_simp
   rfl
  refine hK.out _ _ ?_
  clear hK K
  refine done_ (done_of HT_.out (by kernel_rfl)) ?_
  have h9 := (HI.out.below hB6).set_kids (okn := fun k => W3.heap.size ≤ k) p hp _ _ (Kd.R_lower (Kd.R_mono (Kd.R_bound HR5.out) fun k hk => hk.2.1) (Nat.zero_le _)) (fun k hk h2 => by have := h2.2; omega) ((hB6.block g hg).trans HB.out)
  generalize w6.setCell ⟨G, p * 7 + 6, none⟩ (.slice A5 (insAt xs[p].f2 a (n : Int)).length c5) = W6 at h9 ⊢
  rw [hys] at h9
  clear hf5 hHeld HR5 HC6 HL6
  have hn2 : n < ys.length := by omega
  obtain ⟨G2, c2, _, _, _, _, hb2, hl2, ⟨_, _, _, _, _, h52, _⟩, _, _, hf2, _, _⟩ := h9.1.node n hn2
  have hc2 := doc_cell hb2
  have HI2 := Aside0.mk h9.1
  have HM2 := Aside0.mk h9.2
  have HB6 := Aside0.mk hB6
  have HD2 := Aside0.mk hb2
  have hz2 : (n : Int) < (ys.length : Int) := by omega
  clear h9 hb2 hB6 hl2 HP HB5
  go_wp2
  go_end0
  have h10 := HI2.out.set_up n hn2 p HD2.out
  rw [nd_at n hn2]
  refine ⟨rfl, To.mk h10.1 (fun k hk => hk.elim (fun h => .inl h.1) (fun h => .inr (by omega))) ?_⟩
  exact ((Mod.of_below HB6.out).trans HM2.out fun k hk => .inl hk.1).trans h10.2 fun k hk => hk.elim (fun h => .inl h.1) (fun h => .inr (by omega))
end
end Go.Proofs.Ytpkaliaaffgbdaa.QA
