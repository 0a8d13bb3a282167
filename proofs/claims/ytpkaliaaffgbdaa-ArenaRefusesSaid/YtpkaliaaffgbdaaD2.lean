/- slices.Clone, slices.Insert, slices.DeleteFunc at []int, as the document calls them: rows of the call's own. -/
import Derived.Test.YtpkaliaaffgbdaaD1
import Derived.Shelf.Spec.SlicesInsertGrow
import Derived.Shelf.Spec.SlicesInsert
import Derived.Shelf.SlicesE.DeleteFunc
namespace Go.Proofs.Ytpkaliaaffgbdaa.QA
open Go.RowKit Go.Proofs.YtpkaliaaffgbdaaW.PrintWords Go.Proofs.YtpkaliaaffgbdaaW.PrintLast Go.Proofs.YtpkaliaaffgbdaaW.PrintMore
attribute [local go_sem] max2_int min2_int max_two min_two max_three min_three max_four min_four   -- for this text's walks alone
set_option linter.unusedVariables false
set_option linter.unusedSimpArgs false

open Go
def int_clone.f (l0 : List Int) : Option (List Int) := if l0.length < 4398046511104 then some l0 else none
set_option maxHeartbeats 2000000 in
set_option maxRecDepth 100000 in
theorem int_clone.calls (A0 : Option Addr) (c0 : Nat) (l0 : List Int) (r : List Int) (w : World) (hr0 : Kd.C (Kd.int .i64) w A0 l0.length l0) (hc0 : l0.length ≤ c0) (h : int_clone.f l0 = some r) :
    Calls Try.prog 42 #[.slice A0 l0.length c0] w fun e w' => ∃ v0_ : Value, e = .returned (v0_) ∧ Kd.R (Kd.int .i64) 3 w' w.heap.size (fun _ => True) v0_ r ∧ Below w.heap.size w w' := by
  have HB := Aside0.mk (Below.refl w.heap.size w)
  unfold int_clone.f at h
  by_cases c : l0.length < 4398046511104
  rotate_left
  · rw [if_neg c] at h; exact absurd h (by simp)
  rw [if_pos c] at h
  obtain rfl := Option.some.inj h
  clear h
  have LM := Aside0.mk c
  have HR0 := Aside0.mk hr0
  have HC0 := Aside0.mk hc0
  clear hr0 hc0 c
  cases A0 with
  | none =>
    have hz : l0 = [] := by
      cases l0 with
      | nil => rfl
      | cons x l =>
        obtain ⟨ad, e, _⟩ := Kd.at_int HR0.out 0 (by omega) (by simp)
        cases e
    subst hz
    clear HR0 LM
    have hnil := fun w : World => Lib.run_eql_slice_nil (P := Try.prog) w 32 3 none 0 c0 0 0 Try.underlying32
    go_enter Try.func42, Try.ntmps42
    go_wp2
    go_ret
    exact ⟨_, rfl, Kd.R_nil _ _ _ _ _, HB.out⟩
  | some ad =>
    have hnil := fun w : World => Lib.run_eql_slice_nil (P := Try.prog) w 32 3 (some ad) l0.length c0 0 0 Try.underlying32
    go_enter Try.func42, Try.ntmps42
    go_wp2_with (first | ((with_reducible refine gate_dst (N := 5) rfl ?_); refine Kd.R_lit (Kd.int .i64) _ 3 ?hg (N := 5) ?hd (xs := ([] : List Int)) (inner := []) (ok := fun _ => True) (okp := fun _ => True) ?hr ?hp (fun _ hk => hk) trivial (Below.refl _ _) (Nat.le_refl _) (by simp) ?_; (case hd => rfl); (case hg => rfl); (case hr => first | (go_simp; done) | (go_simp; rfl)); (case hp => exact (Reps.none _ _)); intro v5 w5 ho hb hg_ hnew_; clear hg_ hnew_; have n0_ := Aside0.mk (Kd.R_lower ho (below_size HB.out)); have n1_ := Aside0.mk (below_step HB.out hb); clear HB; have HO := n0_; have HB := n1_; clear n0_ n1_ hb ho) | ((with_reducible refine gate_builtin (b := .append) (xs := #[.tmp 5, .tmp 6]) rfl ?_); at_builtin; refine Kd.R_append_rows (Kd.int .i64) (w0 := w) w.heap.size rfl (.tmp 5) (.tmp 6) 32 3 (.int .i64 0) 8 rfl Try.underlying32 info3 rfl (by decide) (by omega) v5 ([] : List Int) l0 _ _ _ (fun _ => True) (fun _ => False) rfl rfl ?aO ?aR (fun _ _ h => h) (fun _ h => h.elim) ?aF ?aB ?aS ?aL ?_; (case aR => exact Kd.C_below HR0.out HB.out); (case aB => exact HB.out); (case aF => exact (fun _ _ => trivial)); (case aO => exact HO.out); (case aS => exact below_size HB.out); (case aL => have := LM.out; simp; omega); intro v7 w7 ho hb hg hat; have HO2 := Aside0.mk ho; have HB2 := Aside0.mk hb; clear ho hb hg hat))
    go_ret
    exact ⟨_, rfl, HO2.out, HB2.out⟩

/-- x stands at place i. -/
def insAt (xs : List Int) (i : Nat) (x : Int) : List Int := xs.take i ++ x :: xs.drop i
section
open Go.Shelf Go.Lib
def insRen : Go.Shelf.Ren := ⟨fun | 21 => 69 | 27 => 82 | 28 => 83 | 35 => 92 | 39 => 96 | n => n, fun | 22 => 32 | n => n, fun n => n⟩
theorem insLays : Lays2.n21 Try.prog insRen := {
  mixed := by kernel_rfl
  f21 := Try.func69.trans (congrArg some (by kernel_rfl))
  f27 := Try.func82.trans (congrArg some (by kernel_rfl))
  f28 := Try.func83.trans (congrArg some (by kernel_rfl))
  f35 := Try.func92.trans (congrArg some (by kernel_rfl))
  f39 := Try.func96.trans (congrArg some (by kernel_rfl))
  t0 := Try.underlying0
  a0 := Try.isAgg0
  z0 := Try.sizeOf0
  v0 := Try.zeroValue0
  t3 := Try.underlying3
  a3 := Try.isAgg3
  z3 := Try.sizeOf3
  v3 := Try.zeroValue3
  t4 := Try.underlying4
  a4 := Try.isAgg4
  z4 := Try.sizeOf4
  v4 := Try.zeroValue4
  t22 := Try.underlying32
  a22 := Try.isAgg32
  z22 := Try.sizeOf32
  v22 := Try.zeroValue32
  i3 := info3 }
theorem ins_cells (xs : List Int) (i : Nat) (x : Int) : encs (Value.int .i64) (insAt xs i x) = (encs (Value.int .i64) xs).take i ++ .int .i64 x :: (encs (Value.int .i64) xs).drop i := by
  simp [insAt, encs, List.map_take, List.map_drop]
theorem ins_len (xs : List Int) (i : Nat) (x : Int) (h : i ≤ xs.length) : (insAt xs i x).length = xs.length + 1 := by
  simp [insAt]
  omega
/-- A row of ints whose block holds these cells. -/
theorem R_int_block {w : World} {base g cap : Nat} {cur : Array Value} {xs : List Int} (hb : base ≤ g) (h : w.heap[g]? = some (.cells cur 3 (0, 0))) (hc : xs.length ≤ cap) (hm : cap ≤ maxLen) (hs : cur.size = cap) (ht : cur.toList.take xs.length = encs (Value.int .i64) xs) :
    Kd.R (Kd.int .i64) 3 w base (fun _ => True) (.slice (some ⟨g, 0, none⟩) xs.length cap) xs :=
  Kd.R_of_own (h1 := fun _ => rfl) ⟨by simp [encs], .inr ⟨g, cap, cur, rfl, hb, h, hc, hm, by omega, by rw [Nat.mul_one]; exact ht⟩⟩ fun _ _ => trivial
theorem ins_take {α : Type} (C R : List α) (i : Nat) (x : α) (h : i ≤ C.length) : (C.take i ++ x :: C.drop i ++ R).take (C.length + 1) = C.take i ++ x :: C.drop i :=
  List.take_left' (by simp; omega)
theorem ins_end {α : Type} (C : List α) (x : α) : C.take C.length ++ x :: C.drop C.length = C ++ [x] := by simp
theorem ins_shift {α : Type} (cur C : List α) (i : Nat) (x : α) (h : cur.take C.length = C) (hi : i < C.length) (hn : C.length ≤ cur.length) :
    (((cur.take (i + 1) ++ C.drop i ++ cur.drop (i + 1 + (C.drop i).length)).take i ++ [x] ++ (cur.take (i + 1) ++ C.drop i ++ cur.drop (i + 1 + (C.drop i).length)).drop (i + [x].length)).take (C.length + 1)) = C.take i ++ x :: C.drop i := by
  have h1 : (cur.take (i + 1) ++ C.drop i ++ cur.drop (i + 1 + (C.drop i).length)).take i = C.take i := by
    rw [List.append_assoc, List.take_append_of_le_length (by simp; omega), List.take_take]
    conv => rhs; rw [← h, List.take_take]
    congr 1
    omega
  have h2 : (cur.take (i + 1) ++ C.drop i ++ cur.drop (i + 1 + (C.drop i).length)).drop (i + [x].length) = C.drop i ++ cur.drop (i + 1 + (C.drop i).length) := by
    rw [List.append_assoc]
    exact List.drop_left' (by simp; omega)
  rw [h1, h2]
  have := ins_take C (cur.drop (i + 1 + (C.drop i).length)) i x (by omega)
  simpa using this
theorem ins_grow {α : Type} (cur C : List α) (i : Nat) (x : α) (h : cur.take i = C.take i) (hi : i < C.length) (hn : C.length + 1 ≤ cur.length) :
    (((cur.take i ++ [x] ++ cur.drop (i + [x].length)).take (i + 1) ++ C.drop i ++ (cur.take i ++ [x] ++ cur.drop (i + [x].length)).drop (i + 1 + (C.drop i).length)).take (C.length + 1)) = C.take i ++ x :: C.drop i := by
  have h1 : (cur.take i ++ [x] ++ cur.drop (i + [x].length)).take (i + 1) = C.take i ++ [x] := by
    rw [h]
    exact List.take_left' (by simp; omega)
  rw [h1]
  have := ins_take C ((cur.take i ++ [x] ++ cur.drop (i + [x].length)).drop (i + 1 + (C.drop i).length)) i x (by omega)
  simpa using this
theorem grown_size {xs : Array Value} {n G : Nat} (hx : xs.size = n) (h : n ≤ G) : (xs ++ Builtin.zeroCells (Value.int .i64 0).cells (G - n)).size = G := by
  rw [Array.size_append, hx]
  simp [Builtin.zeroCells, Value.cells]
  omega
theorem below_drew1' {n0 : Nat} {w0 w : World} (h : Below n0 w0 w) : Below n0 w0 w.drew := ⟨h.os, h.tape, h.output, h.size, h.block⟩
theorem below_setCells {n0 g : Nat} {w0 w : World} (h : Below n0 w0 w) (hg : n0 ≤ g) : ∀ (vs : List Value) (o : Nat), Below n0 w0 (w.setCells g o vs) := fun vs o => by
  have h1 := setCells_same g vs o w
  exact ⟨h1.1.trans h.os, h1.2.1.trans h.tape, h1.2.2.1.trans h.output, by have := h.size; rw [h1.2.2.2]; exact this, fun k hk => (setCells_far vs o k (by omega)).trans (h.block k hk)⟩
set_option maxHeartbeats 1000000 in
theorem int_insert (v : Value) (xs : List Int) (i : Nat) (x : Int) (vb n0 : Nat) (w w0 : World) (hR : Kd.R (Kd.int .i64) 3 w n0 (fun _ => True) v xs) (hB : Below n0 w0 w) (hn0 : n0 ≤ w.heap.size) (hi : i ≤ xs.length) (hvb : w.heap[vb]? = some (.cells #[.int .i64 x] 3 (0, 0))) (hne : v.ownBlock ≠ some vb) (hl : xs.length < 1000000) :
    Calls Try.prog 69 #[v, .int .i64 i, .slice (some ⟨vb, 0, none⟩) 1 1] w fun e w' => ∃ v', e = .returned v' ∧ Kd.R (Kd.int .i64) 3 w' n0 (fun _ => True) v' (insAt xs i x) ∧ Below n0 w0 w' := by
  have ho := Kd.own_of_R hR
  have hcl : (encs (Value.int .i64) xs).length = xs.length := by simp [encs]
  have hvs : ∀ (j : Nat) (u : Value), [Value.int .i64 x][j]? = some u → w.cell? ⟨vb, 0 + j, none⟩ = some u := by
    intro j u hj
    match j, hj with
    | 0, hj => exact (blk_cell hvb 0).trans (by simpa using hj)
    | j + 1, hj => simp at hj
  have h1v : ∀ u ∈ [Value.int .i64 x], u.oneCell' = true := by simp [Value.oneCell']
  have h1c : ∀ u ∈ encs (Value.int .i64) xs, u.oneCell' = true := by
    intro u hu
    obtain ⟨y, _, rfl⟩ := List.mem_map.1 hu
    rfl
  rcases ho.2 with ⟨rfl, h0⟩ | ⟨g, cap, cur, rfl, hg, hh, hnc, hcm, hcs, ht⟩
  · have hx : xs = [] := List.length_eq_zero_iff.1 h0
    subst hx
    have hi0 : i = 0 := by simpa using hi
    subst hi0
    refine (Any2.slices_Insert_int_end_grow insLays none 0 0 vb 0 1 1 [] [.int .i64 x] w (by decide) (Nat.le_refl _) (by decide) (by decide) rfl rfl (fun _ => rfl) (fun a h => by cases h) hvs h1v).mono ?_
    rintro e w' ⟨rfl, rfl⟩
    refine ⟨_, rfl, R_int_block (cur := _) (by simpa using hn0) (blk_new _ _) ?_ ?_ ?_ ?_, ?_⟩
    · show 0 + 1 ≤ _
      exact grownCap_ge _ _ _ _
    · exact grownCap_le_maxLen _ _ _ _ (by decide)
    · exact grown_size (by simp) (grownCap_ge _ _ _ _)
    · simp [insAt, encs]
    · exact (below_drew1' hB).alloc hn0 _
  · have hcap63 : cap ≤ 9223372036854775807 := by unfold maxLen at hcm; omega
    have hcell : ∀ j, w.cell? ⟨g, j, none⟩ = cur[j]? := fun j => blk_cell hh j
    have hcs0 : ∀ (j : Nat) (u : Value), (encs (Value.int .i64) xs)[j]? = some u → w.cell? ⟨g, 0 + j, none⟩ = some u := by
      intro j u hj
      rw [Nat.mul_one] at ht
      rw [Nat.zero_add, hcell, ← Array.getElem?_toList]
      rw [← ht, List.getElem?_take] at hj
      split at hj
      · exact hj
      · cases hj
    have hsome : ∀ j, j < cap → (w.cell? ⟨g, 0 + j, none⟩).isSome = true := by
      intro j hj
      rw [Nat.zero_add, hcell, Array.getElem?_eq_getElem (by omega)]
      rfl
    have hfz : ∀ j, w.frozen? ⟨g, j, none⟩ = false := fun j => blk_frozen hh j
    have hvg : vb ≠ g := fun e => hne (by rw [e]; rfl)
    rw [Nat.mul_one] at ht
    by_cases hroom : xs.length + 1 ≤ cap
    · by_cases hin : i = xs.length
      · subst hin
        refine (Any2.slices_Insert_int_end_room insLays g 0 xs.length cap vb 0 1 1 [.int .i64 x] w (by decide) hroom hcap63 rfl (fun j hj => ?_) (fun j hj => hfz _) hvs h1v).mono ?_
        · have := hsome (xs.length + j) (by omega)
          rwa [← Nat.add_assoc] at this
        rintro e w' ⟨rfl, rfl⟩
        rw [Nat.zero_add]
        obtain ⟨cur', h1, h2, h3⟩ := setCells_row [Value.int .i64 x] xs.length w cur hh (by simp; omega)
        refine ⟨_, rfl, ?_, ?_⟩
        · rw [← ins_len xs xs.length x (Nat.le_refl _)]
          refine R_int_block hg h1 (by rw [ins_len _ _ _ (Nat.le_refl _)]; exact hroom) hcm (by omega) ?_
          rw [h3, ht, ins_cells, ins_len _ _ _ (Nat.le_refl _)]
          have h4 := ins_take (encs (Value.int .i64) xs) (cur.toList.drop (xs.length + [Value.int .i64 x].length)) xs.length (Value.int .i64 x) (by omega)
          rw [hcl] at h4
          rw [← h4]
          simp [hcl, List.take_of_length_le, List.drop_of_length_le]
        · exact below_setCells hB hg _ _
      · have hlt : i < xs.length := by omega
        refine (Any2.slices_Insert_int_shift insLays g 0 xs.length cap i vb 0 1 1 (encs (Value.int .i64) xs) [.int .i64 x] w hlt (by decide) hroom hcap63 hvg hcl rfl hcs0 (fun j hj => hsome j (by omega)) (fun j hj => hfz _) hvs h1c h1v 3 3 1 cur.size (by simp [World.shape?, hvb]) (by simp [World.shape?, hh]) (by omega) (blk_frozen hvb _) (blk_frozen hvb _)).mono ?_
        rintro e w' ⟨rfl, rfl⟩
        rw [Nat.zero_add, Nat.zero_add]
        have hdl : ((encs (Value.int .i64) xs).drop i).length = xs.length - i := by rw [List.length_drop, hcl]
        obtain ⟨cur1, h1, h2, h3⟩ := setCells_row ((encs (Value.int .i64) xs).drop i) (i + 1) w.drew cur hh (by omega)
        obtain ⟨cur2, h4, h5, h6⟩ := setCells_row [Value.int .i64 x] i _ cur1 h1 (by simp; omega)
        refine ⟨_, rfl, ?_, below_setCells (below_setCells (below_drew1' hB) hg _ _) hg _ _⟩
        rw [← ins_len xs i x hi]
        refine R_int_block hg h4 (by rw [ins_len _ _ _ hi]; exact hroom) hcm (by omega) ?_
        rw [h6, h3, ins_cells, ins_len _ _ _ hi, ← hcl]
        exact ins_shift cur.toList _ i _ (by rw [hcl]; exact ht) (by omega) (by have := Array.length_toList (xs := cur); omega)
    · by_cases hin : i = xs.length
      · subst hin
        refine (Any2.slices_Insert_int_end_grow insLays (some ⟨g, 0, none⟩) xs.length cap vb 0 1 1 (encs (Value.int .i64) xs) [.int .i64 x] w (by decide) hnc (by omega) (by omega) hcl rfl (fun h => by cases h) (fun a ha j u hj => ?_) hvs h1v).mono ?_
        · cases ha
          rw [Addr.add_lit]
          exact hcs0 j u hj
        rintro e w' ⟨rfl, rfl⟩
        refine ⟨_, rfl, ?_, (below_drew1' hB).alloc hn0 _⟩
        rw [← ins_len xs xs.length x (Nat.le_refl _)]
        refine R_int_block (by simpa using hn0) (blk_new _ _) (by rw [ins_len _ _ _ (Nat.le_refl _)]; exact grownCap_ge _ _ _ _) (grownCap_le_maxLen _ _ _ _ (by rw [ins_len _ _ _ (Nat.le_refl _)]; unfold maxLen; omega)) (grown_size (by simp [hcl, ins_len]) (grownCap_ge _ _ _ _)) ?_
        rw [ins_cells, ins_len _ _ _ (Nat.le_refl _)]
        have h4 := ins_take (encs (Value.int .i64) xs) (Builtin.zeroCells (Value.int .i64 0).cells (grownCap w (xs.length + 1) cap (insRen.t 3) - (xs.length + 1))).toList xs.length (Value.int .i64 x) (by omega)
        rw [hcl] at h4
        conv => rhs; rw [← h4]
        simp [hcl, List.take_of_length_le, List.drop_of_length_le]
      · have hlt : i < xs.length := by omega
        refine (Any2.slices_Insert_int_grow insLays g 0 xs.length cap i vb 0 1 1 (encs (Value.int .i64) xs) [.int .i64 x] w hlt (by decide) hnc (by omega) (by omega) hcl rfl hcs0 hvs h1c h1v).mono ?_
        rintro e w' ⟨rfl, rfl⟩
        have hdl : ((encs (Value.int .i64) xs).drop i).length = xs.length - i := by rw [List.length_drop, hcl]
        have hGn := grownCap_ge w (xs.length + 1) cap 3
        obtain ⟨ROW, hROW⟩ : ∃ ROW : Array Value, ROW = ((encs (Value.int .i64) xs).take i).toArray ++ Builtin.zeroCells (Value.int .i64 0).cells (xs.length + 1 - i) ++ Builtin.zeroCells (Value.int .i64 0).cells (grownCap w (xs.length + 1) cap (insRen.t 3) - (xs.length + 1)) := ⟨_, rfl⟩
        have hRs : ROW.size = grownCap w (xs.length + 1) cap 3 := by
          rw [hROW]
          refine grown_size ?_ hGn
          simp [Builtin.zeroCells, Value.cells, hcl]
          omega
        have hRt : ROW.toList.take i = (encs (Value.int .i64) xs).take i := by
          rw [hROW, Array.toList_append, Array.toList_append, List.append_assoc]
          exact List.take_left' (by simp [hcl]; omega)
        rw [← hROW]
        clear hROW
        obtain ⟨cur1, h1, h2, h3⟩ := setCells_row [Value.int .i64 x] i (w.alloc (.cells ROW 3)).drew ROW (blk_new _ _) (by simp; omega)
        obtain ⟨cur2, h4, h5, h6⟩ := setCells_row ((encs (Value.int .i64) xs).drop i) (i + 1) ((w.alloc (.cells ROW 3)).drew.setCells w.heap.size i [Value.int .i64 x]).drew cur1 h1 (by omega)
        refine ⟨_, rfl, ?_, below_setCells (below_drew1' (below_setCells (below_drew1' (hB.alloc hn0 _)) hn0 _ _)) hn0 _ _⟩
        rw [← ins_len xs i x hi]
        refine R_int_block hn0 h4 (by rw [ins_len _ _ _ hi]; exact hGn) (grownCap_le_maxLen _ _ _ _ (by rw [ins_len _ _ _ hi]; unfold maxLen; omega)) (by rw [ins_len _ _ _ hi]; show cur2.size = grownCap w (xs.length + 1) cap 3; omega) ?_
        rw [h6, h3, ins_cells, ins_len _ _ _ hi, ← hcl]
        exact ins_grow ROW.toList _ i _ hRt (by omega) (by have := Array.length_toList (xs := ROW); omega)
end
section
open Go.Shelf Go.Lib Go.Sort
def delRen : Go.Shelf.Ren := ⟨fun | 10 => 67 | 6 => 81 | n => n, fun | 22 => 32 | 23 => 3 | 25 => 70 | n => n, fun n => n⟩
theorem delLays : SlLaysH.n10 Try.prog delRen := {
  mixed := by kernel_rfl
  f6 := ⟨Try.f81.name, by kernel_rfl, Try.func81.trans (congrArg some (by kernel_rfl))⟩
  f10 := ⟨Try.f67.name, by kernel_rfl, Try.func67.trans (congrArg some (by kernel_rfl))⟩
  t0 := Try.underlying0
  a0 := Try.isAgg0
  z0 := Try.sizeOf0
  v0 := Try.zeroValue0
  t3 := Try.underlying3
  a3 := Try.isAgg3
  z3 := Try.sizeOf3
  v3 := Try.zeroValue3
  t4 := Try.underlying4
  a4 := Try.isAgg4
  z4 := Try.sizeOf4
  v4 := Try.zeroValue4
  t22 := Try.underlying32
  a22 := Try.isAgg32
  z22 := Try.sizeOf32
  v22 := Try.zeroValue32
  a23 := Try.isAgg3
  z23 := Try.sizeOf3
  t25 := Try.underlying70
  a25 := Try.isAgg70
  z25 := Try.sizeOf70
  v25 := Try.zeroValue70 }
set_option maxHeartbeats 1000000 in
theorem take1_gives (n x : Int) (B : Nat) (W : World) (hc : W.cell? ⟨B, 0, none⟩ = some (.int .i64 n)) : FnGives Try.prog 68 #[.pointer (some ⟨B, 0, none⟩)] #[.int .i64 x] (.bool (x == n)) W := by
  show Calls Try.prog 68 #[.int .i64 x, .pointer (some ⟨B, 0, none⟩)] W _
  go_enter Try.func68, Try.ntmps68
  go_wp2
  all_goals (go_ret; exact ⟨rfl, 0, rfl⟩)
theorem put_block {w : World} {g : Nat} {cur : Array Value} (d : Array Int) (h : w.heap[g]? = some (.cells cur 3 (0, 0))) : (putRow (Value.int .i64) w g 0 d).heap[g]? = some (.cells (putCells (Value.int .i64) 0 d cur) 3 (0, 0)) := by
  unfold putRow mapBlock
  simp [Array.getElem?_modify, h, onCells]
theorem put_far {w : World} {g k : Nat} (d : Array Int) (h : k ≠ g) : (putRow (Value.int .i64) w g 0 d).heap[k]? = w.heap[k]? := by
  unfold putRow mapBlock
  simp [Array.getElem?_modify, Ne.symm h]
theorem put_take {cur : Array Value} (ys zs : List Int) (h : (ys ++ zs).length ≤ cur.size) : (putCells (Value.int .i64) 0 (ys ++ zs).toArray cur).toList.take ys.length = encs (Value.int .i64) ys := by
  apply List.ext_getElem?
  intro j
  rw [List.getElem?_take]
  by_cases hj : j < ys.length
  · rw [if_pos hj, Array.getElem?_toList, putCells, Array.getElem?_mapIdx]
    have hj2 : j < cur.size := by rw [List.length_append] at h; omega
    have hj3 : j < (ys ++ zs).length := by rw [List.length_append]; omega
    rw [Array.getElem?_eq_getElem hj2, Option.map_some, if_pos (by simp only [Nat.zero_le, true_and, Nat.zero_add, List.size_toArray]; exact hj3)]
    rw [Nat.sub_zero, getElem!_pos _ j (by simpa using hj3)]
    simp [encs, List.getElem_append_left hj, List.getElem?_eq_getElem hj]
  · rw [if_neg hj, List.getElem?_eq_none (by simp [encs]; omega)]
set_option maxHeartbeats 1000000 in
theorem int_delete (v : Value) (xs : List Int) (n : Int) (B n0 : Nat) (w w0 : World) (hR : Kd.R (Kd.int .i64) 3 w n0 (fun _ => True) v xs) (hB : Below n0 w0 w) (hn0 : n0 ≤ w.heap.size) (hp : 0 < xs.length) (hb : w.heap[B]? = some (.cells #[.int .i64 n] 3 (0, 0))) (hne : v.ownBlock ≠ some B) :
    Calls Try.prog 67 #[v, .func (.func 68) #[] #[.pointer (some ⟨B, 0, none⟩)]] w fun e w' => ∃ v', e = .returned v' ∧ Kd.R (Kd.int .i64) 3 w' n0 (fun _ => True) v' (xs.filter fun k => !(k == n)) ∧ Below n0 w0 w' := by
  have ho := Kd.own_of_R hR
  rcases ho.2 with ⟨rfl, h0⟩ | ⟨g, cap, cur, rfl, hg, hh, hnc, hcm, hcs, ht⟩
  · omega
  have hcell : ∀ j, w.cell? ⟨g, j, none⟩ = cur[j]? := fun j => blk_cell hh j
  have hBg : B ≠ g := fun e => hne (by rw [e]; rfl)
  have hBc := (blk_cell hb 0).trans rfl
  have hBl := blk_lt hb
  have eg : ∀ args w, (callFunc 68 args).run Try.prog w = .ok (.enter 68 args) w := enters_of Try.func68 (by kernel_rfl) rfl
  have hH : Holds (Value.int .i64) w g 0 xs.toArray := by
    intro j hj
    simp only [List.size_toArray] at hj
    refine ⟨?_, blk_frozen hh _⟩
    rw [Nat.zero_add, hcell, ← Array.getElem?_toList]
    rw [Nat.mul_one] at ht
    have h1 : (cur.toList.take xs.length)[j]? = (encs (Value.int .i64) xs)[j]? := by rw [ht]
    rw [List.getElem?_take, if_pos hj] at h1
    rw [h1, getElem!_pos _ j (by simpa using hj)]
    simp [encs, List.getElem?_eq_getElem hj]
  have hat : PredAt Try.prog 68 #[.pointer (some ⟨B, 0, none⟩)] (Value.int .i64) (fun k => k == n) w :=
    fun W x hbw => take1_gives n x B W ((hbw.cell (p := ⟨B, 0, none⟩) hBl).trans hBc)
  have hov : PredOver Try.prog 68 #[.pointer (some ⟨B, 0, none⟩)] (Value.int .i64) (fun k => k == n) g 0 xs.toArray.size w :=
    fun m os dk x _ => take1_gives n x B _ (by
      unfold sortWorld
      rw [cell?_grow _ _ _ (by show B < (putRow _ _ _ _ _).heap.size; rw [size_putRow]; exact hBl), cell?_putRow_other _ _ g 0 _ _ (Or.inl hBg)]
      exact hBc)
  have hcap63 : cap ≤ 9223372036854775807 := by unfold maxLen at hcm; omega
  have hcon := AnyE.slices_DeleteFunc delLays (Value.int .i64) (fun _ => rfl) (fun k => k == n) 68 #[.pointer (some ⟨B, 0, none⟩)] eg 0 Try.zeroValue3 g 0 cap xs.toArray w hat hov hH (by simp; omega) (by simpa using hnc)
  simp only [List.size_toArray] at hcon
  refine Calls.mono hcon ?_
  rintro e w' ⟨rfl, q, rfl⟩
  have hfl : (xs.filter fun k => !(k == n)).length ≤ xs.length := List.length_filter_le _ _
  have h1 := put_block (w := Sort.ahead w q) ((xs.filter fun k => !(k == n)) ++ List.replicate (xs.length - (xs.filter fun k => !(k == n)).length) 0).toArray hh
  refine ⟨_, rfl, R_int_block hg h1 (by omega) hcm (by simp [putCells]; omega) (put_take _ _ (by rw [List.length_append, List.length_replicate]; omega)), ?_⟩
  exact ⟨hB.os, hB.tape, hB.output, by rw [size_putRow]; exact hB.size, fun k hk => (put_far _ (by omega)).trans (hB.block k hk)⟩
end
end Go.Proofs.Ytpkaliaaffgbdaa.QA
