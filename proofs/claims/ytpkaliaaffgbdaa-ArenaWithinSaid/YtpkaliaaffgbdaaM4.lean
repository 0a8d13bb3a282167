/- The document of package arena: Rows. The document of package arena: Load, Clone. A document's tree, in plain Lean: what each call keeps. -/
import Derived.Test.YtpkaliaaffgbdaaM3
import Derived.RangeFuncWrites
import Derived.Sort.LoopGhostIn
import Derived.Maps.OwnIn
import Derived.Test.YtpkaliaaffgbdaaQAx6
namespace Go.Proofs.Ytpkaliaaffgbdaa.QA
open Go.RowKit Go.Proofs.YtpkaliaaffgbdaaW.PrintWords Go.Proofs.YtpkaliaaffgbdaaW.PrintLast Go.Proofs.YtpkaliaaffgbdaaW.PrintMore
attribute [local go_sem] max2_int min2_int max_two min_two max_three min_three max_four min_four   -- for this text's walks alone
set_option linter.unusedVariables false
set_option linter.unusedSimpArgs false
def reg11_12.T : Bool × List (List Nat × List Nat) := (true, [([], []), ([0], [0]), ([1], [1]), ([2], [2]), ([], []), ([4], [4]), ([3, 5], [3, 5]), ([6], [6]), ([7], [7]), ([8], [8])])
def reg11_12.B : List Nat := [0, 1, 3, 7, 0, 16, 63, 127, 255, 511]
theorem reg11_12.tab : rtab .any (opsOf Try.f11 12) = reg11_12.T := by kernel_rfl
theorem reg11_12.bits : waitsOk reg11_12.T.2 reg11_12.B = true := by kernel_rfl

open Go Go.Shelf
attribute [local go_sem] Oper.semAt_some
def flat (l : List (Int × Int)) : List Value := l.flatMap fun p => [.int .i64 p.1, .int .i64 p.2]
theorem flat_append (a b : List (Int × Int)) : flat (a ++ b) = flat a ++ flat b := by simp [flat]
theorem flat_length : ∀ l : List (Int × Int), (flat l).length = l.length * 2
 | [] => rfl
 | p :: l => by
  have := flat_length l
  show (_ :: _ :: flat l).length = _
  simp only [List.length_cons, this]
  omega
theorem flat_get : ∀ (l : List (Int × Int)) (j : Nat) (hj : j < l.length), (flat l)[j * 2]? = some (.int .i64 l[j].1) ∧ (flat l)[j * 2 + 1]? = some (.int .i64 l[j].2)
 | p :: l, 0, _ => ⟨rfl, rfl⟩
 | p :: l, j + 1, hj => by
  have := flat_get l j (by simpa using hj)
  rw [show (j + 1) * 2 = j * 2 + 2 by omega, show j * 2 + 2 + 1 = j * 2 + 1 + 2 by omega]
  exact this
theorem flat_take : ∀ (l : List (Int × Int)) (m : Nat), (flat l).take (m * 2) = flat (l.take m)
 | [], m => by simp [flat]
 | p :: l, 0 => by simp [flat]
 | p :: l, m + 1 => by
  rw [show (m + 1) * 2 = m * 2 + 2 by omega]
  show (_ :: _ :: flat l).take (m * 2 + 2) = _ :: _ :: flat (l.take m)
  rw [List.take_succ_cons, List.take_succ_cons, flat_take l m]
theorem flat_one (l : List (Int × Int)) : ∀ u ∈ flat l, u.oneCell' = true := by
 intro u hu
 obtain ⟨p, _, hp⟩ := List.mem_flatMap.1 hu
 simp at hp
 rcases hp with rfl | rfl <;> rfl
/-- The row of places: a place of it. -/
theorem places_at {W : World} {b : Nat} {v : Value} {l : List (Int × Int)} (h : W.ownsRow b 72 2 v l.length (flat l)) (j : Nat) (hj : j < l.length) :
  ∃ g c, v = .slice (some ⟨g, 0, none⟩) l.length c ∧ l.length ≤ c ∧ W.cell? ⟨g, j * 2, none⟩ = some (.int .i64 l[j].1) ∧ W.cell? ⟨g, j * 2 + 1, none⟩ = some (.int .i64 l[j].2) := by
 rcases h.2 with ⟨_, h0⟩ | ⟨g, c, cur, rfl, _, hh, hnc, _, _, ht⟩
 ·omega
 ·have hf := flat_get l j hj
  rw [← ht] at hf
  rw [List.getElem?_take, List.getElem?_take, if_pos (by omega), if_pos (by omega), Array.getElem?_toList, Array.getElem?_toList] at hf
  exact ⟨g, c, rfl, hnc, (blk_cell hh _).trans hf.1, (blk_cell hh _).trans hf.2⟩
theorem info72 : (Try.prog.info? 72).map (fun i => (i.zero, i.size, i.bytes)) = some (some (.agg #[.int .i64 0, .int .i64 0]), 2, 16) := by kernel_rfl
/-- A node's row, so deep. -/
def rowAt (xs : List S79) (p : Int × Int) : S54 := ⟨p.2, (rd_T79 xs p.1).f0.f1, (rd_T79 xs p.1).f0.f2, (rd_T79 xs p.1).f0.f3, (rd_T79 xs p.1).f0.f4⟩
/-- Rows: the stack of places (the top first), what is told so far. -/
def rowsL (xs : List S79) : Nat → List (Int × Int) → List S54 → Option (List S54)
 | 0, _, _ => none
 | _ + 1, [], out => some out
 | k + 1, p :: rest, out =>
  if 0 ≤ p.1 ∧ p.1 < (xs.length : Int) ∧ -1 ≤ p.2 ∧ p.2 < 1000000 ∧ out.length < 1000000 ∧ rest.length < 1000000 then
   rowsL xs k (((rd_T79 xs p.1).f2.map fun q => (q, p.2 + 1)) ++ rest) (if p.1 = 0 then out else out ++ [rowAt xs p])
  else none
def rowsR (xs : List S79) (k : Nat) (n : Int) : Option (List S54) := if inB xs n = false then some [] else rowsL xs k [(n, if n = 0 then -1 else 0)] []
/-- What lies in memory between two rounds. -/
structure RowsInv (w W : World) (stk : List (Int × Int)) (out : List S54) (vl vo : Value) (Ds : List Nat) : Prop where
 bel : Below w.heap.size w W
 box : W.heap[w.heap.size + 1]? = some (.cells #[vl] 73 (0, 0))
 row : W.ownsRow w.heap.size 72 2 vl stk.length (flat stk.reverse)
 out : Kd.S k54 54 W w.heap.size (fun _ => True) vo out
 marks : ∀ D ∈ Ds, w.heap.size ≤ D ∧ W.heap[D]? = some (.deferred (some []))
 nodup : Ds.Nodup
def marks (Ds : List Nat) : List Deferred := Ds.map fun D => { target := .collected D, args := #[] }
/-- What the function's body must achieve: it returns. -/
def retPost (fn : Func) (R : Ending → World → Prop) : Exit → Act → World → Prop
 | .ret, a, w => LeavesInM Fence.wide 7 Try.prog fn a.tmps R a.defers .returning w
 | _, _, _ => False
theorem retPost_le {fn : Func} {R : Ending → World → Prop} (e : Exit) (a : Act) (w : World) (h : retPost fn R e a w) : bodyPostM Fence.wide 7 Try.prog fn R e a w := by
 cases e <;> first | exact h | exact h.elim
/-- The function is left: the marks are taken off. -/
theorem leaves_marks {fn : Func} {tmps : Array Value} {R : Ending → World → Prop} {n : Nat} : ∀ (Ds : List Nat) (w : World), (∀ D ∈ Ds, w.heap[D]? = some (.deferred (some []))) → Ds.Nodup →
  (∀ w', w'.os = w.os → w'.tape = w.tape → w'.output = w.output → w'.heap.size = w.heap.size → (∀ k, k ∉ Ds → w'.heap[k]? = w.heap[k]?) → LeavesInM Fence.wide n Try.prog fn tmps R [] .returning w') →
  LeavesInM Fence.wide n Try.prog fn tmps R (marks Ds) .returning w
 | [], w, _, _, h => h w rfl rfl rfl rfl fun _ _ => rfl
 | D :: Ds, w, hD, hn, h => by
  refine ⟨by simp, .inl ⟨D, _, rfl, run_takeDeferred (hD D List.mem_cons_self), ?_⟩⟩
  have hlt := blk_lt (hD D List.mem_cons_self)
  rw [List.nodup_cons] at hn
  have hg := grownBy_putObj' w D (.deferred none)
  refine leaves_marks Ds _ (fun D' h' => ?_) hn.2 fun w' h1 h2 h3 h4 h5 => h w' (h1.trans hg.os) (h2.trans hg.tape) (h3.trans hg.output) (h4.trans (by simp [World.putObj])) fun k hk => ?_
  ·exact (hg.block D' (blk_lt (hD D' (List.mem_cons_of_mem _ h'))) (fun e => by injection e with e; exact hn.1 (e ▸ h'))).trans (hD D' (List.mem_cons_of_mem _ h'))
  ·rw [List.mem_cons, not_or] at hk
   rw [h5 k hk.2]
   rcases Nat.lt_or_ge k w.heap.size with hl | hl
   ·exact hg.block k hl fun e => by injection e with e; exact hk.1 e
   ·rw [Array.getElem?_eq_none hl, Array.getElem?_eq_none (by simp [World.putObj]; exact hl)]
theorem RowsInv.same {w W W1 : World} {stk : List (Int × Int)} {out : List S54} {vl vo : Value} {Ds : List Nat} (h : RowsInv w W stk out vl vo Ds) (e1 : W1.os = W.os) (e2 : W1.tape = W.tape) (e3 : W1.output = W.output) (e4 : W1.heap.size = W.heap.size) (e5 : ∀ k, k ∉ Ds → W1.heap[k]? = W.heap[k]?) :
  Kd.S k54 54 W1 w.heap.size (fun _ => True) vo out ∧ Below w.heap.size w W1 := by
 refine ⟨Kd.S_mono (Kd.S_step (Kd.S_bound h.out) fun k hk _ => e5 k fun hd => ?_) fun _ _ => trivial, h.bel.trans ⟨e1, e2, e3, by rw [e4]; exact Nat.le_refl _, fun k hk => e5 k fun hd => by have := (h.marks k hd).1; omega⟩⟩
 obtain ⟨_, _, _, q, _, cells, hc⟩ := hk
 rw [(h.marks k hd).2] at hc
 cases hc
theorem RowsInv.moved {w W W5 : World} {stk : List (Int × Int)} {out out' : List S54} {vl vo vo' : Value} {Ds : List Nat} (h : RowsInv w W stk out vl vo Ds) (hk : ∀ k, k < W.heap.size → some k ≠ vo.ownBlock → W5.heap[k]? = W.heap[k]?) (hB : Below w.heap.size w W5) (hS : Kd.S k54 54 W5 w.heap.size (fun _ => True) vo' out') :
  RowsInv w W5 stk out' vl vo' Ds ∧ ∀ (k : Nat) (o : Obj), W.heap[k]? = some o → (∀ cells : Array Value, o ≠ Obj.cells cells 54 (0, 0)) → W5.heap[k]? = some o := by
 have hty : ∀ (k : Nat) (o : Obj), W.heap[k]? = some o → (∀ cells : Array Value, o ≠ Obj.cells cells 54 (0, 0)) → W5.heap[k]? = some o := fun k o ho hn => (hk k (blk_lt ho) fun e => by
  obtain ⟨cells, hc⟩ := Kd.S_typed h.out k e.symm
  rw [ho] at hc
  injection hc with hc
  exact hn _ hc).trans ho
 refine ⟨⟨hB, hty _ _ h.box (fun _ e => by injection e with _ e _; exact absurd e (by decide)), ⟨h.row.1, h.row.2.imp id fun ⟨g', c', cur, e, hb, hh, r⟩ => ⟨g', c', cur, e, hb, hty _ _ hh (fun _ e => by injection e with _ e _; exact absurd e (by decide)), r⟩⟩, hS, fun D hD => ⟨(h.marks D hD).1, hty _ _ (h.marks D hD).2 (fun _ e => by cases e)⟩, h.nodup⟩, hty⟩
/-- The frame between two rounds. -/
def rowsAct (w : World) (g : Nat) (n : Int) (vo : Value) (Ds : List Nat) (a : Act) : Prop := ∃ u7 u8 u9 u10 u11 u12 u13 u14 u15 u16 u17 u18 u19 u20 u21 u22 u23 u24 u25 u26 u27 u28 u29 u30 u31 u32 u33 u34 u35 u36 u37 u38 u39 u40 u41 u42 u43 u44 u45 u46 u47 u48 u49 u50 u51 u52 u53 u54 u55 u56 u57 u58 u59 u60 u61 u62 u63 u64 u65 u66 u67 u68 : Value, a = { tmps := List.toArray ((.pointer (some ⟨g, 0, none⟩) : Value) :: (.int .i64 n : Value) :: undef :: undef :: (.slice none 0 0 : Value) :: vo :: (.pointer (some ⟨w.heap.size + 1, 0, none⟩) : Value) :: u7 :: u8 :: u9 :: u10 :: u11 :: u12 :: u13 :: u14 :: u15 :: u16 :: u17 :: u18 :: u19 :: u20 :: u21 :: u22 :: u23 :: u24 :: u25 :: u26 :: u27 :: u28 :: u29 :: u30 :: u31 :: u32 :: u33 :: u34 :: u35 :: u36 :: u37 :: u38 :: u39 :: u40 :: u41 :: u42 :: u43 :: u44 :: u45 :: u46 :: u47 :: u48 :: u49 :: u50 :: u51 :: u52 :: u53 :: u54 :: u55 :: u56 :: u57 :: u58 :: u59 :: u60 :: u61 :: u62 :: u63 :: u64 :: u65 :: u66 :: u67 :: u68 :: []), defers := marks Ds }
theorem cell_two_new (W : World) (a b : Value) (t : TypeId) : ∀ (j : Nat) (u : Value), [a, b][j]? = some u → (W.alloc (.cells #[a, b] t)).cell? ((⟨W.heap.size, 0, none⟩ : Addr).add j) = some u := by
 intro j u h
 rw [add_plain]
 match j, h with
 | 0, h => exact (blk_cell (blk_new W _) 0).trans (by simpa using h)
 | 1, h => exact (blk_cell (blk_new W _) 1).trans (by simpa using h)
 | j + 2, h => simp at h
/-- The frame ahead of the range over a function. -/
def rowsAct2 (w : World) (g : Nat) (n : Int) (gp B : Nat) (vo : Value) (Ds : List Nat) (a : Act) : Prop := ∃ u8 u9 u10 u11 u12 u13 u14 u15 u16 u17 u18 u19 u20 u21 u22 u23 u24 u25 u26 u27 u28 u29 u30 u31 u32 u33 u34 u35 u36 u37 u38 u39 u40 u41 u42 u43 u44 u45 u46 u47 u48 u49 u50 u51 u52 u53 u54 u55 u56 u58 u59 u60 u61 u62 u63 u64 u65 u66 u67 u68 : Value, a = { tmps := List.toArray ((.pointer (some ⟨g, 0, none⟩) : Value) :: (.int .i64 n : Value) :: undef :: undef :: (.slice none 0 0 : Value) :: vo :: (.pointer (some ⟨w.heap.size + 1, 0, none⟩) : Value) :: (.pointer (some ⟨gp, 0, none⟩) : Value) :: u8 :: u9 :: u10 :: u11 :: u12 :: u13 :: u14 :: u15 :: u16 :: u17 :: u18 :: u19 :: u20 :: u21 :: u22 :: u23 :: u24 :: u25 :: u26 :: u27 :: u28 :: u29 :: u30 :: u31 :: u32 :: u33 :: u34 :: u35 :: u36 :: u37 :: u38 :: u39 :: u40 :: u41 :: u42 :: u43 :: u44 :: u45 :: u46 :: u47 :: u48 :: u49 :: u50 :: u51 :: u52 :: u53 :: u54 :: u55 :: u56 :: (.func (.func 66) #[] #[.pointer (some ⟨B, 0, none⟩)] : Value) :: u58 :: u59 :: u60 :: u61 :: u62 :: u63 :: u64 :: u65 :: u66 :: u67 :: u68 :: []), defers := marks Ds }
/-- What the loop's body keeps and lays. -/
structure RowsI (w W7 : World) (gv : Nat) (rest : List (Int × Int)) (d : Int) (pre : List (Int × Int)) (W : World) : Prop where
 ex : ∃ v, Boxed W (w.heap.size + 1) 73 v ∧ W.ownsRow w.heap.size 72 2 v (rest.length + pre.length) (flat (rest.reverse ++ pre.map fun x => (x.2, d + 1))) ∧ ∀ k, v.ownBlock = some k → k = gv ∨ W7.heap.size ≤ k
 kept : ∀ k, k < W7.heap.size → k ≠ w.heap.size + 1 → k ≠ gv → W.heap[k]? = W7.heap[k]?
 bel : Below w.heap.size w W
 size : W7.heap.size ≤ W.heap.size
theorem rowsI_own {w W7 : World} {gv : Nat} {rest : List (Int × Int)} {d : Int} (h7 : w.heap.size ≤ W7.heap.size) : OwnFrom W7.heap.size (RowsI w W7 gv rest d) := by
 intro s W W' row h hg hr
 refine ⟨(Own.from (holdsRow_own w.heap.size (w.heap.size + 1) 73 72 2 (fun pre => rest.length + pre.length) (fun pre => flat (rest.reverse ++ pre.map fun x => (x.2, d + 1))) (fun _ v => ∀ k, v.ownBlock = some k → k = gv ∨ W7.heap.size ≤ k)) W7.heap.size) s W W' row h.ex hg hr, fun k h1 h2 h3 => ?_, ?_, Nat.le_trans h.size hg.size⟩
 ·exact (hg.block k (Nat.lt_of_lt_of_le h1 h.size) fun e => by have := (hr k e.symm).1; omega).trans (h.kept k h1 h2 h3)
 ·exact h.bel.grown hg h.bel.size fun k e => Nat.le_trans h7 (hr k e).1
theorem rowsI_step {w W7 W w1 : World} {gv B : Nat} {rest : List (Int × Int)} {d : Int} {pre : List (Int × Int)} {x : Int × Int} {v v' : Value} {tmp : Obj}
  (hw : w.heap.size + 1 < W7.heap.size) (hk : ∀ k, k < W7.heap.size → k ≠ w.heap.size + 1 → k ≠ gv → W.heap[k]? = W7.heap[k]?) (hb : Below w.heap.size w W) (hs : W7.heap.size ≤ W.heap.size)
  (hv : Boxed W (w.heap.size + 1) 73 v) (hrow : W.ownsRow w.heap.size 72 2 v (rest.length + pre.length) (flat (rest.reverse ++ pre.map fun x => (x.2, d + 1)))) (hvg : ∀ k, v.ownBlock = some k → k = gv ∨ W7.heap.size ≤ k)
  (hB : B < W7.heap.size) (hB1 : B ≠ w.heap.size + 1) (hB2 : B ≠ gv)
  (hown' : w1.ownsRow w.heap.size 72 2 v' (rest.length + pre.length + 1) (flat (rest.reverse ++ pre.map fun x => (x.2, d + 1)) ++ [.int .i64 x.2, .int .i64 (d + 1)])) (hgrow : (W.alloc tmp).grownBy w1 v.ownBlock) (hat : v'.ownBlock = v.ownBlock ∨ v'.ownBlock = some (W.alloc tmp).heap.size) :
  Boxed w1 (w.heap.size + 1) 73 v ∧ KeepsFrom W7.heap.size W (w1.setCell ⟨w.heap.size + 1, 0, none⟩ v') ∧ KpB w.heap.size B W (w1.setCell ⟨w.heap.size + 1, 0, none⟩ v') ∧ RowsI w W7 gv rest d (pre ++ [x]) (w1.setCell ⟨w.heap.size + 1, 0, none⟩ v') := by
 have hv1 : Boxed w1 (w.heap.size + 1) 73 v := (hv.alloc tmp).kept hgrow (hv.not_row (by decide) hrow)
 have hrl : ∀ j, v.ownBlock = some j → w.heap.size ≤ j := fun j ej => own_base hrow j ej
 have hsame : ∀ j, j < W7.heap.size → j ≠ w.heap.size + 1 → j ≠ gv → (w1.setCell ⟨w.heap.size + 1, 0, none⟩ v').heap[j]? = W.heap[j]? := fun j h1 h2 h3 => by
  rw [Below.heap_setCell w1 ⟨w.heap.size + 1, 0, none⟩ v' j h2, hgrow.block j (by rw [World.size_alloc]; omega) (fun e => by rcases hvg j e.symm with h | h <;> omega)]
  exact Below.heap_alloc W tmp j (by omega)
 have hbel : Below w.heap.size W (w1.setCell ⟨w.heap.size + 1, 0, none⟩ v') := (((Below.refl w.heap.size W).alloc hb.size tmp).grown hgrow (by rw [World.size_alloc]; have := hb.size; omega) fun j ej => hrl j ej).setCell (p := ⟨w.heap.size + 1, 0, none⟩) (by simp) v'
 refine ⟨hv1, ?_, ⟨hbel, hsame B hB hB1 hB2⟩, ⟨⟨v', hv1.set v', ?_, fun k hk2 => ?_⟩, fun k h1 h2 h3 => (hsame k h1 h2 h3).trans (hk k h1 h2 h3), hb.trans hbel, ?_⟩⟩
 ·refine KeepsOthers.from (((KeepsOthers.alloc W tmp).trans (KeepsOthers.of_grownBy hgrow fun j o ej hj => ?_)).trans (KeepsOthers.setCell _ _ _)) _
  rcases (hrow.alloc tmp).2 with ⟨rfl, _⟩ | ⟨g, cap, cur, rfl, _, hgb, _⟩
  ·simp [Value.ownBlock] at ej
  ·obtain rfl : g = j := by simpa [Value.ownBlock] using ej
   rw [hgb] at hj; cases hj; rfl
 ·have h1 := hown'.kept (grownBy_setCell' w1 (w.heap.size + 1) v') (.inr (hv1.not_row (by decide) hown').symm)
  rw [List.length_append, List.map_append, ← List.append_assoc, flat_append]
  exact h1
 ·rcases hat with h | h
  ·exact hvg k (h ▸ hk2)
  ·rw [hk2] at h
   injection h with h
   rw [World.size_alloc] at h
   exact .inr (by omega)
 ·have := hgrow.size
  rw [World.size_alloc] at this
  have : (w1.setCell ⟨w.heap.size + 1, 0, none⟩ v').heap.size = w1.heap.size := by simp [World.setCell]
  omega
theorem rowsI_inv {w W5 W7 W' : World} {rest : List (Int × Int)} {out : List S54} {gv c D : Nat} {vo : Value} {Ds : List Nat} {d : Int} {ks : List Int} {ys : List (Int × Int)} (h5 : RowsInv w W5 rest out (.slice (some ⟨gv, 0, none⟩) rest.length c) vo Ds) (hI : RowsI w W7 gv rest d ys W')
  (H7 : ∀ k, k < W5.heap.size → W7.heap[k]? = W5.heap[k]?) (S7 : W7.heap.size = W5.heap.size + 1) (hS : IsBack ks ys) (hD : W7.heap.size ≤ D) (hDef : W'.heap[D]? = some (.deferred (some []))) :
  ∃ vl, RowsInv w W' ((ks.map fun q => (q, d + 1)) ++ rest) out vl vo (D :: Ds) := by
 obtain ⟨vl, hv, hrow, _⟩ := hI.ex
 have hsame : ∀ (k : Nat) (o : Obj), W5.heap[k]? = some o → (∀ cells : Array Value, o ≠ Obj.cells cells 72 (0, 0)) → (∀ cells : Array Value, o ≠ Obj.cells cells 73 (0, 0)) → W'.heap[k]? = some o := fun k o ho h1 h2 => by
  have hlt := blk_lt ho
  rw [hI.kept k (by omega) (fun e => ?_) (fun e => ?_), H7 k hlt, ho]
  ·rw [e, h5.box] at ho
   injection ho with ho
   exact h2 _ ho.symm
  ·obtain ⟨cells, hc⟩ := own_typed h5.row gv rfl
   rw [e, hc] at ho
   injection ho with ho
   exact h1 _ ho.symm
 have e1 : (ys.map fun x : Int × Int => (x.2, d + 1)) = (ks.map fun q => (q, d + 1)).reverse := by
  have := uptoB_all ks
  rw [← show ys = uptoB ks ks.length from hS] at this
  rw [← List.map_reverse, ← this, List.map_map]
  rfl
 refine ⟨vl, hI.bel, hv, ?_, ?_, fun D' h' => ?_, ?_⟩
 ·have e2 : ys.length = ks.length := by
   rw [show ys = uptoB ks ks.length from hS, uptoB_length]
  rw [e1, e2] at hrow
  rw [List.length_append, List.length_map, Nat.add_comm, List.reverse_append]
  exact hrow
 ·refine Kd.S_mono (Kd.S_step (Kd.S_bound h5.out) fun k hk _ => ?_) fun _ _ => trivial
  obtain ⟨_, _, _, q, hq, cells, hc⟩ := hk
  rw [hc]
  refine hsame k _ hc (fun cs e => ?_) (fun cs e => ?_)
  ·injection e with _ e _
   subst e
   exact absurd hq (by decide)
  ·injection e with _ e _
   subst e
   exact absurd hq (by decide)
 ·rcases List.mem_cons.1 h' with rfl | h'
  ·exact ⟨Nat.le_trans (Nat.le_trans h5.bel.size (by omega)) hD, hDef⟩
  ·obtain ⟨h1, h2⟩ := h5.marks D' h'
   exact ⟨h1, hsame D' _ h2 (fun _ e => by cases e) (fun _ e => by cases e)⟩
 ·rw [List.nodup_cons]
  exact ⟨fun h => by have := blk_lt (h5.marks D h).2; omega, h5.nodup⟩
theorem rows_start {w W : World} {n d : Int} (hB : Below w.heap.size w W) (hb : W.heap[w.heap.size]? = some (.cells #[.int .i64 n, .int .i64 d] 72 (0, 0))) (hs : W.heap.size = w.heap.size + 1) :
  RowsInv w (W.alloc (.cells #[.slice (some ⟨w.heap.size, 0, none⟩) 1 1] 73)) [(n, d)] [] (.slice (some ⟨w.heap.size, 0, none⟩) 1 1) (.slice none 0 0) [] := by
 refine ⟨below_alloc hB _, ?_, ⟨rfl, .inr ⟨w.heap.size, 1, _, rfl, Nat.le_refl _, blk_alloc hb _, Nat.le_refl _, by decide, rfl, rfl⟩⟩, Kd.S_nil _ _ _ _ _, fun D h => absurd h (by simp), List.nodup_nil⟩
 have := blk_new W (.cells #[.slice (some ⟨w.heap.size, 0, none⟩) 1 1] 73)
 rwa [hs] at this
set_option maxHeartbeats 4000000 in
set_option maxRecDepth 100000 in
theorem Doc_Rows {w : World} {ok : Nat → Prop} {g : Nat} {xs : List S79} (h : IsDoc w ok g xs) (hF : Fit xs) (k : Nat) (n : Int) (r : List S54) (hr : rowsR xs k n = some r) :
  Calls Try.prog 11 #[.pointer (some ⟨g, 0, none⟩), .int .i64 n] w fun e w' => ∃ v, e = .returned v ∧ Kd.S k54 54 w' w.heap.size (fun _ => True) v r ∧ Below w.heap.size w w' := by
 have hI := Doc_is h n
 unfold rowsR inB at hr
 have HI := Aside0.mk h
 by_cases c0 : 0 ≤ n ∧ n < (xs.length : Int)
 rotate_left
 ·rw [decide_eq_false c0] at hI hr
  rw [if_pos rfl] at hr
  obtain rfl := Option.some.inj hr
  clear hr h
  refine (callsIn_wide (n := 7)).1 (callsIn_of_wp_marks Try.func11 rfl trivial ?_ rfl)
  simp only [Try.ntmps11, List.size_toArray, List.length_cons, List.length_nil, Nat.reduceAdd, Nat.reduceSub, Array.replicate_succ, Array.replicate_zero, List.push_toArray, List.append_toArray, List.nil_append, List.cons_append]
  refine wpIn_wide.2 ?_
  go_wp2_with (first | (go_at_call 36; refine hI.mono ?_; rintro e w' ⟨rfl, ⟨m, rfl⟩⟩))
  exact ⟨_, results_tmp rfl _ _ _, _, rfl, Kd.S_nil _ _ _ _ _, pw_below_drewN (Below.refl _ _) _⟩
 rw [decide_eq_true c0] at hI hr
 rw [if_neg (by decide)] at hr
 clear h
 refine (callsIn_wide (n := 7)).1 (callsIn_of_wp_marks Try.func11 rfl trivial ?_ rfl)
 simp only [Try.ntmps11, List.size_toArray, List.length_cons, List.length_nil, Nat.reduceAdd, Nat.reduceSub, Array.replicate_succ, Array.replicate_zero, List.push_toArray, List.append_toArray, List.nil_append, List.cons_append]
 refine wpIn_wide.2 (wp_mono (Q := retPost Try.f11 _) ?_ retPost_le)
 have HF := Aside0.mk hF
 clear hF c0
 have hgw := HI.out.lt
 by_cases cn : n = 0
 focus
  have cnb : (n == 0) = true := beq_iff_eq.2 cn
  rw [if_pos cn] at hr
  have HR := Aside0.mk hr
  clear hr cn
  have hfz : ∀ m, ((w.drewN m).alloc (.cells #[.int .i64 n, .int .i64 0] 72)).frozen? ⟨w.heap.size, 1, none⟩ = false := fun m => blk_frozen (blk_new (w.drewN m) _) 1
  have hcz : ∀ m, ((w.drewN m).alloc (.cells #[.int .i64 n, .int .i64 0] 72)).cell? ⟨w.heap.size, 1, none⟩ = some (.int .i64 0) := fun m => (blk_cell (blk_new (w.drewN m) _) 1).trans rfl
  go_wp2_with (first | (go_at_call 36; refine hI.mono ?_; rintro e w' ⟨rfl, ⟨m, rfl⟩⟩))
  have HST : Aside0 (RowsInv w ((((w.drewN m).alloc (.cells #[.int .i64 n, .int .i64 0] 72)).setCell ⟨w.heap.size, 1, none⟩ (.int .i64 (-1))).alloc (.cells #[.slice (some ⟨w.heap.size, 0, none⟩) 1 1] 73)) [(n, -1)] [] (.slice (some ⟨w.heap.size, 0, none⟩) 1 1) (.slice none 0 0) []) := ⟨rows_start ((below_alloc (pw_below_drewN (Below.refl _ _) m) _).setCell (Nat.le_refl _) _) (blk_put (blk_new (w.drewN m) _) 1 _ rfl) (by simp [World.setCell])⟩
  generalize ((((w.drewN m).alloc (.cells #[.int .i64 n, .int .i64 0] 72)).setCell ⟨w.heap.size, 1, none⟩ (.int .i64 (-1))).alloc (.cells #[.slice (some ⟨w.heap.size, 0, none⟩) 1 1] 73)) = W at HST ⊢
  clear cnb hfz hcz
 rotate_left
 focus
  have cnb : (n == 0) = false := beq_eq_false_iff_ne.2 cn
  rw [if_neg cn] at hr
  have HR := Aside0.mk hr
  clear hr cn
  go_wp2_with (first | (go_at_call 36; refine hI.mono ?_; rintro e w' ⟨rfl, ⟨m, rfl⟩⟩))
  have HST : Aside0 (RowsInv w (((w.drewN m).alloc (.cells #[.int .i64 n, .int .i64 0] 72)).alloc (.cells #[.slice (some ⟨w.heap.size, 0, none⟩) 1 1] 73)) [(n, 0)] [] (.slice (some ⟨w.heap.size, 0, none⟩) 1 1) (.slice none 0 0) []) := ⟨rows_start (below_alloc (pw_below_drewN (Below.refl _ _) m) _) (blk_new (w.drewN m) _) (by simp)⟩
  generalize (((w.drewN m).alloc (.cells #[.int .i64 n, .int .i64 0] 72)).alloc (.cells #[.slice (some ⟨w.heap.size, 0, none⟩) 1 1] 73)) = W at HST ⊢
  clear cnb
 all_goals
  clear hI
  refine wp_loop_ghost_k (fun kk a W => ∃ stk out vl vo Ds, rowsAct w g n vo Ds a ∧ RowsInv w W stk out vl vo Ds ∧ rowsL xs kk stk out = some r) k ⟨_, _, _, _, _, ?_, HST.out, HR.out⟩ ?_
  ·unfold rowsAct
   repeat apply Exists.intro
   rfl
  clear HST HR W
  intro gk a W hinv J K hJ hK
  obtain ⟨stk, out, vl, vo, Ds, ⟨u7, u8, u9, u10, u11, u12, u13, u14, u15, u16, u17, u18, u19, u20, u21, u22, u23, u24, u25, u26, u27, u28, u29, u30, u31, u32, u33, u34, u35, u36, u37, u38, u39, u40, u41, u42, u43, u44, u45, u46, u47, u48, u49, u50, u51, u52, u53, u54, u55, u56, u57, u58, u59, u60, u61, u62, u63, u64, u65, u66, u67, u68, rfl⟩, hv, hr⟩ := hinv
  have hbox := hv.box
  have hlbox := blk_lt hbox
  have hcb := (blk_cell hbox 0).trans rfl
  have hfb : W.frozen? ⟨w.heap.size + 1, 0, none⟩ = false := blk_frozen hbox 0
  cases stk with
  | nil =>
   obtain ⟨A, c, rfl⟩ := own_slice hv.row
   have HV := Aside0.mk hv
   have HR := Aside0.mk hr
   clear hv hr hbox
   go_wp2
   obtain rfl : out = r := by
    cases gk with
    | zero => exact absurd HR.out (by simp [rowsL])
    | succ gk => simpa [rowsL] using HR.out
   refine leaves_marks Ds W (fun D h => (HV.out.marks D h).2) HV.out.nodup fun w' e1 e2 e3 e4 e5 => ⟨_, results_tmp rfl _ _ _, vo, rfl, HV.out.same e1 e2 e3 e4 e5⟩
  | cons p rest =>
   cases gk with
   | zero => exact absurd hr (by simp [rowsL])
   | succ gk =>
   have hlr : (p :: rest).reverse.length = rest.length + 1 := by simp
   have hrow := hv.row
   rw [show (p :: rest).length = (p :: rest).reverse.length by simp] at hrow
   obtain ⟨gv, c, rfl, hLc, hp1, hp2⟩ := places_at hrow rest.length (by omega)
   rw [show (p :: rest).reverse[rest.length]'(by omega) = p by simp] at hp1 hp2
   simp only [rowsL] at hr
   split at hr
   rotate_left
   ·cases hr
   rename_i hcond
   obtain ⟨n0, n1, d0, d1, ho, hre⟩ := hcond
   obtain ⟨q, d⟩ := p
   dsimp only at hp1 hp2 n0 n1 d0 d1 hr
   obtain ⟨i, rfl⟩ := Int.eq_ofNat_of_zero_le n0
   have hi : i < xs.length := by omega
   have hiz : (i : Int) < (xs.length : Int) := by omega
   have hA := HF.out.attrs i hi
   have hK := HF.out.kids i hi
   obtain ⟨L, hL⟩ : ∃ L, L = (((i : Int), d) :: rest).reverse.length := ⟨_, rfl⟩
   rw [← hL] at hcb hbox hv hrow hLc hlr
   have hL0 : 0 < (L : Int) := by omega
   have hLw : wrap64 ((L : Int) - 1) = (rest.length : Int) := by unfold wrap64; omega
   have hLl : (rest.length : Int) < (L : Int) := by omega
   have hLe : rest.length ≤ L := by omega
   have hLc2 : rest.length ≤ c := by omega
   have hgv := block_lt_of_cell hp1
   have hne : gv ≠ w.heap.size + 1 := fun e => by
    obtain ⟨_, h1⟩ := own_typed hrow gv rfl
    rw [e, hbox] at h1
    cases h1
   obtain ⟨W2, hW2⟩ : ∃ W2, W2 = (W.setCell ⟨w.heap.size + 1, 0, none⟩ (.slice (some ⟨gv, 0, none⟩) rest.length c)).alloc (.cells #[.int .i64 (i : Int), .int .i64 d] 72) := ⟨_, rfl⟩
   have hsz : (W.setCell ⟨w.heap.size + 1, 0, none⟩ (.slice (some ⟨gv, 0, none⟩) rest.length c)).heap.size = W.heap.size := by simp [World.setCell]
   have hk2 : ∀ k, k < W.heap.size → k ≠ w.heap.size + 1 → W2.heap[k]? = W.heap[k]? := fun k hk hn => by
    rw [hW2]
    exact (Below.heap_alloc _ _ k (by rw [hsz]; exact hk)).trans (Below.heap_setCell _ _ _ k hn)
   have M2 : RowsInv w W2 rest out (.slice (some ⟨gv, 0, none⟩) rest.length c) vo Ds := by
    refine ⟨?_, ?_, ?_, ?_, ?_, hv.nodup⟩
    ·rw [hW2]
     exact (hv.bel.setCell (by simp) _).alloc (by rw [hsz]; exact hv.bel.size) _
    ·rw [hW2]
     exact blk_alloc (blk_put hbox 0 _ rfl) _
    ·have h1 := own_take hrow (m := rest.length) (by omega)
     rw [flat_take, show ((((i : Int), d) :: rest).reverse.take rest.length) = rest.reverse by rw [List.reverse_cons]; exact List.take_left' (by simp)] at h1
     exact ⟨h1.1, h1.2.imp id fun ⟨g', c', cur, e, hb, hh, r⟩ => ⟨g', c', cur, e, hb, by
      injection e with e _ _
      injection e with e
      injection e with e _
      subst e
      exact (hk2 gv hgv hne).trans hh, r⟩⟩
    ·refine Kd.S_mono (Kd.S_step (Kd.S_bound hv.out) fun k hk hlt => hk2 k hlt fun e => ?_) fun _ _ => trivial
     obtain ⟨_, _, _, q, hq, cells, hc⟩ := hk
     rw [e, hbox] at hc
     injection hc with hc
     injection hc with _ hc _
     subst hc
     exact absurd hq (by decide)
    ·intro D hD
     obtain ⟨h1, h2⟩ := hv.marks D hD
     exact ⟨h1, (hk2 D (blk_lt h2) fun e => by rw [e, hbox] at h2; cases h2).trans h2⟩
   have P2 : W2.heap[W.heap.size]? = some (.cells #[.int .i64 (i : Int), .int .i64 d] 72 (0, 0)) := by
    rw [hW2]
    have := blk_new (W.setCell ⟨w.heap.size + 1, 0, none⟩ (.slice (some ⟨gv, 0, none⟩) rest.length c)) (.cells #[.int .i64 (i : Int), .int .i64 d] 72)
    rwa [hsz] at this
   have HV := Aside0.mk hv
   have HM2 := Aside0.mk M2
   have HP2 := Aside0.mk P2
   have HROW := Aside0.mk hrow
   have HLL := Aside0.mk (And.intro hL hlr)
   have hgp : w.heap.size + 1 < W.heap.size := hlbox
   clear hv M2 P2 hk2 hrow hL hlr hbox hne hsz
   by_cases ci : i = 0
   focus
    have cib : ((i : Int) != 0) = false := bne_eq_false_iff_eq.2 (by omega)
    rw [if_pos (by omega)] at hr
    have HR5 := Aside0.mk hr
    clear hr ci n0
    go_wp2
    rw [← hW2]
    have HM5 := HM2
    have HP5 := HP2
    clear hW2 HM2 HP2
    generalize W2 = W5 at HM5 HP5 ⊢
    clear HV
    generalize vo = v5 at HM5 ⊢
    generalize out = out' at HM5 HR5
   rotate_left
   focus
    have cib : ((i : Int) != 0) = true := bne_iff_ne.2 (by omega)
    rw [if_neg (by omega)] at hr
    have HR5 := Aside0.mk hr
    clear hr ci n0
    have hcall := Doc_row (HI.out.below HM2.out.bel) i hi (by omega) d
    rw [hW2] at hcall
    have hd := ho
    go_wp2_with (first | (go_at_call 37; refine hcall.mono ?_; rintro e W3 ⟨v4, rfl, hR4, hB4⟩; obtain ⟨A4, c4, rfl⟩ := Kd.R_slice hR4; rw [← hW2] at hR4 hB4; have HR4 := Aside0.mk hR4; have HB4 := Aside0.mk hB4; clear hR4 hB4 hcall) | ((with_reducible refine gate_builtin (b := .append) (xs := #[.tmp 39, .tmp 46]) rfl ?_); at_builtin; refine Kd.S_append k54 (w0 := w) w.heap.size rfl (.tmp 39) (.tmp 46) 23 54 _ 72 rfl Try.underlying23 info54 rfl (by decide) (by decide) vo out ⟨d, xs[i].f0.f1, xs[i].f0.f2, xs[i].f0.f3, xs[i].f0.f4⟩ [.int .i64 d, .int .i64 xs[i].f0.f1, .string xs[i].f0.f2, .string xs[i].f0.f3, .slice A4 xs[i].f0.f4.length c4] (fun _ => True) (fun k => some k = (Value.slice A4 xs[i].f0.f4.length c4).ownBlock) rfl rfl ?aP ?aK ?aF ?aO ?aB ?aS ?aL ?_; (case aP => exact k54_mkM _ _ _ ⟨d, xs[i].f0.f1, xs[i].f0.f2, xs[i].f0.f3, xs[i].f0.f4⟩ (Kd.R_lower (Kd.R_tight rfl HR4.out) HM2.out.bel.size)); (case aK => exact fun k hk => ⟨trivial, fun e => by have h1 := Kd.R_base HR4.out k hk.symm; have h2 := Kd.S_lt HM2.out.out k e.symm; omega⟩); (case aF => exact fun _ _ => trivial); (case aO => exact Kd.S_mono (Kd.S_below (Kd.S_bound HM2.out.out) HB4.out) fun k hk => ⟨trivial, fun e => by have h1 := Kd.R_base HR4.out k e.symm; have h2 := hk.2.2.1; omega⟩); (case aB => exact HM2.out.bel.trans (HB4.out.mono HM2.out.bel.size)); (case aS => exact Nat.le_trans HM2.out.bel.size HB4.out.size); (case aL => omega); intro v5 W5 hS5 hB5 hg5 _; have HM5' := Aside0.mk (HM2.out.moved (W5 := W5) (fun k hk hn => (hg5.block k (Nat.lt_of_lt_of_le hk HB4.out.size) hn).trans (HB4.out.block k hk)) hB5 hS5); clear hS5 hB5 hg5))
    have HM5 := Aside0.mk HM5'.out.1
    have HP5 := Aside0.mk (HM5'.out.2 _ _ HP2.out (fun _ e => by injection e with _ e _; exact absurd e (by decide)))
    rw [show (⟨d, xs[i].f0.f1, xs[i].f0.f2, xs[i].f0.f3, xs[i].f0.f4⟩ : S54) = rowAt xs ((i : Int), d) by unfold rowAt; rw [nd_at i hi]] at HM5
    clear HM5' hW2 HM2 HP2 HR4 HB4
    generalize out ++ [rowAt xs ((i : Int), d)] = out' at HM5 HR5
    clear HV
   all_goals
    have hgvW : gv < W.heap.size := hgv
    clear cib hcb hp1 hp2 hfb hL0 hLw hLl hLe hgv HROW HLL
    obtain ⟨G, c0, A4, c4, A6, c6, hdb, hdl, ⟨_, _, _, _, _, _, h6⟩, _, ⟨l6, g6⟩, _, _⟩ := HI.out.node i hi
    have hG6 := block_lt_of_cell h6
    have q0 : W5.drew.cell? ⟨g, 0, none⟩ = _ := (HM5.out.bel.cell (p := ⟨g, 0, none⟩) hgw).trans (doc_cell hdb)
    have q1 : W5.drew.cell? ⟨W.heap.size, 0, none⟩ = some (.int .i64 (i : Int)) := (blk_cell HP5.out 0).trans rfl
    have q2 : W5.drew.cell? ⟨G, i * 7 + 6, none⟩ = _ := (HM5.out.bel.cell (p := ⟨G, i * 7 + 6, none⟩) hG6).trans h6
    rw [nd_at i hi] at HR5
    have HC6 := Aside0.mk g6
    have HL6 := Aside0.mk l6
    clear h6 g6 l6 hdb hdl hG6
    refine start_ (n := 10) (S := (fun w' => w'.cell? ⟨g, 0, none⟩ = some (.slice (some ⟨G, 0, none⟩) xs.length c0) ∧ w'.cell? ⟨W.heap.size, 0, none⟩ = some (.int .i64 (i : Int)) ∧ w'.cell? ⟨G, i * 7 + 6, none⟩ = some (.slice A6 xs[i].f2.length c6))) (ds := [9]) #[Z, Z, Z, Z, Z, Z, Z, Z, Z, Z] (by kernel_rfl) rfl rfl ⟨q0, q1, q2⟩ (fun hHeld => ?_); refine with_tabW reg11_12.tab reg11_12.bits (fun HT_ HW_ => ?_)
    refine pA 0 48 #[Y, Z, Z, Z, Z, Z, Z, Z, Z, Z] HT_ ?_
    refine pA 1 49 #[Y, Y, Z, Z, Z, Z, Z, Z, Z, Z] HT_ ?_
    refine pA 2 50 #[Y, Y, Y, Z, Z, Z, Z, Z, Z, Z] HT_ ?_
    refine take_ (i := 3) (N := some 51) (v := ?_) (a' := ?_) #[Y, Y, Y, Y, Z, Z, Z, Z, Z, Z] rfl rfl (take_ofW HT_.out HW_.out (by kernel_rfl)) (fun _ _ _ h => h) (Or.inl ⟨by rfl, ?_⟩) hHeld ?_ ?_
    rotate_left
    ·rintro w' hs
     (try obtain ⟨s0, s1⟩ := hs)
     (try obtain ⟨s1, s2⟩ := s1)
     (try obtain ⟨s2, s3⟩ := s2)
     (try obtain ⟨s3, s4⟩ := s3)
     (try obtain ⟨s4, s5⟩ := s4)
     (try obtain ⟨s5, s6⟩ := s5)
     go_simp
     with_reducible rfl
    rotate_left
    ·simp only [Act.put, List.setIfInBounds_toArray, List.set_cons_zero, List.set_cons_succ, i64_w, i32_w]
     rfl
    refine pA 4 52 #[Y, Y, Y, Y, Y, Z, Z, Z, Z, Z] HT_ ?_
    refine take_ (i := 5) (N := some 53) (v := ?_) (a' := ?_) #[Y, Y, Y, Y, Y, Y, Z, Z, Z, Z] rfl rfl (take_ofW HT_.out HW_.out (by kernel_rfl)) (fun _ _ _ h => h) (Or.inl ⟨by rfl, ?_⟩) hHeld ?_ ?_
    rotate_left
    ·rintro w' hs
     (try obtain ⟨s0, s1⟩ := hs)
     (try obtain ⟨s1, s2⟩ := s1)
     (try obtain ⟨s2, s3⟩ := s2)
     (try obtain ⟨s3, s4⟩ := s3)
     (try obtain ⟨s4, s5⟩ := s4)
     (try obtain ⟨s5, s6⟩ := s5)
     go_simp
     with_reducible rfl
    rotate_left
    ·simp only [Act.put, List.setIfInBounds_toArray, List.set_cons_zero, List.set_cons_succ, i64_w, i32_w]
     rfl
    refine pA 6 54 #[Y, Y, Y, Y, Y, Y, Y, Z, Z, Z] HT_ ?_
    refine pA 7 55 #[Y, Y, Y, Y, Y, Y, Y, Y, Z, Z] HT_ ?_
    refine take_ (i := 8) (N := some 56) (v := ?_) (a' := ?_) #[Y, Y, Y, Y, Y, Y, Y, Y, Y, Z] rfl rfl (take_ofW HT_.out HW_.out (by kernel_rfl)) (fun _ _ _ h => h) (Or.inl ⟨by rfl, ?_⟩) hHeld ?_ ?_
    rotate_left
    ·rintro w' hs
     (try obtain ⟨s0, s1⟩ := hs)
     (try obtain ⟨s1, s2⟩ := s1)
     (try obtain ⟨s2, s3⟩ := s2)
     (try obtain ⟨s3, s4⟩ := s3)
     (try obtain ⟨s4, s5⟩ := s4)
     (try obtain ⟨s5, s6⟩ := s5)
     go_simp
     with_reducible rfl
    rotate_left
    ·simp only [Act.put, List.setIfInBounds_toArray, List.set_cons_zero, List.set_cons_succ, i64_w, i32_w]
     rfl
    refine last_ (i := 9) (N := some 57) #[Y, Y, Y, Y, Y, Y, Y, Y, Y, Y] rfl rfl (one_of HT_.out (by kernel_rfl)) (by decide) (fun K hK => ?_)
    refine goes_ Try.func38 (by kernel_rfl) rfl #[.slice A6 xs[i].f2.length c6] (by rfl) rfl rfl (by simp only [List.map_toArray, List.map_cons, List.map_nil]; rfl) ?_
    refine (back_calls A6 xs[i].f2.length c6 W5.drew).mono ?_
    rintro e w7 ⟨rfl, rfl⟩
    refine ⟨_, rfl, hK.out _ _ ?_⟩
    clear hK
    refine done_ (done_of HT_.out (by kernel_rfl)) ?_
    go_wp2
    simp only [Act.put, List.setIfInBounds_toArray, List.set_cons_zero, List.set_cons_succ]
    generalize hact : Act.mk _ _ = a
    have hact2 : rowsAct2 w g n W.heap.size W5.heap.size v5 Ds a := by
     unfold rowsAct2
     repeat apply Exists.intro
     exact hact.symm
    clear hact
    obtain ⟨u8, u9, u10, u11, u12, u13, u14, u15, u16, u17, u18, u19, u20, u21, u22, u23, u24, u25, u26, u27, u28, u29, u30, u31, u32, u33, u34, u35, u36, u37, u38, u39, u40, u41, u42, u43, u44, u45, u46, u47, u48, u49, u50, u51, u52, u53, u54, u55, u56, u58, u59, u60, u61, u62, u63, u64, u65, u66, u67, u68, rfl⟩ := hact2
    have B7 : (W5.drew.alloc (.cells #[.slice A6 xs[i].f2.length c6] 32)).heap[W5.heap.size]? = some (.cells #[.slice A6 xs[i].f2.length c6] 32 (0, 0)) := blk_new W5.drew _
    have H7 : ∀ k, k < W5.heap.size → (W5.drew.alloc (.cells #[.slice A6 xs[i].f2.length c6] 32)).heap[k]? = W5.heap[k]? := fun k hk => Below.heap_alloc W5.drew _ k hk
    have S7 : (W5.drew.alloc (.cells #[.slice A6 xs[i].f2.length c6] 32)).heap.size = W5.heap.size + 1 := World.size_alloc _ _
    have L7 : Below w.heap.size w (W5.drew.alloc (.cells #[.slice A6 xs[i].f2.length c6] 32)) := below_alloc (below_drew HM5.out.bel) _
    generalize W5.drew.alloc (.cells #[.slice A6 xs[i].f2.length c6] 32) = W7 at B7 H7 S7 L7 ⊢
    have hb5 := blk_lt HM5.out.box
    have hp5 := blk_lt HP5.out
    obtain ⟨hgv5, hgv7⟩ : gv < W5.heap.size ∧ ∃ cells, W5.heap[gv]? = some (.cells cells 72 (0, 0)) := ⟨own_lt HM5.out.row gv rfl, own_typed HM5.out.row gv rfl⟩
    have hgp1 : W.heap.size ≠ w.heap.size + 1 := by omega
    have hgp2 : W.heap.size ≠ gv := by omega
    have HD7 := Aside0.mk (show W7.cell? ⟨W.heap.size, 1, none⟩ = some (.int .i64 d) from (blk_cell ((H7 _ hp5).trans HP5.out) 1).trans rfl)
    obtain ⟨i0, hti, hz0, hz1, hz2⟩ := info_parts info72
    have hdw : wrap64 (d + 1) = d + 1 := by unfold wrap64; omega
    have hwl : w.heap.size + 1 < W7.heap.size := by omega
    refine (wpIn_wide (n := 7)).1 ?_
    refine wpIn_rangeFunc_ownG rfl (show 1 ≤ 7 by omega) (gf := 66) (lb := #[.pointer (some ⟨W5.heap.size, 0, none⟩)]) rfl trivial (enters_of Try.func66 (by kernel_rfl) rfl)
     (encs := fun x : Int × Int => #[.int .i64 x.1, .int .i64 x.2]) (Kp := KpB w.heap.size W5.heap.size) (S := IsBack xs[i].f2) (Sp := AnyPre) (N := xs[i].f2.length) (w0 := W7)
     (fun l J Jx W' hW' hJ hJx hY h0 => back1_in l W5.heap.size w.heap.size A6 c6 xs[i].f2 HL6.out (by omega) J Jx w HC6.out rfl hY W' (L7.trans (hW'.mono (by omega))) ((hW'.block _ (by omega)).trans B7) h0)
     KpB.trans (fun W' l o o' hl ho hc hk => ⟨belowK_b (w := W7) (by omega) W' l o o' hl ho hc hk, (grownBy_putObj' W' l o').block _ (by have := (Array.getElem?_eq_some_iff.1 ho).1; omega) (fun e => by injection e with e; omega)⟩) (Below.refl _ _) (fun _ => rfl)
     (RowsI w W7 gv rest d) (fun _ _ _ => False) (rowsI_own (by omega)) (fun _ _ _ _ _ hs _ _ => hs)
     ⟨⟨_, (H7 _ hb5).trans HM5.out.box, ?r0, fun k hk => .inl (by simpa [Value.ownBlock] using hk.symm)⟩, fun k _ _ _ => rfl, L7, Nat.le_refl _⟩
     (fun x => { tmps := List.toArray ((.pointer (some ⟨g, 0, none⟩) : Value) :: (.int .i64 n : Value) :: undef :: undef :: (.slice none 0 0 : Value) :: v5 :: (.pointer (some ⟨w.heap.size + 1, 0, none⟩) : Value) :: (.pointer (some ⟨W.heap.size, 0, none⟩) : Value) :: u8 :: (.int .i64 x.2 : Value) :: u10 :: u11 :: u12 :: u13 :: u14 :: u15 :: u16 :: u17 :: u18 :: u19 :: u20 :: u21 :: u22 :: u23 :: u24 :: u25 :: u26 :: u27 :: u28 :: u29 :: u30 :: u31 :: u32 :: u33 :: u34 :: u35 :: u36 :: u37 :: u38 :: u39 :: u40 :: u41 :: u42 :: u43 :: u44 :: u45 :: u46 :: u47 :: u48 :: u49 :: u50 :: u51 :: u52 :: u53 :: u54 :: u55 :: u56 :: (.func (.func 66) #[] #[.pointer (some ⟨W5.heap.size, 0, none⟩)] : Value) :: (.int .i64 x.1 : Value) :: (.int .i64 x.2 : Value) :: u60 :: u61 :: u62 :: u63 :: u64 :: u65 :: u66 :: u67 :: u68 :: []), defers := [] }) ?assign ?body ?done ?stop
    case r0 =>
     have h9 := HM5.out.row
     show W7.ownsRow w.heap.size 72 2 _ (rest.length + 0) (flat (rest.reverse ++ []))
     rw [Nat.add_zero, List.append_nil]
     exact ⟨h9.1, h9.2.imp id fun ⟨g', c', cur, e, hb, hh, hr⟩ => ⟨g', c', cur, e, hb, by
      injection e with e _ _
      injection e with e
      injection e with e _
      subst e
      exact (H7 gv hgv5).trans hh, hr⟩⟩
    case assign =>
     intro l x W K hK
     gi_wp2
     exact hK
    case body =>
     rintro l pre x W' ⟨⟨v, hv, hrow, hvg⟩, hk, hb, hs⟩ hlt
     have hc := hv.cell
     have hcd := (World.cell?_of_block (a := ⟨W.heap.size, 1, none⟩) (hk W.heap.size (by omega) hgp1 hgp2)).trans HD7.out
     have HK := Aside0.mk hk
     have HB := Aside0.mk hb
     have HS := Aside0.mk hs
     have HH := Aside0.mk (And.intro H7 S7)
     have HN := Aside0.mk (And.intro hgv7 hb5)
     have hl1 : rest.length + pre.length + 1 ≤ maxLen := by unfold maxLen; omega
     have hl2 : (rest.length + pre.length + 1) * 16 ≤ 140737488355328 := by omega
     have hB2 : W5.heap.size ≠ gv := by omega
     have hB1 : W5.heap.size ≠ w.heap.size + 1 := by omega
     have hB0 : W5.heap.size < W7.heap.size := by omega
     clear hk hb hs H7 S7 hgv7 q0 q1 q2 hHeld B7
     gi_wp2_with (gi_at_builtin; refine wpListIn_append_own_at _ rfl _ _ 73 rfl w.heap.size 72 i0 (.agg #[.int .i64 0, .int .i64 0]) 2 16 Try.underlying73 hti hz0 hz1 hz2 rfl (by decide) _ _ _ rfl (hrow.alloc _) ⟨W'.heap.size, 0, none⟩ 1 1 [.int .i64 x.2, .int .i64 (d + 1)] rfl rfl (cell_two_new _ _ _ _) (by simp [Value.oneCell']) hl1 hl2 (by have := HB.out.size; simp; omega) ?_; intro v' w1 hown' hgrow _ hat; obtain ⟨g', cap', rfl⟩ := ownsRow_succ hown'; obtain ⟨hv1, hkf, hkp, hri⟩ := rowsI_step (B := W5.heap.size) hwl HK.out HB.out HS.out hv hrow hvg hB0 hB1 hB2 hown' hgrow hat; have hc1 := hv1.cell; have hf1 := hv1.frozen)
     exact ⟨hkf, hkp, hri⟩
    case done =>
     rintro D ys W' hD hS hI' hDef
     have HI' := Aside0.mk hI'
     have HDef := Aside0.mk hDef
     have HS := Aside0.mk hS
     have HH := Aside0.mk (And.intro H7 S7)
     have HG := Aside0.mk (And.intro hgv7 (And.intro hgv5 hb5))
     clear hI' hDef hS q0 q1 q2 hHeld B7 H7 S7 hgv7 hgv5 hb5
     go_wp2
     obtain ⟨vl, hInv⟩ := rowsI_inv HM5.out HI'.out HH.out.1 HH.out.2 HS.out hD HDef.out
     refine Handed.intro gk (Nat.lt_succ_self _) (hJ gk _ _ ⟨_, out', vl, v5, D :: Ds, ?_, hInv, HR5.out⟩)
     unfold rowsAct
     repeat apply Exists.intro
     rfl
    case stop =>
     rintro D c pre W _ _ h _
     exact h.elim
end Go.Proofs.Ytpkaliaaffgbdaa.QA
namespace Go.Proofs.Ytpkaliaaffgbdaa.QA
open Go.RowKit Go.Proofs.YtpkaliaaffgbdaaW.PrintWords Go.Proofs.YtpkaliaaffgbdaaW.PrintLast Go.Proofs.YtpkaliaaffgbdaaW.PrintMore
attribute [local go_sem] max2_int min2_int max_two min_two max_three min_three max_four min_four   -- for this text's walks alone
set_option linter.unusedVariables false
set_option linter.unusedSimpArgs false

open Go
section
variable {W w : World} {ok okl : Nat → Prop} {g : Nat} {xs : List S79}
theorem LoadInv.after {w0 : World} {ok' : Nat → Prop} {vr va : Value} {roots ar : List Int} {ok1 : Nat → Prop} (hb : Below w.heap.size w w0) (h : LoadInv w0 W ok' g xs vr va roots ar ok1) (ho : ∀ k, ok' k → ok k) : LoadInv w W ok g xs vr va roots ar ok1 :=
 ⟨h.doc, fun k hk => (h.new k hk).imp (ho k) fun h2 => Nat.le_trans hb.size h2, h.lt, ((Mod.of_below hb).trans h.mod fun k hk => .inl hk).mono ho, Kd.R_lower h.rts hb.size, Kd.R_lower h.rnd hb.size, h.ne⟩
theorem LoadInv.to {vr va : Value} {roots ar : List Int} {ok1 : Nat → Prop} (h : LoadInv w W ok g xs vr va roots ar ok1) : To w W ok g xs := ⟨ok1, h.doc, h.new, h.lt, h.mod⟩
/-- What Load answers: the nodes, the roots, an error. -/
def loadR (xs : List S79) (k : Nat) (l : List S54) : Option (List S79 × List Int × Int) :=
 match rows_Check.f k l with
 | none => none
 | some e => if e ≠ 0 then some (xs, [], e) else if 4096 < xs.length + l.length then some (xs, [], 2) else (loadL l xs [] []).map fun r => (r.1, r.2, 0)
set_option maxHeartbeats 2000000 in
set_option maxRecDepth 100000 in
theorem Doc_Load (h : IsDoc w ok g xs) (l : List S54) (A : Option Addr) (c : Nat) (hF : Kd.F k54 w okl A l.length l) (hok : ∀ k, okl k → ¬ ok k) (hlc : l.length ≤ c) (hx : xs.length < 100000) (hll : l.length < 100000) (k : Nat) (r : List S79 × List Int × Int) (hr : loadR xs k l = some r) :
  Calls Try.prog 33 #[.pointer (some ⟨g, 0, none⟩), .slice A l.length c] w fun e w' => ∃ v va ar ok1, e = .returned (.tuple #[v, .int .i64 r.2.2]) ∧ LoadInv w w' ok g r.1 v va r.2.1 ar ok1 := by
 unfold loadR at hr
 cases hc : rows_Check.f k l with
 | none => rw [hc] at hr; cases hr
 | some e =>
  rw [hc] at hr
  dsimp only at hr
  have hcall := rows_Check.calls k A c l e w (Kd.F_now hF) hlc hc
  have H0 : ∀ W, Below w.heap.size w W → LoadInv w W ok g xs (.slice none 0 0) (.slice none 0 0) [] [] (fun k => ok k ∧ k < w.heap.size) := fun W hB =>
   ⟨h.bound.below hB, fun k hk => .inl hk.1, fun k hk => Nat.lt_of_lt_of_le hk.2 hB.size, Mod.of_below hB, Kd.R_nil _ _ _ _ _, Kd.R_nil _ _ _ _ _, fun k hk => by cases hk⟩
  have H0' := Aside0.mk H0
  by_cases ce : e = 0
  rotate_left
  ·rw [if_pos ce] at hr
   obtain rfl := Option.some.inj hr
   have ceb : (e != 0) = true := bne_iff_ne.2 ce
   clear hr h hF ce H0
   go_enter Try.func33, Try.ntmps33
   go_wp2_with (first | (go_at_call 64; refine hcall.mono ?_; rintro e w' ⟨rfl, hB⟩; have HB := Aside0.mk hB; clear hB))
   go_ret2
   exact ⟨_, _, _, _, rfl, H0'.out _ HB.out⟩
  ·rw [if_neg (by simpa using ce)] at hr
   subst ce
   obtain ⟨Ax, cx, hb, hl, hC⟩ := h.reads
   have hc := doc_cell hb
   have hgl := blk_lt hb
   have hw : wrap64 ((xs.length : Int) + (l.length : Int)) = ((xs.length + l.length : Nat) : Int) := by unfold wrap64; omega
   split at hr
   ·rename_i hbig
    obtain rfl := Option.some.inj hr
    have hbb : decide ((4096 : Int) < ((xs.length + l.length : Nat) : Int)) = true := decide_eq_true (by omega)
    clear hr h hF H0 hb hC hl
    go_enter Try.func33, Try.ntmps33
    go_wp2_with (first | (go_at_call 64; refine hcall.mono ?_; rintro e w' ⟨rfl, hB⟩; have hc' := (hB.cell (p := ⟨g, 0, none⟩) hgl).trans hc; have HB := Aside0.mk hB; clear hB))
    go_ret2
    exact ⟨_, _, _, _, rfl, H0'.out _ HB.out⟩
   ·rename_i hbig
    obtain ⟨r0, hr0, rfl⟩ := Option.map_eq_some_iff.1 hr
    have hbb : decide ((4096 : Int) < ((xs.length + l.length : Nat) : Int)) = false := decide_eq_false (by omega)
    have hload := fun W (hB : Below w.heap.size w W) => Doc_load (h.below hB) l A c (Kd.F_below hF hB) hok hlc r0 hr0
    clear hr h hF H0 hb hC hl H0'
    go_enter Try.func33, Try.ntmps33
    go_wp2_with (first | (go_at_call 64; refine hcall.mono ?_; rintro e w1 ⟨rfl, hB⟩; have hc' := (hB.cell (p := ⟨g, 0, none⟩) hgl).trans hc; have HL := Aside0.mk (hload w1 hB); have HB := Aside0.mk hB; clear hB hload) | (go_at_call 63; refine HL.out.mono ?_; rintro e w2 ⟨v, va, ar, ok1, rfl, hI⟩; have HI := Aside0.mk hI; clear hI))
    go_ret2
    exact ⟨_, va, ar, ok1, rfl, HI.out.after HB.out fun _ h => h⟩
theorem rowsL_length (xs : List S79) : ∀ (k : Nat) (stk : List (Int × Int)) (out r : List S54), rowsL xs k stk out = some r → out.length ≤ 1000000 → r.length ≤ 1000000
 | 0, _, _, _, h, _ => by simp [rowsL] at h
 | _ + 1, [], out, r, h, ho => by simp only [rowsL] at h; obtain rfl := Option.some.inj h; exact ho
 | k + 1, p :: rest, out, r, h, ho => by
  simp only [rowsL] at h
  split at h
  ·rename_i hc
   refine rowsL_length xs k _ _ r h ?_
   split
   ·exact ho
   ·simp only [List.length_append, List.length_singleton]; omega
  ·cases h
theorem rowsR_length (xs : List S79) (k : Nat) (n : Int) (r : List S54) (h : rowsR xs k n = some r) : r.length ≤ 1000000 := by
 unfold rowsR at h
 split at h
 ·obtain rfl := Option.some.inj h; simp
 ·exact rowsL_length xs k _ _ r h (by simp)
/-- What Clone answers: the nodes, a number, an error. -/
def cloneR (xs : List S79) (k : Nat) (n : Int) : Option (List S79 × Int × Int) :=
 if someB xs n = false then some (xs, 0, 110) else
 match rowsR xs k n with
 | none => none
 | some l => if 4096 < xs.length + l.length then some (xs, 0, 2) else
  match loadL l xs [] [] with
  | some (ys, q :: _) => some (ys, q, 0)
  | _ => none
set_option maxHeartbeats 2000000 in
set_option maxRecDepth 100000 in
theorem Doc_Clone (h : IsDoc w ok g xs) (hF : Fit xs) (k : Nat) (n : Int) (r : List S79 × Int × Int) (hr : cloneR xs k n = some r) :
  Calls Try.prog 31 #[.pointer (some ⟨g, 0, none⟩), .int .i64 n] w fun e w' => e = .returned (.tuple #[.int .i64 r.2.1, .int .i64 r.2.2]) ∧ To w w' ok g r.1 := by
 have hS := Doc_some h n
 unfold cloneR someB at hr
 have HI := Aside0.mk h
 by_cases c0 : 0 < n ∧ n < (xs.length : Int)
 rotate_left
 ·rw [decide_eq_false c0] at hS hr
  rw [if_pos rfl] at hr
  obtain rfl := Option.some.inj hr
  clear hr h
  go_enter Try.func31, Try.ntmps31
  go_wp2_with (first | (go_at_call 39; refine hS.mono ?_; rintro e w' ⟨rfl, ⟨m, rfl⟩⟩))
  go_ret2
  exact ⟨rfl, To.quiet HI.out (pw_below_drewN (Below.refl _ _) _)⟩
 rw [decide_eq_true c0] at hS hr
 rw [if_neg (by decide)] at hr
 cases hl : rowsR xs k n with
 | none => rw [hl] at hr; cases hr
 | some l =>
  rw [hl] at hr
  dsimp only at hr
  have hrows := fun m => Doc_Rows (h.drewN m) hF k n l hl
  obtain ⟨Ax, cx, hb, _, _⟩ := h.reads
  have hc := doc_cell hb
  have hgl := blk_lt hb
  have hx := hF.len
  have HBM := Aside0.mk (fun m W (h : Below (w.drewN m).heap.size (w.drewN m) W) => (pw_below_drewN (Below.refl w.heap.size w) m).trans (h.mono (Nat.le_refl _)))
  have hln := rowsR_length xs k n l hl
  have hw : wrap64 ((xs.length : Int) + (l.length : Int)) = (xs.length : Int) + (l.length : Int) := by unfold wrap64; omega
  by_cases hbig : 4096 < xs.length + l.length
  ·rw [if_pos hbig] at hr
   obtain rfl := Option.some.inj hr
   have hbig2 : decide ((4096 : Int) < (xs.length : Int) + (l.length : Int)) = true := decide_eq_true (by omega)
   clear hr h hF hb c0
   go_enter Try.func31, Try.ntmps31
   go_wp2_with (first | (go_at_call 39; refine hS.mono ?_; rintro e w' ⟨rfl, ⟨m, rfl⟩⟩) | (go_at_call 11; refine (hrows _).mono ?_; rintro e w1 ⟨v, rfl, hSv, hB⟩; obtain ⟨A, c, rfl⟩ := Kd.S_slice hSv; have hB' := HBM.out _ w1 hB; have hc' := (hB'.cell (p := ⟨g, 0, none⟩) hgl).trans hc; have HB := Aside0.mk hB'; clear hB hB' hSv hrows))
   go_ret2
   exact ⟨rfl, To.quiet HI.out HB.out⟩
  ·rw [if_neg hbig] at hr
   split at hr
   rotate_left
   ·cases hr
   rename_i ys q rest hload0
   obtain rfl := Option.some.inj hr
   have hbig2 : decide ((4096 : Int) < (xs.length : Int) + (l.length : Int)) = false := decide_eq_false (by omega)
   have hload := fun (w1 : World) (A : Option Addr) (c : Nat) (hS : Kd.S k54 54 w1 w.heap.size (fun _ => True) (.slice A l.length c) l) (hB : Below w.heap.size w w1) =>
    Doc_load (okl := fun k => w.heap.size ≤ k) (HI.out.bound.below hB) l A c (Kd.S_F (Kd.S_mono (Kd.S_bound hS) fun k hk => hk.2.1)) (fun k hk h2 => by have := h2.2; omega) (Kd.S_reads' hS).2.1 (ys, q :: rest) hload0
   have HLO := Aside0.mk hload
   clear hr h hF hb c0 hload hload0
   go_enter Try.func31, Try.ntmps31
   go_wp2_with (first | (go_at_call 39; refine hS.mono ?_; rintro e w' ⟨rfl, ⟨m, rfl⟩⟩) | (go_at_call 11; refine (hrows _).mono ?_; rintro e w1 ⟨v, rfl, hSv, hB⟩; obtain ⟨A, c, rfl⟩ := Kd.S_slice hSv; have hB' := HBM.out _ w1 hB; have hc' := (hB'.cell (p := ⟨g, 0, none⟩) hgl).trans hc; have HB := Aside0.mk hB'; have HL := Aside0.mk (HLO.out w1 A c (Kd.S_lower hSv (Nat.le_refl _)) hB'); clear hB hB' hSv hrows) | (go_at_call 63; refine HL.out.mono ?_; rintro e w2 ⟨v, va, ar, ok1, rfl, hI⟩; obtain ⟨A2, c2, rfl⟩ := Kd.R_slice hI.rts; obtain ⟨ad2, e2, hq⟩ := Kd.at_int (Kd.R_reads' hI.rts).2.2 0 (by omega) (by simp); subst e2; obtain ⟨g2, e3⟩ := Kd.R_head hI.rts; subst e3; rw [add_plain] at hq; have hq2 : w2.cell? ⟨g2, 0, none⟩ = some (.int .i64 q) := hq; have HI2 := Aside0.mk hI; clear hI hq))
   go_ret2
   exact ⟨rfl, (HI2.out.after HB.out fun k hk => hk.1).to⟩
end
end Go.Proofs.Ytpkaliaaffgbdaa.QA
namespace Go.Proofs.Ytpkaliaaffgbdaa.QA
open Go.RowKit Go.Proofs.YtpkaliaaffgbdaaW.PrintWords Go.Proofs.YtpkaliaaffgbdaaW.PrintLast Go.Proofs.YtpkaliaaffgbdaaW.PrintMore
attribute [local go_sem] max2_int min2_int max_two min_two max_three min_three max_four min_four   -- for this text's walks alone
set_option linter.unusedVariables false
set_option linter.unusedSimpArgs false

open Go
/-- Who has whom: n nodes, up the one that has a node, ks those that it has. -/
structure Tree (n : Nat) (up : Nat → Int) (ks : Nat → List Int) : Prop where
 pos : 0 < n
 root : up 0 = -1
 par : ∀ i, up i = -1 ∨ ∃ p : Nat, p < n ∧ up i = (p : Int) ∧ (i : Int) ∈ ks p
 kid : ∀ p, ∀ k ∈ ks p, ∃ i : Nat, k = (i : Int) ∧ i < n ∧ up i = (p : Int)
 nodup : ∀ p, (ks p).Nodup
 rank : ∃ r : Nat → Nat, ∀ i p : Nat, up i = (p : Int) → r p < r i
/-- j is i, or stands in its tree. -/
inductive Under (up : Nat → Int) (i : Nat) : Nat → Prop
 | self : Under up i i
 | step {j p : Nat} : up j = (p : Int) → Under up i p → Under up i j
section
variable {n : Nat} {up : Nat → Int} {ks : Nat → List Int}
theorem Tree.lt (h : Tree n up ks) {i p : Nat} (hi : up i = (p : Int)) : i < n ∧ p < n ∧ (i : Int) ∈ ks p := by
 rcases h.par i with h1 | ⟨q, hq, h1, h2⟩
 ·rw [h1] at hi; omega
 ·obtain rfl : q = p := by omega
  obtain ⟨j, hj, hjn, _⟩ := h.kid q _ h2
  obtain rfl : i = j := by omega
  exact ⟨hjn, hq, h2⟩
theorem Tree.zero (h : Tree n up ks) (p : Nat) : (0 : Int) ∉ ks p := fun hk => by
 obtain ⟨i, hi, _, hp⟩ := h.kid p _ hk
 obtain rfl : i = 0 := by omega
 have := h.root
 omega
theorem Tree.more (h : Tree n up ks) : Tree (n + 1) up ks :=
 ⟨by have := h.pos; omega, h.root, fun i => (h.par i).imp id fun ⟨p, h1, h2, h3⟩ => ⟨p, by omega, h2, h3⟩, fun p k hk => by obtain ⟨i, h1, h2, h3⟩ := h.kid p k hk; exact ⟨i, h1, by omega, h3⟩, h.nodup, h.rank⟩
theorem Tree.take (h : Tree n up ks) (i : Nat) : Tree n (fun j => if j = i then -1 else up j) (fun p => if up i = (p : Int) then (ks p).filter fun k => !(k == (i : Int)) else ks p) where
 pos := h.pos
 root := by
  try dsimp only
  split
  ·rfl
  ·exact h.root
 par j := by
  try dsimp only
  by_cases e : j = i
  ·rw [if_pos e]; exact .inl rfl
  ·rw [if_neg e]
   rcases h.par j with h1 | ⟨p, hp, h1, h2⟩
   ·exact .inl h1
   ·refine .inr ⟨p, hp, h1, ?_⟩
    split
    ·exact List.mem_filter.2 ⟨h2, by simp; omega⟩
    ·exact h2
 kid p k hk := by
  try dsimp only at hk ⊢
  have hk2 : k ∈ ks p ∧ (up i = (p : Int) → k ≠ (i : Int)) := by
   split at hk
   ·obtain ⟨h1, h2⟩ := List.mem_filter.1 hk
    exact ⟨h1, fun _ => by simpa using h2⟩
   ·rename_i h1
    exact ⟨hk, fun h2 => absurd h2 h1⟩
  obtain ⟨j, rfl, hj, hp⟩ := h.kid p k hk2.1
  refine ⟨j, rfl, hj, ?_⟩
  rw [if_neg (fun e => by subst e; exact hk2.2 hp rfl)]
  exact hp
 nodup p := by
  try dsimp only
  split
  ·exact (h.nodup p).filter _
  ·exact h.nodup p
 rank := by
  obtain ⟨r, hr⟩ := h.rank
  refine ⟨r, fun j p hj => ?_⟩
  try dsimp only at hj
  split at hj
  ·omega
  ·exact hr j p hj
theorem mem_insAt {l : List Int} {a : Nat} {x k : Int} : k ∈ insAt l a x ↔ k = x ∨ k ∈ l := by
 unfold insAt
 rw [List.mem_append, List.mem_cons]
 constructor
 ·rintro (h | h | h)
  ·exact .inr (List.mem_of_mem_take h)
  ·exact .inl h
  ·exact .inr (List.mem_of_mem_drop h)
 ·rintro (h | h)
  ·exact .inr (.inl h)
  ·rw [← List.take_append_drop a l, List.mem_append] at h
   exact h.imp id .inr
theorem nodup_insAt {l : List Int} {a : Nat} {x : Int} (h : l.Nodup) (hx : x ∉ l) : (insAt l a x).Nodup := by
 unfold insAt
 have h1 : (l.take a ++ l.drop a).Nodup := by rwa [List.take_append_drop]
 rw [List.nodup_append] at h1 ⊢
 refine ⟨h1.1, List.nodup_cons.2 ⟨fun h2 => hx (List.mem_of_mem_drop h2), h1.2.1⟩, fun b hb c hc e => ?_⟩
 subst e
 rcases List.mem_cons.1 hc with h2 | h2
 ·subst h2; exact hx (List.mem_of_mem_take hb)
 ·exact h1.2.2 b hb b h2 rfl
theorem Tree.put (h : Tree n up ks) {p a i : Nat} (hp : p < n) (hi : i < n) (h0 : i ≠ 0) (hu : up i = -1) (hw : ¬ Under up i p) :
  Tree n (fun j => if j = i then (p : Int) else up j) (fun q => if q = p then insAt (ks p) a (i : Int) else ks q) where
 pos := h.pos
 root := by
  try dsimp only
  rw [if_neg (fun e => h0 e.symm)]
  exact h.root
 par j := by
  try dsimp only
  by_cases e : j = i
  ·subst e
   rw [if_pos rfl]
   exact .inr ⟨p, hp, rfl, by rw [if_pos rfl]; exact mem_insAt.2 (.inl rfl)⟩
  ·rw [if_neg e]
   rcases h.par j with h1 | ⟨q, hq, h1, h2⟩
   ·exact .inl h1
   ·refine .inr ⟨q, hq, h1, ?_⟩
    split
    ·rename_i e2; subst e2; exact mem_insAt.2 (.inr h2)
    ·exact h2
 kid q k hk := by
  try dsimp only at hk ⊢
  have hold : ∀ q, k ∈ ks q → ∃ j : Nat, k = (j : Int) ∧ j < n ∧ (if j = i then (p : Int) else up j) = (q : Int) := fun q hk => by
   obtain ⟨j, rfl, hj, hq⟩ := h.kid q k hk
   refine ⟨j, rfl, hj, ?_⟩
   rw [if_neg (fun e => by subst e; omega)]
   exact hq
  split at hk
  ·rename_i e
   subst e
   rcases mem_insAt.1 hk with rfl | hk
   ·exact ⟨i, rfl, hi, if_pos rfl⟩
   ·exact hold q hk
  ·exact hold q hk
 nodup q := by
  try dsimp only
  split
  ·refine nodup_insAt (h.nodup p) fun hk => ?_
   obtain ⟨j, hj, _, hq⟩ := h.kid p _ hk
   obtain rfl : i = j := by omega
   omega
  ·exact h.nodup q
 rank := by
  classical
  obtain ⟨r, hr⟩ := h.rank
  refine ⟨fun j => if Under up i j then r j + r p + 1 else r j, fun j q hj => ?_⟩
  try dsimp only at hj ⊢
  by_cases e : j = i
  ·subst e
   rw [if_pos rfl] at hj
   obtain rfl : p = q := by omega
   rw [if_neg hw, if_pos .self]
   omega
  ·rw [if_neg e] at hj
   have hlt := hr j q hj
   by_cases hq : Under up i q
   ·rw [if_pos hq, if_pos (.step hj hq)]
    omega
   ·rw [if_neg hq]
    by_cases hj2 : Under up i j
    ·exfalso
     cases hj2 with
     | self => exact e rfl
     | step h1 h2 =>
      obtain rfl : _ = q := by have := h1.symm.trans hj; exact Int.ofNat_inj.1 this
      exact hq h2
    ·rw [if_neg hj2]
     exact hlt
end
end Go.Proofs.Ytpkaliaaffgbdaa.QA
