/- The document of package arena: New, row, Row, add, Make. -/
import Derived.Test.YtpkaliaaffgbdaaD0
namespace Go.Proofs.Ytpkaliaaffgbdaa.QA
open Go.RowKit Go.Proofs.YtpkaliaaffgbdaaW.PrintWords Go.Proofs.YtpkaliaaffgbdaaW.PrintLast Go.Proofs.YtpkaliaaffgbdaaW.PrintMore
attribute [local go_sem] max2_int min2_int max_two min_two max_three min_three max_four min_four   -- for this text's walks alone
set_option linter.unusedVariables false
set_option linter.unusedSimpArgs false
def reg46_2.T : Bool × List (List Nat × List Nat) := (true, [([], []), ([], []), ([1], [1]), ([2], [2]), ([3], [3]), ([], []), ([5], [5]), ([6], [6]), ([4, 7], [4, 7]), ([0, 0, 1, 2, 3, 4, 5, 6, 7, 8], [0]), ([9, 0, 1, 2, 3, 4, 5, 6, 7, 8], [9]), ([10, 8, 8, 0, 1, 2, 3, 4, 5, 6, 7, 8], [8, 10])])
def reg46_2.B : List Nat := [0, 0, 2, 6, 14, 0, 32, 96, 254, 511, 1023, 2047]
theorem reg46_2.tab : rtab .any (opsOf Try.f46 2) = reg46_2.T := by kernel_rfl
theorem reg46_2.bits : waitsOk reg46_2.T.2 reg46_2.B = true := by kernel_rfl

open Go
section
variable {W w : World} {ok : Nat → Prop} {g : Nat} {xs : List S79}
theorem cells5 {b : Nat} {t : TypeId} {x0 x1 x2 x3 x4 : Value} (h : W.heap[b]? = some (.cells #[x0, x1, x2, x3, x4] t (0, 0))) :
    W.cell? ⟨b, 0, none⟩ = some x0 ∧ W.cell? ⟨b, 1, none⟩ = some x1 ∧ W.cell? ⟨b, 2, none⟩ = some x2 ∧ W.cell? ⟨b, 3, none⟩ = some x3 ∧ W.cell? ⟨b, 4, none⟩ = some x4 ∧ ∀ j, W.frozen? ⟨b, j, none⟩ = false :=
  ⟨(blk_cell h 0).trans rfl, (blk_cell h 1).trans rfl, (blk_cell h 2).trans rfl, (blk_cell h 3).trans rfl, (blk_cell h 4).trans rfl, fun j => blk_frozen h j⟩
theorem blk_new1 (w : World) (o o1 : Obj) : ((w.alloc o).alloc o1).heap[w.heap.size + 1]? = some o1 := by
  have := blk_new (w.alloc o) o1
  rwa [World.size_alloc] at this
def newDoc : List S79 := [⟨z54, -1, []⟩]
theorem new_M (W : World) (base : Nat) (ok : Nat → Prop) : k79.M W base ok ⟨z54, -1, []⟩ [.int .i64 0, .int .i64 0, .string (⟨#[]⟩ : ByteArray), .string (⟨#[]⟩ : ByteArray), .slice none 0 0, .int .i64 (-1), .slice none 0 0] :=
  k79_mkM W base ok ⟨z54, -1, []⟩ (Kd.R_nil _ _ _ _ _) (Kd.R_nil _ _ _ _ _)
set_option maxHeartbeats 2000000 in
set_option maxRecDepth 100000 in
theorem Doc_New (w : World) : Calls Try.prog 18 #[] w fun e w' => ∃ g, e = .returned (.pointer (some ⟨g, 0, none⟩)) ∧ IsDoc w' (fun k => w.heap.size ≤ k) g newDoc ∧ Below w.heap.size w w' := by
  go_enter Try.func18, Try.ntmps18
  go_wp2_with (first | ((with_reducible refine gate_dst (N := 2) rfl ?_); refine Kd.S_lit k79 (w0 := w) w.heap.size 79 ?hg (N := 2) ?hd (xs := newDoc) (inner := [.int .i64 0, .int .i64 0, .string (⟨#[]⟩ : ByteArray), .string (⟨#[]⟩ : ByteArray), .slice none 0 0, .int .i64 (-1), .slice none 0 0]) (ok := fun k => w.heap.size ≤ k) (okp := fun _ => False) ?hr ?hp (fun _ h => h.elim) (Nat.le_refl _) (Below.refl _ _) (Nat.le_refl _) (by simp [newDoc]) ?_; (case hd => rfl); (case hg => rfl); (case hr => first | (go_simp; done) | (go_simp; rfl)); (case hp => exact Reps.c7 (new_M _ _ _) (Reps.none _ _)); intro v w1 hS hb hg_ hn_; obtain ⟨A, c, rfl⟩ := Kd.S_slice hS; have HS := Aside0.mk hS; have HB := Aside0.mk hb; clear hS hb hg_ hn_))
  go_ret
  exact ⟨_, rfl, ⟨_, blk_new _ _, below_size HB.out, Kd.S_alloc (Kd.S_elderB (Kd.S_lower HS.out (Nat.zero_le _)) w1.heap.size (Nat.le_refl _)) _⟩, below_alloc HB.out _⟩
set_option maxHeartbeats 2000000 in
set_option maxRecDepth 100000 in
theorem Doc_row (h : IsDoc w ok g xs) (i : Nat) (hi : i < xs.length) (hA : xs[i].f0.f4.length < 4398046511104) (depth : Int) : Calls Try.prog 37 #[.pointer (some ⟨g, 0, none⟩), .int .i64 i, .int .i64 depth] w fun e w' =>
    ∃ v4, e = .returned (.agg #[.int .i64 depth, .int .i64 xs[i].f0.f1, .string xs[i].f0.f2, .string xs[i].f0.f3, v4]) ∧ Kd.R k52 52 w' w.heap.size (fun _ => True) v4 xs[i].f0.f4 ∧ Below w.heap.size w w' := by
  obtain ⟨G, c, A4, c4, A6, c6, hb, hl, ⟨h0, h1, h2, h3, h4, h5, h6⟩, ⟨l4, g4⟩, _, _, _, _⟩ := h.node i hi
  have hc := doc_cell hb
  have hz : (i : Int) < (xs.length : Int) := by omega
  have hg := IsDoc.lt h
  have hG := block_lt_of_cell h0
  have hcall := fun w' (hb' : Below w.heap.size w w') => api_Attr_44.calls A4 c4 xs[i].f0.f4 xs[i].f0.f4 w' (Kd.C_below g4 hb') l4 (by unfold api_Attr_44.f; rw [if_pos hA])
  clear hb hl h g4 l4 h5 h6
  go_enter Try.func37, Try.ntmps37
  go_wp2_with (first | (go_at_call 44; refine (hcall _ (by repeat (first | exact Below.refl _ _ | apply below_alloc | apply pw_below_drewN | apply below_drew1))).mono ?_; rintro e w' ⟨v, rfl, hR, hB⟩; obtain ⟨A, c', rfl⟩ := Kd.R_slice hR; have b1 := (hB.block w.heap.size (by simp only [World.size_alloc]; omega)).trans (blk_alloc (blk_new _ _) _); have b2 := (hB.block (w.heap.size + 1) (by simp only [World.size_alloc]; omega)).trans (blk_new1 _ _ _); obtain ⟨q0, q1, q2, q3, q4, qf⟩ := cells5 b1; obtain ⟨r0, r1, r2, r3, r4, rf⟩ := cells5 b2; have B1 := Aside0.mk b1; have HR := Aside0.mk hR; have HB := Aside0.mk hB; clear hR hB hcall h0 h1 h2 h3 h4 b1 b2))
  refine bodyPost_ret (results_cell_row rfl _ _ w.heap.size 54 #[.int .i64 depth, .int .i64 xs[i].f0.f1, .string xs[i].f0.f2, .string xs[i].f0.f3, .slice A xs[i].f0.f4.length c'] (0, 0) _ rfl (blk_put (blk_put (blk_put (blk_put (blk_put (blk_far (blk_far B1.out (by simp) _) (by simp) _) 0 _ rfl) 1 _ rfl) 2 _ rfl) 3 _ rfl) 4 _ rfl) Try.underlying54 rfl (by kernel_rfl)) rfl ?_
  refine ⟨_, rfl, Kd.R_lower (Kd.R_mono (Kd.R_step (Kd.R_mono (Kd.R_bound HR.out) (ok' := fun k => w.heap.size + 2 ≤ k) fun k hk => by have := hk.2.1; simp only [World.size_alloc] at this; omega) fun k hk _ => ?_) fun _ _ => trivial) (by simp only [World.size_alloc]; omega), ?_⟩
  · iterate 7 refine (Below.heap_setCell _ _ _ k (by simp only; omega)).trans ?_
    rfl
  · iterate 7 refine below_set ?_ (by omega)
    exact Below.trans (below_alloc (below_alloc (Below.refl _ _) _) _) (HB.out.mono (by simp only [World.size_alloc]; omega))
/-- What add lays behind the nodes. -/
def addN (xs : List S79) (x : S54) : List S79 := xs ++ [⟨⟨0, x.f1, x.f2, x.f3, x.f4⟩, -1, []⟩]
theorem add_M {W : World} {base : Nat} {ok : Nat → Prop} {x : S54} {v4 : Value} (h : Kd.R k52 52 W base ok v4 x.f4) : k79.M W base ok ⟨⟨0, x.f1, x.f2, x.f3, x.f4⟩, -1, []⟩ [.int .i64 0, .int .i64 x.f1, .string x.f2, .string x.f3, v4, .int .i64 (-1), .slice none 0 0] :=
  k79_mkM W base ok ⟨⟨0, x.f1, x.f2, x.f3, x.f4⟩, -1, []⟩ h (Kd.R_nil _ _ _ _ _)
set_option maxHeartbeats 4000000 in
set_option maxRecDepth 100000 in
theorem Doc_add (h : IsDoc w ok g xs) (x : S54) (A : Option Addr) (c : Nat) (hC : Kd.C k52 w A x.f4.length x.f4) (hc : x.f4.length ≤ c) (hA : x.f4.length < 4398046511104) (hn : xs.length < 1000000) :
    Calls Try.prog 46 #[.pointer (some ⟨g, 0, none⟩), vrow x A c] w fun e w' => e = .returned (.int .i64 (xs.length : Nat)) ∧ To w w' ok g (addN xs x) := by
  have hg := IsDoc.lt h
  have hcall := fun w' (hb' : Below w.heap.size w w') => api_Attr_44.calls A c x.f4 x.f4 w' (Kd.C_below hC hb') hc (by unfold api_Attr_44.f; rw [if_pos hA])
  have HI := Aside0.mk h.bound
  have HN := Aside0.mk hn
  clear hA hC hc h hn
  go_enter Try.func46, Try.ntmps46
  go_wp2_with (first | (go_at_call 44; refine (hcall _ (by repeat (first | exact Below.refl _ _ | apply below_alloc | apply pw_below_drewN | apply below_drew1))).mono ?_; rintro e w' ⟨v, rfl, hR, hB⟩; obtain ⟨A4, c4, rfl⟩ := Kd.R_slice hR; have b1 := (hB.block w.heap.size (by simp only [World.size_alloc]; omega)).trans (blk_new _ _); obtain ⟨q0, q1, q2, q3, q4, qf⟩ := cells5 b1; have B1 := Aside0.mk b1; have HR := Aside0.mk hR; have HB := Aside0.mk hB; clear hR hB hcall b1))
  obtain ⟨W2, hW2⟩ : ∃ W2, W2 = (w'.setCell { block := w.heap.size, off := 0 } (Value.int IntKind.i64 0)).setCell { block := w.heap.size, off := 4 } (Value.slice A4 x.f4.length c4) := ⟨_, rfl⟩
  have hB2 : Below w.heap.size w W2 := by
    rw [hW2]
    exact below_set (below_set (Below.trans (below_alloc (Below.refl _ _) _) (HB.out.mono (by simp only [World.size_alloc]; omega))) (Nat.le_refl _)) (Nat.le_refl _)
  have b2 : W2.heap[w.heap.size]? = some (.cells #[.int .i64 0, .int .i64 x.f1, .string x.f2, .string x.f3, .slice A4 x.f4.length c4] 54 (0, 0)) := by
    rw [hW2]
    exact blk_put (blk_put B1.out 0 _ rfl) 4 _ rfl
  have hR2 : Kd.R k52 52 W2 0 (fun k => w.heap.size + 1 ≤ k) (.slice A4 x.f4.length c4) x.f4 := by
    refine Kd.R_lower (Kd.R_step (Kd.R_mono (Kd.R_bound HR.out) (ok' := fun k => w.heap.size + 1 ≤ k) fun k hk => by have := hk.2.1; simpa only [World.size_alloc] using this) fun k hk _ => ?_) (Nat.zero_le _)
    rw [hW2]
    iterate 2 refine (Below.heap_setCell _ _ _ k (by simp only; omega)).trans ?_
    rfl
  rw [← hW2]
  clear hW2 q0 q1 q2 q3 q4 qf HR HB B1 w'
  obtain ⟨v, hb, hgo, hS⟩ := HI.out.below hB2
  have hnb : ∀ k, some k = (Value.slice A4 x.f4.length c4).ownBlock → w.heap.size + 1 ≤ k := fun k hk => hR2.1 k hk.symm
  have hRt := Kd.R_tight rfl hR2
  obtain ⟨A', c', rfl⟩ := Kd.S_slice hS
  have hc := doc_cell hb
  obtain ⟨q0, q1, q2, q3, q4, qf⟩ := cells5 b2
  have hgW := blk_lt hb
  have HS := Aside0.mk (Kd.S_drew hS)
  have HR := Aside0.mk (Kd.R_drew hRt)
  have HB := Aside0.mk (below_drew hB2)
  have HD := Aside0.mk (show W2.drew.heap[g]? = _ from hb)
  have HNB := Aside0.mk hnb
  have HBL := Aside0.mk (show w.heap.size < W2.drew.heap.size from blk_lt b2)
  clear hS hR2 hB2 hb b2 hnb HI
  refine start_ (n := 12) (S := (fun w' => w'.cell? ⟨g, 0, none⟩ = some (.slice A' xs.length c') ∧ w'.cell? ⟨w.heap.size, 0, none⟩ = some (.int .i64 0) ∧ w'.cell? ⟨w.heap.size, 1, none⟩ = some (.int .i64 x.f1) ∧ w'.cell? ⟨w.heap.size, 2, none⟩ = some (.string x.f2) ∧ w'.cell? ⟨w.heap.size, 3, none⟩ = some (.string x.f3) ∧ w'.cell? ⟨w.heap.size, 4, none⟩ = some (.slice A4 x.f4.length c4))) (ds := [8, 11]) #[Z, Z, Z, Z, Z, Z, Z, Z, Z, Z, Z, Z] (by kernel_rfl) rfl rfl ⟨hc, q0, q1, q2, q3, q4⟩ (fun hHeld => ?_); refine with_tabW reg46_2.tab reg46_2.bits (fun HT_ HW_ => ?_)
  generalize W2.drew = W3 at HS HR HB HD HBL hHeld ⊢; clear hc q0 q1 q2 q3 q4 qf
  refine pA 0 10 #[Y, Z, Z, Z, Z, Z, Z, Z, Z, Z, Z, Z] HT_ ?_
  refine pA 1 11 #[Y, Y, Z, Z, Z, Z, Z, Z, Z, Z, Z, Z] HT_ ?_
  refine pA 2 12 #[Y, Y, Y, Z, Z, Z, Z, Z, Z, Z, Z, Z] HT_ ?_
  refine pA 3 13 #[Y, Y, Y, Y, Z, Z, Z, Z, Z, Z, Z, Z] HT_ ?_
  refine take_ (i := 4) (N := some 14) (v := ?_) (a' := ?_) #[Y, Y, Y, Y, Y, Z, Z, Z, Z, Z, Z, Z] rfl rfl (take_ofW HT_.out HW_.out (by kernel_rfl)) (fun _ _ _ h => h) (Or.inl ⟨by rfl, ?_⟩) hHeld ?_ ?_
  rotate_left
  · rintro w' hs
    (try obtain ⟨s0, s1⟩ := hs)
    (try obtain ⟨s1, s2⟩ := s1)
    (try obtain ⟨s2, s3⟩ := s2)
    (try obtain ⟨s3, s4⟩ := s3)
    (try obtain ⟨s4, s5⟩ := s4)
    (try obtain ⟨s5, s6⟩ := s5)
    go_simp
    with_reducible rfl
  rotate_left
  · simp only [Act.put, List.setIfInBounds_toArray, List.set_cons_zero, List.set_cons_succ, i64_w, i32_w]
    rfl
  refine take_ (i := 5) (N := some 15) (v := ?_) (a' := ?_) #[Y, Y, Y, Y, Y, Y, Z, Z, Z, Z, Z, Z] rfl rfl (take_ofW HT_.out HW_.out (by kernel_rfl)) (fun _ _ _ h => h) (Or.inl ⟨by rfl, ?_⟩) hHeld ?_ ?_
  rotate_left
  · rintro w' hs
    (try obtain ⟨s0, s1⟩ := hs)
    (try obtain ⟨s1, s2⟩ := s1)
    (try obtain ⟨s2, s3⟩ := s2)
    (try obtain ⟨s3, s4⟩ := s3)
    (try obtain ⟨s4, s5⟩ := s4)
    (try obtain ⟨s5, s6⟩ := s5)
    go_simp
    with_reducible rfl
  rotate_left
  · simp only [Act.put, List.setIfInBounds_toArray, List.set_cons_zero, List.set_cons_succ, i64_w, i32_w]
    rfl
  refine pA 6 16 #[Y, Y, Y, Y, Y, Y, Y, Z, Z, Z, Z, Z] HT_ ?_
  refine one_ (i := 7) (N := some 17) #[Y, Y, Y, Y, Y, Y, Y, Y, Z, Z, Z, Z] rfl rfl (one_of HT_.out (by kernel_rfl)) (by decide) (fun K hK => ?_)
  refine value_ (v := .slice (some ⟨W3.heap.size, 0, none⟩) 1 1) (w1 := W3.alloc (.cells #[.int .i64 0, .int .i64 x.f1, .string x.f2, .string x.f3, .slice A4 x.f4.length c4, .int .i64 (-1), .slice none 0 0] 79)) (by rfl) rfl (by first | (go_simp; done) | (go_simp; rfl)) ?_
  refine hK.out _ _ ?_ (fun hHeld => ?_)
  · obtain ⟨s0, s1, s2, s3, s4, s5⟩ := hHeld
    exact ⟨Lib.cell?_alloc_some _ s0, Lib.cell?_alloc_some _ s1, Lib.cell?_alloc_some _ s2, Lib.cell?_alloc_some _ s3, Lib.cell?_alloc_some _ s4, Lib.cell?_alloc_some _ s5⟩
  clear hK K
  refine last_ (i := 8) (N := some 18) #[Y, Y, Y, Y, Y, Y, Y, Y, Y, Z, Z, Z] rfl rfl (one_of HT_.out (by kernel_rfl)) (by decide) (fun K hK => ?_)
  refine Kd.S_append_step k79 (w0 := W3) 0 rfl (.tmp 14) (.tmp 17) 80 79 _ 104 rfl Try.underlying80 info79 rfl (by decide) (by decide) (.slice A' xs.length c') xs ⟨⟨0, x.f1, x.f2, x.f3, x.f4⟩, -1, []⟩ [.int .i64 0, .int .i64 x.f1, .string x.f2, .string x.f3, .slice A4 x.f4.length c4, .int .i64 (-1), .slice none 0 0] (fun k => (ok k ∨ w.heap.size ≤ k) ∧ k ≠ g) (fun k => some k = (Value.slice A4 x.f4.length c4).ownBlock) rfl rfl ?_ ?_ ?_ ?_ ?_ ?_ ?_ ?_
  · exact add_M HR.out
  · intro k hk
    have h1 := HNB.out k hk
    exact ⟨⟨.inr (by omega), by omega⟩, fun h2 => by have := ((Kd.S_R HS.out).1 k h2.symm).1.2; omega⟩
  · intro k hk
    have := HBL.out
    exact ⟨.inr (by omega), by omega⟩
  · exact Kd.S_mono HS.out fun k hk => ⟨⟨.inl hk.1.1, hk.2⟩, fun h2 => by have := HNB.out k h2; have := hk.1.2; omega⟩
  · exact Below.refl _ _
  · exact Nat.zero_le _
  · have := HN.out
    omega
  intro v1 w1 hS1 hB1 hG1 _
  obtain ⟨A1, c1, rfl⟩ := Kd.S_slice hS1
  have hb1 := blk_grown HD.out hG1 (Kd.S_away HS.out (fun k hk => hk.2))
  have hc1 := doc_cell hb1
  have hf1 := blk_frozen hb1 0
  have e1 : (addN xs x).length = xs.length + 1 := by simp [addN]
  change Kd.S k79 79 w1 0 _ (.slice A1 (addN xs x).length c1) (addN xs x) at hS1
  rw [e1] at hS1
  clear e1
  have HS1 := Aside0.mk hS1
  have HM := Aside0.mk ((Mod.of_below (S := ok) HB.out).grown hB1 hG1 (fun k hk => .inl ((Kd.S_R HS.out).1 k hk).1.1))
  have HD1 := Aside0.mk hb1
  clear hS1 hB1 hG1 hb1
  refine hK.out _ _ ?_
  clear hK K
  refine pA 9 19 #[Y, Y, Y, Y, Y, Y, Y, Y, Y, Y, Z, Z] HT_ ?_
  refine pA 10 20 #[Y, Y, Y, Y, Y, Y, Y, Y, Y, Y, Y, Z] HT_ ?_
  refine last_ (i := 11) (N := none) #[Y, Y, Y, Y, Y, Y, Y, Y, Y, Y, Y, Y] rfl rfl (one_of HT_.out (by kernel_rfl)) (by decide) (fun K hK => ?_)
  refine skip_ (w1 := ?_) (by rfl) rfl ?_ ?_
  rotate_left
  · go_simp
    rfl
  refine hK.out _ _ ?_
  clear hK K
  refine done_ (done_of HT_.out (by kernel_rfl)) ?_
  go_wp2
  go_ret
  refine ⟨?_, To.mk (ok' := fun k => ok k ∨ w.heap.size ≤ k) ⟨_, blk_put HD1.out 0 _ rfl, .inl hgo.1, Kd.S_far HS1.out (p := ⟨g, 0, none⟩) (fun k hk => hk.2) _⟩ (fun _ h => h) (HM.out.set _ _ (.inl hgo.1))⟩
  have e : wrap64 (xs.length : Int) = xs.length := by have := HN.out; unfold wrap64; omega
  show Ending.returned (.int .i64 (wrap64 (xs.length : Int))) = _
  rw [e]
/-- What Make answers: a number, an error, and the nodes behind it. -/
def makeR (xs : List S79) (m : Bool) (kind : Int) (name data : ByteArray) : Int × Int × List S79 :=
  if m = false then (0, 1, xs) else if 4096 ≤ xs.length then (0, 2, xs) else (xs.length, 0, addN xs ⟨0, kind, name, data, []⟩)
set_option maxHeartbeats 2000000 in
set_option maxRecDepth 100000 in
theorem Doc_Make (h : IsDoc w ok g xs) (kind : Int) (name data : ByteArray) (k : Nat) (m : Bool) (hm : arena_may.f k kind name data = some m) :
    Calls Try.prog 21 #[.pointer (some ⟨g, 0, none⟩), .int .i64 kind, .string name, .string data] w fun e w' => e = .returned (.tuple #[.int .i64 (makeR xs m kind name data).1, .int .i64 (makeR xs m kind name data).2.1]) ∧ To w w' ok g (makeR xs m kind name data).2.2 := by
  have hcall := arena_may.calls k kind name data m w hm
  unfold makeR
  cases m with
  | false =>
    rw [if_pos rfl]
    have HI := Aside0.mk h
    clear h hm
    go_enter Try.func21, Try.ntmps21
    go_wp2_with (first | (go_at_call 45; refine hcall.mono ?_; rintro e w' ⟨rfl, ⟨m, rfl⟩⟩))
    go_ret2
    exact ⟨rfl, To.quiet HI.out (pw_below_drewN (Below.refl _ _) _)⟩
  | true =>
    rw [if_neg (by decide)]
    obtain ⟨A, c, hb, hl, hC⟩ := h.reads
    have hc := doc_cell hb
    by_cases c0 : 4096 ≤ xs.length
    · rw [if_pos c0]
      have hz : (4096 : Int) ≤ (xs.length : Int) := by omega
      have hz2 : decide ((4096 : Int) ≤ (xs.length : Int)) = true := decide_eq_true hz
      have HI := Aside0.mk h
      clear h hm hb hC hl
      go_enter Try.func21, Try.ntmps21
      go_wp2_with (first | (go_at_call 45; refine hcall.mono ?_; rintro e w' ⟨rfl, ⟨m, rfl⟩⟩))
      go_ret2
      exact ⟨rfl, To.quiet HI.out (pw_below_drewN (Below.refl _ _) _)⟩
    · rw [if_neg c0]
      have hz2 : decide ((4096 : Int) ≤ (xs.length : Int)) = false := decide_eq_false (by omega)
      have hadd := fun n => Doc_add (h.drewN n) ⟨0, kind, name, data, []⟩ none 0 (Kd.C_nil _ _) (Nat.le_refl _) (show (0 : Nat) < 4398046511104 by decide) (by omega)
      have HI := Aside0.mk h
      clear h hm hb hC hl c0
      go_enter Try.func21, Try.ntmps21
      go_wp2_with (first | (go_at_call 45; refine hcall.mono ?_; rintro e w' ⟨rfl, ⟨m, rfl⟩⟩) | (go_at_call 46; refine (hadd _).mono ?_; rintro e w' ⟨rfl, hT⟩; have HT := Aside0.mk hT; clear hT))
      go_ret2
      exact ⟨rfl, To.after (pw_below_drewN (Below.refl _ _) _) HT.out⟩
set_option maxHeartbeats 2000000 in
set_option maxRecDepth 100000 in
theorem Doc_Row (h : IsDoc w ok g xs) (i : Nat) (hi : i < xs.length) (hA : xs[i].f0.f4.length < 4398046511104) : Calls Try.prog 25 #[.pointer (some ⟨g, 0, none⟩), .int .i64 i] w fun e w' =>
    ∃ v4, e = .returned (.tuple #[.agg #[.int .i64 0, .int .i64 xs[i].f0.f1, .string xs[i].f0.f2, .string xs[i].f0.f3, v4], .int .i64 0]) ∧ Kd.R k52 52 w' w.heap.size (fun _ => True) v4 xs[i].f0.f4 ∧ Below w.heap.size w w' := by
  have hrow := fun w' (hb' : Below w.heap.size w w') => Doc_row (h.below hb') i hi hA 0
  have his := fun w' (hb' : Below w.heap.size w w') => Doc_is (h.below hb') (i : Int)
  rw [decide_eq_true (show 0 ≤ (i : Int) ∧ (i : Int) < (xs.length : Int) by omega)] at his
  clear h hA
  go_enter Try.func25, Try.ntmps25
  go_wp2_with (first | (go_at_call 36; refine (his _ (by repeat (first | exact Below.refl _ _ | apply below_alloc | apply pw_below_drewN | apply below_drew1))).mono ?_; rintro e w' ⟨rfl, ⟨m, rfl⟩⟩) | (go_at_call 37; refine (hrow _ (by repeat (first | exact Below.refl _ _ | apply below_alloc | apply pw_below_drewN | apply below_drew1))).mono ?_; rintro e w' ⟨v, rfl, hR, hB⟩; obtain ⟨A, c', rfl⟩ := Kd.R_slice hR; have b1 := (hB.block w.heap.size (by simp)).trans (blk_drewN (blk_new _ _) _); obtain ⟨q0, q1, q2, q3, q4, qf⟩ := cells5 b1; have B1 := Aside0.mk b1; have HR := Aside0.mk hR; have HB := Aside0.mk hB; clear hR hB b1))
  refine bodyPost_ret (results_ct rfl _ _ w.heap.size 54 #[.int .i64 0, .int .i64 xs[i].f0.f1, .string xs[i].f0.f2, .string xs[i].f0.f3, .slice A xs[i].f0.f4.length c'] (0, 0) _ rfl (blk_put (blk_put (blk_put (blk_put (blk_put B1.out 0 _ rfl) 1 _ rfl) 2 _ rfl) 3 _ rfl) 4 _ rfl) Try.underlying54 rfl (by kernel_rfl)) rfl ?_
  have e : w.heap.size + 1 ≤ ((w.alloc (Obj.cells #[Value.int IntKind.i64 0, Value.int IntKind.i64 0, Value.string { data := #[] }, Value.string { data := #[] }, Value.slice none 0 0] 54)).drewN m).heap.size := by simp
  refine ⟨_, rfl, Kd.R_lower (Kd.R_mono (Kd.R_step (Kd.R_mono (Kd.R_bound HR.out) (ok' := fun k => w.heap.size + 1 ≤ k) fun k hk => Nat.le_trans e hk.2.1) fun k hk _ => ?_) fun _ _ => trivial) (by omega), ?_⟩
  · iterate 5 refine (Below.heap_setCell _ _ _ k (by simp only; omega)).trans ?_
    rfl
  · iterate 5 refine below_set ?_ (by omega)
    exact Below.trans (pw_below_drewN (below_alloc (Below.refl _ _) _) _) (HB.out.mono (by omega))
set_option maxHeartbeats 2000000 in
set_option maxRecDepth 100000 in
theorem Doc_Row_no (h : IsDoc w ok g xs) (n : Int) (hn : ¬ (0 ≤ n ∧ n < (xs.length : Int))) : Calls Try.prog 25 #[.pointer (some ⟨g, 0, none⟩), .int .i64 n] w fun e w' =>
    e = .returned (.tuple #[.agg #[.int .i64 0, .int .i64 0, .string (⟨#[]⟩ : ByteArray), .string (⟨#[]⟩ : ByteArray), .slice none 0 0], .int .i64 110]) ∧ Below w.heap.size w w' := by
  have his := fun w' (hb' : Below w.heap.size w w') => Doc_is (h.below hb') n
  rw [decide_eq_false hn] at his
  clear h hn
  go_enter Try.func25, Try.ntmps25
  go_wp2_with (first | (go_at_call 36; refine (his _ (by repeat (first | exact Below.refl _ _ | apply below_alloc | apply pw_below_drewN | apply below_drew1))).mono ?_; rintro e w' ⟨rfl, ⟨m, rfl⟩⟩))
  refine bodyPost_ret (results_ct rfl _ _ w.heap.size 54 #[.int .i64 0, .int .i64 0, .string (⟨#[]⟩ : ByteArray), .string (⟨#[]⟩ : ByteArray), .slice none 0 0] (0, 0) _ rfl (blk_put (blk_put (blk_put (blk_put (blk_put (blk_drewN (blk_new _ _) _) 0 _ rfl) 1 _ rfl) 2 _ rfl) 3 _ rfl) 4 _ rfl) Try.underlying54 rfl (by kernel_rfl)) rfl ?_
  refine ⟨rfl, ?_⟩
  iterate 5 refine below_set ?_ (by omega)
  exact pw_below_drewN (below_alloc (Below.refl _ _) _) _
end
end Go.Proofs.Ytpkaliaaffgbdaa.QA
