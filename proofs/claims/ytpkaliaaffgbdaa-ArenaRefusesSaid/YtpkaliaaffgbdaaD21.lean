/- The law ArenaRefuses: one call of a script. -/
import Derived.Test.YtpkaliaaffgbdaaD20
import Derived.Test.YtpkaliaaffgbdaaD11
namespace Go.Proofs.Ytpkaliaaffgbdaa.QA
open Go.RowKit Go.Proofs.YtpkaliaaffgbdaaW.PrintWords Go.Proofs.YtpkaliaaffgbdaaW.PrintLast Go.Proofs.YtpkaliaaffgbdaaW.PrintMore
attribute [local go_sem] max2_int min2_int max_two min_two max_three min_three max_four min_four   -- for this text's walks alone
set_option linter.unusedVariables false
set_option linter.unusedSimpArgs false

open Go
/-- The law's document beside rows that were told of it. -/
def LInv (w W : World) (g : Nat) (xs : List S79) (v : Value) (r : List S54) : Prop := ∃ ok, St w W ok g xs ∧ Kd.S k54 54 W 0 (fun k => ¬ ok k) v r
section
variable {w W W' : World} {g M : Nat} {xs ys : List S79} {v : Value} {r : List S54}
theorem LInv.has (h : LInv w W g xs v r) : Has w W g xs := h.imp fun _ h => h.1
theorem LInv.quiet (h : LInv w W g xs v r) (hb : Below W.heap.size W W') : LInv w W' g xs v r := h.imp fun _ h => ⟨h.1.quiet hb, Kd.S_step h.2 fun k _ hl => hb.block k hl⟩
theorem LInv.via {f : Nat} {args : Array Value} {P : Ending → Prop} (h : LInv w W g xs v r) (hc : ∀ ok, IsDoc W ok g xs → Calls Try.prog f args W fun e w' => P e ∧ To W w' ok g ys) : Calls Try.prog f args W fun e w' => P e ∧ LInv w w' g ys v r := by
  obtain ⟨ok, hs, hR⟩ := h
  refine (hc ok hs.doc).mono fun e w' ⟨h1, h2⟩ => ⟨h1, ?_⟩
  obtain ⟨ok', h3, h4⟩ := hs.op h2
  exact ⟨ok', h3, Kd.S_mono (Kd.S_step (Kd.S_bound hR) fun k hk hl => (h4 k hl hk.1).1) fun k hk => (h4 k hk.2.2.1 hk.1).2⟩
theorem LInv.reads {A : Option Addr} {n c : Nat} (h : LInv w W g xs (.slice A n c) r) : n = r.length ∧ n ≤ c ∧ Kd.C k54 W A r.length r := by
  obtain ⟨ok, _, hR⟩ := h
  exact Kd.S_reads' hR
theorem rows_LInv (h : Has w W g xs) (hF : Fit xs) (k : Nat) {r : List S54} (hr : rowsR xs k 0 = some r) : Calls Try.prog 11 #[.pointer (some ⟨g, 0, none⟩), .int .i64 0] W fun e w' => ∃ A c, e = .returned (.slice A r.length c) ∧ LInv w w' g xs (.slice A r.length c) r ∧ Below W.heap.size W w' := by
  obtain ⟨ok, hs⟩ := h
  refine (Doc_Rows hs.doc hF k 0 r hr).mono ?_
  rintro e w' ⟨v, rfl, hS, hB⟩
  obtain ⟨A, c, rfl⟩ := Kd.S_slice hS
  exact ⟨A, c, rfl, ⟨ok, hs.quiet hB, Kd.S_mono (Kd.S_lower (Kd.S_bound hS) (Nat.zero_le _)) fun k hk ho => by have := hs.lt k ho; have := hk.2.1; omega⟩, hB⟩
theorem LInv.rows2 {A1 : Option Addr} {c1 : Nat} (h : LInv w W g xs (.slice A1 r.length c1) r) (hF : Fit xs) (k : Nat) (hr : rowsR xs k 0 = some r) : Calls Try.prog 11 #[.pointer (some ⟨g, 0, none⟩), .int .i64 0] W fun e w' => ∃ A c, e = .returned (.slice A r.length c) ∧ (r.length ≤ c ∧ Kd.C k54 w' A r.length r) ∧ LInv w w' g xs (.slice A1 r.length c1) r := by
  obtain ⟨ok, hs, hR⟩ := h
  refine (Doc_Rows hs.doc hF k 0 r hr).mono ?_
  rintro e w' ⟨v, rfl, hS, hB⟩
  obtain ⟨A, c, rfl⟩ := Kd.S_slice hS
  exact ⟨A, c, rfl, (Kd.S_reads' hS).2, ok, hs.quiet hB, Kd.S_step hR fun k _ hl => hB.block k hl⟩
theorem LInv.same {A1 A : Option Addr} {c1 c : Nat} (h : LInv w W g xs (.slice A1 r.length c1) r) (hC : r.length ≤ c ∧ Kd.C k54 W A r.length r) : Calls Try.prog 16 #[.slice A r.length c, .slice A1 r.length c1] W fun e w' => e = .returned (.bool true) ∧ LInv w w' g xs (.slice A1 r.length c1) r := by
  refine (boltingref04_Same.calls A c r A1 c1 r true W hC.2 hC.1 h.reads.2.2 h.reads.2.1 (by simp [boltingref04_Same.f])).mono ?_
  rintro e w' ⟨rfl, hB⟩
  exact ⟨rfl, h.quiet hB⟩
theorem LInv.len (h : LInv w W g xs v r) {n : Int} (hn : (xs.length : Int) = n) : Calls Try.prog 30 #[.pointer (some ⟨g, 0, none⟩)] W fun e w' => e = .returned (.int .i64 n) ∧ LInv w w' g xs v r := by
  subst hn
  obtain ⟨ok, hs, hR⟩ := h
  refine (Doc_Len hs.doc).mono ?_
  rintro e w' ⟨rfl, ⟨m, rfl⟩⟩
  have hB := pw_below_drewN (Below.refl W.heap.size W) m
  exact ⟨rfl, ok, hs.quiet hB, Kd.S_step hR fun k _ hl => hB.block k hl⟩
/-! #### a call: its error, the nodes behind it -/
def Op1 (w : World) (g M : Nat) (xs : List S79) (e : Int) (ys : List S79) (f : Nat) (args : Array Value) : Prop :=
  Keeps (M + 1) xs e ys ∧ ∀ W v r, LInv w W g xs v r → Calls Try.prog f args W fun o w' => o = .returned (.int .i64 e) ∧ LInv w w' g ys v r
def Op2 (w : World) (g M : Nat) (xs : List S79) (e : Int) (ys : List S79) (f : Nat) (args : Array Value) : Prop :=
  Keeps (M + 1) xs e ys ∧ ∀ W v r, LInv w W g xs v r → Calls Try.prog f args W fun o w' => ∃ a, o = .returned (.tuple #[a, .int .i64 e]) ∧ LInv w w' g ys v r
theorem Keeps.weak {e : Int} (h : Keeps M xs e ys) : Keeps (M + 1) xs e ys := ⟨h.1, h.2.1, h.2.2.weak (Nat.le_succ M)⟩
theorem op_make (w : World) (g : Nat) (h : Good M xs) (kind : Int) (name data : ByteArray) (hn : name.size ≤ 140737488351232) : ∃ e ys, Op2 w g M xs e ys 21 #[.pointer (some ⟨g, 0, none⟩), .int .i64 kind, .string name, .string data] := by
  obtain ⟨k, b, hb⟩ := may_some kind name data hn
  refine ⟨_, _, (keeps_make h b kind name data).weak, fun W v r hL => ?_⟩
  refine (hL.via (P := fun e => e = _) fun ok hI => Doc_Make hI kind name data k b hb).mono ?_
  rintro e w' ⟨rfl, h2⟩
  exact ⟨_, rfl, h2⟩
theorem op_insert (w : World) (g : Nat) (h : Good M xs) (hM : M < 100000) (p a n : Int) : ∃ e ys, Op1 w g M xs e ys 12 #[.pointer (some ⟨g, 0, none⟩), .int .i64 p, .int .i64 a, .int .i64 n] := by
  obtain ⟨k, q, hq, hk⟩ := keeps_insert h p a n
  exact ⟨_, _, hk.weak, fun W v r hL => hL.via (P := fun e => e = _) fun ok hI => Doc_Insert hI (h.fit hM) k p a n q hq⟩
theorem op_remove (w : World) (g : Nat) (h : Good M xs) (hM : M < 100000) (n : Int) : ∃ e ys, Op1 w g M xs e ys 17 #[.pointer (some ⟨g, 0, none⟩), .int .i64 n] :=
  ⟨_, _, (keeps_remove h n).weak, fun W v r hL => hL.via (P := fun e => e = _) fun ok hI => Doc_Remove hI (h.fit hM) n⟩
theorem op_clone (w : World) (g : Nat) (h : Good M xs) (hM : M < 100000) (n : Int) : ∃ e ys, Op2 w g M xs e ys 31 #[.pointer (some ⟨g, 0, none⟩), .int .i64 n] := by
  obtain ⟨k, q, hq, hk⟩ := keeps_clone h (by omega) n
  refine ⟨_, _, hk.weak, fun W v r hL => ?_⟩
  refine (hL.via (P := fun e => e = _) fun ok hI => Doc_Clone hI (h.fit hM) k n q hq).mono ?_
  rintro e w' ⟨rfl, h2⟩
  exact ⟨_, rfl, h2⟩
theorem op_attr (w : World) (g : Nat) (h : Good M xs) (hM : M < 100000) (n : Int) (name value : ByteArray) (hn : name.size ≤ 140737488351232) : ∃ e ys, Op1 w g M xs e ys 22 #[.pointer (some ⟨g, 0, none⟩), .int .i64 n, .string name, .string value] := by
  obtain ⟨q, hq, hk⟩ := keeps_attr h (name.size * 9 + 1) n name value _ (attr_is name hn _ (by omega))
  exact ⟨_, _, hk, fun W v r hL => hL.via (P := fun e => e = _) fun ok hI => Doc_Attr hI (h.fit hM) _ n name value q hq⟩
theorem op_drop (w : World) (g : Nat) (h : Good M xs) (hM : M < 100000) (n : Int) (name : ByteArray) : ∃ e ys, Op1 w g M xs e ys 27 #[.pointer (some ⟨g, 0, none⟩), .int .i64 n, .string name] :=
  ⟨_, _, (keeps_drop h n name).weak, fun W v r hL => hL.via (P := fun e => e = _) fun ok hI => Doc_Drop hI (h.fit hM) n name⟩
theorem op_data (w : World) (g : Nat) (h : Good M xs) (n : Int) (s : ByteArray) : ∃ e ys, Op1 w g M xs e ys 32 #[.pointer (some ⟨g, 0, none⟩), .int .i64 n, .string s] :=
  ⟨_, _, (keeps_data h n s).weak, fun W v r hL => hL.via (P := fun e => e = _) fun ok hI => Doc_Data hI n s⟩
theorem treesL_few (l : List S54) : (treesL l).length ≤ 12 ∧ ∀ x ∈ treesL l, x.f4.length ≤ 4 := by
  refine ⟨by simp [treesL]; omega, fun x hx => ?_⟩
  obtain ⟨y, _, rfl⟩ := List.mem_map.1 hx
  simp [cutRow]
  omega
/-- Load of what trees handed over. -/
theorem op_load (w : World) (g : Nat) (h : Good M xs) (hM : M < 100000) (hM4 : 4 ≤ M) (l : List S54) : ∃ e ys, Keeps (M + 1) xs e ys ∧ ∀ W W0 v r A c, LInv w W g xs v r → (treesL l).length ≤ c → Below W0.heap.size W0 W → (∃ ok, St w W0 ok g xs ∧ Kd.S k54 54 W0 0 (fun k => ¬ ok k) v r) → Kd.F k54 W (fun k => k < w.heap.size ∨ W0.heap.size ≤ k) A (treesL l).length (treesL l) →
    Calls Try.prog 33 #[.pointer (some ⟨g, 0, none⟩), .slice A (treesL l).length c] W fun o w' => ∃ a, o = .returned (.tuple #[a, .int .i64 e]) ∧ LInv w w' g ys v r := by
  have hT := treesL_few l
  obtain ⟨k, e, hk, hd⟩ := check_some (treesL l) ⟨by omega, fun x hx => by have := hT.2 x hx; omega⟩
  obtain ⟨q, hq, hkp⟩ := keeps_load h (by omega) (treesL l) k e hk hd fun x hx => Nat.le_trans (hT.2 x hx) hM4
  have hlen := h.len
  refine ⟨_, _, hkp.weak, fun W W0 v r A c _ hc hB hok hF => ?_⟩
  obtain ⟨ok, hs, hS⟩ := hok
  have hs2 := hs.quiet hB
  refine (Doc_Load hs2.doc (treesL l) A c hF (fun k hk ho => ?_) hc (by omega) (by omega) k q hq).mono ?_
  · have h1 := hs.own k ho
    have h2 := hs.lt k ho
    rcases hk with hk | hk <;> omega
  · rintro o w' ⟨a, va, ar, ok1, rfl, hI⟩
    obtain ⟨ok', h3, h4⟩ := hs2.op hI.to
    have hS2 := Kd.S_step hS fun k _ hl => hB.block k hl
    exact ⟨a, rfl, ok', h3, Kd.S_mono (Kd.S_step (Kd.S_bound hS2) fun k hk hl => (h4 k hl hk.1).1) fun k hk => (h4 k hk.2.2.1 hk.1).2⟩
end
end Go.Proofs.Ytpkaliaaffgbdaa.QA
