/- []Op as an argument: a script. -/
import Derived.Test.YtpkaliaaffgbdaaD19
import Derived.Test.YtpkaliaaffgbdaaD14
namespace Go.Proofs.Ytpkaliaaffgbdaa.QA
open Go.RowKit Go.Proofs.YtpkaliaaffgbdaaW.PrintWords Go.Proofs.YtpkaliaaffgbdaaW.PrintLast Go.Proofs.YtpkaliaaffgbdaaW.PrintMore
attribute [local go_sem] max2_int min2_int max_two min_two max_three min_three max_four min_four   -- for this text's walks alone
set_option linter.unusedVariables false
set_option linter.unusedSimpArgs false

set_option maxRecDepth 100000
open Go
/-- A call of a script. -/
structure SOp where
  f0 : Int
  f1 : Int
  f2 : Int
  f3 : Int
  f4 : Int
  f5 : ByteArray
  f6 : ByteArray
  f7 : List S54
def zOp : SOp := ⟨0, 0, 0, 0, 0, ByteArray.empty, ByteArray.empty, []⟩
instance : Inhabited SOp := ⟨zOp⟩
def kOp : Kd SOp := Kd.iso (Kd.pair (Kd.int .i64) (Kd.pair (Kd.int .i64) (Kd.pair (Kd.int .i64) (Kd.pair (Kd.int .i64) (Kd.pair (Kd.int .i64) (Kd.pair Kd.string (Kd.pair Kd.string (Kd.slice 54 k54)))))))) (fun x : SOp => (x.f0, x.f1, x.f2, x.f3, x.f4, x.f5, x.f6, x.f7))
theorem kOp_mk (w : World) (x : SOp) {A : Option Addr} {c : Nat} (l : x.f7.length ≤ c) (g : k54.C w A x.f7.length x.f7) : kOp.K w x [.int .i64 x.f0, .int .i64 x.f1, .int .i64 x.f2, .int .i64 x.f3, .int .i64 x.f4, .string x.f5, .string x.f6, .slice A x.f7.length c] :=
  ⟨[.int .i64 x.f0], _, rfl, rfl, [.int .i64 x.f1], _, rfl, rfl, [.int .i64 x.f2], _, rfl, rfl, [.int .i64 x.f3], _, rfl, rfl, [.int .i64 x.f4], _, rfl, rfl, [.string x.f5], _, rfl, rfl, [.string x.f6], [.slice A x.f7.length c], rfl, rfl, A, c, rfl, l, g⟩
theorem kOp_open {w : World} {x : SOp} {cs : List Value} (h : kOp.K w x cs) : ∃ A c, cs = [.int .i64 x.f0, .int .i64 x.f1, .int .i64 x.f2, .int .i64 x.f3, .int .i64 x.f4, .string x.f5, .string x.f6, .slice A x.f7.length c] ∧ x.f7.length ≤ c ∧ k54.C w A x.f7.length x.f7 := by
  obtain ⟨_, _, rfl, rfl, _, _, rfl, rfl, _, _, rfl, rfl, _, _, rfl, rfl, _, _, rfl, rfl, _, _, rfl, rfl, _, _, rfl, rfl, A, c, rfl, l, g⟩ := h
  exact ⟨A, c, rfl, l, g⟩
theorem at_Op {w : World} {A : Option Addr} {n : Nat} {xs : List SOp} (h : Kd.C kOp w A n xs) (i : Nat) (hi : i < xs.length) : ∃ ad A7 c7, A = some ad ∧ (w.cell? (ad.add (i * 8)) = some (.int .i64 xs[i].f0) ∧ w.cell? ⟨(ad.add (i * 8)).block, (ad.add (i * 8)).off + 1, none⟩ = some (.int .i64 xs[i].f1) ∧ w.cell? ⟨(ad.add (i * 8)).block, (ad.add (i * 8)).off + 2, none⟩ = some (.int .i64 xs[i].f2) ∧ w.cell? ⟨(ad.add (i * 8)).block, (ad.add (i * 8)).off + 3, none⟩ = some (.int .i64 xs[i].f3) ∧ w.cell? ⟨(ad.add (i * 8)).block, (ad.add (i * 8)).off + 4, none⟩ = some (.int .i64 xs[i].f4) ∧
    w.cell? ⟨(ad.add (i * 8)).block, (ad.add (i * 8)).off + 5, none⟩ = some (.string xs[i].f5) ∧ w.cell? ⟨(ad.add (i * 8)).block, (ad.add (i * 8)).off + 6, none⟩ = some (.string xs[i].f6) ∧ w.cell? ⟨(ad.add (i * 8)).block, (ad.add (i * 8)).off + 7, none⟩ = some (.slice A7 xs[i].f7.length c7)) ∧ xs[i].f7.length ≤ c7 ∧ k54.C w A7 xs[i].f7.length xs[i].f7 := by
  have hn := h.1
  obtain ⟨ad, c, e, _, hK, hc0⟩ := Kd.C_get h zOp (i : Int) (by omega) (by omega)
  rw [Int.toNat_natCast, List.getD_eq_getElem?_getD, List.getElem?_eq_getElem hi, Option.getD_some] at hK
  have hc : ∀ j u, c[j]? = some u → w.cell? (ad.add (i * 8 + j)) = some u := hc0
  obtain ⟨A7, c7, rfl, l7, g7⟩ := kOp_open hK
  exact ⟨ad, A7, c7, e, ⟨hc 0 _ rfl, by rw [← add_field _ _ 1 (by omega)]; exact hc 1 _ rfl, by rw [← add_field _ _ 2 (by omega)]; exact hc 2 _ rfl, by rw [← add_field _ _ 3 (by omega)]; exact hc 3 _ rfl, by rw [← add_field _ _ 4 (by omega)]; exact hc 4 _ rfl, by rw [← add_field _ _ 5 (by omega)]; exact hc 5 _ rfl, by rw [← add_field _ _ 6 (by omega)]; exact hc 6 _ rfl, by rw [← add_field _ _ 7 (by omega)]; exact hc 7 _ rfl⟩, l7, g7⟩
section
open Go.ChangeShapes Go.WideShapes Go.Deep
variable {H : Type} {enc : TypeId × Value → H} {w : World} {base : Nat} {held : Bool}
/-- A slice as an argument: a row of elements that are read. -/
theorem open_rowK {α : Type} [Inhabited α] (d : Kd α) (OK : α → Prop) {t e : TypeId} {fuel : Nat} {cs : List Value} {x : DataW H × List MemPlace} (ht : Try.prog.underlying t = some (.slice e)) (hsz : Try.prog.cellsOf e = d.sz)
    (hel : ∀ n cs x, DataW.trod enc Try.prog w base (fun _ => true) held n e cs = some x → ∃ p : α, d.K w p cs ∧ OK p)
    (h : DataW.trod enc Try.prog w base (fun _ => true) held fuel t cs = some x) :
    ∃ (A : Option Addr) (c : Nat) (l : List α), cs = [.slice A l.length c] ∧ l.length ≤ c ∧ c ≤ maxLen ∧ Kd.C d w A l.length l ∧ ∀ p ∈ l, OK p := by
  rcases open_slice ht h with ⟨rfl, _⟩ | ⟨a, len, cap, m, n, D, Pl, rfl, _, hl, hm, hmm, _, hi⟩
  · exact ⟨none, 0, [], rfl, Nat.le_refl _, Nat.zero_le _, ⟨rfl, by simp, fun h => absurd h (by simp)⟩, by simp⟩
  · have hlm : len ≤ m := by
      rw [hmm]
      split
      · exact hl
      · exact Nat.le_refl _
    have hch : ∀ i, ∃ p : α, i < len → OK p ∧ ∃ c, c.length = d.sz ∧ d.K w p c ∧ ∀ j u, c[j]? = some u → w.cell? (a.add (i * d.sz + j)) = some u := by
      intro i
      by_cases hil : i < len
      · obtain ⟨cs', hc, ht'⟩ := hi i (by omega)
        obtain ⟨p, hK, hOK⟩ := hel _ _ _ ht'
        obtain ⟨_, hcl, hat⟩ := World.cells?_some hc
        refine ⟨p, fun _ => ⟨hOK, cs', d.K_len hK, hK, fun j u hj => ?_⟩⟩
        have hjl : j < cs'.length := by
          rcases Nat.lt_or_ge j cs'.length with h' | h'
          · exact h'
          · rw [List.getElem?_eq_none h'] at hj; cases hj
        have h1 := hat j (by omega)
        rw [hsz] at h1
        rw [← Go.Deep.add_add, h1, hj]
      · exact ⟨default, fun h => absurd h hil⟩
    have hf := fun i => Classical.choose_spec (hch i)
    have hlen : ((List.range len).map fun i => Classical.choose (hch i)).length = len := by simp
    refine ⟨some a, cap, (List.range len).map fun i => Classical.choose (hch i), by rw [hlen], by rw [hlen]; exact hl, hm, ⟨rfl, ?_, fun _ => ⟨a, rfl, fun j p hj => ?_⟩⟩, ?_⟩
    · rw [hlen]; unfold maxLen at hm; omega
    · rw [List.getElem?_map] at hj
      obtain ⟨i, hi', rfl⟩ := Option.map_eq_some_iff.1 hj
      have hjl : j < len := by
        rcases Nat.lt_or_ge j len with h' | h'
        · exact h'
        · rw [List.getElem?_eq_none (by simpa using h')] at hi'; cases hi'
      rw [List.getElem?_range hjl] at hi'
      cases hi'
      obtain ⟨_, c, hc⟩ := hf j hjl
      exact ⟨c, hc⟩
    · intro p hp
      obtain ⟨i, hi', rfl⟩ := List.mem_map.1 hp
      exact (hf i (List.mem_range.1 hi')).1
theorem el_attr {n : Nat} {cs : List Value} {x : DataW H × List MemPlace} (h : DataW.trod enc Try.prog w base (fun _ => true) held n 52 cs = some x) : ∃ p : S52, k52.K w p cs ∧ (p.f0.size ≤ maxLen ∧ p.f1.size ≤ maxLen) := by
  obtain ⟨xs, m, _, _, hlen, hxl, hf⟩ := DataW.trod_struct Try.underlying52 h
  have hl : cs.length = 2 := hlen.trans (by kernel_rfl)
  have hc9 : Try.prog.cellsOf 9 = 1 := by kernel_rfl
  match cs, hl with
  | [c0, c1], _ =>
    match xs, hxl with
    | [y0, y1], _ =>
      have h0 : DataW.trod enc Try.prog w base (fun _ => true) held m 9 (([c0, c1].drop 0).take (Try.prog.cellsOf 9)) = some y0 := hf 0 _ rfl
      have h1 : DataW.trod enc Try.prog w base (fun _ => true) held m 9 (([c0, c1].drop 1).take (Try.prog.cellsOf 9)) = some y1 := hf 1 _ rfl
      rw [hc9] at h0 h1
      obtain ⟨s0, e0, _, l0⟩ := DataW.trod_string Try.underlying9 h0
      obtain ⟨s1, e1, _, l1⟩ := DataW.trod_string Try.underlying9 h1
      obtain rfl : c0 = .string s0 := by simpa using e0
      obtain rfl : c1 = .string s1 := by simpa using e1
      exact ⟨⟨s0, s1⟩, k52_mk w ⟨s0, s1⟩, l0, l1⟩
instance : Inhabited S52 := ⟨z52⟩
instance : Inhabited S54 := ⟨z54⟩
/-- What holds of any row that came in. -/
def RowIn (x : S54) : Prop := (-9223372036854775808 ≤ x.f0 ∧ x.f0 < 9223372036854775808) ∧ (-9223372036854775808 ≤ x.f1 ∧ x.f1 < 9223372036854775808) ∧ x.f4.length ≤ maxLen
theorem wf_range {n : Int} (h : (Lit.int .i64 n).wf = true) : -9223372036854775808 ≤ n ∧ n < 9223372036854775808 := by
  simp [Lit.wf] at h
  have e0 : IntKind.i64.min = -9223372036854775808 := by decide
  rw [e0] at h
  omega
theorem el_row {n : Nat} {cs : List Value} {x : DataW H × List MemPlace} (h : DataW.trod enc Try.prog w base (fun _ => true) held n 54 cs = some x) : ∃ p : S54, k54.K w p cs ∧ RowIn p := by
  obtain ⟨xs, m, _, _, hlen, hxl, hf⟩ := DataW.trod_struct Try.underlying54 h
  have hl : cs.length = 5 := hlen.trans (by kernel_rfl)
  have hc9 : Try.prog.cellsOf 9 = 1 := by kernel_rfl
  have hc3 : Try.prog.cellsOf 3 = 1 := by kernel_rfl
  have hcA : Try.prog.cellsOf 50 = 1 := by kernel_rfl
  match cs, hl with
  | [c0, c1, c2, c3, c4], _ =>
    match xs, hxl with
    | [y0, y1, y2, y3, y4], _ =>
      have h0 : DataW.trod enc Try.prog w base (fun _ => true) held m 3 (([c0, c1, c2, c3, c4].drop 0).take (Try.prog.cellsOf 3)) = some y0 := hf 0 _ rfl
      have h1 : DataW.trod enc Try.prog w base (fun _ => true) held m 3 (([c0, c1, c2, c3, c4].drop 1).take (Try.prog.cellsOf 3)) = some y1 := hf 1 _ rfl
      have h2 : DataW.trod enc Try.prog w base (fun _ => true) held m 9 (([c0, c1, c2, c3, c4].drop 2).take (Try.prog.cellsOf 9)) = some y2 := hf 2 _ rfl
      have h3 : DataW.trod enc Try.prog w base (fun _ => true) held m 9 (([c0, c1, c2, c3, c4].drop 3).take (Try.prog.cellsOf 9)) = some y3 := hf 3 _ rfl
      have h4 : DataW.trod enc Try.prog w base (fun _ => true) held m 50 (([c0, c1, c2, c3, c4].drop 4).take (Try.prog.cellsOf 50)) = some y4 := hf 4 _ rfl
      rw [hc3] at h0 h1
      rw [hc9] at h2 h3
      rw [hcA] at h4
      obtain ⟨n0, e0, _, w0⟩ := DataW.trod_int Try.underlying3 h0
      obtain ⟨n1, e1, _, w1⟩ := DataW.trod_int Try.underlying3 h1
      obtain ⟨s2, e2, _, l2⟩ := DataW.trod_string Try.underlying9 h2
      obtain ⟨s3, e3, _, l3⟩ := DataW.trod_string Try.underlying9 h3
      obtain ⟨A4, k4, l4, e4, hk4, hm4, hC4, _⟩ := open_rowK k52 (fun _ => True) Try.underlying50 (by kernel_rfl) (fun n cs x h => by obtain ⟨p, hp, _⟩ := el_attr h; exact ⟨p, hp, trivial⟩) h4
      obtain rfl : c0 = .int .i64 n0 := by simpa using e0
      obtain rfl : c1 = .int .i64 n1 := by simpa using e1
      obtain rfl : c2 = .string s2 := by simpa using e2
      obtain rfl : c3 = .string s3 := by simpa using e3
      obtain rfl : c4 = .slice A4 l4.length k4 := by simpa using e4
      exact ⟨⟨n0, n1, s2, s3, l4⟩, k54_mk w ⟨n0, n1, s2, s3, l4⟩ hk4 hC4, wf_range w0, wf_range w1, Nat.le_trans hk4 hm4⟩
def OpD (d : DataW H) (x : SOp) : Prop := ∃ a b c e f g h, d = .agg [a, b, c, e, f, .lit (.string x.f5.data.toList), g, h]
theorem el_op {n : Nat} {cs : List Value} {x : DataW H × List MemPlace} (h : DataW.trod enc Try.prog w base (fun _ => true) held n 25 cs = some x) : ∃ p : SOp, kOp.K w p cs ∧ OpD x.1 p := by
  obtain ⟨xs, m, _, hx, hlen, hxl, hf⟩ := DataW.trod_struct Try.underlying25 h
  have hl : cs.length = 8 := hlen.trans (by kernel_rfl)
  have hc9 : Try.prog.cellsOf 9 = 1 := by kernel_rfl
  have hc3 : Try.prog.cellsOf 3 = 1 := by kernel_rfl
  have hcR : Try.prog.cellsOf 23 = 1 := by kernel_rfl
  match cs, hl with
  | [c0, c1, c2, c3, c4, c5, c6, c7], _ =>
    match xs, hxl with
    | [y0, y1, y2, y3, y4, y5, y6, y7], _ =>
      have h0 : DataW.trod enc Try.prog w base (fun _ => true) held m 3 (([c0, c1, c2, c3, c4, c5, c6, c7].drop 0).take (Try.prog.cellsOf 3)) = some y0 := hf 0 _ rfl
      have h1 : DataW.trod enc Try.prog w base (fun _ => true) held m 3 (([c0, c1, c2, c3, c4, c5, c6, c7].drop 1).take (Try.prog.cellsOf 3)) = some y1 := hf 1 _ rfl
      have h2 : DataW.trod enc Try.prog w base (fun _ => true) held m 3 (([c0, c1, c2, c3, c4, c5, c6, c7].drop 2).take (Try.prog.cellsOf 3)) = some y2 := hf 2 _ rfl
      have h3 : DataW.trod enc Try.prog w base (fun _ => true) held m 3 (([c0, c1, c2, c3, c4, c5, c6, c7].drop 3).take (Try.prog.cellsOf 3)) = some y3 := hf 3 _ rfl
      have h4 : DataW.trod enc Try.prog w base (fun _ => true) held m 3 (([c0, c1, c2, c3, c4, c5, c6, c7].drop 4).take (Try.prog.cellsOf 3)) = some y4 := hf 4 _ rfl
      have h5 : DataW.trod enc Try.prog w base (fun _ => true) held m 9 (([c0, c1, c2, c3, c4, c5, c6, c7].drop 5).take (Try.prog.cellsOf 9)) = some y5 := hf 5 _ rfl
      have h6 : DataW.trod enc Try.prog w base (fun _ => true) held m 9 (([c0, c1, c2, c3, c4, c5, c6, c7].drop 6).take (Try.prog.cellsOf 9)) = some y6 := hf 6 _ rfl
      have h7 : DataW.trod enc Try.prog w base (fun _ => true) held m 23 (([c0, c1, c2, c3, c4, c5, c6, c7].drop 7).take (Try.prog.cellsOf 23)) = some y7 := hf 7 _ rfl
      rw [hc3] at h0 h1 h2 h3 h4
      rw [hc9] at h5 h6
      rw [hcR] at h7
      obtain ⟨n0, e0, _, _⟩ := DataW.trod_int Try.underlying3 h0
      obtain ⟨n1, e1, _, _⟩ := DataW.trod_int Try.underlying3 h1
      obtain ⟨n2, e2, _, _⟩ := DataW.trod_int Try.underlying3 h2
      obtain ⟨n3, e3, _, _⟩ := DataW.trod_int Try.underlying3 h3
      obtain ⟨n4, e4, _, _⟩ := DataW.trod_int Try.underlying3 h4
      obtain ⟨s5, e5, d5, _⟩ := DataW.trod_string Try.underlying9 h5
      obtain ⟨s6, e6, _, _⟩ := DataW.trod_string Try.underlying9 h6
      obtain ⟨A7, k7, l7, e7, hk7, _, hC7, _⟩ := open_rowK k54 RowIn Try.underlying23 (by kernel_rfl) (fun n cs x h => el_row h) h7
      obtain rfl : c0 = .int .i64 n0 := by simpa using e0
      obtain rfl : c1 = .int .i64 n1 := by simpa using e1
      obtain rfl : c2 = .int .i64 n2 := by simpa using e2
      obtain rfl : c3 = .int .i64 n3 := by simpa using e3
      obtain rfl : c4 = .int .i64 n4 := by simpa using e4
      obtain rfl : c5 = .string s5 := by simpa using e5
      obtain rfl : c6 = .string s6 := by simpa using e6
      obtain rfl : c7 = .slice A7 l7.length k7 := by simpa using e7
      exact ⟨⟨n0, n1, n2, n3, n4, s5, s6, l7⟩, kOp_mk w ⟨n0, n1, n2, n3, n4, s5, s6, l7⟩ hk7 hC7, y0.1, y1.1, y2.1, y3.1, y4.1, y6.1, y7.1, by rw [hx, d5]; rfl⟩
def OpsD (d : DataW H) (l : List SOp) : Prop := l = [] ∨ ∃ (D : Nat → DataW H) (sp : List (DataW H)), d = .slice ((List.range l.length).map D) sp ∧ ∀ (i : Nat) (h : i < l.length), OpD (D i) l[i]
/-- A script as an argument. -/
theorem open_ops {v : Value} {dd : DataW H} {p : List MemPlace} (hv : Value.okWide Try.prog w .any 0 22 v) (h : DataW.Trod enc Try.prog w base (fun _ => true) held 22 v dd p) :
    ∃ (A : Option Addr) (c : Nat) (l : List SOp), v = .slice A l.length c ∧ l.length ≤ c ∧ Kd.C kOp w A l.length l ∧ OpsD dd l := by
  obtain ⟨a, n, c, rfl⟩ := okWide_slice Try.underlying22 hv
  obtain ⟨fuel, hf⟩ := h
  obtain ⟨A, c', l, e, hc, _, hC, hOK⟩ := open_rowKD kOp OpD Try.underlying22 (by kernel_rfl) (fun n cs x h => el_op h) hf
  simp [Value.cells] at e
  obtain ⟨rfl, rfl, rfl⟩ := e
  exact ⟨_, _, l, rfl, hc, hC, hOK.imp (·.2) id⟩
theorem sized_ops {ts : List TypeId} {ds : List (DataW H)} {j : Nat} {dd : DataW H} {l : List SOp} (hsz : (DataW.weightsEach Try.prog ts ds).all (· ≤ reachBytes) = true) (ht : ts[j]? = some 22) (hd : ds[j]? = some dd) (h : OpsD dd l) : ∀ x ∈ l, x.f5.size ≤ 140737488351232 := by
  intro x hx
  rcases h with rfl | ⟨D, sp, e, hD⟩
  · cases hx
  · obtain ⟨i, hi, rfl⟩ := List.getElem_of_mem hx
    obtain ⟨a, b, c, e1, f, g, h, hagg⟩ := hD i hi
    have h1 : (l[i]'hi).f5.data.toList.length ∈ (D i).weights Try.prog 25 := by
      rw [hagg]
      unfold DataW.weights
      rw [Try.underlying25]
      refine DataW.weights_mem_each (j := 5) (t := 9) (d := .lit (.string (l[i]'hi).f5.data.toList)) (by kernel_rfl) rfl _ ?_
      unfold DataW.weights
      exact List.mem_singleton.2 rfl
    have h2 : (l[i]'hi).f5.data.toList.length ∈ dd.weights Try.prog 22 := by
      rw [e]
      unfold DataW.weights
      rw [Try.underlying22]
      exact List.mem_cons_of_mem _ (List.mem_append_left _ (weights_mem_all (List.mem_map.2 ⟨i, List.mem_range.2 hi, rfl⟩) _ h1))
    have h3 := List.all_eq_true.1 hsz _ (DataW.weights_mem_each ht hd _ h2)
    have h4 := of_decide_eq_true h3
    have h5 : (l[i]'hi).f5.size = (l[i]'hi).f5.data.toList.length := by simp
    rw [h5]
    exact h4
end
end Go.Proofs.Ytpkaliaaffgbdaa.QA
