-- Written by a program of this claim's own (wip/gen/lawrows.py); an ordinary proof text.
import Derived.Test.YtllggaogjcknoaaQAx0
import Derived.Deep.Slices
import Derived.Deep.Fields
import Derived.ChangeSame
import Derived.WalkKit
import Derived.ProofKit
import Derived.OpenShut
namespace Go.Proofs.Ytllggaogjcknoaa.QA
open Go.RowKit Go.Proofs.YtllggaogjcknoaaW.PrintWords Go.Proofs.YtllggaogjcknoaaW.PrintLast Go.Proofs.YtllggaogjcknoaaW.PrintMore
set_option linter.unusedVariables false
section
open Go.ChangeShapes Go.WideShapes Go.Deep
variable {H : Type} {enc : TypeId × Value → H} {w : World} {base : Nat} {held : Bool}
/-- A slice as an argument: a row of elements that are read. -/
theorem open_rowK {α : Type} [Inhabited α] (d : Kd α) (OK : α → Prop) {t e : TypeId} {fuel : Nat} {cs : List Value} {x : DataW H × List MemPlace} (ht : Try.prog.underlying t = some (.slice e)) (hsz : Try.prog.cellsOf e = d.sz)
    (hel : ∀ n cs x, DataW.trod enc Try.prog w base (fun _ => true) held n e cs = some x → ∃ p : α, d.K w p cs ∧ OK p)
    (h : DataW.trod enc Try.prog w base (fun _ => true) held fuel t cs = some x) :
    ∃ (A : Option Addr) (c : Nat) (l : List α), cs = [.slice A l.length c] ∧ l.length ≤ c ∧ c ≤ maxLen ∧ Kd.C d w A l.length l ∧ ∀ p ∈ l, OK p := by
  rcases open_slice ht h with ⟨rfl, _⟩ | ⟨a, len, cap, m, n, D, Pl, rfl, _, hl, hm, hmm, _, hi⟩
  · exact ⟨none, 0, [], rfl, Nat.le_refl _, Nat.zero_le _, ⟨rfl, by simp, fun h => absurd h (by simp)⟩, by simp⟩
  · have hlm : len ≤ m := by
      rw [hmm]
      split
      · exact hl
      · exact Nat.le_refl _
    have hch : ∀ i, ∃ p : α, i < len → OK p ∧ ∃ c, c.length = d.sz ∧ d.K w p c ∧ ∀ j u, c[j]? = some u → w.cell? (a.add (i * d.sz + j)) = some u := by
      intro i
      by_cases hil : i < len
      · obtain ⟨cs', hc, ht'⟩ := hi i (by omega)
        obtain ⟨p, hK, hOK⟩ := hel _ _ _ ht'
        obtain ⟨_, hcl, hat⟩ := World.cells?_some hc
        refine ⟨p, fun _ => ⟨hOK, cs', d.K_len hK, hK, fun j u hj => ?_⟩⟩
        have hjl : j < cs'.length := by
          rcases Nat.lt_or_ge j cs'.length with h' | h'
          · exact h'
          · rw [List.getElem?_eq_none h'] at hj; cases hj
        have h1 := hat j (by omega)
        rw [hsz] at h1
        rw [← Go.Deep.add_add, h1, hj]
      · exact ⟨default, fun h => absurd h hil⟩
    have hf := fun i => Classical.choose_spec (hch i)
    have hlen : ((List.range len).map fun i => Classical.choose (hch i)).length = len := by simp
    refine ⟨some a, cap, (List.range len).map fun i => Classical.choose (hch i), by rw [hlen], by rw [hlen]; exact hl, hm, ⟨rfl, ?_, fun _ => ⟨a, rfl, fun j p hj => ?_⟩⟩, ?_⟩
    · rw [hlen]; unfold maxLen at hm; omega
    · rw [List.getElem?_map] at hj
      obtain ⟨i, hi', rfl⟩ := Option.map_eq_some_iff.1 hj
      have hjl : j < len := by
        rcases Nat.lt_or_ge j len with h' | h'
        · exact h'
        · rw [List.getElem?_eq_none (by simpa using h')] at hi'; cases hi'
      rw [List.getElem?_range hjl] at hi'
      cases hi'
      obtain ⟨_, c, hc⟩ := hf j hjl
      exact ⟨c, hc⟩
    · intro p hp
      obtain ⟨i, hi', rfl⟩ := List.mem_map.1 hp
      exact (hf i (List.mem_range.1 hi')).1
theorem el_attr {n : Nat} {cs : List Value} {x : DataW H × List MemPlace} (h : DataW.trod enc Try.prog w base (fun _ => true) held n 46 cs = some x) : ∃ p : S46, k46.K w p cs ∧ (p.f0.size ≤ maxLen ∧ p.f1.size ≤ maxLen) := by
  obtain ⟨xs, m, _, _, hlen, hxl, hf⟩ := DataW.trod_struct Try.underlying46 h
  have hl : cs.length = 2 := hlen.trans (by kernel_rfl)
  have hc9 : Try.prog.cellsOf 9 = 1 := by kernel_rfl
  match cs, hl with
  | [c0, c1], _ =>
    match xs, hxl with
    | [y0, y1], _ =>
      have h0 : DataW.trod enc Try.prog w base (fun _ => true) held m 9 (([c0, c1].drop 0).take (Try.prog.cellsOf 9)) = some y0 := hf 0 _ rfl
      have h1 : DataW.trod enc Try.prog w base (fun _ => true) held m 9 (([c0, c1].drop 1).take (Try.prog.cellsOf 9)) = some y1 := hf 1 _ rfl
      rw [hc9] at h0 h1
      obtain ⟨s0, e0, _, l0⟩ := DataW.trod_string Try.underlying9 h0
      obtain ⟨s1, e1, _, l1⟩ := DataW.trod_string Try.underlying9 h1
      obtain rfl : c0 = .string s0 := by simpa using e0
      obtain rfl : c1 = .string s1 := by simpa using e1
      exact ⟨⟨s0, s1⟩, k46_mk w ⟨s0, s1⟩, l0, l1⟩
instance : Inhabited S46 := ⟨z46⟩
instance : Inhabited S43 := ⟨z43⟩
/-- What holds of any row that came in. -/
def RowIn (x : S43) : Prop := (-9223372036854775808 ≤ x.f0 ∧ x.f0 < 9223372036854775808) ∧ (-9223372036854775808 ≤ x.f1 ∧ x.f1 < 9223372036854775808) ∧ x.f4.length ≤ maxLen
theorem wf_range {n : Int} (h : (Lit.int .i64 n).wf = true) : -9223372036854775808 ≤ n ∧ n < 9223372036854775808 := by
  simp [Lit.wf] at h
  have e0 : IntKind.i64.min = -9223372036854775808 := by decide
  rw [e0] at h
  omega
theorem el_row {n : Nat} {cs : List Value} {x : DataW H × List MemPlace} (h : DataW.trod enc Try.prog w base (fun _ => true) held n 43 cs = some x) : ∃ p : S43, k43.K w p cs ∧ RowIn p := by
  obtain ⟨xs, m, _, _, hlen, hxl, hf⟩ := DataW.trod_struct Try.underlying43 h
  have hl : cs.length = 5 := hlen.trans (by kernel_rfl)
  have hc9 : Try.prog.cellsOf 9 = 1 := by kernel_rfl
  have hc3 : Try.prog.cellsOf 3 = 1 := by kernel_rfl
  have hcA : Try.prog.cellsOf 41 = 1 := by kernel_rfl
  match cs, hl with
  | [c0, c1, c2, c3, c4], _ =>
    match xs, hxl with
    | [y0, y1, y2, y3, y4], _ =>
      have h0 : DataW.trod enc Try.prog w base (fun _ => true) held m 3 (([c0, c1, c2, c3, c4].drop 0).take (Try.prog.cellsOf 3)) = some y0 := hf 0 _ rfl
      have h1 : DataW.trod enc Try.prog w base (fun _ => true) held m 3 (([c0, c1, c2, c3, c4].drop 1).take (Try.prog.cellsOf 3)) = some y1 := hf 1 _ rfl
      have h2 : DataW.trod enc Try.prog w base (fun _ => true) held m 9 (([c0, c1, c2, c3, c4].drop 2).take (Try.prog.cellsOf 9)) = some y2 := hf 2 _ rfl
      have h3 : DataW.trod enc Try.prog w base (fun _ => true) held m 9 (([c0, c1, c2, c3, c4].drop 3).take (Try.prog.cellsOf 9)) = some y3 := hf 3 _ rfl
      have h4 : DataW.trod enc Try.prog w base (fun _ => true) held m 41 (([c0, c1, c2, c3, c4].drop 4).take (Try.prog.cellsOf 41)) = some y4 := hf 4 _ rfl
      rw [hc3] at h0 h1
      rw [hc9] at h2 h3
      rw [hcA] at h4
      obtain ⟨n0, e0, _, w0⟩ := DataW.trod_int Try.underlying3 h0
      obtain ⟨n1, e1, _, w1⟩ := DataW.trod_int Try.underlying3 h1
      obtain ⟨s2, e2, _, l2⟩ := DataW.trod_string Try.underlying9 h2
      obtain ⟨s3, e3, _, l3⟩ := DataW.trod_string Try.underlying9 h3
      obtain ⟨A4, k4, l4, e4, hk4, hm4, hC4, _⟩ := open_rowK k46 (fun _ => True) Try.underlying41 (by kernel_rfl) (fun n cs x h => by obtain ⟨p, hp, _⟩ := el_attr h; exact ⟨p, hp, trivial⟩) h4
      obtain rfl : c0 = .int .i64 n0 := by simpa using e0
      obtain rfl : c1 = .int .i64 n1 := by simpa using e1
      obtain rfl : c2 = .string s2 := by simpa using e2
      obtain rfl : c3 = .string s3 := by simpa using e3
      obtain rfl : c4 = .slice A4 l4.length k4 := by simpa using e4
      exact ⟨⟨n0, n1, s2, s3, l4⟩, k43_mk w ⟨n0, n1, s2, s3, l4⟩ hk4 hC4, wf_range w0, wf_range w1, Nat.le_trans hk4 hm4⟩
/-- Rows as an argument. -/
theorem open_rows {v : Value} {dd : DataW H} {p : List MemPlace} (hv : Value.okWide Try.prog w .any 0 22 v) (h : DataW.Trod enc Try.prog w base (fun _ => true) held 22 v dd p) :
    ∃ (A : Option Addr) (c : Nat) (l : List S43), v = .slice A l.length c ∧ l.length ≤ c ∧ Kd.C k43 w A l.length l ∧ ∀ x ∈ l, RowIn x := by
  obtain ⟨a, n, c, rfl⟩ := okWide_slice Try.underlying22 hv
  obtain ⟨fuel, hf⟩ := h
  obtain ⟨A, c', l, e, hc, _, hC, hOK⟩ := open_rowK k43 RowIn Try.underlying22 (by kernel_rfl) (fun n cs x h => el_row h) hf
  simp [Value.cells] at e
  obtain ⟨rfl, rfl, rfl⟩ := e
  exact ⟨_, _, l, rfl, hc, hC, hOK⟩
end
end Go.Proofs.Ytllggaogjcknoaa.QA
