-- Written by a program of this claim's own (wip/gen/lawrows.py); an ordinary proof text.
import Derived.Test.YtllggaogjcknoaaQAOpen
import Derived.WideShapes
import Derived.ChangeArms
namespace Go.Proofs.Ytllggaogjcknoaa.QA
open Go.RowKit Go.Proofs.YtllggaogjcknoaaW.PrintWords Go.Proofs.YtllggaogjcknoaaW.PrintLast Go.Proofs.YtllggaogjcknoaaW.PrintMore
set_option linter.unusedVariables false
section
open Go.ChangeShapes Go.WideShapes Go.Deep
variable {H : Type} {enc : TypeId × Value → H} {w : World} {base : Nat} {held : Bool}
/-- A place as an argument: rows, further rows, a node, a kid's number. -/
theorem open_place {v : Value} {dd : DataW H} {p : List MemPlace} (hv : Value.okWide Try.prog w .any 0 37 v) (h : DataW.Trod enc Try.prog w base (fun _ => true) held 37 v dd p) :
    ∃ (A0 : Option Addr) (c0 : Nat) (l0 : List S43) (A1 : Option Addr) (c1 : Nat) (l1 : List S43) (a2 a3 : Int), v = .agg #[.slice A0 l0.length c0, .slice A1 l1.length c1, .int .i64 a2, .int .i64 a3] ∧
      l0.length ≤ c0 ∧ Kd.C k43 w A0 l0.length l0 ∧ (∀ x ∈ l0, RowIn x) ∧ l1.length ≤ c1 ∧ Kd.C k43 w A1 l1.length l1 ∧ (∀ x ∈ l1, RowIn x) ∧ (-9223372036854775808 ≤ a2 ∧ a2 < 9223372036854775808) ∧ (-9223372036854775808 ≤ a3 ∧ a3 < 9223372036854775808) := by
  obtain ⟨cs, rfl, hcs⟩ := okWide_struct Try.underlying37 hv
  obtain ⟨fuel, hf⟩ := h
  obtain ⟨xs, m, _, _, hlen, hxl, hf⟩ := DataW.trod_struct Try.underlying37 hf
  have hc3 : Try.prog.cellsOf 3 = 1 := by kernel_rfl
  have hcR : Try.prog.cellsOf 22 = 1 := by kernel_rfl
  have hsz : cs.size = 4 := hcs.trans (by kernel_rfl)
  have hx4 : xs.length = 4 := hxl
  obtain ⟨L, rfl⟩ : ∃ L : List Value, cs = L.toArray := ⟨cs.toList, by simp⟩
  have hl : L.length = 4 := by simpa using hsz
  simp only [Value.cells] at hf hlen
  match L, hl with
  | [c0, c1, c2, c3], _ =>
    match xs, hx4 with
    | [y0, y1, y2, y3], _ =>
      have h0 : DataW.trod enc Try.prog w base (fun _ => true) held m 22 (([c0, c1, c2, c3].drop 0).take (Try.prog.cellsOf 22)) = some y0 := hf 0 _ rfl
      have h1 : DataW.trod enc Try.prog w base (fun _ => true) held m 22 (([c0, c1, c2, c3].drop 1).take (Try.prog.cellsOf 22)) = some y1 := hf 1 _ rfl
      have h2 : DataW.trod enc Try.prog w base (fun _ => true) held m 3 (([c0, c1, c2, c3].drop 2).take (Try.prog.cellsOf 3)) = some y2 := hf 2 _ rfl
      have h3 : DataW.trod enc Try.prog w base (fun _ => true) held m 3 (([c0, c1, c2, c3].drop 3).take (Try.prog.cellsOf 3)) = some y3 := hf 3 _ rfl
      rw [hcR] at h0 h1
      rw [hc3] at h2 h3
      obtain ⟨A0, k0, l0, e0, hk0, _, hC0, hO0⟩ := open_rowK k43 RowIn Try.underlying22 (by kernel_rfl) (fun n cs x h => el_row h) h0
      obtain ⟨A1, k1, l1, e1, hk1, _, hC1, hO1⟩ := open_rowK k43 RowIn Try.underlying22 (by kernel_rfl) (fun n cs x h => el_row h) h1
      obtain ⟨n2, e2, _, w2⟩ := DataW.trod_int Try.underlying3 h2
      obtain ⟨n3, e3, _, w3⟩ := DataW.trod_int Try.underlying3 h3
      obtain rfl : c0 = .slice A0 l0.length k0 := by simpa using e0
      obtain rfl : c1 = .slice A1 l1.length k1 := by simpa using e1
      obtain rfl : c2 = .int .i64 n2 := by simpa using e2
      obtain rfl : c3 = .int .i64 n3 := by simpa using e3
      exact ⟨A0, k0, l0, A1, k1, l1, n2, n3, rfl, hk0, hC0, hO0, hk1, hC1, hO1, wf_range w2, wf_range w3⟩
end
end Go.Proofs.Ytllggaogjcknoaa.QA
