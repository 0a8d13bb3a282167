-- Written by a program of this claim's own (wip/gen/lawrows.py); an ordinary proof text.
import Derived.Test.YtllggaogjcknoaaRows
import Derived.Test.YtllggaogjcknoaaQAx22
import Derived.Test.YtllggaogjcknoaaQAOpen2
import Derived.Test.YtllggaogjcknoaaPureRowsPlaces
import Derived.WalkKit
import Derived.ProofKit
import Derived.OpenShut
import Derived.ShutString
import Derived.ChangeOld
import Derived.Below
import Derived.SizedLaws
import Derived.Carry
import Derived.JoinedCond
import Derived.Lib.SmallJoins
namespace Go.Proofs.Ytllggaogjcknoaa.rowsPlaces
open Go.ChangeShapes Go.WideShapes Go.ChangeAt Go.RowKit Go.Deep Go.Joins
open Go.ChangeMaps (open_string shut_string)
set_option linter.unusedVariables false
theorem own : ownKnob Try.prog.godebug = none := by kernel_rfl
theorem laidOut : laidOutB Try.prog = true := by kernel_rfl
/-- All the texts of rows that came in are no longer than what they are of bulk. -/
theorem bulk_ge {H : Type} : ∀ (l : List QA.S43) (E : List (DataW H)), (∀ (i : Nat) (h : i < l.length), ∃ a b c e, E[i]? = some (.agg [a, b, c, .lit (.string l[i].f3.data.toList), e])) → (l.map fun x => x.f3.size).sum ≤ Rows.uptoBulkAll E
  | [], _, _ => by simp
  | x :: l, [], h => by obtain ⟨a, b, c, e, h⟩ := h 0 (by simp); simp at h
  | x :: l, d :: E, h => by
    obtain ⟨a, b, c, e, h0⟩ := h 0 (by simp)
    have ih := bulk_ge l E fun i hi => by
      obtain ⟨a, b, c, e, h1⟩ := h (i + 1) (by simp; omega)
      exact ⟨a, b, c, e, by simpa using h1⟩
    obtain rfl : d = .agg [a, b, c, .lit (.string x.f3.data.toList), e] := by simpa using h0
    have h5 : x.f3.size = x.f3.data.toList.length := by simp
    simp only [List.map_cons, List.sum_cons, Rows.uptoBulkAll, Rows.uptoBulk]
    omega
theorem bulk_rows {H : Type} {dd : DataW H} {l : List QA.S43} (h : QA.RowsD dd l) : (l.map fun x => x.f3.size).sum ≤ Rows.uptoBulk dd := by
  rcases h with rfl | ⟨D, sp, rfl, hD⟩
  · simp
  · have := bulk_ge l ((List.range l.length).map D) fun i hi => by
      obtain ⟨_, a, b, c, e, h⟩ := hD i hi
      exact ⟨a, b, c, e, by simp [hi, h]⟩
    simp only [Rows.uptoBulk]
    omega
set_option maxRecDepth 100000 in
theorem lifted (os : Os) (started : os.Started) (H : Type) (enc : TypeId × Value → H) (F0 : Stop.Interp) :
    ReturnsInHanded {} Try.checked os 4 .any ((Rows.OpenSpec.upto Rows.rowsPlacesSpec).pre6 enc Try.prog Try.f4 Rows.rowsPlacesUptoRow.domain false) (((Rows.OpenSpec.upto Rows.rowsPlacesSpec).at F0).post enc Try.prog Try.f4 false true false false) := by
  refine returnsInHanded_of_cond (C := Try.checked) (s := (Rows.OpenSpec.upto Rows.rowsPlacesSpec)) (k := Rows.uptoSmall) rfl own started (by kernel_rfl) Try.func4
    (OpenSpec.witness (enc := enc) (C := Try.checked) (s := (Rows.OpenSpec.upto Rows.rowsPlacesSpec)) (k := Rows.uptoSmall) rfl false ⟨#[], #[.slice none 0 0, .int .i64 0], []⟩ 8 (by kernel_rfl) (by kernel_rfl) (by kernel_rfl) (x := ([.nil, .lit (.int .i64 0)], [], [])) (by kernel_rfl) (by kernel_rfl) (by kernel_rfl)) ?_
  intro W base args ds gs before hval0 hW hcnd hblk0 _
  have hval : ∀ (j : Nat) t v, Try.f4.params[j]? = some t → args[j]? = some v → Value.okWide Try.prog W .any base t v := hval0
  have hW' := hW
  obtain ⟨p, q, hA0, hV, rfl, hfz, hnd⟩ := hW
  have hA : DataW.TrodAll enc Try.prog W 0 (fun _ => true) true Try.f4.params.toList args.toList ds p := hA0
  rw [Try.params4] at hA hval
  obtain ⟨v0, vs0, d0, ds0, p0, q0, hargs, rfl, rfl, h0, r0⟩ := trodAll_cons hA
  obtain ⟨v1, vs1, d1, ds1, p1, q1, rfl, rfl, rfl, h1, r1⟩ := trodAll_cons r0
  obtain ⟨rfl, rfl, rfl⟩ := trodAll_nil r1
  obtain rfl : args = #[v0, v1] := by cases args; simp_all
  obtain ⟨rfl, rfl⟩ := trodVars_none hV
  have k0 := h0
  have lt0 : ∀ x ∈ p0, x.block < W.heap.size := by obtain ⟨m, hm⟩ := k0; exact DataW.trod_lt m _ _ _ hm
  obtain ⟨A0, c0, l0, rfl, hc0, hr0, hi0, hD0⟩ := QA.open_rowsD (hval 0 22 v0 rfl rfl) h0
  obtain ⟨a1, rfl, rfl, rfl, w1⟩ := open_int Try.underlying3 (hval 1 3 v1 rfl rfl) h1
  have hblk : Rows.uptoBulkAll [d0, _] ≤ 1048576 := of_decide_eq_true hblk0
  have hs0 : (l0.map fun x => x.f3.size).sum ≤ 1048576 := by have h_ := bulk_rows hD0; simp only [Rows.uptoBulkAll] at hblk; omega
  clear hA0 hval0 hblk0 hblk
  obtain ⟨k, hk⟩ := Pure.RowsPlaces l0 hi0 hs0 a1 (QA.wf_range w1)
  refine (QA.boltinglaw04_RowsPlaces.calls k A0 c0 l0 a1 true W hr0 hc0 hk).mono fun e W' ⟨he, bel⟩ => ?_
  subst he
  exact ⟨_, rfl, _, _, _, [], _, [], hW', trodAll_mk1 (shut_bool Try.underlying4 _), (trodAll_cons_mk (Below.trod laidOut (by kernel_rfl) (of_decide_eq_true (by kernel_rfl)) k0 bel lt0) (trodAll_cons_mk (shut_int Try.underlying3 w1) trodAll_mk0)), rfl, bel.frame _, fun h => by cases h⟩
theorem over : Rows.rowsPlacesUptoRow.holds Try.pinned (Rows.OpenSpec.upto Rows.rowsPlacesSpec) :=
  OpenClaim.holds_of_cond 4 Try.f4 rfl rfl rfl rfl rfl rfl rfl ⟨rfl, rfl, rfl, rfl, rfl⟩ rfl rfl rfl rfl rfl (by kernel_rfl) Try.func4 (by kernel_rfl)
    (of_decide_eq_true (by kernel_rfl)) (by unfold Func.isWrapper; first | (rw [if_pos (by decide +kernel)]; kernel_rfl) | (rw [if_neg (by decide +kernel)]; exact ⟨rfl, rfl⟩))
    (fun os started H enc _ F0 => lifted os started H enc F0)
theorem proved : Rows.RowsPlacesUptoSaid := over
#print axioms proved
end Go.Proofs.Ytllggaogjcknoaa.rowsPlaces
namespace Go.Proofs.Ytllggaogjcknoaa
/-- The row, under a short name, for the claim. -/
theorem rowsPlaces_holds : Rows.RowsPlacesUptoSaid := rowsPlaces.proved
end Go.Proofs.Ytllggaogjcknoaa
