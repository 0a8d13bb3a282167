/- []string as an argument: each text, its weight. -/
import Derived.Test.YtpkaliaaffgbdaaD13
import Derived.Deep.Slices
import Derived.Deep.Fields
import Derived.ChangeSame
import Derived.WalkKit
import Derived.ProofKit
import Derived.OpenShut
import Derived.SizedLaws
namespace Go.Proofs.Ytpkaliaaffgbdaa.QA
open Go.RowKit Go.Proofs.YtpkaliaaffgbdaaW.PrintWords Go.Proofs.YtpkaliaaffgbdaaW.PrintLast Go.Proofs.YtpkaliaaffgbdaaW.PrintMore
attribute [local go_sem] max2_int min2_int max_two min_two max_three min_three max_four min_four   -- for this text's walks alone
set_option linter.unusedVariables false
set_option linter.unusedSimpArgs false

set_option maxRecDepth 100000
open Go
section
open Go.ChangeShapes Go.WideShapes Go.Deep
variable {H : Type} {enc : TypeId × Value → H} {w : World} {base : Nat} {held : Bool}
/-- A slice as an argument: a row of elements that are read, each with its datum. -/
theorem open_rowKD {α : Type} [Inhabited α] (d : Kd α) (OK : DataW H → α → Prop) {t e : TypeId} {fuel : Nat} {cs : List Value} {x : DataW H × List MemPlace} (ht : Try.prog.underlying t = some (.slice e)) (hsz : Try.prog.cellsOf e = d.sz)
    (hel : ∀ n cs x, DataW.trod enc Try.prog w base (fun _ => true) held n e cs = some x → ∃ p : α, d.K w p cs ∧ OK x.1 p)
    (h : DataW.trod enc Try.prog w base (fun _ => true) held fuel t cs = some x) :
    ∃ (A : Option Addr) (c : Nat) (l : List α), cs = [.slice A l.length c] ∧ l.length ≤ c ∧ c ≤ maxLen ∧ Kd.C d w A l.length l ∧
      ((x.1 = .nil ∧ l = []) ∨ ∃ (D : Nat → DataW H) (sp : List (DataW H)), x.1 = .slice ((List.range l.length).map D) sp ∧ ∀ (i : Nat) (h : i < l.length), OK (D i) l[i]) := by
  rcases open_slice ht h with ⟨rfl, rfl⟩ | ⟨a, len, cap, m, n, D, Pl, rfl, _, hl, hm, hmm, hxx, hi⟩
  · exact ⟨none, 0, [], rfl, Nat.le_refl _, Nat.zero_le _, ⟨rfl, by simp, fun h => absurd h (by simp)⟩, .inl ⟨rfl, rfl⟩⟩
  · have hlm : len ≤ m := by
      rw [hmm]
      split
      · exact hl
      · exact Nat.le_refl _
    have hch : ∀ i, ∃ p : α, i < len → OK (D i) p ∧ ∃ c, c.length = d.sz ∧ d.K w p c ∧ ∀ j u, c[j]? = some u → w.cell? (a.add (i * d.sz + j)) = some u := by
      intro i
      by_cases hil : i < len
      · obtain ⟨cs', hc, ht'⟩ := hi i (by omega)
        obtain ⟨p, hK, hOK⟩ := hel _ _ _ ht'
        obtain ⟨_, hcl, hat⟩ := World.cells?_some hc
        refine ⟨p, fun _ => ⟨hOK, cs', d.K_len hK, hK, fun j u hj => ?_⟩⟩
        have hjl : j < cs'.length := by
          rcases Nat.lt_or_ge j cs'.length with h' | h'
          · exact h'
          · rw [List.getElem?_eq_none h'] at hj; cases hj
        have h1 := hat j (by omega)
        rw [hsz] at h1
        rw [← Go.Deep.add_add, h1, hj]
      · exact ⟨default, fun h => absurd h hil⟩
    have hf := fun i => Classical.choose_spec (hch i)
    have hlen : ((List.range len).map fun i => Classical.choose (hch i)).length = len := by simp
    refine ⟨some a, cap, (List.range len).map fun i => Classical.choose (hch i), by rw [hlen], by rw [hlen]; exact hl, hm, ⟨rfl, ?_, fun _ => ⟨a, rfl, fun j p hj => ?_⟩⟩, .inr ⟨D, _, by rw [hxx, hlen], fun i h => ?_⟩⟩
    · rw [hlen]; unfold maxLen at hm; omega
    · rw [List.getElem?_map] at hj
      obtain ⟨i, hi', rfl⟩ := Option.map_eq_some_iff.1 hj
      have hjl : j < len := by
        rcases Nat.lt_or_ge j len with h' | h'
        · exact h'
        · rw [List.getElem?_eq_none (by simpa using h')] at hi'; cases hi'
      rw [List.getElem?_range hjl] at hi'
      cases hi'
      obtain ⟨_, c, hc⟩ := hf j hjl
      exact ⟨c, hc⟩
    · rw [hlen] at h
      rw [List.getElem_map, List.getElem_range]
      exact (hf i h).1
/-- Texts stand in their datum. -/
def TextD (d : DataW H) (x : ByteArray) : Prop := d = .lit (.string x.data.toList)
theorem el_text {n : Nat} {cs : List Value} {x : DataW H × List MemPlace} (h : DataW.trod enc Try.prog w base (fun _ => true) held n 9 cs = some x) : ∃ p : ByteArray, Kd.string.K w p cs ∧ TextD x.1 p := by
  obtain ⟨s, rfl, rfl, _⟩ := DataW.trod_string Try.underlying9 h
  exact ⟨s, rfl, rfl⟩
def TextsD (d : DataW H) (l : List ByteArray) : Prop := l = [] ∨ ∃ (D : Nat → DataW H) (sp : List (DataW H)), d = .slice ((List.range l.length).map D) sp ∧ ∀ (i : Nat) (h : i < l.length), TextD (D i) l[i]
theorem open_texts {v : Value} {dd : DataW H} {p : List MemPlace} (hv : Value.okWide Try.prog w .any 0 49 v) (h : DataW.Trod enc Try.prog w base (fun _ => true) held 49 v dd p) :
    ∃ (A : Option Addr) (c : Nat) (l : List ByteArray), v = .slice A l.length c ∧ l.length ≤ c ∧ Kd.C Kd.string w A l.length l ∧ TextsD dd l := by
  obtain ⟨a, n, c, rfl⟩ := okWide_slice Try.underlying49 hv
  obtain ⟨fuel, hf⟩ := h
  obtain ⟨A, c', l, e, hc, _, hC, hOK⟩ := open_rowKD Kd.string TextD Try.underlying49 (by kernel_rfl) (fun n cs x h => el_text h) hf
  simp [Value.cells] at e
  obtain ⟨rfl, rfl, rfl⟩ := e
  exact ⟨_, _, l, rfl, hc, hC, hOK.imp (·.2) id⟩
theorem weights_mem_all {P : Program} {e : TypeId} : ∀ {ds : List (DataW H)} {d : DataW H}, d ∈ ds → ∀ n ∈ d.weights P e, n ∈ DataW.weightsAll P e ds
  | [], _, h, _, _ => by cases h
  | d' :: ds, d, h, n, hn => by
    unfold DataW.weightsAll
    rcases List.mem_cons.1 h with rfl | h
    · exact List.mem_append_left _ hn
    · exact List.mem_append_right _ (weights_mem_all h n hn)
theorem sized_texts {ts : List TypeId} {ds : List (DataW H)} {j : Nat} {dd : DataW H} {l : List ByteArray} (hsz : (DataW.weightsEach Try.prog ts ds).all (· ≤ reachBytes) = true) (ht : ts[j]? = some 49) (hd : ds[j]? = some dd) (h : TextsD dd l) : ∀ x ∈ l, x.size ≤ 140737488351232 := by
  intro x hx
  rcases h with rfl | ⟨D, sp, e, hD⟩
  · cases hx
  · obtain ⟨i, hi, rfl⟩ := List.getElem_of_mem hx
    have h1 : (l[i]'hi).data.toList.length ∈ (D i).weights Try.prog 9 := by
      rw [hD i hi]
      unfold DataW.weights
      exact List.mem_singleton.2 rfl
    have h2 : (l[i]'hi).data.toList.length ∈ dd.weights Try.prog 49 := by
      rw [e]
      unfold DataW.weights
      rw [Try.underlying49]
      exact List.mem_cons_of_mem _ (List.mem_append_left _ (weights_mem_all (List.mem_map.2 ⟨i, List.mem_range.2 hi, rfl⟩) _ h1))
    have h3 := List.all_eq_true.1 hsz _ (DataW.weights_mem_each ht hd _ h2)
    have h4 := of_decide_eq_true h3
    have h5 : (l[i]'hi).size = (l[i]'hi).data.toList.length := by simp
    rw [h5]
    exact h4
end
end Go.Proofs.Ytpkaliaaffgbdaa.QA
