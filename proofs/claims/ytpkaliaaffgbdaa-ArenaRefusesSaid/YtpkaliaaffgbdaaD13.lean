/- The law ArenaAttrs. -/
import Derived.Test.YtpkaliaaffgbdaaD11
import Derived.Test.YtpkaliaaffgbdaaD12
namespace Go.Proofs.Ytpkaliaaffgbdaa.QA
open Go.RowKit Go.Proofs.YtpkaliaaffgbdaaW.PrintWords Go.Proofs.YtpkaliaaffgbdaaW.PrintLast Go.Proofs.YtpkaliaaffgbdaaW.PrintMore
attribute [local go_sem] max2_int min2_int max_two min_two max_three min_three max_four min_four   -- for this text's walks alone
set_option linter.unusedVariables false
set_option linter.unusedSimpArgs false
def reg5_27.T : Bool × List (List Nat × List Nat) := (true, [([], []), ([0], [0]), ([], []), ([], []), ([3], [3]), ([2, 4], [2, 4]), ([1, 5], [1, 5]), ([6], [6])])
def reg5_27.B : List Nat := [0, 1, 0, 0, 8, 28, 63, 127]
theorem reg5_27.tab : rtab .any (opsOf Try.f5 27) = reg5_27.T := by kernel_rfl
theorem reg5_27.bits : waitsOk reg5_27.T.2 reg5_27.B = true := by kernel_rfl

open Go
def aDoc (l : List S52) : List S79 := [⟨z54, -1, []⟩, ⟨⟨0, 0, ⟨#[98]⟩, ⟨#[]⟩, l⟩, -1, []⟩]
theorem aMay : arena_may.f 99 0 ⟨#[98]⟩ ⟨#[]⟩ = some true := by kernel_rfl
theorem aMake : makeR newDoc true 0 ⟨#[98]⟩ ⟨#[]⟩ = (1, 0, aDoc []) := by kernel_rfl
theorem aFit (l : List S52) (h : l.length < 100000) : Fit (aDoc l) := by
  refine fit_of ?_
  simp only [fitB, aDoc, List.length_cons, List.length_nil, List.all_eq_true, List.mem_range, Bool.and_eq_true]
  refine ⟨fun i hi => ?_, by simp⟩
  match i, hi with
  | 0, _ => exact ⟨⟨rfl, rfl⟩, rfl⟩
  | 1, _ => exact ⟨⟨rfl, rfl⟩, decide_eq_true h⟩
theorem aElem (l : List S52) : elemB (aDoc l) 1 = true := decide_eq_true ⟨by decide, by simp [aDoc], rfl⟩
theorem aAttr_no (l : List S52) (k : Nat) (n v : ByteArray) (h : names_Attr.f k n = some false) : attrR (aDoc l) k 1 n v = some (1, aDoc l) := by
  unfold attrR
  rw [if_neg (by rw [aElem]; decide), h]
theorem aAttr_ok (l : List S52) (k : Nat) (n v : ByteArray) (h : names_Attr.f k n = some true) : attrR (aDoc l) k 1 n v = some (0, aDoc (setAttr l n v)) := by
  unfold attrR
  rw [if_neg (by rw [aElem]; decide), h]
  rfl
theorem aDrop (x : S52) (l : List S52) : dropR (aDoc (x :: l)) 1 x.f0 = (0, aDoc l) := by
  have h : idxA x.f0 0 (x :: l) = 0 := by simp [idxA]
  unfold dropR
  show (if elemB (aDoc (x :: l)) 1 = false then _ else if idxA x.f0 0 (x :: l) < 0 then _ else ((0 : Int), (aDoc (x :: l)).set 1 (withAttrs (rd_T79 (aDoc (x :: l)) 1) ((x :: l).eraseIdx (idxA x.f0 0 (x :: l)).toNat)))) = _
  rw [h, if_neg (by rw [aElem]; decide), if_neg (by decide)]
  rfl
theorem wrapJ {j n : Nat} (h : j < n) (hn : n < 1000) : (wrap64 ((j : Int) + 1)).toNat = j + 1 ∧ 0 ≤ wrap64 ((j : Int) + 1) ∧ wrap64 ((j : Int) + 1) ≤ (n : Int) := by
  rw [wrap1 (by omega)]
  omega
/-- A name is had. -/
def hadA (n : ByteArray) (l : List S52) : Bool := l.any fun a => a.f0.toList == n.toList
theorem hadA_iff (n : ByteArray) (l : List S52) : hadA n l = true ↔ ∃ a ∈ l, a.f0 = n := by
  simp only [hadA, List.any_eq_true, bytes_beq, decide_eq_true_iff]
theorem setAttr_len (n v : ByteArray) : ∀ l : List S52, (setAttr l n v).length ≤ l.length + 1
  | [] => by simp [setAttr]
  | a :: l => by
    have := setAttr_len n v l
    simp only [setAttr]
    split <;> simp <;> omega
theorem setAttr_twice (n u v : ByteArray) : ∀ l : List S52, (∀ a ∈ l, a.f1 = v) → setAttr (setAttr l n u) n v = if hadA n l = true then l else l ++ [⟨n, v⟩]
  | [], _ => by simp [setAttr, hadA]
  | a :: l, h => by
    have ih := setAttr_twice n u v l fun b hb => h b (List.mem_cons_of_mem _ hb)
    have ha := h a List.mem_cons_self
    have hh : hadA n (a :: l) = (decide (a.f0 = n) || hadA n l) := by simp only [hadA, List.any_cons, bytes_beq]
    rw [hh]
    by_cases e : a.f0 = n
    · simp only [setAttr]
      rw [if_pos e, if_pos (by simp [e])]
      simp only [setAttr]
      rw [if_pos e, ← ha]
    · simp only [setAttr]
      rw [if_neg e]
      simp only [setAttr]
      rw [if_neg e, ih, decide_eq_false e, Bool.false_or]
      split <;> rfl
theorem hadA_take (n : ByteArray) (l : List S52) (j : Nat) (h : j < l.length) : hadA n (l.take (j + 1)) = (hadA n (l.take j) || (l[j].f0.toList == n.toList)) := by
  simp only [hadA, List.take_add_one, List.any_append, List.getElem?_eq_getElem h, Option.toList_some, List.any_cons, List.any_nil, Bool.or_false]
/-- The law's document beside its list of what is to be there. -/
def AInv (w W : World) (g : Nat) (xs : List S79) (v : Value) (l : List S52) : Prop := ∃ ok, St w W ok g xs ∧ Kd.R k52 52 W 0 (fun k => ¬ ok k ∧ w.heap.size ≤ k) v l
section
variable {w W W' : World} {g : Nat} {xs ys : List S79} {v : Value} {l : List S52}
theorem AInv.has (h : AInv w W g xs v l) : Has w W g xs := h.imp fun _ h => h.1
theorem AInv.quiet (h : AInv w W g xs v l) (hb : Below W.heap.size W W') : AInv w W' g xs v l := h.imp fun _ h => ⟨h.1.quiet hb, Kd.R_below h.2 hb⟩
theorem AInv.via {f : Nat} {args : Array Value} {P : Ending → Prop} (h : AInv w W g xs v l) (hc : ∀ ok, IsDoc W ok g xs → Calls Try.prog f args W fun e w' => P e ∧ To W w' ok g ys) : Calls Try.prog f args W fun e w' => P e ∧ AInv w w' g ys v l := by
  obtain ⟨ok, hs, hR⟩ := h
  refine (hc ok hs.doc).mono fun e w' ⟨h1, h2⟩ => ⟨h1, ?_⟩
  obtain ⟨ok', h3, h4⟩ := hs.op h2
  exact ⟨ok', h3, Kd.R_mono (Kd.R_step (Kd.R_bound hR) fun k hk hl => (h4 k hl hk.1.1).1) fun k hk => ⟨(h4 k hk.2.2.1 hk.1.1).2, hk.1.2⟩⟩
theorem AInv.row {d : List S52} (h : AInv w W g (aDoc d) v l) (hl : d.length < 100000) : Calls Try.prog 25 #[.pointer (some ⟨g, 0, none⟩), .int .i64 1] W fun e w' => ∃ A c, e = .returned (.tuple #[.agg #[.int .i64 0, .int .i64 0, .string ⟨#[98]⟩, .string ⟨#[]⟩, .slice A d.length c], .int .i64 0]) ∧ (d.length ≤ c ∧ Kd.C k52 w' A d.length d) ∧ AInv w w' g (aDoc d) v l ∧ Below W.heap.size W w' := by
  obtain ⟨ok, hs, hR⟩ := h
  refine (Doc_Row hs.doc 1 (by simp [aDoc]) (show d.length < 4398046511104 by omega)).mono ?_
  rintro e w' ⟨v4, rfl, hR4, hB⟩
  obtain ⟨A, c, rfl⟩ := Kd.R_slice hR4
  exact ⟨A, c, rfl, (Kd.R_reads' hR4).2, ⟨ok, hs.quiet hB, Kd.R_below hR hB⟩, hB⟩
theorem AInv.reads {A : Option Addr} {n c : Nat} (h : AInv w W g xs (.slice A n c) l) : n = l.length ∧ n ≤ c ∧ Kd.C k52 W A l.length l := by
  obtain ⟨ok, _, hR⟩ := h
  exact Kd.R_reads' hR
theorem AInv.slice (h : AInv w W g xs v l) : ∃ A c, v = .slice A l.length c := by
  obtain ⟨ok, _, hR⟩ := h
  exact Kd.R_slice hR
theorem AInv.grow (h : AInv w W g xs v l) (p : S52) : ∃ ok : Nat → Prop, (Kd.R k52 52 W 0 (fun k => ¬ ok k ∧ w.heap.size ≤ k) v l ∧ ∀ k, W.heap.size ≤ k → ¬ ok k ∧ w.heap.size ≤ k) ∧ ∀ W' v', Below 0 W W' → W.grownBy W' v.ownBlock → Kd.R k52 52 W' 0 (fun k => ¬ ok k ∧ w.heap.size ≤ k) v' (l ++ [p]) → AInv w W' g xs v' (l ++ [p]) := by
  obtain ⟨ok, hs, hR⟩ := h
  have hlt : ∀ k, W.heap.size ≤ k → ¬ ok k ∧ w.heap.size ≤ k := fun k hk => ⟨fun h => absurd (hs.lt k h) (Nat.not_lt.2 hk), Nat.le_trans hs.bel.size hk⟩
  refine ⟨ok, ⟨hR, hlt⟩, fun W' v' hB hg hR' => ⟨ok, ⟨hs.doc.move fun k hk hl => hg.block k hl fun e => (hR.1 k e.symm).1 hk, hs.own, fun k hk => Nat.lt_of_lt_of_le (hs.lt k hk) hg.size, ?_⟩, hR'⟩⟩
  exact ⟨hB.os.trans hs.bel.os, hB.tape.trans hs.bel.tape, hB.output.trans hs.bel.output, Nat.le_trans hs.bel.size hg.size, fun k hk => (hg.block k (Nat.lt_of_lt_of_le hk hs.bel.size) fun e => by have := (hR.1 k e.symm).2; omega).trans (hs.bel.block k hk)⟩
theorem AInv.attr_no {d : List S52} (h : AInv w W g (aDoc d) v l) (hl : d.length < 100000) {k : Nat} {n : ByteArray} (u : ByteArray) (hN : names_Attr.f k n = some false) : Calls Try.prog 22 #[.pointer (some ⟨g, 0, none⟩), .int .i64 1, .string n, .string u] W fun e w' => e = .returned (.int .i64 1) ∧ AInv w w' g (aDoc d) v l :=
  h.via (P := fun e => e = _) fun ok hI => Doc_Attr hI (aFit d hl) k 1 n u (1, aDoc d) (aAttr_no d k n u hN)
theorem AInv.attr_ok {d : List S52} (h : AInv w W g (aDoc d) v l) (hl : d.length < 100000) {k : Nat} {n : ByteArray} (u : ByteArray) (hN : names_Attr.f k n = some true) : Calls Try.prog 22 #[.pointer (some ⟨g, 0, none⟩), .int .i64 1, .string n, .string u] W fun e w' => e = .returned (.int .i64 0) ∧ AInv w w' g (aDoc (setAttr d n u)) v l :=
  h.via (P := fun e => e = _) fun ok hI => Doc_Attr hI (aFit d hl) k 1 n u (0, aDoc (setAttr d n u)) (aAttr_ok d k n u hN)
theorem AInv.drop {x : S52} {d : List S52} (h : AInv w W g (aDoc (x :: d)) v l) (hl : (x :: d).length < 100000) : Calls Try.prog 27 #[.pointer (some ⟨g, 0, none⟩), .int .i64 1, .string x.f0] W fun e w' => e = .returned (.int .i64 0) ∧ AInv w w' g (aDoc d) v l :=
  h.via (P := fun e => e = _) fun ok hI => by
    have := Doc_Drop hI (aFit _ hl) 1 x.f0
    rwa [aDrop] at this
theorem AInv.eq {W2 : World} {A1 A : Option Addr} {n n2 c1 c : Nat} {d e : List S52} (h : AInv w W g xs v l) (hd : n = d.length ∧ d.length ≤ c1 ∧ Kd.C k52 W2 A1 d.length d) (he : n2 = e.length ∧ e.length ≤ c ∧ Kd.C k52 W2 A e.length e) (hB : Below W.heap.size W W2) (hr : d = e) :
    Calls Try.prog 26 #[.slice A1 n c1, .slice A n2 c] W2 fun e w' => e = .returned (.bool true) ∧ AInv w w' g xs v l ∧ Below W.heap.size W w' := by
  subst hr
  obtain ⟨rfl, hc1, hd⟩ := hd
  obtain ⟨rfl, hc, he⟩ := he
  refine (boltingref04_Attrs.eq_calls d d A1 c1 A c W2 hd hc1 he hc).mono ?_
  rintro e w' ⟨rfl, hb⟩
  exact ⟨by rw [decide_eq_true rfl], h.quiet (below_step hB hb), below_step hB hb⟩
theorem AInv.empty (h : Has w W g xs) : AInv w (W.alloc (.cells #[] 52)) g xs (.slice (some ⟨W.heap.size, 0, none⟩) 0 0) [] := by
  obtain ⟨ok, hs⟩ := h
  exact ⟨ok, hs.quiet (below_alloc (Below.refl _ _) _), fun k hk => by
    injection hk with hk
    subst hk
    exact ⟨fun h => absurd (hs.lt _ h) (Nat.lt_irrefl _), hs.bel.size⟩, _, ⟨rfl, .inr ⟨W.heap.size, 0, _, rfl, Nat.zero_le _, blk_new _ _, Nat.le_refl _, by decide, rfl, rfl⟩⟩, Reps.none _ _⟩
end
set_option maxHeartbeats 8000000 in
set_option maxRecDepth 100000 in
theorem ArenaAttrs_calls (w : World) (A0 : Option Addr) (c0 : Nat) (l0 : List ByteArray) (x1 : ByteArray) (hC : Kd.C Kd.string w A0 l0.length l0) (hc0 : l0.length ≤ c0) (hs : ∀ a ∈ l0, a.size ≤ 140737488351232) :
    Calls Try.prog 5 #[.slice A0 l0.length c0, .string x1] w fun e w' => e = .returned (.bool true) ∧ Below w.heap.size w w' := by
  have HC := Aside0.mk hC
  have HS0 := Aside0.mk hs
  clear hC hs
  go_enter Try.func5, Try.ntmps5
  have k1 := Aside0.mk trivial
  have k2 := Aside0.mk trivial
  go_wp2_with (first | (go_at_call 18; clear k1; refine (Doc_New w).mono ?_; rintro e w1 ⟨g, rfl, hI, hb⟩; have HS : Aside0 (Has w w1 g newDoc) := ⟨⟨_, hI.bound, fun k hk => hk.1, fun k hk => hk.2, hb⟩⟩; clear hI hb) | (go_at_call 21; clear k2; refine (HS.out.make 0 ⟨#[98]⟩ ⟨#[]⟩ 99 true aMay aMake).mono ?_; rintro e w1 ⟨rfl, hS⟩; clear HS; have HS := Aside0.mk hS; clear hS))
  have HI := Aside0.mk (AInv.empty HS.out)
  clear HS
  go_loopg [8, 9] l0.length (fun gg v8 v9 W => ∃ (kk : Nat) (l : List S52), kk ≤ l0.length ∧ l0.length - kk ≤ gg ∧ v9 = .int .i64 (kk : Int) ∧ Aside0 (AInv w W g (aDoc l) v8 l ∧ (∀ a ∈ l, a.f1 = x1) ∧ l.length ≤ kk ∧ l.length ≤ 20))
  case atStart => exact ⟨0, [], Nat.zero_le _, by omega, rfl, ⟨⟨HI.out, by simp, Nat.le_refl _, by simp⟩⟩⟩
  case round =>
    clear HI
    obtain ⟨kk, l, hkk, hgg, rfl, HR⟩ := hrel
    obtain ⟨A, c, rfl⟩ := HR.out.1.slice
    by_cases hlt : kk < l0.length ∧ kk < 20
    · obtain ⟨hlt1, hlt2⟩ := hlt
      have d1 : decide ((kk : Int) < (l0.length : Int)) = true := decide_eq_true (by omega)
      have d2 : decide ((kk : Int) < 20) = true := decide_eq_true (by omega)
      have z1 : (kk : Int) < (l0.length : Int) := by omega
      obtain ⟨ad, e, _⟩ := Kd.at_string HC.out (kk : Int) (by omega) z1
      have HX : Aside0 (∀ W, Below w.heap.size w W → W.cell? (ad.add kk) = some (.string l0[kk])) := ⟨fun W hb => by
        obtain ⟨ad', e', h'⟩ := Kd.at_string (Kd.C_below HC.out hb) (kk : Int) (by omega) z1
        rw [e] at e'
        injection e' with e'
        subst e'
        rwa [rdOf_at _ _ hlt1, Int.toNat_natCast] at h'⟩
      subst e
      have hsz := HS0.out l0[kk] (List.getElem_mem hlt1)
      have hN := attr_is l0[kk] hsz (l0[kk].size * 9 + 1) (by omega)
      generalize l0[kk] = nm at HX hN hsz
      have x0 := HX.out wr HR.out.1.has.bel
      have hlen := HR.out.2.2.2
      have k1 := Aside0.mk trivial
      have k2 := Aside0.mk trivial
      cases hb : okAttr nm.data.toList with
      | false =>
        rw [hb] at hN
        have HN := Aside0.mk hN
        clear hb hN hsz k2
        go_wp2_with (first | (go_at_call 22; clear k1; refine (HR.out.1.attr_no (by omega) _ HN.out).mono ?_; rintro e w1 ⟨rfl, hA⟩; have HA := Aside0.mk hA; clear hA))
        go_roundg (l0.length - (kk + 1))
        case measure => omega
        case rel => exact ⟨kk + 1, l, by omega, by omega, by go_num, ⟨⟨HA.out, HR.out.2.1, by have := HR.out.2.2.1; omega, hlen⟩⟩⟩
      | true =>
        rw [hb] at hN
        have HN := Aside0.mk hN
        have hl2 := setAttr_len nm ⟨#[102, 105, 114, 115, 116]⟩ l
        clear hb hN hsz
        go_wp2_with (first | (go_at_call 22; clear k1; refine (HR.out.1.attr_ok (by omega) _ HN.out).mono ?_; rintro e w1 ⟨rfl, hA⟩; have x2 := HX.out w1 hA.has.bel; have HA := Aside0.mk hA; clear hA x0) | (go_at_call 22; clear k2; refine (HA.out.attr_ok (by omega) _ HN.out).mono ?_; rintro e w2 ⟨rfl, hA⟩; rw [setAttr_twice _ _ _ _ HR.out.2.1] at hA; clear HA x2; have HA := Aside0.mk hA; clear hA))
        go_loopg [10, 11] l.length (fun gg v10 v11 W => ∃ j : Nat, j ≤ l.length ∧ l.length - j ≤ gg ∧ v11 = .int .i64 (j : Int) ∧ v10 = .bool (hadA nm (l.take j)) ∧ Drawn0 w2 W)
        case atStart => exact ⟨0, Nat.zero_le _, by omega, rfl, rfl, Drawn0.refl _⟩
        case round =>
          obtain ⟨j, hj, hgg2, rfl, rfl, ⟨m1, rfl⟩⟩ := hrel
          have x3 := HX.out w2 HA.out.has.bel
          by_cases cj : j < l.length
          · have cjb : decide ((j : Int) < (l.length : Int)) = true := decide_eq_true (by omega)
            have hjz : (j : Int) < (l.length : Int) := by omega
            obtain ⟨aw, e, r0, _⟩ := at_T52 HA.out.reads.2.2 (j : Int) (by omega) hjz
            subst e
            rw [rd_T52_at l j cj, Int.toNat_natCast] at r0
            have HT := Aside0.mk (hadA_take nm l j cj)
            have HJ := Aside0.mk cj
            generalize l[j].f0 = un at r0 HT
            clear cj
            cases hh : hadA nm (l.take j) with
            | true =>
              rw [hh] at HT
              clear hh r0 x3
              go_wp2
              repeat (go_quiet (fail); try go_wp2)
              go_roundg (l.length - (j + 1))
              case measure => have := HJ.out; omega
              case rel => exact ⟨j + 1, HJ.out, by omega, by go_num, by rw [HT.out]; rfl, by repeat (first | exact Drawn0.refl _ | apply Drawn0.step)⟩
            | false =>
              rw [hh] at HT
              clear hh
              go_wp2
              repeat (go_quiet (fail); try go_wp2)
              go_roundg (l.length - (j + 1))
              case measure => have := HJ.out; omega
              case rel => exact ⟨j + 1, HJ.out, by omega, by go_num, by rw [HT.out]; rfl, by repeat (first | exact Drawn0.refl _ | apply Drawn0.step)⟩
          · have cjb : decide ((j : Int) < (l.length : Int)) = false := decide_eq_false (by omega)
            rw [List.take_of_length_le (by omega)]
            cases hh : hadA nm l with
            | true =>
              have hA := HA.out
              rw [hh, if_pos rfl] at hA
              have HA := Aside0.mk (hA.quiet (pw_below_drewN (Below.refl _ _) m1))
              clear hh hA x3
              go_wp2
              go_roundg (l0.length - (kk + 1))
              case measure => omega
              case rel => exact ⟨kk + 1, l, by omega, by omega, by go_num, ⟨⟨HA.out, HR.out.2.1, by have := HR.out.2.2.1; omega, hlen⟩⟩⟩
            | false =>
              have hA := HA.out
              rw [hh, if_neg (by decide)] at hA
              have x4 := HX.out _ (hA.quiet (pw_below_drewN (Below.refl _ _) m1)).has.bel
              obtain ⟨ok, hR, hG⟩ := (hA.quiet (pw_below_drewN (Below.refl _ _) m1)).grow ⟨nm, x1⟩
              generalize w2.drewN m1 = W at hR hG x4 ⊢
              have HR2 := Aside0.mk hR
              have HG := Aside0.mk hG
              clear hh hA x3 hR hG HA
              go_wp2_with (first | ((with_reducible refine gate_builtin (b := .append) (xs := #[.tmp 73, .tmp 80]) rfl ?_); at_builtin; refine Kd.R_append k52 (w0 := W) 0 rfl (.tmp 73) (.tmp 80) 50 52 _ 32 rfl Try.underlying50 info52 rfl (by decide) (by decide) (.slice A l.length c) l ⟨nm, x1⟩ [.string nm, .string x1] (fun k => ¬ ok k ∧ w.heap.size ≤ k) (fun _ => False) rfl rfl (k52_mkM _ _ _ ⟨nm, x1⟩) (fun _ h => h.elim) HR2.out.2 HR2.out.1 (Below.refl _ _) (Nat.zero_le _) (by omega) ?_; intro v7 W7 hR7 hB7 hg7 _; have HE := Aside0.mk (HG.out W7 v7 hB7 hg7 hR7); clear hR7 hB7 hg7))
              go_roundg (l0.length - (kk + 1))
              case measure => omega
              case rel => exact ⟨kk + 1, l ++ [⟨nm, x1⟩], by omega, by omega, by go_num, ⟨⟨HE.out, fun a ha => (List.mem_append.1 ha).elim (HR.out.2.1 a) fun h => by rw [List.mem_singleton.1 h], by have := HR.out.2.2.1; rw [List.length_append]; simp; omega, by have := HR.out.2.2.1; rw [List.length_append]; simp; omega⟩⟩⟩
    · have hlen := HR.out.2.2.2
      have HI := Aside0.mk HR.out.1
      have hx : (¬ kk < l0.length) ∨ (kk < l0.length ∧ ¬ kk < 20) := by omega
      have k1 := Aside0.mk trivial
      clear HR hgg hlt hkk
      have k2 := Aside0.mk trivial
      rcases hx with hx | ⟨hx, hy⟩
      all_goals
        go_wp2_with (first | (go_at_call 25; clear k1; refine (HI.out.row (by omega)).mono ?_; rintro e w1 ⟨A1, c1, rfl, hC1, hA, hB⟩; clear HI; have HI := Aside0.mk hA; have HC1 := Aside0.mk hC1; clear hA hB hC1) | (go_at_call 26; clear k2; refine (HI.out.eq ⟨rfl, HC1.out.1, Kd.C_alloc HC1.out.2 _⟩ ⟨rfl, HI.out.reads.2.1, Kd.C_alloc HI.out.reads.2.2 _⟩ (below_alloc (Below.refl _ _) _) rfl).mono ?_; rintro e w2 ⟨rfl, hA, _⟩; clear HI HC1; have HI := Aside0.mk hA; clear hA))
        go_loopg [14] l.length (fun gg v14 W => ∃ j : Nat, j ≤ l.length ∧ l.length - j ≤ gg ∧ v14 = .int .i64 (j : Int) ∧ Aside0 (AInv w W g (aDoc (l.drop j)) (.slice A l.length c) l))
        case atStart => exact ⟨0, Nat.zero_le _, by omega, rfl, HI⟩
        case round =>
          clear HI hx
          obtain ⟨j, hj, hgg2, rfl, HI⟩ := hrel
          by_cases cj : j < l.length
          · have cjb : decide ((j : Int) < (l.length : Int)) = true := decide_eq_true (by omega)
            have hjz : (j : Int) < (l.length : Int) := by omega
            obtain ⟨aw, e, r0, _⟩ := at_T52 HI.out.reads.2.2 (j : Int) (by omega) hjz
            subst e
            rw [rd_T52_at l j cj, Int.toNat_natCast] at r0
            have hd := HI.out
            rw [List.drop_eq_getElem_cons cj] at hd
            have hdl : (l.drop j).length ≤ l.length := by rw [List.length_drop]; omega
            have hdl2 : (l.drop (j + 1)).length ≤ l.length := by rw [List.length_drop]; omega
            rw [List.drop_eq_getElem_cons cj] at hdl
            clear HI
            obtain ⟨d, HDD⟩ : ∃ d, Aside0 (l.drop (j + 1) = d) := ⟨_, ⟨rfl⟩⟩
            rw [HDD.out] at hd hdl hdl2
            have HD := Aside0.mk hd
            clear hd
            generalize l[j] = p at r0 HD hdl
            have k1 := Aside0.mk trivial
            have k2 := Aside0.mk trivial
            go_wp2_with (first | (go_at_call 27; clear k1; refine (HD.out.drop (by omega)).mono ?_; rintro e w1 ⟨rfl, hA⟩; have HI := Aside0.mk hA; clear hA HD) | (go_at_call 25; clear k2; refine (HI.out.row (by omega)).mono ?_; rintro e w1 ⟨A1, c1, rfl, hC1, hA, hB⟩; clear HI; have HI := Aside0.mk hA; have HC1 := Aside0.mk hC1; clear hA hB hC1))
            have hB := below_alloc (Below.refl w1.heap.size w1) (.cells #[.int .i64 0, .int .i64 0, .string ⟨#[98]⟩, .string ⟨#[]⟩, .slice A1 d.length c1] 54)
            have q0 := (blk_cell (blk_new w1 (.cells #[.int .i64 0, .int .i64 0, .string ⟨#[98]⟩, .string ⟨#[]⟩, .slice A1 d.length c1] 54)) 4).trans rfl
            obtain ⟨B, hBB⟩ : ∃ B, Aside0 (w1.heap.size = B) := ⟨_, ⟨rfl⟩⟩
            rw [hBB.out] at q0 ⊢
            generalize w1.alloc (.cells #[.int .i64 0, .int .i64 0, .string ⟨#[98]⟩, .string ⟨#[]⟩, .slice A1 d.length c1] 54) = W at q0 hB ⊢
            have HB := Aside0.mk hB
            clear hB
            have hjw : 0 ≤ wrap64 ((j : Int) + 1) ∧ wrap64 ((j : Int) + 1) ≤ (l.length : Int) := (wrapJ cj (by omega)).2
            have HEQ : Aside0 (Calls Try.prog 26 #[.slice A1 d.length c1, .slice (if c = (wrap64 ((j : Int) + 1)).toNat then some aw else some (aw.add ((wrap64 ((j : Int) + 1)).toNat * 2))) (l.length - (wrap64 ((j : Int) + 1)).toNat) (c - (wrap64 ((j : Int) + 1)).toNat)] W.drew fun e w' => e = .returned (.bool true) ∧ AInv w w' g (aDoc d) (.slice (some aw) l.length c) l ∧ Below w1.heap.size w1 w') := ⟨by
              have hwj : (wrap64 ((j : Int) + 1)).toNat = j + 1 := (wrapJ cj (by omega)).1
              rw [hwj]
              have hB2 := below_drew HB.out
              have hc3 := Kd.C_drop (Kd.C_below HI.out.reads.2.2 hB2) cj HI.out.reads.2.1
              rw [HDD.out] at hc3
              have hdl3 : d.length = l.length - (j + 1) := by rw [← HDD.out, List.length_drop]
              exact HI.out.eq ⟨rfl, HC1.out.1, Kd.C_below HC1.out.2 hB2⟩ ⟨hdl3.symm, by rw [hdl3]; exact Nat.sub_le_sub_right HI.out.reads.2.1 _, hc3⟩ hB2 rfl⟩
            refine start_ (n := 8) (S := (fun w' => w'.cell? ⟨B, 4, none⟩ = some (.slice A1 d.length c1))) (ds := [6]) #[Z, Z, Z, Z, Z, Z, Z, Z] (by kernel_rfl) rfl rfl q0 (fun hHeld => ?_); refine with_tabW reg5_27.tab reg5_27.bits (fun HT_ HW_ => ?_)
            refine pA 0 122 #[Y, Z, Z, Z, Z, Z, Z, Z] HT_ ?_
            refine take_ (i := 1) (N := some 123) (v := ?_) (a' := ?_) #[Y, Y, Z, Z, Z, Z, Z, Z] rfl rfl (take_ofW HT_.out HW_.out (by kernel_rfl)) (fun _ _ _ h => h) (Or.inl ⟨by rfl, ?_⟩) hHeld ?_ ?_
            rotate_left
            · rintro w' hs
              (try obtain ⟨s0, s1⟩ := hs)
              (try obtain ⟨s1, s2⟩ := s1)
              (try obtain ⟨s2, s3⟩ := s2)
              (try obtain ⟨s3, s4⟩ := s3)
              (try obtain ⟨s4, s5⟩ := s4)
              (try obtain ⟨s5, s6⟩ := s5)
              go_simp
              with_reducible rfl
            rotate_left
            · simp only [Act.put, List.setIfInBounds_toArray, List.set_cons_zero, List.set_cons_succ, i64_w, i32_w]
              rfl
            refine pA 2 124 #[Y, Y, Y, Z, Z, Z, Z, Z] HT_ ?_
            refine pA 3 125 #[Y, Y, Y, Y, Z, Z, Z, Z] HT_ ?_
            refine pA 4 126 #[Y, Y, Y, Y, Y, Z, Z, Z] HT_ ?_
            refine pA 5 127 #[Y, Y, Y, Y, Y, Y, Z, Z] HT_ ?_
            refine last_ (i := 6) (N := some 128) #[Y, Y, Y, Y, Y, Y, Y, Z] rfl rfl (one_of HT_.out (by kernel_rfl)) (by decide) (fun K hK => ?_)
            refine goes_ Try.func26 (by kernel_rfl) rfl #[.slice A1 d.length c1, .slice (if c = (wrap64 ((j : Int) + 1)).toNat then some aw else some (aw.add ((wrap64 ((j : Int) + 1)).toNat * 2))) (l.length - (wrap64 ((j : Int) + 1)).toNat) (c - (wrap64 ((j : Int) + 1)).toNat)] (by rfl) rfl rfl (by simp only [List.map_toArray, List.map_cons, List.map_nil]; rfl) ?_
            refine HEQ.out.mono ?_
            rintro e w7 ⟨rfl, hA, _⟩
            clear HEQ HI
            have HI := Aside0.mk hA
            clear hA
            refine ⟨_, rfl, hK.out _ _ ?_⟩
            clear hK
            refine pA 7 129 #[Y, Y, Y, Y, Y, Y, Y, Y] HT_ ?_
            refine done_ (done_of HT_.out (by kernel_rfl)) ?_
            generalize (if c = (wrap64 ((j : Int) + 1)).toNat then some aw else some (aw.add ((wrap64 ((j : Int) + 1)).toNat * 2))) = aw2
            clear hjw
            go_wp2
            go_roundg (l.length - (j + 1))
            case measure => omega
            case rel => exact ⟨j + 1, by omega, by omega, by go_num, by rw [HDD.out]; exact HI⟩
          · have cjb : decide ((j : Int) < (l.length : Int)) = false := decide_eq_false (by omega)
            go_wp2_with (first | (go_at_call 13; refine (fixed_calls _).mono ?_; rintro e w1 ⟨rfl, hB⟩; have HI2 := Aside0.mk (HI.out.quiet hB).has.bel; clear hB))
            go_ret
            exact ⟨rfl, HI2.out⟩
end Go.Proofs.Ytpkaliaaffgbdaa.QA
