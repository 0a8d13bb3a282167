/- The document of package arena: a node's attributes: slices.Delete, slices.IndexFunc at them; Attr, Drop. -/
import Derived.Test.YtpkaliaaffgbdaaD4
namespace Go.Proofs.Ytpkaliaaffgbdaa.QA
open Go.RowKit Go.Proofs.YtpkaliaaffgbdaaW.PrintWords Go.Proofs.YtpkaliaaffgbdaaW.PrintLast Go.Proofs.YtpkaliaaffgbdaaW.PrintMore
attribute [local go_sem] max2_int min2_int max_two min_two max_three min_three max_four min_four   -- for this text's walks alone
set_option linter.unusedVariables false
set_option linter.unusedSimpArgs false

open Go
section
variable {W w : World} {ok okn : Nat → Prop} {g : Nat} {xs : List S79}
theorem Mod.of_grown {W1 : World} {row : Option Nat} (hg : W.grownBy W1 row) (hr : ∀ k, row = some k → ok k ∨ W.heap.size ≤ k) : Mod W W1 ok :=
  ⟨hg.os, hg.tape, hg.output, hg.size, fun k hk hn => hg.block k hk fun e => (hr k e.symm).elim hn fun h => by omega⟩
/-- Node i's attributes, to be changed: where they lie; what a change of them is. -/
theorem IsDoc.attrs (h : IsDoc W ok g xs) (i : Nat) (hi : i < xs.length) : ∃ G c v4, W.heap[g]? = some (.cells #[.slice (some ⟨G, 0, none⟩) xs.length c] 82 (0, 0)) ∧ xs.length ≤ c ∧ W.cell? ⟨G, i * 7 + 4, none⟩ = some v4 ∧
    (∀ j, W.frozen? ⟨G, i * 7 + j, none⟩ = false) ∧ Kd.R k52 52 W 0 (fun k => some k = v4.ownBlock) v4 xs[i].f0.f4 ∧ (∀ k, v4.ownBlock = some k → ok k ∧ k ≠ g ∧ k ≠ G) ∧ ok G ∧ G ≠ g ∧ G < W.heap.size ∧
    (∀ W1 l, W.grownBy W1 v4.ownBlock → Kd.R k52 52 W1 0 (fun k => some k = v4.ownBlock) v4 l → IsDoc W1 (fun k => ok k ∨ W.heap.size ≤ k) g (xs.set i (withAttrs xs[i] l)) ∧ Mod W W1 ok) ∧
    (∀ W1 v l, W.grownBy W1 v4.ownBlock → Kd.R k52 52 W1 0 (fun k => some k = v4.ownBlock ∨ W.heap.size ≤ k) v l → IsDoc (W1.setCell ⟨G, i * 7 + 4, none⟩ v) (fun k => ok k ∨ W.heap.size ≤ k) g (xs.set i (withAttrs xs[i] l)) ∧ Mod W (W1.setCell ⟨G, i * 7 + 4, none⟩ v) ok) := by
  have hgl := h.lt
  obtain ⟨v, hb, hg, hS⟩ := h.bound
  have hR := Kd.S_R hS
  obtain ⟨G, c, rfl, _, hGl, _, _⟩ := Kd.R_form hR (by omega)
  have hG := hR.1 G rfl
  have hln := (Kd.R_reads' hR)
  have hS2 : Kd.S k79 79 W 0 (fun k => (ok k ∨ W.heap.size ≤ k) ∧ k ≠ g) (.slice (some ⟨G, 0, none⟩) xs.length c) xs := Kd.S_mono hS fun k hk => ⟨.inl hk.1.1, hk.2⟩
  obtain ⟨oki, cs, hcl, hMi, hcc, hfr, hoki, hH⟩ := Kd.S_elem hS2 z79 (i : Int) (by omega) (by omega)
  rw [Int.toNat_natCast, List.getD_eq_getElem?_getD, List.getElem?_eq_getElem hi, Option.getD_some] at hMi
  obtain ⟨v4, v6, rfl, h4, h6⟩ := k79_openM hMi
  have hw := Kd.H_widen hH
  have h4o : ∀ k, v4.ownBlock = some k → ok k ∧ k ≠ g ∧ k ≠ G := fun k hk => by
    have h1 := hoki k (h4.1 k hk)
    have h2 := Kd.R_lt h4 k hk
    exact ⟨h1.1.1.elim id fun h => by omega, h1.1.2, h1.2⟩
  have h46 : ∀ k, v4.ownBlock = some k → some k ≠ v6.ownBlock := fun k hk e => by
    obtain ⟨_, h1⟩ := Kd.R_typed h4 k hk
    obtain ⟨_, h2⟩ := Kd.R_typed h6 k e.symm
    rw [h1] at h2
    injection h2 with h2
    injection h2 with _ h2 _
    exact absurd h2 (by decide)
  have hgr : ∀ W1, W.grownBy W1 v4.ownBlock → Kd.R (Kd.int .i64) 3 W1 0 oki v6 xs[i].f2 ∧ W1.heap[g]? = W.heap[g]? := fun W1 hg1 => ⟨Kd.R_grown2 h6 rfl hg1 h46, hg1.block g hgl fun e => (h4o g e.symm).2.1 rfl⟩
  refine ⟨G, c, v4, hb, hln.2.1, ?_, fun j => ?_, Kd.R_tight rfl h4, h4o, hG.1.1, hG.2, hGl, fun W1 l hg1 hR1 => ?_, fun W1 v l hg1 hR1 => ?_⟩
  · have := hcc 4 v4 rfl
    rw [Int.toNat_natCast] at this
    exact this
  · have := hfr j
    rw [Int.toNat_natCast] at this
    exact this
  · obtain ⟨h6', hbg⟩ := hgr W1 hg1
    have hH1 := Kd.H_grown hw hg1 fun k hk => .inl (h4.1 k hk)
    have hB := Kd.H_back hH1 (x' := withAttrs xs[i] l) (okp := oki) (k79_mkM W1 0 oki (withAttrs xs[i] l) (Kd.R_mono hR1 fun k hk => h4.1 k hk.symm) h6') fun k hk => .inl hk
    rw [Int.toNat_natCast] at hB
    exact ⟨⟨_, hbg.trans hb, .inl hg.1, hB⟩, Mod.of_grown hg1 fun k hk => .inl (h4o k hk).1⟩
  · obtain ⟨h6', hbg⟩ := hgr W1 hg1
    have hH1 := Kd.H_grown hw hg1 fun k hk => .inl (h4.1 k hk)
    have hone := (Kd.R_val hR1).2
    obtain ⟨hH2, hg2⟩ := Kd.H_seg hH1 (by omega) (by omega) (seg := [v]) (j := 4) (by show 4 + 1 ≤ 7; omega) fun q hq => by rw [List.mem_singleton.1 hq]; exact hone
    have hM1 := k79_mkM W1 0 (fun k => oki k ∨ (W.heap.size ≤ k ∧ k ≠ G ∧ k ≠ g)) (withAttrs xs[i] l) (Kd.R_mono (Kd.R_tight rfl hR1) fun k hk => by
      rcases hR1.1 k hk.symm with h7 | h7
      · exact .inl (h4.1 k h7.symm)
      · exact .inr ⟨h7, by omega, by omega⟩) (Kd.R_mono h6' fun k hk => .inl hk)
    have hM2 := Kd.M_step hM1 (w1 := W1.setCells G ((i : Int).toNat * 7 + 4) [v]) fun k hk hlt => hg2.block k hlt fun e => by
      injection e with e
      rcases hk with hk | hk
      · exact (hoki k hk).2 e
      · exact hk.2.1 e
    have hB := Kd.H_back hH2 (x' := withAttrs xs[i] l) hM2 fun k hk => hk.elim .inl fun hk => .inr ⟨⟨.inr hk.1, hk.2.2⟩, hk.1⟩
    rw [Int.toNat_natCast] at hB
    exact ⟨⟨_, (Below.heap_setCell W1 _ _ g (fun e => hG.2 e.symm)).trans (hbg.trans hb), .inl hg.1, hB⟩, (Mod.of_grown hg1 fun k hk => .inl (h4o k hk).1).set _ _ (.inl hG.1.1)⟩
/-- What lies behind a row's elements is nothing of it. -/
theorem R_tail {α : Type} {d : Kd α} {e base g m c : Nat} {l : List α} (h : Kd.R d e W base ok (.slice (some ⟨g, 0, none⟩) m c) l) (o : Nat) (seg : List Value) (ho : m * d.sz ≤ o) (hl : o + seg.length ≤ c * d.sz) :
    Kd.R d e (W.setCells g o seg) base ok (.slice (some ⟨g, 0, none⟩) m c) l := by
  obtain ⟨h0, inner, ⟨hi, hown⟩, hr⟩ := h
  rcases hown with ⟨hv, _⟩ | ⟨g', c', cur, hv, hbg, hh, hnc, hcm, hcs, ht⟩
  · cases hv
  injection hv with hv h1 h2
  injection hv with hv
  injection hv with hv _
  subst hv h1 h2
  obtain ⟨cur', h3, h4, h5⟩ := setCells_row seg o W cur hh (by omega)
  refine ⟨h0, inner, ⟨hi, .inr ⟨g, c, cur', rfl, hbg, h3, hnc, hcm, by omega, ?_⟩⟩, ?_⟩
  · rw [h5, List.append_assoc, List.take_append_of_le_length (by rw [List.length_take, Array.length_toList (xs := cur)]; have := Nat.mul_le_mul_right d.sz hnc; omega), List.take_take, Nat.min_eq_left ho]
    exact ht
  · exact hr.imp_ fun x cs hM => Kd.M_step hM fun k hk _ => setCells_far seg o k fun e => hk.2 (by rw [e]; rfl)
theorem grown_drewN {W1 : World} {row : Option Nat} (m : Nat) (h : (W.drewN m).grownBy W1 row) : W.grownBy W1 row := by
  have hb := pw_below_drewN (Below.refl W.heap.size W) m
  exact ⟨h.os.trans hb.os, h.tape.trans hb.tape, h.output.trans hb.output, Nat.le_trans hb.size h.size, fun k hk hn => (h.block k (Nat.lt_of_lt_of_le hk hb.size) hn).trans (hb.block k hk)⟩
def setAttr : List S52 → ByteArray → ByteArray → List S52
  | [], n, v => [⟨n, v⟩]
  | a :: l, n, v => if a.f0 = n then ⟨a.f0, v⟩ :: l else a :: setAttr l n v
theorem setAttr_found {n v : ByteArray} : ∀ (l : List S52) (j : Nat) (hj : j < l.length), (∀ m (hm : m < j), l[m].f0 ≠ n) → l[j].f0 = n → setAttr l n v = l.set j ⟨l[j].f0, v⟩
  | a :: l, 0, _, _, h => by simp only [setAttr]; rw [if_pos (show a.f0 = n from h)]; rfl
  | a :: l, j + 1, hj, h1, h => by
    have h0 : a.f0 ≠ n := h1 0 (by omega)
    simp only [setAttr]
    rw [if_neg h0, setAttr_found l j (by simpa using hj) (fun m hm => by have := h1 (m + 1) (by omega); simpa using this) (by simpa using h)]
    rfl
theorem setAttr_none {n v : ByteArray} : ∀ (l : List S52), (∀ m (hm : m < l.length), l[m].f0 ≠ n) → setAttr l n v = l ++ [⟨n, v⟩]
  | [], _ => rfl
  | a :: l, h => by
    have h0 : a.f0 ≠ n := h 0 (by simp)
    simp only [setAttr]
    rw [if_neg h0, setAttr_none l (fun m hm => by have := h (m + 1) (by simpa using hm); simpa using this)]
    rfl
def elemB (xs : List S79) (n : Int) : Bool := decide (0 < n ∧ n < (xs.length : Int) ∧ (rd_T79 xs n).f0.f1 = 0)
def attrR (xs : List S79) (k : Nat) (n : Int) (name value : ByteArray) : Option (Int × List S79) :=
  if elemB xs n = false then some (110, xs) else
  match names_Attr.f k name with
  | none => none
  | some false => some (1, xs)
  | some true => some (0, xs.set n.toNat (withAttrs (rd_T79 xs n) (setAttr (rd_T79 xs n).f0.f4 name value)))
set_option maxHeartbeats 4000000 in
set_option maxRecDepth 100000 in
theorem Doc_Attr (h : IsDoc w ok g xs) (hF : Fit xs) (k : Nat) (n : Int) (name value : ByteArray) (r : Int × List S79) (hr : attrR xs k n name value = some r) : Calls Try.prog 22 #[.pointer (some ⟨g, 0, none⟩), .int .i64 n, .string name, .string value] w fun e w' => e = .returned (.int .i64 r.1) ∧ To w w' ok g r.2 := by
  have hE := Doc_element h n
  unfold attrR elemB at hr
  have HI := Aside0.mk h
  by_cases c0 : 0 < n ∧ n < (xs.length : Int) ∧ (rd_T79 xs n).f0.f1 = 0
  rotate_left
  · rw [decide_eq_false c0] at hE hr
    rw [if_pos rfl] at hr
    obtain rfl := Option.some.inj hr
    clear hr h
    go_enter Try.func22, Try.ntmps22
    go_wp2_with (first | (go_at_call 47; refine hE.mono ?_; rintro e w' ⟨rfl, ⟨m, rfl⟩⟩))
    go_ret
    exact ⟨rfl, To.quiet HI.out (by repeat (first | exact Below.refl _ _ | apply pw_below_drewN))⟩
  rw [decide_eq_true c0] at hE hr
  rw [if_neg (by decide)] at hr
  cases hN : names_Attr.f k name with
  | none => rw [hN] at hr; exact absurd hr (by simp)
  | some b =>
    rw [hN] at hr
    have hA := fun m => names_Attr.calls k name b (w.drewN m) hN
    cases b with
    | false =>
      obtain rfl := Option.some.inj hr
      clear hr h
      go_enter Try.func22, Try.ntmps22
      go_wp2_with (first | (go_at_call 47; refine hE.mono ?_; rintro e w' ⟨rfl, ⟨m, rfl⟩⟩) | (go_at_call 48; refine (hA _).mono ?_; rintro e w' ⟨rfl, ⟨m, rfl⟩⟩))
      go_ret
      exact ⟨rfl, To.quiet HI.out (by repeat (first | exact Below.refl _ _ | apply pw_below_drewN))⟩
    | true =>
      obtain rfl := Option.some.inj hr
      obtain ⟨i, rfl⟩ := Int.eq_ofNat_of_zero_le (show 0 ≤ n by omega)
      have hi : i < xs.length := by omega
      have hz : (i : Int) < (xs.length : Int) := by omega
      rw [nd_at i hi, Int.toNat_natCast]
      have hla := hF.attrs i hi
      obtain ⟨G, c, v4, hb, hl, h4, hf, hR, hv4, hG, hGg, hGl, hback1, hback2⟩ := h.attrs i hi
      obtain ⟨A4, c4, rfl⟩ := Kd.R_slice hR
      have hc := doc_cell hb
      have hcl := (Kd.R_reads' hR).2.1
      generalize hattr : xs[i].f0.f4 = l at hR hla h4 hback1 hback2 hv4 hcl ⊢
      have HB1 := Aside0.mk hback1
      have HB2 := Aside0.mk hback2
      have HR := Aside0.mk hR
      have HC := Aside0.mk (Kd.R_reads' hR).2.2
      clear hr h hF hb hback1 hback2 hR c0 hN hl
      go_enter Try.func22, Try.ntmps22
      go_wp2_with (first | (go_at_call 47; refine hE.mono ?_; rintro e w' ⟨rfl, ⟨m, rfl⟩⟩) | (go_at_call 48; refine (hA _).mono ?_; rintro e w' ⟨rfl, ⟨m, rfl⟩⟩))
      go_loopg [32] (l.length + 1) (fun kq v32 w' => ∃ j : Nat, v32 = .int .i64 (j : Int) ∧ Aside0 (kq + j = l.length + 1 ∧ ∀ m (hm : m < j) (hm2 : m < l.length), l[m].f0 ≠ name) ∧ Drawn0 w w')
      case atStart => exact ⟨0, rfl, ⟨⟨by omega, fun m hm => absurd hm (by omega)⟩⟩, by repeat (first | exact Drawn0.refl _ | apply Drawn0.step)⟩
      case round =>
        obtain ⟨j, rfl, HA, ⟨m1, rfl⟩⟩ := hrel
        by_cases cj : j < l.length
        · have cjb : decide ((j : Int) < (l.length : Int)) = true := decide_eq_true (by omega)
          have hjz : (j : Int) < (l.length : Int) := by omega
          obtain ⟨ad, e, r0, r1⟩ := at_T52 HC.out (j : Int) (by omega) hjz
          obtain ⟨g4, rfl⟩ : ∃ g4, ad = ⟨g4, 0, none⟩ := Kd.R_head (by rw [e] at HR; exact HR.out)
          subst e
          rw [rd_T52_at l j cj, add_plain, Int.toNat_natCast] at r0 r1
          have hg4l := block_lt_of_cell r0
          by_cases cn : l[j].f0 = name
          · have cnb : (l[j].f0.toList == name.toList) = true := by rw [bytes_beq]; exact decide_eq_true cn
            obtain ⟨cs, hcl2, hM, hcc, hfr⟩ := Kd.R_elem (Kd.R_drewN HR.out m1) z52 (j : Int) (by omega) hjz
            rw [Int.toNat_natCast] at hM hcc hfr
            have hf1 : w.frozen? ⟨g4, j * 2 + 1, none⟩ = false := by have := hfr 1; rwa [World.frozen?_drewN] at this
            go_wp2
            go_ret
            have h9 := Kd.R_seg (Kd.R_drewN HR.out m1) (j : Int) (by omega) hjz (c := [.string l[j].f0, .string l[j].f1]) (seg := [.string value]) (j := 1) (x' := ⟨l[j].f0, value⟩) (okp := fun _ => False) rfl (fun q u hu => by
              rw [World.cell?_drewN, Int.toNat_natCast]
              match q, hu with
              | 0, hu => exact r0.trans (by simpa using hu)
              | 1, hu => exact r1.trans (by simpa using hu)
              | q + 2, hu => simp at hu) (show 1 + 1 ≤ 2 by omega) (k52_mkM _ _ _ ⟨l[j].f0, value⟩) (fun _ h => h.elim)
            rw [Int.toNat_natCast] at h9
            have h10 := HB1.out _ (l.set j ⟨l[j].f0, value⟩) (grown_drewN m1 h9.2) h9.1
            rw [setAttr_found l j cj (fun m hm => HA.out.2 m hm (by omega)) cn]
            exact ⟨rfl, To.mk h10.1 (fun k hk => hk) h10.2⟩
          · have cnb : (l[j].f0.toList == name.toList) = false := by rw [bytes_beq]; exact decide_eq_false cn
            obtain ⟨gk', rfl⟩ : ∃ k1, gk = k1 + 1 := ⟨l.length - j, by have := HA.out.1; omega⟩
            have hup := up1 (i := j) (by omega)
            go_wp2
            go_roundg gk'
            case measure => omega
            case rel =>
              refine ⟨j + 1, rfl, ⟨⟨by have := HA.out.1; omega, fun m hm hm2 => ?_⟩⟩, by repeat (first | exact Drawn0.refl _ | apply Drawn0.step)⟩
              by_cases e : m = j
              · subst e; exact cn
              · exact HA.out.2 m (by omega) hm2
        · have cjb : decide ((j : Int) < (l.length : Int)) = false := decide_eq_false (by omega)
          have hb2 : ∀ W1 v l', (w.drewN m1).grownBy W1 (Value.slice A4 l.length c4).ownBlock → Kd.R k52 52 W1 0 (fun k => some k = (Value.slice A4 l.length c4).ownBlock ∨ (w.drewN m1).heap.size ≤ k) v l' → To w (W1.setCell ⟨G, i * 7 + 4, none⟩ v) ok g (xs.set i (withAttrs xs[i] l')) ∧ G < W1.heap.size ∧ (∀ q, G ≠ q → some q = (Value.slice A4 l.length c4).ownBlock → True) := by
            intro W1 v l' h1 h2
            rw [World.heap_drewN] at h2
            have h3 := HB2.out W1 v l' (grown_drewN m1 h1) h2
            exact ⟨To.mk h3.1 (fun k hk => hk) h3.2, Nat.lt_of_lt_of_le hGl (grown_drewN m1 h1).size, fun _ _ _ => trivial⟩
          have hRW := Kd.R_mono (Kd.R_drewN HR.out m1) (ok' := fun k => some k = (Value.slice A4 l.length c4).ownBlock ∨ (w.drewN m1).heap.size ≤ k) fun k hk => .inl hk
          have h4W : (w.drewN m1).cell? ⟨G, i * 7 + 4, none⟩ = some (.slice A4 l.length c4) := by rw [World.cell?_drewN]; exact h4
          have hfW : (w.drewN m1).frozen? ⟨G, i * 7 + 4, none⟩ = false := by rw [World.frozen?_drewN]; exact hf 4
          have hGW : some G ≠ (Value.slice A4 l.length c4).ownBlock ∧ G < (w.drewN m1).heap.size := ⟨fun e => (hv4 G e.symm).2.2 rfl, by rw [World.heap_drewN]; exact hGl⟩
          have hall : ∀ m (hm : m < l.length), l[m].f0 ≠ name := fun m hm => HA.out.2 m (by omega) hm
          generalize w.drewN m1 = W at hb2 hRW h4W hfW hGW ⊢
          have HB3 := Aside0.mk hb2
          have HRW := Aside0.mk hRW
          have HGW := Aside0.mk hGW
          clear hb2 hRW hGW HB1 HB2 HR HC h4 hf hv4 hc
          go_wp2_with (first | ((with_reducible refine gate_builtin (b := .append) (xs := #[.tmp 61, .tmp 65]) rfl ?_); at_builtin; refine Kd.R_append k52 (w0 := W) 0 rfl (.tmp 61) (.tmp 65) 50 52 _ 32 rfl Try.underlying50 info52 rfl (by decide) (by decide) (.slice A4 l.length c4) l ⟨name, value⟩ [.string name, .string value] (fun k => some k = (Value.slice A4 l.length c4).ownBlock ∨ W.heap.size ≤ k) (fun _ => False) rfl rfl (k52_mkM _ _ _ ⟨name, value⟩) (fun _ h => h.elim) (fun k hk => .inr hk) (Kd.R_mono HRW.out fun k hk => hk) (Below.refl _ _) (Nat.zero_le _) (by omega) ?_; intro v7 W7 hR7 _ hg7 _; obtain ⟨A7, c7, rfl⟩ := Kd.R_slice hR7; have h47 := (World.cell?_of_block (a := ⟨G, i * 7 + 4, none⟩) (hg7.block G HGW.out.2 HGW.out.1)).trans h4W; have hf7 := (World.frozen?_of_block (a := ⟨G, i * 7 + 4, none⟩) (hg7.block G HGW.out.2 HGW.out.1)).trans hfW; have HE := Aside0.mk (HB3.out W7 _ _ hg7 hR7).1; clear hR7 hg7))
          go_ret
          have h9 := HE.out
          rw [List.length_append] at h9
          rw [setAttr_none l hall]
          exact ⟨rfl, h9⟩
end
end Go.Proofs.Ytpkaliaaffgbdaa.QA
