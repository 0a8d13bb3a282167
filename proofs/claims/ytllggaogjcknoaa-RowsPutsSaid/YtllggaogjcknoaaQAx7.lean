-- Written by a program of this claim's own (wip/gen/gen.py), out of the translation; an ordinary proof text.
import Derived.Test.YtllggaogjcknoaaQAx0
import Derived.Test.YtllggaogjcknoaaQAx5
import Derived.Test.YtllggaogjcknoaaQAx6
namespace Go.Proofs.Ytllggaogjcknoaa.QA
open Go.RowKit Go.Proofs.YtllggaogjcknoaaW.PrintWords Go.Proofs.YtllggaogjcknoaaW.PrintLast Go.Proofs.YtllggaogjcknoaaW.PrintMore
attribute [local go_sem] max2_int min2_int max_two min_two max_three min_three max_four min_four   -- for this text's walks alone
set_option linter.unusedVariables false
set_option linter.unusedSimpArgs false

/-! ### rows_Text: function 26 -/
section
open Go.Shelf
def textRen : Go.Shelf.Ren := ⟨fun | 169 => 47 | n => n, fun | 70 => 56 | 9 => 9 | 0 => 0 | 72 => 59 | 37 => 57 | 127 => 67 | 3 => 3 | 5 => 5 | n => n, fun | n => n⟩
theorem textLays : Go.Proofs.Lays.n169 Try.prog textRen := {
 mixed := by kernel_rfl
 f169 := Try.func47.trans (congrArg some (by kernel_rfl))
 t0 := Try.underlying0
 a0 := Try.isAgg0
 z0 := Try.sizeOf0
 v0 := Try.zeroValue0
 t3 := Try.underlying3
 a3 := Try.isAgg3
 z3 := Try.sizeOf3
 v3 := Try.zeroValue3
 t9 := Try.underlying9
 a9 := Try.isAgg9
 z9 := Try.sizeOf9
 v9 := Try.zeroValue9
 t37 := Try.underlying57
 a37 := Try.isAgg57
 z37 := Try.sizeOf57
 v37 := Try.zeroValue57
 t70 := Try.underlying56
 a70 := Try.isAgg56
 z70 := Try.sizeOf56
 v70 := Try.zeroValue56
 t72 := Try.underlying59
 a72 := Try.isAgg59
 z72 := Try.sizeOf59
 v72 := Try.zeroValue59
 t127 := Try.underlying67
 a127 := Try.isAgg67
 z127 := Try.sizeOf67
 v127 := Try.zeroValue67 }
theorem textExtra : Builder.Extra Try.prog textRen := {
 sizeBuilder := by kernel_rfl
 liesBuilder := by kernel_rfl
 t5 := Try.underlying5
 a5 := Try.isAgg5
 z5 := Try.sizeOf5
 v5 := Try.zeroValue5
 infoByte := by kernel_rfl
 cellsByte := by kernel_rfl
 sizeByte := by kernel_rfl
 neB5 := by decide }

theorem builderString_calls (B b : Nat) (l : List UInt8) (w : World) (h : Lib.IsBuilder 59 5 B b (Lib.byteCells l) w) (hBw : B ≤ w.heap.size) :
  Calls Try.prog 47 #[.pointer (some ⟨b, 0, none⟩)] w fun e w' => e = .returned (.string ⟨l.toArray⟩) ∧ Below B w w' := Any.Builder_String_any textLays textExtra B b l w h hBw

theorem builder_info : (Try.prog.info? 59).map (·.size) = some 2 := by kernel_rfl
theorem builder_lies : liesAt Try.prog Try.prog.depth 59 (2 / Try.prog.cellsOf 59) 0 59 1 = true := by kernel_rfl
theorem byte_info : (Try.prog.info? 5).map (fun i => (i.zero, i.size, i.bytes)) = some (some (.int .u8 0), 1, 1) := by kernel_rfl
set_option maxHeartbeats 1000000 in
set_option maxRecDepth 100000 in
theorem copyCheck_used (b : Nat) (w : World) (h0 : w.cell? ⟨b, 0, none⟩ = some (.pointer (some ⟨b, 0, none⟩))) :
  Calls Try.prog 53 #[.pointer (some ⟨b, 0, none⟩)] w fun e w' => e = .returned (.tuple #[]) ∧ w' = w := by
 obtain ⟨j, hj, _⟩ := Option.map_eq_some_iff.1 builder_info
 go_enter Try.func53, Try.ntmps53
 go_wp2
 rw [Lib.run_neq_ptr_same w _ Try.underlying56 hj]
 go_wp2
 go_end0
 exact ⟨rfl, rfl⟩
set_option maxHeartbeats 1000000 in
set_option maxRecDepth 100000 in
theorem copyCheck_fresh (b : Nat) (w : World) (h0 : w.cell? ⟨b, 0, none⟩ = some (.pointer none)) (hsh : w.shape? b = some (59, 2)) (hfz : w.frozen? ⟨b, 0, none⟩ = false) :
  Calls Try.prog 53 #[.pointer (some ⟨b, 0, none⟩)] w fun e w' => e = .returned (.tuple #[]) ∧ w' = w.setCell ⟨b, 0, none⟩ (.pointer (some ⟨b, 0, none⟩)) := by
 obtain ⟨j, hj, hjs⟩ := Option.map_eq_some_iff.1 builder_info
 go_enter Try.func53, Try.ntmps53
 go_wp2
 rw [Lib.run_to_unsafe w ⟨b, 0, none⟩ Try.underlying56 Try.underlying70 hj (by rw [hjs]; decide) hsh (Nat.zero_lt_succ 1)]
 simp only [Result.andThen]
 rw [Oper.upon_value]
 go_wp2
 rw [run_callFunc_extern Try.func56 (by kernel_rfl) (by kernel_rfl) (by kernel_rfl) (e := Extern.AbiNoEscape.same) (by kernel_rfl)]
 rw [Lib.run_noEscape]
 simp only [Result.andThen]
 rw [Oper.upon_value]
 go_wp2
 rw [Lib.run_from_unsafe w ⟨b, 0, none⟩ Try.underlying70 Try.underlying56 hj hsh builder_lies]
 simp only [Result.andThen]
 rw [Oper.upon_value]
 go_wp2
 go_end0
 exact ⟨rfl, rfl⟩
theorem copyCheck_calls (B b : Nat) (bs : List Value) (w : World) (h : Lib.IsBuilder 59 5 B b bs w) :
  Calls Try.prog 53 #[.pointer (some ⟨b, 0, none⟩)] w fun e w' => e = .returned (.tuple #[]) ∧ (Lib.BuilderAt 59 5 B b (.pointer (some ⟨b, 0, none⟩)) bs w' ∧ Below B w w') := by
 rcases h with h | h
 ·refine (copyCheck_fresh b w h.cell0 h.shape h.frozen0).mono ?_
  rintro e w' ⟨rfl, rfl⟩
  exact ⟨rfl, h.used _, (Below.refl B w).setCell (p := ⟨b, 0, none⟩) h.1 _⟩
 ·refine (copyCheck_used b w h.cell0).mono ?_
  rintro e w' ⟨rfl, rfl⟩
  exact ⟨rfl, h, Below.refl B _⟩
set_option maxHeartbeats 2000000 in
set_option maxRecDepth 100000 in
theorem writeString_calls (B b : Nat) (bs : List Value) (s : ByteArray) (w : World) (h : Lib.IsBuilder 59 5 B b bs w) (hlen : bs.length + s.size ≤ 140737488355328) (hBw : B ≤ w.heap.size) :
  Calls Try.prog 46 #[.pointer (some ⟨b, 0, none⟩), .string s] w fun e w' => e = .returned (.tuple #[.int .i64 s.size, .nilIface]) ∧ (Lib.BuilderAt 59 5 B b (.pointer (some ⟨b, 0, none⟩)) (bs ++ Lib.strCells s) w' ∧ Below B w w') := by
 obtain ⟨i0, hi, hz0, hz1, hz2⟩ := info_parts byte_info
 go_enter Try.func46, Try.ntmps46
 go_wp2_with (go_at_call 53; refine (copyCheck_calls B b bs _ h).mono ?_)
 rintro e w1 ⟨rfl, h1, hb1⟩
 obtain ⟨hB, v, hbk, hown, hne⟩ := h1
 have c0 : w1.cell? ⟨b, 0, none⟩ = some (.pointer (some ⟨b, 0, none⟩)) := by rw [Lib.cell_of_heap hbk]; rfl
 have c1 : w1.cell? ⟨b, 1, none⟩ = some v := by rw [Lib.cell_of_heap hbk]; rfl
 go_wp2_with (at_builtin; refine Lib.wpList_append_own_string _ rfl _ _ 57 9 rfl B 5 i0 Try.underlying57 Try.underlying9 hi hz0 hz1 hz2 _ _ _ rfl hown s rfl ?c3 ?c4 ?c5 ?_)
 case c3 => unfold maxLen; omega
 case c4 => omega
 case c5 => have := hb1.size; omega
 intro v' w2 hown' hgrow _
 have hlt : b < w1.heap.size := by
  rcases Nat.lt_or_ge b w1.heap.size with h' | h'
  ·exact h'
  ·simp [Array.getElem?_eq_none h'] at hbk
 have hb2 : w2.heap[b]? = some (.cells #[.pointer (some ⟨b, 0, none⟩), v] 59 (0, 0)) := by
  rw [hgrow.block b hlt (fun e => hne e.symm)]
  exact hbk
 have d0 : w2.cell? ⟨b, 0, none⟩ = some (.pointer (some ⟨b, 0, none⟩)) := by rw [Lib.cell_of_heap hb2]; rfl
 have d1 : w2.cell? ⟨b, 1, none⟩ = some v := by rw [Lib.cell_of_heap hb2]; rfl
 have f1 : w2.frozen? ⟨b, 1, none⟩ = false := Lib.frozen_of_heap hb2 1
 obtain ⟨ao, n', cap, rfl⟩ : ∃ ao n' cap, v' = .slice ao n' cap := by
  rcases hown'.2 with ⟨hv, _⟩ | ⟨g, cap, cur, hv, _⟩
  ·exact ⟨_, _, _, hv⟩
  ·exact ⟨_, _, _, hv⟩
 go_wp2
 go_ret2
 refine ⟨rfl, ?_, ?_⟩
 ·exact Lib.BuilderAt.put (T := 59) (e := 5) hB hb2 (bs' := bs ++ Lib.strCells s) (by simpa [Lib.strCells_length] using hown') (by decide)
 ·exact (hb1.grown hgrow (by have := hb1.size; omega) (fun k hk => (hown.lt k hk).1)).setCell (p := ⟨b, 1, none⟩) hB _
/-- The bytes of the texts among rows. -/
def textL (l : List S43) : List UInt8 := l.flatMap fun x => if x.f1 = 1 then x.f3.data.toList else []
/-- The rows that Text goes over. -/
def textRows (l : List S43) (i : Int) : List S43 :=
 if i = -1 then l else if 0 ≤ i ∧ i < (l.length : Int) then (l.drop i.toNat).take (endN l i.toNat - i.toNat) else []
theorem alloc_there (w : World) (o : Obj) : (w.alloc o).heap[w.heap.size]? = some o := by unfold World.alloc; simp
def rows_Text.f (l0 : List (S43)) (a1 : Int) : Option ByteArray := if l0.length < 9223372036854775807 ∧ (textL (textRows l0 a1)).length ≤ 140737488355328 then some ⟨(textL (textRows l0 a1)).toArray⟩ else none
theorem textL_snoc (l : List S43) (lo kk : Nat) (h : lo ≤ kk) (hk : kk < l.length) : textL ((l.drop lo).take (kk + 1 - lo)) = textL ((l.drop lo).take (kk - lo)) ++ (if (rd_T43 l (kk : Int)).f1 = 1 then (rd_T43 l (kk : Int)).f3.data.toList else []) := by
 have e : kk + 1 - lo = (kk - lo) + 1 := by omega
 have e2 : (l.drop lo)[kk - lo]? = some (rd_T43 l (kk : Int)) := by
  rw [List.getElem?_drop, show lo + (kk - lo) = kk from by omega, rd_T43_at l kk hk, List.getElem?_eq_getElem hk]
 rw [e, List.take_add_one, e2]
 simp [textL, List.flatMap_append]
theorem textL_grow (l : List S43) (lo kk hi : Nat) (h : lo ≤ kk) (hk : kk < hi) (hi2 : hi ≤ l.length) : (textL ((l.drop lo).take (kk + 1 - lo))).length ≤ (textL ((l.drop lo).take (hi - lo))).length := by
 have : (l.drop lo).take (hi - lo) = (l.drop lo).take (kk + 1 - lo) ++ ((l.drop lo).take (hi - lo)).drop (kk + 1 - lo) := by
  conv => lhs; rw [← List.take_append_drop (kk + 1 - lo) ((l.drop lo).take (hi - lo))]
  rw [List.take_take, Nat.min_eq_left (by omega)]
 rw [this]
 simp [textL]
set_option maxHeartbeats 4000000 in
set_option maxRecDepth 100000 in
theorem text_all (A0 : Option Addr) (c0 : Nat) (l0 : List (S43)) (w : World) (hr0 : Kd.C k43 w A0 l0.length l0) (hc0 : l0.length ≤ c0) (hm : l0.length < 9223372036854775807) (hb : (textL ((l0.drop 0).take (l0.length - 0))).length ≤ 140737488355328) :
  Calls Try.prog 26 #[.slice A0 l0.length c0, .int .i64 (-1)] w fun e w' => e = .returned (.string ⟨(textL ((l0.drop 0).take (l0.length - 0))).toArray⟩) ∧ Below w.heap.size w w' := by
 have HR0 := Aside0.mk hr0
 have HC0 := Aside0.mk hc0
 have HM := Aside0.mk hm
 have HBY := Aside0.mk hb
 have HHI := Aside0.mk (Nat.le_refl l0.length)
 clear hr0 hc0 hb
 go_enter Try.func26, Try.ntmps26
 go_wp2
 go_loopg [8] l0.length (fun gg v8 w' => ∃ kk : Nat, 0 ≤ kk ∧ kk ≤ l0.length ∧ l0.length - kk ≤ gg ∧ v8 = .int .i64 kk ∧ Aside0 (Lib.IsBuilder 59 5 w.heap.size w.heap.size (Lib.byteCells (textL ((l0.drop 0).take (kk - 0)))) w') ∧ Aside0 (Below w.heap.size w w'))
 case atStart => exact ⟨0, Nat.le_refl _, by first | omega | (have := hLE.out; omega), by omega, by go_num, ⟨by rw [Nat.sub_self]; exact .inl ⟨Nat.le_refl _, _, alloc_there _ _, World.ownsRow_nil _ _ _ _, by simp [Value.ownBlock]⟩⟩, ⟨by repeat (first | exact Below.refl _ _ | apply below_alloc | apply pw_below_drewN | apply below_drew1)⟩⟩
 case round =>
  obtain ⟨kk, hlo, hkk, hg, rfl, HI, HB⟩ := hrel
  by_cases hlt : kk < l0.length
  ·have hltz : (kk : Int) < (l0.length : Nat) := by omega
   have hltl : (kk : Int) < (l0.length : Int) := by have := HHI.out; omega
   have hltn : kk < l0.length := by omega
   obtain ⟨ad, A4, c4, e4, hx0, hx1, hx2, hx3, hx4, hl4, hi4⟩ := at_T43 HR0.out (kk : Int) (by omega) hltl
   cases e4
   simp only [Int.toNat_natCast] at hx0 hx1 hx2 hx3 hx4
   clear hx0 hx2 hx4 hi4
   replace hx1 := (HB.out.cell (World.block_lt_of_cell? w _ hx1)).trans hx1
   replace hx3 := (HB.out.cell (World.block_lt_of_cell? w _ hx3)).trans hx3
   have HS := Aside0.mk (textL_snoc l0 0 kk hlo hltn)
   have HGR := Aside0.mk (textL_grow l0 0 kk l0.length hlo hlt HHI.out)
   by_cases hq : (rd_T43 l0 (kk : Int)).f1 = 1
   ·have hqb : ((rd_T43 l0 (kk : Int)).f1 == 1) = true := beq_iff_eq.2 hq
    have HS2 : Aside0 (textL ((l0.drop 0).take (kk + 1 - 0)) = textL ((l0.drop 0).take (kk - 0)) ++ (rd_T43 l0 (kk : Int)).f3.data.toList) := ⟨by rw [HS.out, if_pos hq]⟩
    clear HS
    have hfit : (Lib.byteCells (textL ((l0.drop 0).take (kk - 0)))).length + (rd_T43 l0 (kk : Int)).f3.size ≤ 140737488355328 := by
     have h1 := HGR.out
     have h2 := HBY.out
     rw [HS2.out, List.length_append] at h1
     rw [Lib.byteCells_length]
     have h3 : (rd_T43 l0 (kk : Int)).f3.size = (rd_T43 l0 (kk : Int)).f3.data.toList.length := by rw [Array.length_toList]; rfl
     omega
    have hcall := writeString_calls w.heap.size w.heap.size _ (rd_T43 l0 (kk : Int)).f3 wr HI.out hfit (HB.out.size)
    clear hfit
    go_wp2_with (go_at_call 46; refine hcall.mono ?_; rintro e w' ⟨rfl, hba, hb'⟩)
    go_roundg (l0.length - (kk + 1))
    case measure => omega
    case rel => exact ⟨kk + 1, by omega, by omega, by omega, by (have := HM.out; go_num), ⟨.inr (by rw [HS2.out, Lib.byteCells_append]; exact hba)⟩, ⟨HB.out.trans hb'⟩⟩
   ·have hqb : ((rd_T43 l0 (kk : Int)).f1 == 1) = false := beq_eq_false_iff_ne.2 hq
    have HS2 : Aside0 (textL ((l0.drop 0).take (kk + 1 - 0)) = textL ((l0.drop 0).take (kk - 0))) := ⟨by rw [HS.out, if_neg hq, List.append_nil]⟩
    clear HS
    go_wp2
    go_roundg (l0.length - (kk + 1))
    case measure => omega
    case rel => exact ⟨kk + 1, by omega, by omega, by omega, by (have := HM.out; go_num), ⟨by rw [HS2.out]; exact HI.out⟩, HB⟩
  ·have hltz : ¬ (kk : Int) < (l0.length : Nat) := by omega
   obtain rfl : kk = l0.length := by omega
   have hcall := builderString_calls w.heap.size w.heap.size _ wr HI.out HB.out.size
   go_wp2_with (go_at_call 47; refine hcall.mono ?_; rintro e w' ⟨rfl, hb'⟩)
   go_ret
   exact ⟨by first | rfl | simp, HB.out.trans hb'⟩
set_option maxHeartbeats 4000000 in
set_option maxRecDepth 100000 in
theorem text_node (A0 : Option Addr) (c0 : Nat) (l0 : List (S43)) (w : World) (hr0 : Kd.C k43 w A0 l0.length l0) (hc0 : l0.length ≤ c0) (hm : l0.length < 9223372036854775807) (ii : Nat) (hii : ii < l0.length) (hpos : 0 < ii) (hb : (textL ((l0.drop ii).take ((endN l0 ii) - ii))).length ≤ 140737488355328) :
  Calls Try.prog 26 #[.slice A0 l0.length c0, .int .i64 (ii : Int)] w fun e w' => e = .returned (.string ⟨(textL ((l0.drop ii).take ((endN l0 ii) - ii))).toArray⟩) ∧ Below w.heap.size w w' := by
 have HR0 := Aside0.mk hr0
 have HC0 := Aside0.mk hc0
 have HM := Aside0.mk hm
 have HBY := Aside0.mk hb
 have HHI := Aside0.mk (endN_le l0 ii hii)
 have hLE := Aside0.mk (endN_lt l0 ii)
 have hb1 : ((ii : Int) == -1) = false := beq_eq_false_iff_ne.2 (by omega)
 have hb2 : ((ii : Int) != -1) = true := bne_iff_ne.2 (by omega)
 have hq : ∀ W, Below w.heap.size w W → Calls Try.prog 19 #[.slice A0 l0.length c0, .int .i64 (ii : Int)] W fun e w'' => e = .returned (.int .i64 ((endN l0 ii : Nat) : Int)) ∧ ∃ n, w'' = W.drewN n := fun W hb =>
  rows_End.n_calls l0 A0 c0 _ (Kd.C_below HR0.out hb) hc0 hm ii hii
 clear hr0 hc0 hb
 go_enter Try.func26, Try.ntmps26
 go_wp2_with (go_at_call 19; refine (hq _ (by repeat (first | exact Below.refl _ _ | apply below_alloc | apply pw_below_drewN | apply below_drew1))).mono ?_; rintro e w' ⟨rfl, nd, rfl⟩)

 go_loopg [8] (endN l0 ii) (fun gg v8 w' => ∃ kk : Nat, ii ≤ kk ∧ kk ≤ (endN l0 ii) ∧ (endN l0 ii) - kk ≤ gg ∧ v8 = .int .i64 kk ∧ Aside0 (Lib.IsBuilder 59 5 w.heap.size w.heap.size (Lib.byteCells (textL ((l0.drop ii).take (kk - ii)))) w') ∧ Aside0 (Below w.heap.size w w'))
 case atStart => exact ⟨ii, Nat.le_refl _, by first | omega | (have := hLE.out; omega), by omega, by go_num, ⟨by rw [Nat.sub_self]; exact .inl ⟨Nat.le_refl _, _, alloc_there _ _, World.ownsRow_nil _ _ _ _, by simp [Value.ownBlock]⟩⟩, ⟨by repeat (first | exact Below.refl _ _ | apply below_alloc | apply pw_below_drewN | apply below_drew1)⟩⟩
 case round =>
  obtain ⟨kk, hlo, hkk, hg, rfl, HI, HB⟩ := hrel
  by_cases hlt : kk < (endN l0 ii)
  ·have hltz : (kk : Int) < ((endN l0 ii) : Nat) := by omega
   have hltl : (kk : Int) < (l0.length : Int) := by have := HHI.out; omega
   have hltn : kk < l0.length := by omega
   obtain ⟨ad, A4, c4, e4, hx0, hx1, hx2, hx3, hx4, hl4, hi4⟩ := at_T43 HR0.out (kk : Int) (by omega) hltl
   cases e4
   simp only [Int.toNat_natCast] at hx0 hx1 hx2 hx3 hx4
   clear hx0 hx2 hx4 hi4
   replace hx1 := (HB.out.cell (World.block_lt_of_cell? w _ hx1)).trans hx1
   replace hx3 := (HB.out.cell (World.block_lt_of_cell? w _ hx3)).trans hx3
   have HS := Aside0.mk (textL_snoc l0 ii kk hlo hltn)
   have HGR := Aside0.mk (textL_grow l0 ii kk (endN l0 ii) hlo hlt HHI.out)
   by_cases hq : (rd_T43 l0 (kk : Int)).f1 = 1
   ·have hqb : ((rd_T43 l0 (kk : Int)).f1 == 1) = true := beq_iff_eq.2 hq
    have HS2 : Aside0 (textL ((l0.drop ii).take (kk + 1 - ii)) = textL ((l0.drop ii).take (kk - ii)) ++ (rd_T43 l0 (kk : Int)).f3.data.toList) := ⟨by rw [HS.out, if_pos hq]⟩
    clear HS
    have hfit : (Lib.byteCells (textL ((l0.drop ii).take (kk - ii)))).length + (rd_T43 l0 (kk : Int)).f3.size ≤ 140737488355328 := by
     have h1 := HGR.out
     have h2 := HBY.out
     rw [HS2.out, List.length_append] at h1
     rw [Lib.byteCells_length]
     have h3 : (rd_T43 l0 (kk : Int)).f3.size = (rd_T43 l0 (kk : Int)).f3.data.toList.length := by rw [Array.length_toList]; rfl
     omega
    have hcall := writeString_calls w.heap.size w.heap.size _ (rd_T43 l0 (kk : Int)).f3 wr HI.out hfit (HB.out.size)
    clear hfit
    go_wp2_with (go_at_call 46; refine hcall.mono ?_; rintro e w' ⟨rfl, hba, hb'⟩)
    go_roundg ((endN l0 ii) - (kk + 1))
    case measure => omega
    case rel => exact ⟨kk + 1, by omega, by omega, by omega, by (have := HM.out; go_num), ⟨.inr (by rw [HS2.out, Lib.byteCells_append]; exact hba)⟩, ⟨HB.out.trans hb'⟩⟩
   ·have hqb : ((rd_T43 l0 (kk : Int)).f1 == 1) = false := beq_eq_false_iff_ne.2 hq
    have HS2 : Aside0 (textL ((l0.drop ii).take (kk + 1 - ii)) = textL ((l0.drop ii).take (kk - ii))) := ⟨by rw [HS.out, if_neg hq, List.append_nil]⟩
    clear HS
    go_wp2
    go_roundg ((endN l0 ii) - (kk + 1))
    case measure => omega
    case rel => exact ⟨kk + 1, by omega, by omega, by omega, by (have := HM.out; go_num), ⟨by rw [HS2.out]; exact HI.out⟩, HB⟩
  ·have hltz : ¬ (kk : Int) < ((endN l0 ii) : Nat) := by omega
   obtain rfl : kk = (endN l0 ii) := by omega
   have hcall := builderString_calls w.heap.size w.heap.size _ wr HI.out HB.out.size
   go_wp2_with (go_at_call 47; refine hcall.mono ?_; rintro e w' ⟨rfl, hb'⟩)
   go_ret
   exact ⟨by first | rfl | simp, HB.out.trans hb'⟩
set_option maxHeartbeats 4000000 in
set_option maxRecDepth 100000 in
theorem text_node0 (A0 : Option Addr) (c0 : Nat) (l0 : List (S43)) (w : World) (hr0 : Kd.C k43 w A0 l0.length l0) (hc0 : l0.length ≤ c0) (hm : l0.length < 9223372036854775807) (hii : 0 < l0.length) (hb : (textL ((l0.drop 0).take ((endN l0 0) - 0))).length ≤ 140737488355328) :
  Calls Try.prog 26 #[.slice A0 l0.length c0, .int .i64 ((0 : Nat) : Int)] w fun e w' => e = .returned (.string ⟨(textL ((l0.drop 0).take ((endN l0 0) - 0))).toArray⟩) ∧ Below w.heap.size w w' := by
 have HR0 := Aside0.mk hr0
 have HC0 := Aside0.mk hc0
 have HM := Aside0.mk hm
 have HBY := Aside0.mk hb
 have HHI := Aside0.mk (endN_le l0 0 hii)
 have hLE := Aside0.mk (endN_lt l0 0)
 have hb1 : (((0 : Nat) : Int) == -1) = false := beq_eq_false_iff_ne.2 (by omega)
 have hb2 : (((0 : Nat) : Int) != -1) = true := bne_iff_ne.2 (by omega)
 have hq : ∀ W, Below w.heap.size w W → Calls Try.prog 19 #[.slice A0 l0.length c0, .int .i64 ((0 : Nat) : Int)] W fun e w'' => e = .returned (.int .i64 ((endN l0 0 : Nat) : Int)) ∧ ∃ n, w'' = W.drewN n := fun W hb =>
  rows_End.n_calls l0 A0 c0 _ (Kd.C_below HR0.out hb) hc0 hm 0 hii
 clear hr0 hc0 hb
 go_enter Try.func26, Try.ntmps26
 go_wp2_with (go_at_call 19; refine (hq _ (by repeat (first | exact Below.refl _ _ | apply below_alloc | apply pw_below_drewN | apply below_drew1))).mono ?_; rintro e w' ⟨rfl, nd, rfl⟩)

 go_loopg [8] (endN l0 0) (fun gg v8 w' => ∃ kk : Nat, 0 ≤ kk ∧ kk ≤ (endN l0 0) ∧ (endN l0 0) - kk ≤ gg ∧ v8 = .int .i64 kk ∧ Aside0 (Lib.IsBuilder 59 5 w.heap.size w.heap.size (Lib.byteCells (textL ((l0.drop 0).take (kk - 0)))) w') ∧ Aside0 (Below w.heap.size w w'))
 case atStart => exact ⟨0, Nat.le_refl _, by first | omega | (have := hLE.out; omega), by omega, by go_num, ⟨by rw [Nat.sub_self]; exact .inl ⟨Nat.le_refl _, _, alloc_there _ _, World.ownsRow_nil _ _ _ _, by simp [Value.ownBlock]⟩⟩, ⟨by repeat (first | exact Below.refl _ _ | apply below_alloc | apply pw_below_drewN | apply below_drew1)⟩⟩
 case round =>
  obtain ⟨kk, hlo, hkk, hg, rfl, HI, HB⟩ := hrel
  by_cases hlt : kk < (endN l0 0)
  ·have hltz : (kk : Int) < ((endN l0 0) : Nat) := by omega
   have hltl : (kk : Int) < (l0.length : Int) := by have := HHI.out; omega
   have hltn : kk < l0.length := by omega
   obtain ⟨ad, A4, c4, e4, hx0, hx1, hx2, hx3, hx4, hl4, hi4⟩ := at_T43 HR0.out (kk : Int) (by omega) hltl
   cases e4
   simp only [Int.toNat_natCast] at hx0 hx1 hx2 hx3 hx4
   clear hx0 hx2 hx4 hi4
   replace hx1 := (HB.out.cell (World.block_lt_of_cell? w _ hx1)).trans hx1
   replace hx3 := (HB.out.cell (World.block_lt_of_cell? w _ hx3)).trans hx3
   have HS := Aside0.mk (textL_snoc l0 0 kk hlo hltn)
   have HGR := Aside0.mk (textL_grow l0 0 kk (endN l0 0) hlo hlt HHI.out)
   by_cases hq : (rd_T43 l0 (kk : Int)).f1 = 1
   ·have hqb : ((rd_T43 l0 (kk : Int)).f1 == 1) = true := beq_iff_eq.2 hq
    have HS2 : Aside0 (textL ((l0.drop 0).take (kk + 1 - 0)) = textL ((l0.drop 0).take (kk - 0)) ++ (rd_T43 l0 (kk : Int)).f3.data.toList) := ⟨by rw [HS.out, if_pos hq]⟩
    clear HS
    have hfit : (Lib.byteCells (textL ((l0.drop 0).take (kk - 0)))).length + (rd_T43 l0 (kk : Int)).f3.size ≤ 140737488355328 := by
     have h1 := HGR.out
     have h2 := HBY.out
     rw [HS2.out, List.length_append] at h1
     rw [Lib.byteCells_length]
     have h3 : (rd_T43 l0 (kk : Int)).f3.size = (rd_T43 l0 (kk : Int)).f3.data.toList.length := by rw [Array.length_toList]; rfl
     omega
    have hcall := writeString_calls w.heap.size w.heap.size _ (rd_T43 l0 (kk : Int)).f3 wr HI.out hfit (HB.out.size)
    clear hfit
    go_wp2_with (go_at_call 46; refine hcall.mono ?_; rintro e w' ⟨rfl, hba, hb'⟩)
    go_roundg ((endN l0 0) - (kk + 1))
    case measure => omega
    case rel => exact ⟨kk + 1, by omega, by omega, by omega, by (have := HM.out; go_num), ⟨.inr (by rw [HS2.out, Lib.byteCells_append]; exact hba)⟩, ⟨HB.out.trans hb'⟩⟩
   ·have hqb : ((rd_T43 l0 (kk : Int)).f1 == 1) = false := beq_eq_false_iff_ne.2 hq
    have HS2 : Aside0 (textL ((l0.drop 0).take (kk + 1 - 0)) = textL ((l0.drop 0).take (kk - 0))) := ⟨by rw [HS.out, if_neg hq, List.append_nil]⟩
    clear HS
    go_wp2
    go_roundg ((endN l0 0) - (kk + 1))
    case measure => omega
    case rel => exact ⟨kk + 1, by omega, by omega, by omega, by (have := HM.out; go_num), ⟨by rw [HS2.out]; exact HI.out⟩, HB⟩
  ·have hltz : ¬ (kk : Int) < ((endN l0 0) : Nat) := by omega
   obtain rfl : kk = (endN l0 0) := by omega
   have hcall := builderString_calls w.heap.size w.heap.size _ wr HI.out HB.out.size
   go_wp2_with (go_at_call 47; refine hcall.mono ?_; rintro e w' ⟨rfl, hb'⟩)
   go_ret
   exact ⟨by first | rfl | simp, HB.out.trans hb'⟩
set_option maxHeartbeats 4000000 in
set_option maxRecDepth 100000 in
theorem text_neg (A0 : Option Addr) (c0 : Nat) (l0 : List (S43)) (w : World) (hr0 : Kd.C k43 w A0 l0.length l0) (hc0 : l0.length ≤ c0) (hm : l0.length < 9223372036854775807) (a1 : Int) (h1 : ¬ a1 = -1) (hbad : a1 < 0) :
  Calls Try.prog 26 #[.slice A0 l0.length c0, .int .i64 a1] w fun e w' => e = .returned (.string ⟨(textL []).toArray⟩) ∧ Below w.heap.size w w' := by
 have hb1 : (a1 == -1) = false := beq_eq_false_iff_ne.2 h1
 have hb2 : (a1 != -1) = true := bne_iff_ne.2 h1
 have hq : ∀ W, Below w.heap.size w W → Calls Try.prog 19 #[.slice A0 l0.length c0, .int .i64 a1] W fun e w'' => e = .returned (.int .i64 0) ∧ ∃ n, w'' = W.drewN n := fun W hb =>
  (rows_End.calls (l0.length + 1) A0 c0 l0 a1 0 W (Kd.C_below hr0 hb) hc0 (by
   unfold rows_End.f rows_is.f
   by_cases h0 : a1 ≥ 0
   ·rw [if_pos h0]
    simp only [Option.bind_some]
    rw [decide_eq_false (fun e => by omega)]
    rfl
   ·rw [if_neg h0]
    rfl)).mono fun _ _ ⟨he, hd⟩ => ⟨he, hd.out⟩
 clear hr0 hc0
 go_enter Try.func26, Try.ntmps26
 go_wp2_with (go_at_call 19; refine (hq _ (by repeat (first | exact Below.refl _ _ | apply below_alloc | apply pw_below_drewN | apply below_drew1))).mono ?_; rintro e w' ⟨rfl, nd, rfl⟩)
 go_loopg [8] 0 (fun gg v8 w' => v8 = .int .i64 (0) ∧ ∃ n, w' = (w.drewN n).alloc (.cells #[.pointer none, .slice none 0 0] 59))
 case atStart => exact ⟨rfl, _, rfl⟩
 case round =>
  obtain ⟨rfl, nd2, rfl⟩ := hrel
  have hcall := builderString_calls w.heap.size w.heap.size [] ((w.drewN nd2).alloc (.cells #[.pointer none, .slice none 0 0] 59)) (.inl ⟨Nat.le_refl _, _, alloc_there _ _, World.ownsRow_nil _ _ _ _, by simp [Value.ownBlock]⟩) (by simp)
  go_wp2_with (go_at_call 47; refine hcall.mono ?_; rintro e w' ⟨rfl, hb'⟩)
  go_ret
  exact ⟨rfl, Below.trans (by repeat (first | exact Below.refl _ _ | apply below_alloc | apply pw_below_drewN | apply below_drew1)) hb'⟩
set_option maxHeartbeats 4000000 in
set_option maxRecDepth 100000 in
theorem text_far (A0 : Option Addr) (c0 : Nat) (l0 : List (S43)) (w : World) (hr0 : Kd.C k43 w A0 l0.length l0) (hc0 : l0.length ≤ c0) (hm : l0.length < 9223372036854775807) (a1 : Int) (h1 : ¬ a1 = -1) (hbad : 0 < l0.length ∧ (l0.length : Int) < a1) :
  Calls Try.prog 26 #[.slice A0 l0.length c0, .int .i64 a1] w fun e w' => e = .returned (.string ⟨(textL []).toArray⟩) ∧ Below w.heap.size w w' := by
 have hb1 : (a1 == -1) = false := beq_eq_false_iff_ne.2 h1
 have hb2 : (a1 != -1) = true := bne_iff_ne.2 h1
 have hq : ∀ W, Below w.heap.size w W → Calls Try.prog 19 #[.slice A0 l0.length c0, .int .i64 a1] W fun e w'' => e = .returned (.int .i64 0) ∧ ∃ n, w'' = W.drewN n := fun W hb =>
  (rows_End.calls (l0.length + 1) A0 c0 l0 a1 0 W (Kd.C_below hr0 hb) hc0 (by
   unfold rows_End.f rows_is.f
   by_cases h0 : a1 ≥ 0
   ·rw [if_pos h0]
    simp only [Option.bind_some]
    rw [decide_eq_false (fun e => by omega)]
    rfl
   ·rw [if_neg h0]
    rfl)).mono fun _ _ ⟨he, hd⟩ => ⟨he, hd.out⟩
 clear hr0 hc0
 go_enter Try.func26, Try.ntmps26
 go_wp2_with (go_at_call 19; refine (hq _ (by repeat (first | exact Below.refl _ _ | apply below_alloc | apply pw_below_drewN | apply below_drew1))).mono ?_; rintro e w' ⟨rfl, nd, rfl⟩)
 go_loopg [8] 0 (fun gg v8 w' => v8 = .int .i64 (l0.length) ∧ ∃ n, w' = (w.drewN n).alloc (.cells #[.pointer none, .slice none 0 0] 59))
 case atStart => exact ⟨rfl, _, rfl⟩
 case round =>
  obtain ⟨rfl, nd2, rfl⟩ := hrel
  have hcall := builderString_calls w.heap.size w.heap.size [] ((w.drewN nd2).alloc (.cells #[.pointer none, .slice none 0 0] 59)) (.inl ⟨Nat.le_refl _, _, alloc_there _ _, World.ownsRow_nil _ _ _ _, by simp [Value.ownBlock]⟩) (by simp)
  go_wp2_with (go_at_call 47; refine hcall.mono ?_; rintro e w' ⟨rfl, hb'⟩)
  go_ret
  exact ⟨rfl, Below.trans (by repeat (first | exact Below.refl _ _ | apply below_alloc | apply pw_below_drewN | apply below_drew1)) hb'⟩
set_option maxHeartbeats 4000000 in
set_option maxRecDepth 100000 in
theorem text_eq (A0 : Option Addr) (c0 : Nat) (l0 : List (S43)) (w : World) (hr0 : Kd.C k43 w A0 l0.length l0) (hc0 : l0.length ≤ c0) (hm : l0.length < 9223372036854775807) (a1 : Int) (h1 : ¬ a1 = -1) (hbad : 0 < l0.length ∧ (l0.length : Int) = a1) :
  Calls Try.prog 26 #[.slice A0 l0.length c0, .int .i64 a1] w fun e w' => e = .returned (.string ⟨(textL []).toArray⟩) ∧ Below w.heap.size w w' := by
 have hb1 : (a1 == -1) = false := beq_eq_false_iff_ne.2 h1
 have hb2 : (a1 != -1) = true := bne_iff_ne.2 h1
 have hq : ∀ W, Below w.heap.size w W → Calls Try.prog 19 #[.slice A0 l0.length c0, .int .i64 a1] W fun e w'' => e = .returned (.int .i64 0) ∧ ∃ n, w'' = W.drewN n := fun W hb =>
  (rows_End.calls (l0.length + 1) A0 c0 l0 a1 0 W (Kd.C_below hr0 hb) hc0 (by
   unfold rows_End.f rows_is.f
   by_cases h0 : a1 ≥ 0
   ·rw [if_pos h0]
    simp only [Option.bind_some]
    rw [decide_eq_false (fun e => by omega)]
    rfl
   ·rw [if_neg h0]
    rfl)).mono fun _ _ ⟨he, hd⟩ => ⟨he, hd.out⟩
 clear hr0 hc0
 obtain ⟨hb3, rfl⟩ := hbad
 go_enter Try.func26, Try.ntmps26
 go_wp2_with (go_at_call 19; refine (hq _ (by repeat (first | exact Below.refl _ _ | apply below_alloc | apply pw_below_drewN | apply below_drew1))).mono ?_; rintro e w' ⟨rfl, nd, rfl⟩)
 go_loopg [8] 0 (fun gg v8 w' => v8 = .int .i64 (l0.length) ∧ ∃ n, w' = (w.drewN n).alloc (.cells #[.pointer none, .slice none 0 0] 59))
 case atStart => exact ⟨rfl, _, rfl⟩
 case round =>
  obtain ⟨rfl, nd2, rfl⟩ := hrel
  have hcall := builderString_calls w.heap.size w.heap.size [] ((w.drewN nd2).alloc (.cells #[.pointer none, .slice none 0 0] 59)) (.inl ⟨Nat.le_refl _, _, alloc_there _ _, World.ownsRow_nil _ _ _ _, by simp [Value.ownBlock]⟩) (by simp)
  go_wp2_with (go_at_call 47; refine hcall.mono ?_; rintro e w' ⟨rfl, hb'⟩)
  go_ret
  exact ⟨rfl, Below.trans (by repeat (first | exact Below.refl _ _ | apply below_alloc | apply pw_below_drewN | apply below_drew1)) hb'⟩
set_option maxHeartbeats 4000000 in
set_option maxRecDepth 100000 in
theorem text_zero (A0 : Option Addr) (c0 : Nat) (w : World) (hq : ∀ W, Below w.heap.size w W → Calls Try.prog 19 #[.slice A0 0 c0, .int .i64 0] W fun e w'' => e = .returned (.int .i64 0) ∧ ∃ n, w'' = W.drewN n) :
  Calls Try.prog 26 #[.slice A0 0 c0, .int .i64 0] w fun e w' => e = .returned (.string ⟨(textL []).toArray⟩) ∧ Below w.heap.size w w' := by
 go_enter Try.func26, Try.ntmps26
 go_wp2_with (go_at_call 19; refine (hq _ (by repeat (first | exact Below.refl _ _ | apply below_alloc | apply pw_below_drewN | apply below_drew1))).mono ?_; rintro e w' ⟨rfl, nd, rfl⟩)
 go_loopg [8] 0 (fun gg v8 w' => v8 = .int .i64 (0) ∧ ∃ n, w' = (w.drewN n).alloc (.cells #[.pointer none, .slice none 0 0] 59))
 case atStart => exact ⟨rfl, _, rfl⟩
 case round =>
  obtain ⟨rfl, nd2, rfl⟩ := hrel
  have hcall := builderString_calls w.heap.size w.heap.size [] ((w.drewN nd2).alloc (.cells #[.pointer none, .slice none 0 0] 59)) (.inl ⟨Nat.le_refl _, _, alloc_there _ _, World.ownsRow_nil _ _ _ _, by simp [Value.ownBlock]⟩) (by simp)
  go_wp2_with (go_at_call 47; refine hcall.mono ?_; rintro e w' ⟨rfl, hb'⟩)
  go_ret
  exact ⟨rfl, Below.trans (by repeat (first | exact Below.refl _ _ | apply below_alloc | apply pw_below_drewN | apply below_drew1)) hb'⟩
set_option maxHeartbeats 4000000 in
set_option maxRecDepth 100000 in
theorem text_far0 (A0 : Option Addr) (c0 : Nat) (w : World) (hr0 : Kd.C k43 w A0 ([] : List S43).length ([] : List S43)) (hc0 : ([] : List S43).length ≤ c0) (a1 : Int) (h1 : ¬ a1 = -1) (hbad : 0 ≤ a1) :
  Calls Try.prog 26 #[.slice A0 ([] : List S43).length c0, .int .i64 a1] w fun e w' => e = .returned (.string ⟨(textL []).toArray⟩) ∧ Below w.heap.size w w' := by
 have hb1 : (a1 == -1) = false := beq_eq_false_iff_ne.2 h1
 have hb2 : (a1 != -1) = true := bne_iff_ne.2 h1
 have hq : ∀ W, Below w.heap.size w W → Calls Try.prog 19 #[.slice A0 ([] : List S43).length c0, .int .i64 a1] W fun e w'' => e = .returned (.int .i64 0) ∧ ∃ n, w'' = W.drewN n := fun W hb =>
  (rows_End.calls (([] : List S43).length + 1) A0 c0 ([] : List S43) a1 0 W (Kd.C_below hr0 hb) hc0 (by
   unfold rows_End.f rows_is.f
   by_cases h0 : a1 ≥ 0
   ·rw [if_pos h0]
    simp only [Option.bind_some]
    rw [decide_eq_false (fun e => by simp at e; omega)]
    rfl
   ·rw [if_neg h0]
    rfl)).mono fun _ _ ⟨he, hd⟩ => ⟨he, hd.out⟩
 clear hr0 hc0
 simp only [List.length_nil] at hq ⊢
 by_cases hz : 0 < a1
 rotate_left
 ·obtain rfl : a1 = 0 := by omega
  exact text_zero A0 c0 w hq
 go_enter Try.func26, Try.ntmps26
 go_wp2_with (go_at_call 19; refine (hq _ (by repeat (first | exact Below.refl _ _ | apply below_alloc | apply pw_below_drewN | apply below_drew1))).mono ?_; rintro e w' ⟨rfl, nd, rfl⟩)
 go_loopg [8] 0 (fun gg v8 w' => v8 = .int .i64 (0) ∧ ∃ n, w' = (w.drewN n).alloc (.cells #[.pointer none, .slice none 0 0] 59))
 case atStart => exact ⟨rfl, _, rfl⟩
 case round =>
  obtain ⟨rfl, nd2, rfl⟩ := hrel
  have hcall := builderString_calls w.heap.size w.heap.size [] ((w.drewN nd2).alloc (.cells #[.pointer none, .slice none 0 0] 59)) (.inl ⟨Nat.le_refl _, _, alloc_there _ _, World.ownsRow_nil _ _ _ _, by simp [Value.ownBlock]⟩) (by simp)
  go_wp2_with (go_at_call 47; refine hcall.mono ?_; rintro e w' ⟨rfl, hb'⟩)
  go_ret
  exact ⟨rfl, Below.trans (by repeat (first | exact Below.refl _ _ | apply below_alloc | apply pw_below_drewN | apply below_drew1)) hb'⟩
theorem rows_Text.calls (A0 : Option Addr) (c0 : Nat) (l0 : List (S43)) (a1 : Int) (r : ByteArray) (w : World) (hr0 : Kd.C k43 w A0 l0.length l0) (hc0 : l0.length ≤ c0) (h : rows_Text.f l0 a1 = some r) :
  Calls Try.prog 26 #[.slice A0 l0.length c0, .int .i64 a1] w fun e w' => e = .returned (.string r) ∧ Below w.heap.size w w' := by
 unfold rows_Text.f at h
 by_cases c : l0.length < 9223372036854775807 ∧ (textL (textRows l0 a1)).length ≤ 140737488355328
 rotate_left
 ·rw [if_neg c] at h; exact absurd h (by simp)
 rw [if_pos c] at h
 obtain rfl := Option.some.inj h
 clear h
 obtain ⟨hm, hby⟩ := c
 by_cases h1 : a1 = -1
 ·subst h1
  have he : textRows l0 (-1) = (l0.drop 0).take (l0.length - 0) := by simp [textRows]
  rw [he] at hby ⊢
  exact text_all A0 c0 l0 w hr0 hc0 hm hby
 by_cases h2 : 0 ≤ a1 ∧ a1 < (l0.length : Int)
 ·obtain ⟨ii, rfl⟩ := Int.eq_ofNat_of_zero_le h2.1
  have he : textRows l0 (ii : Int) = (l0.drop ii).take (endN l0 ii - ii) := by unfold textRows; rw [if_neg h1, if_pos h2, Int.toNat_natCast]
  rw [he] at hby ⊢
  by_cases h3 : 0 < ii
  ·exact text_node A0 c0 l0 w hr0 hc0 hm ii (by omega) h3 hby
  ·obtain rfl : ii = 0 := by omega
   exact text_node0 A0 c0 l0 w hr0 hc0 hm (by omega) hby
 ·have he : textRows l0 a1 = [] := by unfold textRows; rw [if_neg h1, if_neg h2]
  rw [he]
  by_cases h3 : a1 < 0
  ·exact text_neg A0 c0 l0 w hr0 hc0 hm a1 h1 h3
  ·by_cases h4 : l0.length = 0
   ·obtain rfl := List.eq_nil_of_length_eq_zero h4
    exact text_far0 A0 c0 w hr0 hc0 a1 h1 (by omega)
   ·by_cases h5 : (l0.length : Int) = a1
    ·exact text_eq A0 c0 l0 w hr0 hc0 hm a1 h1 ⟨by omega, h5⟩
    ·exact text_far A0 c0 l0 w hr0 hc0 hm a1 h1 ⟨by omega, by omega⟩
end


/-! ### api_Attr: function 54 -/
def api_Attr.f (l0 : List (S46)) : Option (List (S46)) := if l0.length < 4398046511104 then some l0 else none
set_option maxHeartbeats 2000000 in
set_option maxRecDepth 100000 in
theorem api_Attr.calls (A0 : Option Addr) (c0 : Nat) (l0 : List (S46)) (r : List (S46)) (w : World) (hr0 : Kd.C k46 w A0 l0.length l0) (hc0 : l0.length ≤ c0) (h : api_Attr.f l0 = some r) :
  Calls Try.prog 54 #[.slice A0 l0.length c0] w fun e w' => ∃ v0_ : Value, e = .returned (v0_) ∧ Kd.R k46 46 w' w.heap.size (fun _ => True) v0_ r ∧ Below w.heap.size w w' := by
 have HB := Aside0.mk (Below.refl w.heap.size w)
 unfold api_Attr.f at h
 by_cases c : l0.length < 4398046511104
 rotate_left
 ·rw [if_neg c] at h; exact absurd h (by simp)
 rw [if_pos c] at h
 obtain rfl := Option.some.inj h
 clear h
 have LM := Aside0.mk c
 have HR0 := Aside0.mk hr0
 have HC0 := Aside0.mk hc0
 clear hr0 hc0 c
 cases A0 with
 | none =>
  have hz : l0 = [] := by
   cases l0 with
   | nil => rfl
   | cons x l =>
    obtain ⟨ad, e, _⟩ := at_T46 HR0.out 0 (by omega) (by simp)
    cases e
  subst hz
  clear HR0 LM
  have hnil := fun w : World => Lib.run_eql_slice_nil (P := Try.prog) w 41 46 none 0 c0 0 0 Try.underlying41
  go_enter Try.func54, Try.ntmps54
  go_wp2
  go_ret
  exact ⟨_, rfl, Kd.R_nil _ _ _ _ _, HB.out⟩
 | some ad =>
  have hnil := fun w : World => Lib.run_eql_slice_nil (P := Try.prog) w 41 46 (some ad) l0.length c0 0 0 Try.underlying41
  go_enter Try.func54, Try.ntmps54
  go_wp2_with (first | ((with_reducible refine gate_dst (N := 5) rfl ?_); refine Kd.R_lit k46 _ 46 ?hg (N := 5) ?hd (xs := ([] : List (S46))) (inner := []) (ok := fun _ => True) (okp := fun _ => True) ?hr ?hp (fun _ hk => hk) trivial (Below.refl _ _) (Nat.le_refl _) (by simp) ?_; (case hd => rfl); (case hg => rfl); (case hr => first | (go_simp; done) | (go_simp; rfl)); (case hp => exact (Reps.none _ _)); intro v5 w5 ho hb hg_ hnew_; clear hg_ hnew_; have n0_ := Aside0.mk (Kd.R_lower ho (below_size HB.out)); have n1_ := Aside0.mk (below_step HB.out hb); clear HB; have HO := n0_; have HB := n1_; clear n0_ n1_ hb ho) | ((with_reducible refine gate_builtin (b := .append) (xs := #[.tmp 5, .tmp 6]) rfl ?_); at_builtin; refine Kd.R_append_rows k46 (w0 := w) w.heap.size rfl (.tmp 5) (.tmp 6) 41 46 (.agg #[(.string ⟨#[]⟩), (.string ⟨#[]⟩)]) 32 rfl Try.underlying41 info46 rfl (by decide) (by omega) v5 ([] : List (S46)) l0 _ _ _ (fun _ => True) (fun _ => False) rfl rfl ?aO ?aR (fun _ _ h => h) (fun _ h => h.elim) ?aF ?aB ?aS ?aL ?_; (case aR => exact Kd.C_below HR0.out HB.out); (case aB => exact HB.out); (case aF => exact (fun _ _ => trivial)); (case aO => exact HO.out); (case aS => exact below_size HB.out); (case aL => have := LM.out; simp; omega); intro v7 w7 ho hb hg hat; have HO2 := Aside0.mk ho; have HB2 := Aside0.mk hb; clear ho hb hg hat))
  go_ret
  exact ⟨_, rfl, HO2.out, HB2.out⟩


/-! ### rows_moved: function 48 -/
def rows_moved.l0 : Nat → Int → List (S43) → List (S43) → Int → Int → Option ((List (S43)))
 | 0, _, _, _, _, _ => none
 | k + 1, x1, x5, x8, x9, x10 => if x10 < x9 then (if 0 ≤ x10 then (if x10 < (x8.length : Int) then ((api_Attr.f ((rd_T43 x8 x10).f4)).bind fun t142 => (if x5.length < 1954687338268 then (rows_moved.l0 k x1 (x5 ++ [(⟨wrap64 (((rd_T43 x8 x10).f0) + x1), (rd_T43 x8 x10).f1, (rd_T43 x8 x10).f2, (rd_T43 x8 x10).f3, t142⟩ : S43)]) x8 x9 (wrap64 (x10 + 1))) else (none))) else (none)) else (none)) else (some x5)
def rows_moved.f (k : Nat) (l0 : List (S43)) (a1 : Int) : Option ((List (S43))) := rows_moved.l0 k a1 ([] : List (S43)) l0 (l0.length : Int) 0
theorem rows_moved.mono_l : ∀ k, (∀ y0 y1 y2 y3 y4, LeO (rows_moved.l0 k y0 y1 y2 y3 y4) (rows_moved.l0 (k + 1) y0 y1 y2 y3 y4))
 | 0 => fun _ _ _ _ _ r h => by simp [rows_moved.l0] at h
 | k + 1 => by
  have ih0 := rows_moved.mono_l k
  ·intro y0 y1 y2 y3 y4
   unfold rows_moved.l0
   repeat' first
   | (with_reducible exact ih0 _ _ _ _ _)
   | (with_reducible exact LeO.refl _)
   | (with_reducible exact LeO.none _)
   | (with_reducible refine LeO.ite ?_ ?_)
   | (with_reducible refine LeO.bind ?_ (fun _ => ?_))
   | exact ih0 _ _ _ _ _
   | exact LeO.none _
   | refine LeO.ite ?_ ?_
   | refine LeO.bind ?_ (fun _ => ?_)
theorem rows_moved.mono : ∀ a0 a1 k, LeO (rows_moved.f k a0 a1) (rows_moved.f (k + 1) a0 a1) := by
 intro a0 a1 k
 have ih0 := rows_moved.mono_l k
 unfold rows_moved.f
 repeat' first
   | (with_reducible exact ih0 _ _ _ _ _)
   | (with_reducible exact LeO.refl _)
   | (with_reducible exact LeO.none _)
   | (with_reducible refine LeO.ite ?_ ?_)
   | (with_reducible refine LeO.bind ?_ (fun _ => ?_))
   | exact ih0 _ _ _ _ _
   | exact LeO.none _
   | refine LeO.ite ?_ ?_
   | refine LeO.bind ?_ (fun _ => ?_)
set_option maxHeartbeats 8000000 in
set_option maxRecDepth 100000 in
theorem rows_moved.calls (k : Nat) (A0 : Option Addr) (c0 : Nat) (l0 : List (S43)) (a1 : Int) (r : List (S43)) (w : World) (hr0 : Kd.C k43 w A0 l0.length l0) (hc0 : l0.length ≤ c0) (h : rows_moved.f k l0 a1 = some r) :
  Calls Try.prog 48 #[.slice A0 l0.length c0, .int .i64 a1] w fun e w' => ∃ v0_ : Value, e = .returned (v0_) ∧ Kd.S k43 43 w' w.heap.size (fun _ => True) v0_ r ∧ Below w.heap.size w w' := by
 have hu43 := Try.underlying43
 have HR0 := Aside0.mk hr0
 have HC0 := Aside0.mk hc0
 clear hr0 hc0
 have HB := Aside0.mk (Below.refl w.heap.size w)
 have H : (rows_moved.l0 k a1 ([] : List (S43)) l0 (l0.length : Int) 0) = some r := h
 clear h
 have H' := Aside0.mk H
 clear H
 go_enter Try.func48, Try.ntmps48
 go_wp2
 go_loopg [5, 10] k (fun kq v5 v10 w' => ∃ (x5_1 : List (S43)) (x10_1 : Int), v10 = .int .i64 x10_1 ∧ Aside0 (rows_moved.l0 kq a1 x5_1 l0 (l0.length : Int) x10_1 = some r) ∧ Aside0 (kq ≤ k) ∧ Aside0 (Kd.S k43 43 w' w.heap.size (fun _ => True) v5 x5_1) ∧ Aside0 (Below w.heap.size w w'))
 case atStart => exact ⟨(([] : List (S43))), (0), aE, H', ⟨Nat.le_refl _⟩, ⟨by first | exact Kd.S_nil _ _ _ _ _ | exact Kd.N_nil _ _ _ _ _ | exact Kd.V_nil _ _ _ _ _ | exact Kd.Q_nil _ _ _ _ _ | exact Kd.R_nil _ _ _ _ _⟩, ⟨aB HB⟩⟩
 case round =>
  clear H'
  try clear p2
  obtain ⟨x5_1, x10_1, rfl, HA, HK1, HO_5, HB⟩ := hrel
  cases gk with
  | zero => exact absurd HA.out (by simp [rows_moved.l0])
  | succ k1 =>
   have H := HA.out
   clear HA
   simp only [rows_moved.l0] at H
   by_cases c3 : x10_1 < (l0.length : Int)
   ·rw [if_pos c3] at H
    have c3b0 : decide (x10_1 < (l0.length : Int)) = true := decide_eq_true c3
    clear c3
    by_cases c4 : 0 ≤ x10_1
    ·rw [if_pos c4] at H
     have c4b0 : decide (0 ≤ x10_1) = true := decide_eq_true c4
     clear c4
     by_cases c5 : x10_1 < (l0.length : Int)
     ·rw [if_pos c5] at H
      have c5b0 : decide (x10_1 < (l0.length : Int)) = true := decide_eq_true c5
      clear c5
      replace H := Option.bind_eq_some_iff.mp H
      obtain ⟨t142, A60, H⟩ := H
      replace H : (if x5_1.length < 1954687338268 then (rows_moved.l0 k1 a1 (x5_1 ++ [(⟨wrap64 (((rd_T43 l0 x10_1).f0) + a1), (rd_T43 l0 x10_1).f1, (rd_T43 l0 x10_1).f2, (rd_T43 l0 x10_1).f3, t142⟩ : S43)]) l0 (l0.length : Int) (wrap64 (x10_1 + 1))) else (none)) = some r := H
      have A6 := Aside0.mk A60
      clear A60
      by_cases c7 : x5_1.length < 1954687338268
      ·rw [if_pos c7] at H
       have LMc7 := Aside0.mk c7
       clear c7
       obtain ⟨y145, hy145⟩ : ∃ y_ : List (S43), y_ = (x5_1 ++ [(⟨wrap64 (((rd_T43 l0 x10_1).f0) + a1), (rd_T43 l0 x10_1).f1, (rd_T43 l0 x10_1).f2, (rd_T43 l0 x10_1).f3, t142⟩ : S43)]) := ⟨_, rfl⟩
       replace H : (rows_moved.l0 k1 a1 y145 l0 (l0.length : Int) (wrap64 (x10_1 + 1))) = some r := by first | (rw [hy145]; with_reducible exact H) | (have H2_ := (Option.bind_some _ _).symm.trans H; rw [hy145]; with_reducible exact H2_) | (have H2_ := (Option.bind_some _ _).symm.trans H; with_reducible exact H2_) | with_reducible exact H | (rw [hy145]; exact H) | exact H
       have Ny145 := Aside0.mk hy145
       clear hy145
       have H' := Aside0.mk H
       clear H
       have p140 : 0 ≤ (x10_1 : Int) := of_decide_eq_true aA
       have q140 : x10_1 < (l0.length : Int) := of_decide_eq_true aA
       obtain ⟨ad140, A140_4, c140_4, e140, hx140_0, hx140_1, hx140_2, hx140_3, hx140_4, hl140_4, hi140_4⟩ := at_T43 HR0.out x10_1 p140 q140
       cases e140
       replace hx140_0 := (HB.out.cell (World.block_lt_of_cell? w _ hx140_0)).trans hx140_0
       replace hx140_1 := (HB.out.cell (World.block_lt_of_cell? w _ hx140_1)).trans hx140_1
       replace hx140_2 := (HB.out.cell (World.block_lt_of_cell? w _ hx140_2)).trans hx140_2
       replace hx140_3 := (HB.out.cell (World.block_lt_of_cell? w _ hx140_3)).trans hx140_3
       replace hx140_4 := (HB.out.cell (World.block_lt_of_cell? w _ hx140_4)).trans hx140_4
       have HR140_4 := Aside0.mk hi140_4
       have HC140_4 := Aside0.mk hl140_4
       clear hi140_4 hl140_4
       replace p140 := eq_true p140
       replace q140 := eq_true q140
       go_wp2_with (first | ((with_reducible refine gate_dst (N := 7) rfl ?_); refine box_event ?hg (N := 7) ?hd (cs := #[.int .i64 0, .int .i64 0, .string (⟨#[]⟩ : ByteArray), .string (⟨#[]⟩ : ByteArray), .slice none 0 0]) (t := 43) ?hr ?_; (case hd => rfl); (case hg => rfl); (case hr => first | (go_simp; done) | (go_simp; rfl)); intro gb141 hg w8 hbox hb; have n0_ := Aside0.mk (Kd.S_below (Kd.S_elderB (by (with_reducible repeat (first | apply Kd.S_alloc | apply Kd.S_drewN | apply Kd.S_drew)); exact HO_5.out) gb141 (Nat.le_of_eq hg.symm)) hb); have n1_ := Aside0.mk (below_step (aB HB) hb); have n2_ := Aside0.mk (hbox); have n3_ := Aside0.mk ((by rw [hg]; exact (below_size (aB HB)) : w.heap.size ≤ gb141)); have n4_ := Aside0.mk ((by rw [hg]; exact (below_size (aB HB)) : w.heap.size ≤ gb141)); clear HO_5; clear HB; have HO_5 := n0_; have HB := n1_; have BK141 := n2_; have GW141 := n3_; have GE141 := n4_; clear n0_ n1_ n2_ n3_ n4_; clear hb hbox hg; have hcz9_0 : w8.cell? ⟨gb141, 0, none⟩ = some (.int .i64 0) := (blk_cell BK141.out 0).trans rfl; have hcz9_1 : w8.cell? ⟨gb141, 1, none⟩ = some (.int .i64 0) := (blk_cell BK141.out 1).trans rfl; have hcz9_2 : w8.cell? ⟨gb141, 2, none⟩ = some (.string (⟨#[]⟩ : ByteArray)) := (blk_cell BK141.out 2).trans rfl; have hcz9_3 : w8.cell? ⟨gb141, 3, none⟩ = some (.string (⟨#[]⟩ : ByteArray)) := (blk_cell BK141.out 3).trans rfl; have hcz9_4 : w8.cell? ⟨gb141, 4, none⟩ = some (.slice none 0 0) := (blk_cell BK141.out 4).trans rfl; have hfz9_0 := blk_frozen BK141.out 0; have hfz9_1 := blk_frozen BK141.out 1; have hfz9_2 := blk_frozen BK141.out 2; have hfz9_3 := blk_frozen BK141.out 3; have hfz9_4 := blk_frozen BK141.out 4) | ((with_reducible refine gate_callee (f := 54) rfl ?_); refine goesL_ (some 21) rfl rfl Try.func54 (by kernel_rfl) rfl #[.slice A140_4 ((rd_T43 l0 x10_1).f4).length c140_4] rfl (by (try simp only [List.map_toArray, List.map_cons, List.map_nil]); first | done | rfl | (simp only [List.length_drop, List.length_take]; rfl)) ?_; (with_reducible refine (api_Attr.calls _ _ ((rd_T43 l0 x10_1).f4) t142 _ ?side1 ?side2 A6.out).mono ?_); (case side1 => exact Kd.C_below HR140_4.out (by repeat (first | (with_reducible first | exact HB.out | apply below_alloc | apply pw_below_drewN | apply below_drew1 | refine below_set ?_ GE141.out) | exact HB.out))); (case side2 => exact HC140_4.out); rintro e w10 ⟨v143, rfl, ho0, hb⟩; refine ⟨_, rfl, ?_⟩; have n0_ := Aside0.mk (Kd.S_elder' (by (with_reducible repeat (first | apply Kd.S_alloc | apply Kd.S_drewN | apply Kd.S_drew)); exact (Kd.S_mono (Kd.S_far (p := ⟨gb141, 0, none⟩) (Kd.S_far (p := ⟨gb141, 4, none⟩) (Kd.S_far (p := ⟨gb141, 3, none⟩) (Kd.S_far (p := ⟨gb141, 2, none⟩) (Kd.S_far (p := ⟨gb141, 1, none⟩) (Kd.S_far (p := ⟨gb141, 0, none⟩) (Kd.S_mono HO_5.out (fun k_ hk => (⟨hk, hk.2⟩ : _ ∧ k_ ≠ gb141))) (fun _ hk => hk.2) (.int .i64 ((rd_T43 l0 x10_1).f0))) (fun _ hk => hk.2) (.int .i64 ((rd_T43 l0 x10_1).f1))) (fun _ hk => hk.2) (.string ((rd_T43 l0 x10_1).f2))) (fun _ hk => hk.2) (.string ((rd_T43 l0 x10_1).f3))) (fun _ hk => hk.2) (.slice A140_4 ((rd_T43 l0 x10_1).f4).length c140_4)) (fun _ hk => hk.2) (.int .i64 (wrap64 (((rd_T43 l0 x10_1).f0) + a1)))) (fun _ h_ => h_.1))) (Kd.R_base ho0) hb); have n1_ := Aside0.mk (Kd.R_lower ho0 (below_size (by repeat (first | (with_reducible first | exact HB.out | apply below_alloc | apply pw_below_drewN | apply below_drew1 | refine below_set ?_ GE141.out) | exact HB.out)))); have n2_ := Aside0.mk (blk_below (g := gb141) (o := .cells #[.int .i64 (wrap64 (((rd_T43 l0 x10_1).f0) + a1)), .int .i64 ((rd_T43 l0 x10_1).f1), .string ((rd_T43 l0 x10_1).f2), .string ((rd_T43 l0 x10_1).f3), .slice A140_4 ((rd_T43 l0 x10_1).f4).length c140_4] 43 (0, 0)) (by (with_reducible repeat (first | refine blk_drewN ?_ _ | refine blk_drew ?_ | refine blk_alloc ?_ _)); refine blk_put (cs := #[.int .i64 ((rd_T43 l0 x10_1).f0), .int .i64 ((rd_T43 l0 x10_1).f1), .string ((rd_T43 l0 x10_1).f2), .string ((rd_T43 l0 x10_1).f3), .slice A140_4 ((rd_T43 l0 x10_1).f4).length c140_4]) ?_ 0 _ rfl; (with_reducible repeat (first | refine blk_drewN ?_ _ | refine blk_drew ?_ | refine blk_alloc ?_ _)); refine blk_put (cs := #[.int .i64 ((rd_T43 l0 x10_1).f0), .int .i64 ((rd_T43 l0 x10_1).f1), .string ((rd_T43 l0 x10_1).f2), .string ((rd_T43 l0 x10_1).f3), .slice none 0 0]) ?_ 4 _ rfl; (with_reducible repeat (first | refine blk_drewN ?_ _ | refine blk_drew ?_ | refine blk_alloc ?_ _)); refine blk_put (cs := #[.int .i64 ((rd_T43 l0 x10_1).f0), .int .i64 ((rd_T43 l0 x10_1).f1), .string ((rd_T43 l0 x10_1).f2), .string (⟨#[]⟩ : ByteArray), .slice none 0 0]) ?_ 3 _ rfl; (with_reducible repeat (first | refine blk_drewN ?_ _ | refine blk_drew ?_ | refine blk_alloc ?_ _)); refine blk_put (cs := #[.int .i64 ((rd_T43 l0 x10_1).f0), .int .i64 ((rd_T43 l0 x10_1).f1), .string (⟨#[]⟩ : ByteArray), .string (⟨#[]⟩ : ByteArray), .slice none 0 0]) ?_ 2 _ rfl; (with_reducible repeat (first | refine blk_drewN ?_ _ | refine blk_drew ?_ | refine blk_alloc ?_ _)); refine blk_put (cs := #[.int .i64 ((rd_T43 l0 x10_1).f0), .int .i64 0, .string (⟨#[]⟩ : ByteArray), .string (⟨#[]⟩ : ByteArray), .slice none 0 0]) ?_ 1 _ rfl; (with_reducible repeat (first | refine blk_drewN ?_ _ | refine blk_drew ?_ | refine blk_alloc ?_ _)); refine blk_put (cs := #[.int .i64 0, .int .i64 0, .string (⟨#[]⟩ : ByteArray), .string (⟨#[]⟩ : ByteArray), .slice none 0 0]) ?_ 0 _ rfl; (with_reducible repeat (first | refine blk_drewN ?_ _ | refine blk_drew ?_ | refine blk_alloc ?_ _)); exact BK141.out) hb); have n3_ := Aside0.mk (below_step (by repeat (first | (with_reducible first | exact HB.out | apply below_alloc | apply pw_below_drewN | apply below_drew1 | refine below_set ?_ GE141.out) | exact HB.out)) hb); clear HO_5; clear BK141; clear HB; have HO_5 := n0_; have HO144 := n1_; have BK141 := n2_; have HB := n3_; clear n0_ n1_ n2_ n3_; (try clear hb); (try clear hb2); (try clear hk); (try clear hi); (try clear ho0); obtain ⟨Ao11, co11, eo11⟩ := Kd.R_slice HO144.out; subst eo11; have hcz12_0 : w10.cell? ⟨gb141, 0, none⟩ = some (.int .i64 (wrap64 (((rd_T43 l0 x10_1).f0) + a1))) := (blk_cell BK141.out 0).trans rfl; have hcz12_1 : w10.cell? ⟨gb141, 1, none⟩ = some (.int .i64 ((rd_T43 l0 x10_1).f1)) := (blk_cell BK141.out 1).trans rfl; have hcz12_2 : w10.cell? ⟨gb141, 2, none⟩ = some (.string ((rd_T43 l0 x10_1).f2)) := (blk_cell BK141.out 2).trans rfl; have hcz12_3 : w10.cell? ⟨gb141, 3, none⟩ = some (.string ((rd_T43 l0 x10_1).f3)) := (blk_cell BK141.out 3).trans rfl; have hcz12_4 : w10.cell? ⟨gb141, 4, none⟩ = some (.slice A140_4 ((rd_T43 l0 x10_1).f4).length c140_4) := (blk_cell BK141.out 4).trans rfl; have hfz12_0 := blk_frozen BK141.out 0; have hfz12_1 := blk_frozen BK141.out 1; have hfz12_2 := blk_frozen BK141.out 2; have hfz12_3 := blk_frozen BK141.out 3; have hfz12_4 := blk_frozen BK141.out 4) | ((with_reducible refine gate_store (t := 41) (p := 22) rfl ?_); refine store_event (t := 41) (p := 22) (v := ?vo_w13) (w1 := (w10.setCell ⟨gb141, 4, none⟩ (.slice Ao11 t142.length co11))) ?hg ?ho ?hn ?hr ?_; (case ho => rfl); (case hg => rfl); (case hn => rfl); (case hr => first | (go_simp; done) | (go_simp; rfl)); intro w13 hw; have n0_ : Aside0 (Kd.S k43 43 w13 w.heap.size (fun k_ => some k_ ≠ (.slice Ao11 t142.length co11 : Value).ownBlock ∧ k_ ≠ gb141) u5 x5_1) := ⟨(by rw [hw]; exact (by (with_reducible repeat (first | apply Kd.S_alloc | apply Kd.S_drewN | apply Kd.S_drew)); exact Kd.S_mono (Kd.S_far (p := ⟨gb141, 4, none⟩) (Kd.S_mono HO_5.out (fun k_ hk => (⟨hk, hk.1.2⟩ : _ ∧ k_ ≠ gb141))) (fun _ hk => hk.2) (.slice Ao11 t142.length co11)) (fun _ hk => ⟨hk.1.2, hk.1.1.2⟩)))⟩; have n1_ : Aside0 (Kd.R k46 46 w13 w.heap.size (fun _ => True) (.slice Ao11 t142.length co11) t142) := ⟨(by rw [hw]; exact (by (with_reducible repeat (first | apply Kd.R_alloc | apply Kd.R_drewN | apply Kd.R_drew)); exact Kd.R_mono (Kd.R_far (p := ⟨gb141, 4, none⟩) (Kd.R_types HO144.out BK141.out (by decide)) (fun _ hk => hk.2) (.slice Ao11 t142.length co11)) (fun _ hk => trivial)))⟩; have n2_ : Aside0 (w13.heap[gb141]? = some (.cells #[.int .i64 (wrap64 (((rd_T43 l0 x10_1).f0) + a1)), .int .i64 ((rd_T43 l0 x10_1).f1), .string ((rd_T43 l0 x10_1).f2), .string ((rd_T43 l0 x10_1).f3), .slice Ao11 t142.length co11] 43 (0, 0))) := ⟨(by rw [hw]; exact (by (with_reducible repeat (first | refine blk_drewN ?_ _ | refine blk_drew ?_ | refine blk_alloc ?_ _)); refine blk_put (cs := #[.int .i64 (wrap64 (((rd_T43 l0 x10_1).f0) + a1)), .int .i64 ((rd_T43 l0 x10_1).f1), .string ((rd_T43 l0 x10_1).f2), .string ((rd_T43 l0 x10_1).f3), .slice A140_4 ((rd_T43 l0 x10_1).f4).length c140_4]) ?_ 4 _ rfl; (with_reducible repeat (first | refine blk_drewN ?_ _ | refine blk_drew ?_ | refine blk_alloc ?_ _)); exact BK141.out))⟩; have n3_ : Aside0 (Below w.heap.size w w13) := ⟨(by rw [hw]; exact (by repeat (first | (with_reducible first | exact HB.out | apply below_alloc | apply pw_below_drewN | apply below_drew1 | refine below_set ?_ GE141.out) | exact HB.out)))⟩; clear hw; clear HO_5; clear HO144; clear BK141; clear HB; have HO_5 := n0_; have HO144 := n1_; have BK141 := n2_; have HB := n3_; clear n0_ n1_ n2_ n3_; have hcz14_0 : w13.cell? ⟨gb141, 0, none⟩ = some (.int .i64 (wrap64 (((rd_T43 l0 x10_1).f0) + a1))) := (blk_cell BK141.out 0).trans rfl; have hcz14_1 : w13.cell? ⟨gb141, 1, none⟩ = some (.int .i64 ((rd_T43 l0 x10_1).f1)) := (blk_cell BK141.out 1).trans rfl; have hcz14_2 : w13.cell? ⟨gb141, 2, none⟩ = some (.string ((rd_T43 l0 x10_1).f2)) := (blk_cell BK141.out 2).trans rfl; have hcz14_3 : w13.cell? ⟨gb141, 3, none⟩ = some (.string ((rd_T43 l0 x10_1).f3)) := (blk_cell BK141.out 3).trans rfl; have hcz14_4 : w13.cell? ⟨gb141, 4, none⟩ = some (.slice Ao11 t142.length co11) := (blk_cell BK141.out 4).trans rfl; have hfz14_0 := blk_frozen BK141.out 0; have hfz14_1 := blk_frozen BK141.out 1; have hfz14_2 := blk_frozen BK141.out 2; have hfz14_3 := blk_frozen BK141.out 3; have hfz14_4 := blk_frozen BK141.out 4) | ((with_reducible refine gate_builtin (b := .append) (xs := #[.tmp 23, .tmp 25]) rfl ?_); at_builtin; refine Kd.S_append k43 (w0 := w) w.heap.size rfl (.tmp 23) (.tmp 25) 22 43 (.agg #[(.int .i64 0), (.int .i64 0), (.string ⟨#[]⟩), (.string ⟨#[]⟩), (.slice none 0 0)]) 72 rfl Try.underlying22 info43 rfl (by decide) (by omega) u5 x5_1 (⟨wrap64 (((rd_T43 l0 x10_1).f0) + a1), (rd_T43 l0 x10_1).f1, (rd_T43 l0 x10_1).f2, (rd_T43 l0 x10_1).f3, t142⟩ : S43) [.int .i64 (wrap64 (((rd_T43 l0 x10_1).f0) + a1)), .int .i64 ((rd_T43 l0 x10_1).f1), .string ((rd_T43 l0 x10_1).f2), .string ((rd_T43 l0 x10_1).f3), .slice Ao11 t142.length co11] (fun k_ => k_ ≠ gb141) (fun k_ => some k_ = (.slice Ao11 t142.length co11 : Value).ownBlock) rfl rfl ?aP (fun k_ hk_ => ((Kd.R_mono (ok' := fun k_ => ((fun k_ => k_ ≠ gb141)) k_ ∧ some k_ ≠ (u5 : Value).ownBlock) (Kd.R_types (Kd.R_apart' (HO144.out) (Kd.S_typed HO_5.out) (by decide)) BK141.out (by decide)) (fun k_ hk => ⟨hk.2, hk.1.2⟩))).1 k_ hk_.symm) ?aF ?aO ?aB ?aS ?aL ?_; (case aP => exact k43_mkM _ _ _ (⟨wrap64 (((rd_T43 l0 x10_1).f0) + a1), (rd_T43 l0 x10_1).f1, (rd_T43 l0 x10_1).f2, (rd_T43 l0 x10_1).f3, t142⟩ : S43) (Kd.R_mono (Kd.R_tight rfl (Kd.R_mono (ok' := fun k_ => ((fun k_ => k_ ≠ gb141)) k_ ∧ some k_ ≠ (u5 : Value).ownBlock) (Kd.R_types (Kd.R_apart' (HO144.out) (Kd.S_typed HO_5.out) (by decide)) BK141.out (by decide)) (fun k_ hk => ⟨hk.2, hk.1.2⟩))) (fun _ h_ => h_))); (case aB => exact (by repeat (first | (with_reducible first | exact HB.out | apply below_alloc | apply pw_below_drewN | apply below_drew1 | refine below_set ?_ GE141.out) | exact HB.out))); (case aF => exact (fun k_ hk => Kd.freshB (g := gb141) (o := .cells #[.int .i64 (wrap64 (((rd_T43 l0 x10_1).f0) + a1)), .int .i64 ((rd_T43 l0 x10_1).f1), .string ((rd_T43 l0 x10_1).f2), .string ((rd_T43 l0 x10_1).f3), .slice Ao11 t142.length co11] 43 (0, 0)) (aK BK141) k_ hk)); (case aO => exact (by (with_reducible repeat (first | apply Kd.S_alloc | apply Kd.S_drewN | apply Kd.S_drew)); exact Kd.S_mono HO_5.out (fun k_ hk => ⟨hk.2, fun e_ => hk.1 e_⟩))); (case aS => exact (below_size (by repeat (first | (with_reducible first | exact HB.out | apply below_alloc | apply pw_below_drewN | apply below_drew1 | refine below_set ?_ GE141.out) | exact HB.out)))); (case aL => have := LMc7.out; omega); intro v146 w15 ho hb hg hat; rw [← Ny145.out] at ho; have n0_ := Aside0.mk (blk_grown (g := gb141) (o := .cells #[.int .i64 (wrap64 (((rd_T43 l0 x10_1).f0) + a1)), .int .i64 ((rd_T43 l0 x10_1).f1), .string ((rd_T43 l0 x10_1).f2), .string ((rd_T43 l0 x10_1).f3), .slice Ao11 t142.length co11] 43 (0, 0)) (aK BK141) hg (Kd.S_away HO_5.out (fun _ hk => hk.2))); have n1_ := Aside0.mk (hb); have n2_ := Aside0.mk (ho); clear BK141; clear HB; clear HO_5; clear HO144; have BK141 := n0_; have HB := n1_; have HO147 := n2_; clear n0_ n1_ n2_; clear ho hb hg hat))
       go_roundg k1
       case measure => have := HK1.out; omega
       case rel => exact ⟨(y145), (wrap64 (x10_1 + 1)), aE, H', ⟨by have := HK1.out; omega⟩, ⟨by (with_reducible repeat (first | apply Kd.S_alloc | apply Kd.S_drewN | apply Kd.S_drew)); exact Kd.S_mono HO147.out (fun _ hk => trivial)⟩, ⟨by repeat (first | (with_reducible first | exact HB.out | apply below_alloc | apply pw_below_drewN | apply below_drew1 | refine below_set ?_ GE141.out) | exact HB.out)⟩⟩
      ·rw [if_neg c7] at H
       exact absurd H (by simp)
     ·rw [if_neg c5] at H
      exact absurd H (by simp)
    ·rw [if_neg c4] at H
     exact absurd H (by simp)
   ·rw [if_neg c3] at H
    have c3b0 : decide (x10_1 < (l0.length : Int)) = false := decide_eq_false c3
    clear c3
    obtain rfl := Option.some.inj H
    go_wp2
    go_ret
    exact ⟨_, by first | rfl | (simp [errW_none, errW_some] <;> rfl) | (simp [*, errW_none, errW_some] <;> rfl), by (with_reducible repeat (first | apply Kd.S_alloc | apply Kd.S_drewN | apply Kd.S_drew)); exact HO_5.out, aB HB⟩

end Go.Proofs.Ytllggaogjcknoaa.QA
