-- Written by a program of this claim's own (wip/gen/gen.py), out of the translation; an ordinary proof text.
import Derived.Test.YtllggaogjcknoaaQAx0
import Derived.Test.YtllggaogjcknoaaQAx4
import Derived.Test.YtllggaogjcknoaaQAx5
import Derived.Test.YtllggaogjcknoaaQAx6
import Derived.Test.YtllggaogjcknoaaQAx7
import Derived.Test.YtllggaogjcknoaaQAx8
import Derived.Test.YtllggaogjcknoaaQAx9
namespace Go.Proofs.Ytllggaogjcknoaa.QA
open Go.RowKit Go.Proofs.YtllggaogjcknoaaW.PrintWords Go.Proofs.YtllggaogjcknoaaW.PrintLast Go.Proofs.YtllggaogjcknoaaW.PrintMore
attribute [local go_sem] max2_int min2_int max_two min_two max_three min_three max_four min_four   -- for this text's walks alone
set_option linter.unusedVariables false
set_option linter.unusedSimpArgs false

/-! ### boltinglaw04_fixed: function 12 -/
def boltinglaw04_fixed.f (k : Nat)  : Option (Bool) := (boltinglaw04_div.f).bind fun t216 => ((rows_Put.f k t216 0 1 (([(⟨0, 2, (⟨#[]⟩ : ByteArray), (⟨#[99]⟩ : ByteArray), ([] : List (S46))⟩ : S43)] : List (S43)))).bind fun bt222 => ((rows_Put.f k t216 1 0 ([] : List (S43))).bind fun bt226 => ((rows_Put.f k t216 0 3 ([] : List (S43))).bind fun bt230 => ((rows_Take.f k bt222.1 2).bind fun bt234 => ((rows_Drop.f k bt222.1 2).bind fun bt238 => ((rows_Take.f k t216 3).bind fun bt242 => ((rows_Normal.f t216).bind fun t246 => ((rows_Kids.f t216 0).bind fun t249 => ((boltinglaw04_nums.f k t249 (([1, 2] : List Int))).bind fun t255 => (if t255 = true then ((rows_Text.f t216 0).bind fun t256 => (if t256.toList = ([97, 98] : List UInt8) then ((rows_Parent.f k t216 2).bind fun t257 => (if t257 = 0 then ((rows_End.f k t216 0).bind fun t258 => (if t258 = 3 then (if bt222.2 = 0 then (if (bt222.1.length : Int) = 4 then (if bt226.2 = 41 then (if bt230.2 = 1 then (if bt234.2 = 0 then ((boltingref04_Same.f bt234.1 (([(⟨0, 2, (⟨#[]⟩ : ByteArray), (⟨#[99]⟩ : ByteArray), ([] : List (S46))⟩ : S43)] : List (S43)))).bind fun t262 => (if t262 = true then (if bt238.2 = 0 then ((boltingref04_Same.f bt238.1 t216).bind fun t263 => (if t263 = true then (if bt242.2 = 41 then (if (t246.length : Int) = 2 then (if 1 < (t246.length : Int) then (if ((rd_T43 t246 1).f3).toList = ([97, 98] : List UInt8) then ((rows_Check.f k t216).bind fun t265 => (if t265 = 0 then (if 1 ≤ (t216.length : Int) then ((rows_Check.f k (t216.drop 1)).bind fun t271 => (if t271 = 40 then ((boltinglaw04_div.f).bind fun t272 => ((rows_Same.f t216 t272).bind fun t275 => (some t275))) else (none))) else (none)) else (none))) else (none)) else (none)) else (none)) else (none)) else (none))) else (none)) else (none))) else (none)) else (none)) else (none)) else (none)) else (none)) else (none))) else (none))) else (none))) else (none)))))))))))
theorem boltinglaw04_fixed.mono : ∀ k, LeO (boltinglaw04_fixed.f k ) (boltinglaw04_fixed.f (k + 1) ) := by
 intro  k
 unfold boltinglaw04_fixed.f
 repeat' first
   | (with_reducible exact boltinglaw04_nums.mono _ _ _)
   | (with_reducible exact rows_Check.mono _ _)
   | (with_reducible exact rows_Drop.mono _ _ _)
   | (with_reducible exact rows_End.mono _ _ _)
   | (with_reducible exact rows_Parent.mono _ _ _)
   | (with_reducible exact rows_Put.mono _ _ _ _ _)
   | (with_reducible exact rows_Take.mono _ _ _)
   | (with_reducible exact LeO.refl _)
   | (with_reducible exact LeO.none _)
   | (with_reducible refine LeO.ite ?_ ?_)
   | (with_reducible refine LeO.bind ?_ (fun _ => ?_))
   | exact boltinglaw04_nums.mono _ _ _
   | exact rows_Check.mono _ _
   | exact rows_Drop.mono _ _ _
   | exact rows_End.mono _ _ _
   | exact rows_Parent.mono _ _ _
   | exact rows_Put.mono _ _ _ _ _
   | exact rows_Take.mono _ _ _
   | exact LeO.none _
   | refine LeO.ite ?_ ?_
   | refine LeO.bind ?_ (fun _ => ?_)
theorem lit_rowN (W : World) (base : Nat) (hb : base ≤ W.heap.size) : Kd.N k43 43 (W.alloc (.cells #[.int .i64 0, .int .i64 2, .string (⟨#[]⟩ : ByteArray), .string (⟨#[99]⟩ : ByteArray), .slice none 0 0] 43)) base (fun _ => True) (.slice (some ⟨W.heap.size, 0, none⟩) 1 1) [(⟨0, 2, (⟨#[]⟩ : ByteArray), (⟨#[99]⟩ : ByteArray), ([] : List S46)⟩ : S43)] := by
 refine Kd.R_N ⟨fun _ _ => trivial, [.int .i64 0, .int .i64 2, .string (⟨#[]⟩ : ByteArray), .string (⟨#[99]⟩ : ByteArray), .slice none 0 0], ?_, Reps.snoc (p := (⟨0, 2, (⟨#[]⟩ : ByteArray), (⟨#[99]⟩ : ByteArray), ([] : List S46)⟩ : S43)) (c := [.int .i64 0, .int .i64 2, .string (⟨#[]⟩ : ByteArray), .string (⟨#[99]⟩ : ByteArray), .slice none 0 0]) (Reps.none _ 5) (k43_mkM _ _ _ (⟨0, 2, (⟨#[]⟩ : ByteArray), (⟨#[99]⟩ : ByteArray), ([] : List S46)⟩ : S43) (v4 := .slice none 0 0) (Kd.R_nil _ _ _ _ _)) rfl⟩
 have h2 := World.ownsRow_lit (base := base) (e := 43) (size := 5) W #[.int .i64 0, .int .i64 2, .string (⟨#[]⟩ : ByteArray), .string (⟨#[99]⟩ : ByteArray), .slice none 0 0] 1 hb (by decide) (by rfl)
 exact h2
theorem lit_rowN' (W : World) (n base : Nat) (hb : base ≤ W.heap.size) (y : List S43) (hy : y = [(⟨0, 2, (⟨#[]⟩ : ByteArray), (⟨#[99]⟩ : ByteArray), ([] : List S46)⟩ : S43)]) : Kd.N k43 43 ((World.drewN W n).alloc (.cells #[.int .i64 0, .int .i64 2, .string (⟨#[]⟩ : ByteArray), .string (⟨#[99]⟩ : ByteArray), .slice none 0 0] 43)) base (fun _ => True) (.slice (some ⟨W.heap.size, 0, none⟩) y.length 1) y := by
 subst hy
 have h := lit_rowN (World.drewN W n) base hb
 exact h
theorem calls_lit {f : FuncId} {v : Value} {A : Option Addr} {n m c : Nat} {W : World} {Q : Ending → World → Prop} (h : n = m) (hc : Calls Try.prog f #[v, .slice A m c] W Q) : Calls Try.prog f #[v, .slice A n c] W Q := by subst h; exact hc
set_option maxHeartbeats 8000000 in
set_option maxRecDepth 100000 in
theorem boltinglaw04_fixed.calls (k : Nat)  (r : Bool) (w : World) (h : boltinglaw04_fixed.f k  = some r) :
  Calls Try.prog 12 #[] w fun e w' => e = .returned (.bool r) ∧ Below w.heap.size w w' := by
 have hu43 := Try.underlying43
 have HB := Aside0.mk (Below.refl w.heap.size w)
 have H : ((boltinglaw04_div.f).bind fun t216 => ((rows_Put.f k t216 0 1 (([(⟨0, 2, (⟨#[]⟩ : ByteArray), (⟨#[99]⟩ : ByteArray), ([] : List (S46))⟩ : S43)] : List (S43)))).bind fun bt222 => ((rows_Put.f k t216 1 0 ([] : List (S43))).bind fun bt226 => ((rows_Put.f k t216 0 3 ([] : List (S43))).bind fun bt230 => ((rows_Take.f k bt222.1 2).bind fun bt234 => ((rows_Drop.f k bt222.1 2).bind fun bt238 => ((rows_Take.f k t216 3).bind fun bt242 => ((rows_Normal.f t216).bind fun t246 => ((rows_Kids.f t216 0).bind fun t249 => ((boltinglaw04_nums.f k t249 (([1, 2] : List Int))).bind fun t255 => (if t255 = true then ((rows_Text.f t216 0).bind fun t256 => (if t256.toList = ([97, 98] : List UInt8) then ((rows_Parent.f k t216 2).bind fun t257 => (if t257 = 0 then ((rows_End.f k t216 0).bind fun t258 => (if t258 = 3 then (if bt222.2 = 0 then (if (bt222.1.length : Int) = 4 then (if bt226.2 = 41 then (if bt230.2 = 1 then (if bt234.2 = 0 then ((boltingref04_Same.f bt234.1 (([(⟨0, 2, (⟨#[]⟩ : ByteArray), (⟨#[99]⟩ : ByteArray), ([] : List (S46))⟩ : S43)] : List (S43)))).bind fun t262 => (if t262 = true then (if bt238.2 = 0 then ((boltingref04_Same.f bt238.1 t216).bind fun t263 => (if t263 = true then (if bt242.2 = 41 then (if (t246.length : Int) = 2 then (if 1 < (t246.length : Int) then (if ((rd_T43 t246 1).f3).toList = ([97, 98] : List UInt8) then ((rows_Check.f k t216).bind fun t265 => (if t265 = 0 then (if 1 ≤ (t216.length : Int) then ((rows_Check.f k (t216.drop 1)).bind fun t271 => (if t271 = 40 then ((boltinglaw04_div.f).bind fun t272 => ((rows_Same.f t216 t272).bind fun t275 => (some t275))) else (none))) else (none)) else (none))) else (none)) else (none)) else (none)) else (none)) else (none))) else (none)) else (none))) else (none)) else (none)) else (none)) else (none)) else (none)) else (none))) else (none))) else (none))) else (none)))))))))))) = some r := h
 clear h
 replace H := Option.bind_eq_some_iff.mp H
 obtain ⟨t216, A10, H⟩ := H
 replace H : ((rows_Put.f k t216 0 1 (([(⟨0, 2, (⟨#[]⟩ : ByteArray), (⟨#[99]⟩ : ByteArray), ([] : List (S46))⟩ : S43)] : List (S43)))).bind fun bt222 => ((rows_Put.f k t216 1 0 ([] : List (S43))).bind fun bt226 => ((rows_Put.f k t216 0 3 ([] : List (S43))).bind fun bt230 => ((rows_Take.f k bt222.1 2).bind fun bt234 => ((rows_Drop.f k bt222.1 2).bind fun bt238 => ((rows_Take.f k t216 3).bind fun bt242 => ((rows_Normal.f t216).bind fun t246 => ((rows_Kids.f t216 0).bind fun t249 => ((boltinglaw04_nums.f k t249 (([1, 2] : List Int))).bind fun t255 => (if t255 = true then ((rows_Text.f t216 0).bind fun t256 => (if t256.toList = ([97, 98] : List UInt8) then ((rows_Parent.f k t216 2).bind fun t257 => (if t257 = 0 then ((rows_End.f k t216 0).bind fun t258 => (if t258 = 3 then (if bt222.2 = 0 then (if (bt222.1.length : Int) = 4 then (if bt226.2 = 41 then (if bt230.2 = 1 then (if bt234.2 = 0 then ((boltingref04_Same.f bt234.1 (([(⟨0, 2, (⟨#[]⟩ : ByteArray), (⟨#[99]⟩ : ByteArray), ([] : List (S46))⟩ : S43)] : List (S43)))).bind fun t262 => (if t262 = true then (if bt238.2 = 0 then ((boltingref04_Same.f bt238.1 t216).bind fun t263 => (if t263 = true then (if bt242.2 = 41 then (if (t246.length : Int) = 2 then (if 1 < (t246.length : Int) then (if ((rd_T43 t246 1).f3).toList = ([97, 98] : List UInt8) then ((rows_Check.f k t216).bind fun t265 => (if t265 = 0 then (if 1 ≤ (t216.length : Int) then ((rows_Check.f k (t216.drop 1)).bind fun t271 => (if t271 = 40 then ((boltinglaw04_div.f).bind fun t272 => ((rows_Same.f t216 t272).bind fun t275 => (some t275))) else (none))) else (none)) else (none))) else (none)) else (none)) else (none)) else (none)) else (none))) else (none)) else (none))) else (none)) else (none)) else (none)) else (none)) else (none)) else (none))) else (none))) else (none))) else (none))))))))))) = some r := H
 have A1 := Aside0.mk A10
 clear A10
 obtain ⟨y219, hy219⟩ : ∃ y_ : List (S43), y_ = (([(⟨0, 2, (⟨#[]⟩ : ByteArray), (⟨#[99]⟩ : ByteArray), ([] : List (S46))⟩ : S43)] : List (S43))) := ⟨_, rfl⟩
 replace H : ((rows_Put.f k t216 0 1 y219).bind fun bt222 => ((rows_Put.f k t216 1 0 ([] : List (S43))).bind fun bt226 => ((rows_Put.f k t216 0 3 ([] : List (S43))).bind fun bt230 => ((rows_Take.f k bt222.1 2).bind fun bt234 => ((rows_Drop.f k bt222.1 2).bind fun bt238 => ((rows_Take.f k t216 3).bind fun bt242 => ((rows_Normal.f t216).bind fun t246 => ((rows_Kids.f t216 0).bind fun t249 => ((boltinglaw04_nums.f k t249 (([1, 2] : List Int))).bind fun t255 => (if t255 = true then ((rows_Text.f t216 0).bind fun t256 => (if t256.toList = ([97, 98] : List UInt8) then ((rows_Parent.f k t216 2).bind fun t257 => (if t257 = 0 then ((rows_End.f k t216 0).bind fun t258 => (if t258 = 3 then (if bt222.2 = 0 then (if (bt222.1.length : Int) = 4 then (if bt226.2 = 41 then (if bt230.2 = 1 then (if bt234.2 = 0 then ((boltingref04_Same.f bt234.1 (([(⟨0, 2, (⟨#[]⟩ : ByteArray), (⟨#[99]⟩ : ByteArray), ([] : List (S46))⟩ : S43)] : List (S43)))).bind fun t262 => (if t262 = true then (if bt238.2 = 0 then ((boltingref04_Same.f bt238.1 t216).bind fun t263 => (if t263 = true then (if bt242.2 = 41 then (if (t246.length : Int) = 2 then (if 1 < (t246.length : Int) then (if ((rd_T43 t246 1).f3).toList = ([97, 98] : List UInt8) then ((rows_Check.f k t216).bind fun t265 => (if t265 = 0 then (if 1 ≤ (t216.length : Int) then ((rows_Check.f k (t216.drop 1)).bind fun t271 => (if t271 = 40 then ((boltinglaw04_div.f).bind fun t272 => ((rows_Same.f t216 t272).bind fun t275 => (some t275))) else (none))) else (none)) else (none))) else (none)) else (none)) else (none)) else (none)) else (none))) else (none)) else (none))) else (none)) else (none)) else (none)) else (none)) else (none)) else (none))) else (none))) else (none))) else (none))))))))))) = some r := by first | (rw [hy219]; with_reducible exact H) | (have H2_ := (Option.bind_some _ _).symm.trans H; rw [hy219]; with_reducible exact H2_) | (have H2_ := (Option.bind_some _ _).symm.trans H; with_reducible exact H2_) | with_reducible exact H | (rw [hy219]; exact H) | exact H
 have Ny219 := Aside0.mk hy219
 clear hy219
 replace H := Option.bind_eq_some_iff.mp H
 obtain ⟨⟨t222, t225⟩, A20, H⟩ := H
 replace H : ((rows_Put.f k t216 1 0 ([] : List (S43))).bind fun bt226 => ((rows_Put.f k t216 0 3 ([] : List (S43))).bind fun bt230 => ((rows_Take.f k t222 2).bind fun bt234 => ((rows_Drop.f k t222 2).bind fun bt238 => ((rows_Take.f k t216 3).bind fun bt242 => ((rows_Normal.f t216).bind fun t246 => ((rows_Kids.f t216 0).bind fun t249 => ((boltinglaw04_nums.f k t249 (([1, 2] : List Int))).bind fun t255 => (if t255 = true then ((rows_Text.f t216 0).bind fun t256 => (if t256.toList = ([97, 98] : List UInt8) then ((rows_Parent.f k t216 2).bind fun t257 => (if t257 = 0 then ((rows_End.f k t216 0).bind fun t258 => (if t258 = 3 then (if t225 = 0 then (if (t222.length : Int) = 4 then (if bt226.2 = 41 then (if bt230.2 = 1 then (if bt234.2 = 0 then ((boltingref04_Same.f bt234.1 (([(⟨0, 2, (⟨#[]⟩ : ByteArray), (⟨#[99]⟩ : ByteArray), ([] : List (S46))⟩ : S43)] : List (S43)))).bind fun t262 => (if t262 = true then (if bt238.2 = 0 then ((boltingref04_Same.f bt238.1 t216).bind fun t263 => (if t263 = true then (if bt242.2 = 41 then (if (t246.length : Int) = 2 then (if 1 < (t246.length : Int) then (if ((rd_T43 t246 1).f3).toList = ([97, 98] : List UInt8) then ((rows_Check.f k t216).bind fun t265 => (if t265 = 0 then (if 1 ≤ (t216.length : Int) then ((rows_Check.f k (t216.drop 1)).bind fun t271 => (if t271 = 40 then ((boltinglaw04_div.f).bind fun t272 => ((rows_Same.f t216 t272).bind fun t275 => (some t275))) else (none))) else (none)) else (none))) else (none)) else (none)) else (none)) else (none)) else (none))) else (none)) else (none))) else (none)) else (none)) else (none)) else (none)) else (none)) else (none))) else (none))) else (none))) else (none)))))))))) = some r := H
 have A2 := Aside0.mk A20
 clear A20
 replace H := Option.bind_eq_some_iff.mp H
 obtain ⟨⟨t226, t229⟩, A30, H⟩ := H
 replace H : ((rows_Put.f k t216 0 3 ([] : List (S43))).bind fun bt230 => ((rows_Take.f k t222 2).bind fun bt234 => ((rows_Drop.f k t222 2).bind fun bt238 => ((rows_Take.f k t216 3).bind fun bt242 => ((rows_Normal.f t216).bind fun t246 => ((rows_Kids.f t216 0).bind fun t249 => ((boltinglaw04_nums.f k t249 (([1, 2] : List Int))).bind fun t255 => (if t255 = true then ((rows_Text.f t216 0).bind fun t256 => (if t256.toList = ([97, 98] : List UInt8) then ((rows_Parent.f k t216 2).bind fun t257 => (if t257 = 0 then ((rows_End.f k t216 0).bind fun t258 => (if t258 = 3 then (if t225 = 0 then (if (t222.length : Int) = 4 then (if t229 = 41 then (if bt230.2 = 1 then (if bt234.2 = 0 then ((boltingref04_Same.f bt234.1 (([(⟨0, 2, (⟨#[]⟩ : ByteArray), (⟨#[99]⟩ : ByteArray), ([] : List (S46))⟩ : S43)] : List (S43)))).bind fun t262 => (if t262 = true then (if bt238.2 = 0 then ((boltingref04_Same.f bt238.1 t216).bind fun t263 => (if t263 = true then (if bt242.2 = 41 then (if (t246.length : Int) = 2 then (if 1 < (t246.length : Int) then (if ((rd_T43 t246 1).f3).toList = ([97, 98] : List UInt8) then ((rows_Check.f k t216).bind fun t265 => (if t265 = 0 then (if 1 ≤ (t216.length : Int) then ((rows_Check.f k (t216.drop 1)).bind fun t271 => (if t271 = 40 then ((boltinglaw04_div.f).bind fun t272 => ((rows_Same.f t216 t272).bind fun t275 => (some t275))) else (none))) else (none)) else (none))) else (none)) else (none)) else (none)) else (none)) else (none))) else (none)) else (none))) else (none)) else (none)) else (none)) else (none)) else (none)) else (none))) else (none))) else (none))) else (none))))))))) = some r := H
 have A3 := Aside0.mk A30
 clear A30
 replace H := Option.bind_eq_some_iff.mp H
 obtain ⟨⟨t230, t233⟩, A40, H⟩ := H
 replace H : ((rows_Take.f k t222 2).bind fun bt234 => ((rows_Drop.f k t222 2).bind fun bt238 => ((rows_Take.f k t216 3).bind fun bt242 => ((rows_Normal.f t216).bind fun t246 => ((rows_Kids.f t216 0).bind fun t249 => ((boltinglaw04_nums.f k t249 (([1, 2] : List Int))).bind fun t255 => (if t255 = true then ((rows_Text.f t216 0).bind fun t256 => (if t256.toList = ([97, 98] : List UInt8) then ((rows_Parent.f k t216 2).bind fun t257 => (if t257 = 0 then ((rows_End.f k t216 0).bind fun t258 => (if t258 = 3 then (if t225 = 0 then (if (t222.length : Int) = 4 then (if t229 = 41 then (if t233 = 1 then (if bt234.2 = 0 then ((boltingref04_Same.f bt234.1 (([(⟨0, 2, (⟨#[]⟩ : ByteArray), (⟨#[99]⟩ : ByteArray), ([] : List (S46))⟩ : S43)] : List (S43)))).bind fun t262 => (if t262 = true then (if bt238.2 = 0 then ((boltingref04_Same.f bt238.1 t216).bind fun t263 => (if t263 = true then (if bt242.2 = 41 then (if (t246.length : Int) = 2 then (if 1 < (t246.length : Int) then (if ((rd_T43 t246 1).f3).toList = ([97, 98] : List UInt8) then ((rows_Check.f k t216).bind fun t265 => (if t265 = 0 then (if 1 ≤ (t216.length : Int) then ((rows_Check.f k (t216.drop 1)).bind fun t271 => (if t271 = 40 then ((boltinglaw04_div.f).bind fun t272 => ((rows_Same.f t216 t272).bind fun t275 => (some t275))) else (none))) else (none)) else (none))) else (none)) else (none)) else (none)) else (none)) else (none))) else (none)) else (none))) else (none)) else (none)) else (none)) else (none)) else (none)) else (none))) else (none))) else (none))) else (none)))))))) = some r := H
 have A4 := Aside0.mk A40
 clear A40
 replace H := Option.bind_eq_some_iff.mp H
 obtain ⟨⟨t234, t235⟩, A50, H⟩ := H
 replace H : ((rows_Drop.f k t222 2).bind fun bt238 => ((rows_Take.f k t216 3).bind fun bt242 => ((rows_Normal.f t216).bind fun t246 => ((rows_Kids.f t216 0).bind fun t249 => ((boltinglaw04_nums.f k t249 (([1, 2] : List Int))).bind fun t255 => (if t255 = true then ((rows_Text.f t216 0).bind fun t256 => (if t256.toList = ([97, 98] : List UInt8) then ((rows_Parent.f k t216 2).bind fun t257 => (if t257 = 0 then ((rows_End.f k t216 0).bind fun t258 => (if t258 = 3 then (if t225 = 0 then (if (t222.length : Int) = 4 then (if t229 = 41 then (if t233 = 1 then (if t235 = 0 then ((boltingref04_Same.f t234 (([(⟨0, 2, (⟨#[]⟩ : ByteArray), (⟨#[99]⟩ : ByteArray), ([] : List (S46))⟩ : S43)] : List (S43)))).bind fun t262 => (if t262 = true then (if bt238.2 = 0 then ((boltingref04_Same.f bt238.1 t216).bind fun t263 => (if t263 = true then (if bt242.2 = 41 then (if (t246.length : Int) = 2 then (if 1 < (t246.length : Int) then (if ((rd_T43 t246 1).f3).toList = ([97, 98] : List UInt8) then ((rows_Check.f k t216).bind fun t265 => (if t265 = 0 then (if 1 ≤ (t216.length : Int) then ((rows_Check.f k (t216.drop 1)).bind fun t271 => (if t271 = 40 then ((boltinglaw04_div.f).bind fun t272 => ((rows_Same.f t216 t272).bind fun t275 => (some t275))) else (none))) else (none)) else (none))) else (none)) else (none)) else (none)) else (none)) else (none))) else (none)) else (none))) else (none)) else (none)) else (none)) else (none)) else (none)) else (none))) else (none))) else (none))) else (none))))))) = some r := H
 have A5 := Aside0.mk A50
 clear A50
 replace H := Option.bind_eq_some_iff.mp H
 obtain ⟨⟨t238, t241⟩, A60, H⟩ := H
 replace H : ((rows_Take.f k t216 3).bind fun bt242 => ((rows_Normal.f t216).bind fun t246 => ((rows_Kids.f t216 0).bind fun t249 => ((boltinglaw04_nums.f k t249 (([1, 2] : List Int))).bind fun t255 => (if t255 = true then ((rows_Text.f t216 0).bind fun t256 => (if t256.toList = ([97, 98] : List UInt8) then ((rows_Parent.f k t216 2).bind fun t257 => (if t257 = 0 then ((rows_End.f k t216 0).bind fun t258 => (if t258 = 3 then (if t225 = 0 then (if (t222.length : Int) = 4 then (if t229 = 41 then (if t233 = 1 then (if t235 = 0 then ((boltingref04_Same.f t234 (([(⟨0, 2, (⟨#[]⟩ : ByteArray), (⟨#[99]⟩ : ByteArray), ([] : List (S46))⟩ : S43)] : List (S43)))).bind fun t262 => (if t262 = true then (if t241 = 0 then ((boltingref04_Same.f t238 t216).bind fun t263 => (if t263 = true then (if bt242.2 = 41 then (if (t246.length : Int) = 2 then (if 1 < (t246.length : Int) then (if ((rd_T43 t246 1).f3).toList = ([97, 98] : List UInt8) then ((rows_Check.f k t216).bind fun t265 => (if t265 = 0 then (if 1 ≤ (t216.length : Int) then ((rows_Check.f k (t216.drop 1)).bind fun t271 => (if t271 = 40 then ((boltinglaw04_div.f).bind fun t272 => ((rows_Same.f t216 t272).bind fun t275 => (some t275))) else (none))) else (none)) else (none))) else (none)) else (none)) else (none)) else (none)) else (none))) else (none)) else (none))) else (none)) else (none)) else (none)) else (none)) else (none)) else (none))) else (none))) else (none))) else (none)))))) = some r := H
 have A6 := Aside0.mk A60
 clear A60
 replace H := Option.bind_eq_some_iff.mp H
 obtain ⟨⟨t242, t243⟩, A70, H⟩ := H
 replace H : ((rows_Normal.f t216).bind fun t246 => ((rows_Kids.f t216 0).bind fun t249 => ((boltinglaw04_nums.f k t249 (([1, 2] : List Int))).bind fun t255 => (if t255 = true then ((rows_Text.f t216 0).bind fun t256 => (if t256.toList = ([97, 98] : List UInt8) then ((rows_Parent.f k t216 2).bind fun t257 => (if t257 = 0 then ((rows_End.f k t216 0).bind fun t258 => (if t258 = 3 then (if t225 = 0 then (if (t222.length : Int) = 4 then (if t229 = 41 then (if t233 = 1 then (if t235 = 0 then ((boltingref04_Same.f t234 (([(⟨0, 2, (⟨#[]⟩ : ByteArray), (⟨#[99]⟩ : ByteArray), ([] : List (S46))⟩ : S43)] : List (S43)))).bind fun t262 => (if t262 = true then (if t241 = 0 then ((boltingref04_Same.f t238 t216).bind fun t263 => (if t263 = true then (if t243 = 41 then (if (t246.length : Int) = 2 then (if 1 < (t246.length : Int) then (if ((rd_T43 t246 1).f3).toList = ([97, 98] : List UInt8) then ((rows_Check.f k t216).bind fun t265 => (if t265 = 0 then (if 1 ≤ (t216.length : Int) then ((rows_Check.f k (t216.drop 1)).bind fun t271 => (if t271 = 40 then ((boltinglaw04_div.f).bind fun t272 => ((rows_Same.f t216 t272).bind fun t275 => (some t275))) else (none))) else (none)) else (none))) else (none)) else (none)) else (none)) else (none)) else (none))) else (none)) else (none))) else (none)) else (none)) else (none)) else (none)) else (none)) else (none))) else (none))) else (none))) else (none))))) = some r := H
 have A7 := Aside0.mk A70
 clear A70
 replace H := Option.bind_eq_some_iff.mp H
 obtain ⟨t246, A80, H⟩ := H
 replace H : ((rows_Kids.f t216 0).bind fun t249 => ((boltinglaw04_nums.f k t249 (([1, 2] : List Int))).bind fun t255 => (if t255 = true then ((rows_Text.f t216 0).bind fun t256 => (if t256.toList = ([97, 98] : List UInt8) then ((rows_Parent.f k t216 2).bind fun t257 => (if t257 = 0 then ((rows_End.f k t216 0).bind fun t258 => (if t258 = 3 then (if t225 = 0 then (if (t222.length : Int) = 4 then (if t229 = 41 then (if t233 = 1 then (if t235 = 0 then ((boltingref04_Same.f t234 (([(⟨0, 2, (⟨#[]⟩ : ByteArray), (⟨#[99]⟩ : ByteArray), ([] : List (S46))⟩ : S43)] : List (S43)))).bind fun t262 => (if t262 = true then (if t241 = 0 then ((boltingref04_Same.f t238 t216).bind fun t263 => (if t263 = true then (if t243 = 41 then (if (t246.length : Int) = 2 then (if 1 < (t246.length : Int) then (if ((rd_T43 t246 1).f3).toList = ([97, 98] : List UInt8) then ((rows_Check.f k t216).bind fun t265 => (if t265 = 0 then (if 1 ≤ (t216.length : Int) then ((rows_Check.f k (t216.drop 1)).bind fun t271 => (if t271 = 40 then ((boltinglaw04_div.f).bind fun t272 => ((rows_Same.f t216 t272).bind fun t275 => (some t275))) else (none))) else (none)) else (none))) else (none)) else (none)) else (none)) else (none)) else (none))) else (none)) else (none))) else (none)) else (none)) else (none)) else (none)) else (none)) else (none))) else (none))) else (none))) else (none)))) = some r := H
 have A8 := Aside0.mk A80
 clear A80
 replace H := Option.bind_eq_some_iff.mp H
 obtain ⟨t249, A90, H⟩ := H
 replace H : ((boltinglaw04_nums.f k t249 (([1, 2] : List Int))).bind fun t255 => (if t255 = true then ((rows_Text.f t216 0).bind fun t256 => (if t256.toList = ([97, 98] : List UInt8) then ((rows_Parent.f k t216 2).bind fun t257 => (if t257 = 0 then ((rows_End.f k t216 0).bind fun t258 => (if t258 = 3 then (if t225 = 0 then (if (t222.length : Int) = 4 then (if t229 = 41 then (if t233 = 1 then (if t235 = 0 then ((boltingref04_Same.f t234 (([(⟨0, 2, (⟨#[]⟩ : ByteArray), (⟨#[99]⟩ : ByteArray), ([] : List (S46))⟩ : S43)] : List (S43)))).bind fun t262 => (if t262 = true then (if t241 = 0 then ((boltingref04_Same.f t238 t216).bind fun t263 => (if t263 = true then (if t243 = 41 then (if (t246.length : Int) = 2 then (if 1 < (t246.length : Int) then (if ((rd_T43 t246 1).f3).toList = ([97, 98] : List UInt8) then ((rows_Check.f k t216).bind fun t265 => (if t265 = 0 then (if 1 ≤ (t216.length : Int) then ((rows_Check.f k (t216.drop 1)).bind fun t271 => (if t271 = 40 then ((boltinglaw04_div.f).bind fun t272 => ((rows_Same.f t216 t272).bind fun t275 => (some t275))) else (none))) else (none)) else (none))) else (none)) else (none)) else (none)) else (none)) else (none))) else (none)) else (none))) else (none)) else (none)) else (none)) else (none)) else (none)) else (none))) else (none))) else (none))) else (none))) = some r := H
 have A9 := Aside0.mk A90
 clear A90
 obtain ⟨y252, hy252⟩ : ∃ y_ : List Int, y_ = (([1, 2] : List Int)) := ⟨_, rfl⟩
 replace H : ((boltinglaw04_nums.f k t249 y252).bind fun t255 => (if t255 = true then ((rows_Text.f t216 0).bind fun t256 => (if t256.toList = ([97, 98] : List UInt8) then ((rows_Parent.f k t216 2).bind fun t257 => (if t257 = 0 then ((rows_End.f k t216 0).bind fun t258 => (if t258 = 3 then (if t225 = 0 then (if (t222.length : Int) = 4 then (if t229 = 41 then (if t233 = 1 then (if t235 = 0 then ((boltingref04_Same.f t234 (([(⟨0, 2, (⟨#[]⟩ : ByteArray), (⟨#[99]⟩ : ByteArray), ([] : List (S46))⟩ : S43)] : List (S43)))).bind fun t262 => (if t262 = true then (if t241 = 0 then ((boltingref04_Same.f t238 t216).bind fun t263 => (if t263 = true then (if t243 = 41 then (if (t246.length : Int) = 2 then (if 1 < (t246.length : Int) then (if ((rd_T43 t246 1).f3).toList = ([97, 98] : List UInt8) then ((rows_Check.f k t216).bind fun t265 => (if t265 = 0 then (if 1 ≤ (t216.length : Int) then ((rows_Check.f k (t216.drop 1)).bind fun t271 => (if t271 = 40 then ((boltinglaw04_div.f).bind fun t272 => ((rows_Same.f t216 t272).bind fun t275 => (some t275))) else (none))) else (none)) else (none))) else (none)) else (none)) else (none)) else (none)) else (none))) else (none)) else (none))) else (none)) else (none)) else (none)) else (none)) else (none)) else (none))) else (none))) else (none))) else (none))) = some r := by first | (rw [hy252]; with_reducible exact H) | (have H2_ := (Option.bind_some _ _).symm.trans H; rw [hy252]; with_reducible exact H2_) | (have H2_ := (Option.bind_some _ _).symm.trans H; with_reducible exact H2_) | with_reducible exact H | (rw [hy252]; exact H) | exact H
 have Ny252 := Aside0.mk hy252
 clear hy252
 replace H := Option.bind_eq_some_iff.mp H
 obtain ⟨t255, A100, H⟩ := H
 replace H : (if t255 = true then ((rows_Text.f t216 0).bind fun t256 => (if t256.toList = ([97, 98] : List UInt8) then ((rows_Parent.f k t216 2).bind fun t257 => (if t257 = 0 then ((rows_End.f k t216 0).bind fun t258 => (if t258 = 3 then (if t225 = 0 then (if (t222.length : Int) = 4 then (if t229 = 41 then (if t233 = 1 then (if t235 = 0 then ((boltingref04_Same.f t234 (([(⟨0, 2, (⟨#[]⟩ : ByteArray), (⟨#[99]⟩ : ByteArray), ([] : List (S46))⟩ : S43)] : List (S43)))).bind fun t262 => (if t262 = true then (if t241 = 0 then ((boltingref04_Same.f t238 t216).bind fun t263 => (if t263 = true then (if t243 = 41 then (if (t246.length : Int) = 2 then (if 1 < (t246.length : Int) then (if ((rd_T43 t246 1).f3).toList = ([97, 98] : List UInt8) then ((rows_Check.f k t216).bind fun t265 => (if t265 = 0 then (if 1 ≤ (t216.length : Int) then ((rows_Check.f k (t216.drop 1)).bind fun t271 => (if t271 = 40 then ((boltinglaw04_div.f).bind fun t272 => ((rows_Same.f t216 t272).bind fun t275 => (some t275))) else (none))) else (none)) else (none))) else (none)) else (none)) else (none)) else (none)) else (none))) else (none)) else (none))) else (none)) else (none)) else (none)) else (none)) else (none)) else (none))) else (none))) else (none))) else (none)) = some r := H
 have A10 := Aside0.mk A100
 clear A100
 by_cases c11 : t255 = true
 ·subst c11
  have H1 : ((rows_Text.f t216 0).bind fun t256 => (if t256.toList = ([97, 98] : List UInt8) then ((rows_Parent.f k t216 2).bind fun t257 => (if t257 = 0 then ((rows_End.f k t216 0).bind fun t258 => (if t258 = 3 then (if t225 = 0 then (if (t222.length : Int) = 4 then (if t229 = 41 then (if t233 = 1 then (if t235 = 0 then ((boltingref04_Same.f t234 (([(⟨0, 2, (⟨#[]⟩ : ByteArray), (⟨#[99]⟩ : ByteArray), ([] : List (S46))⟩ : S43)] : List (S43)))).bind fun t262 => (if t262 = true then (if t241 = 0 then ((boltingref04_Same.f t238 t216).bind fun t263 => (if t263 = true then (if t243 = 41 then (if (t246.length : Int) = 2 then (if 1 < (t246.length : Int) then (if ((rd_T43 t246 1).f3).toList = ([97, 98] : List UInt8) then ((rows_Check.f k t216).bind fun t265 => (if t265 = 0 then (if 1 ≤ (t216.length : Int) then ((rows_Check.f k (t216.drop 1)).bind fun t271 => (if t271 = 40 then ((boltinglaw04_div.f).bind fun t272 => ((rows_Same.f t216 t272).bind fun t275 => (some t275))) else (none))) else (none)) else (none))) else (none)) else (none)) else (none)) else (none)) else (none))) else (none)) else (none))) else (none)) else (none)) else (none)) else (none)) else (none)) else (none))) else (none))) else (none))) = some r := by rw [if_pos rfl] at H; exact H
  clear H
  have H := H1
  clear H1
  replace H := Option.bind_eq_some_iff.mp H
  obtain ⟨t256, A120, H⟩ := H
  replace H : (if t256.toList = ([97, 98] : List UInt8) then ((rows_Parent.f k t216 2).bind fun t257 => (if t257 = 0 then ((rows_End.f k t216 0).bind fun t258 => (if t258 = 3 then (if t225 = 0 then (if (t222.length : Int) = 4 then (if t229 = 41 then (if t233 = 1 then (if t235 = 0 then ((boltingref04_Same.f t234 (([(⟨0, 2, (⟨#[]⟩ : ByteArray), (⟨#[99]⟩ : ByteArray), ([] : List (S46))⟩ : S43)] : List (S43)))).bind fun t262 => (if t262 = true then (if t241 = 0 then ((boltingref04_Same.f t238 t216).bind fun t263 => (if t263 = true then (if t243 = 41 then (if (t246.length : Int) = 2 then (if 1 < (t246.length : Int) then (if ((rd_T43 t246 1).f3).toList = ([97, 98] : List UInt8) then ((rows_Check.f k t216).bind fun t265 => (if t265 = 0 then (if 1 ≤ (t216.length : Int) then ((rows_Check.f k (t216.drop 1)).bind fun t271 => (if t271 = 40 then ((boltinglaw04_div.f).bind fun t272 => ((rows_Same.f t216 t272).bind fun t275 => (some t275))) else (none))) else (none)) else (none))) else (none)) else (none)) else (none)) else (none)) else (none))) else (none)) else (none))) else (none)) else (none)) else (none)) else (none)) else (none)) else (none))) else (none))) else (none)) = some r := H
  have A12 := Aside0.mk A120
  clear A120
  by_cases c13 : t256.toList = ([97, 98] : List UInt8)
  ·rw [if_pos c13] at H
   have c13b0 : (t256.toList == ([97, 98] : List UInt8)) = true := beq_iff_eq.mpr c13
   have c13b1 : (t256.toList != ([97, 98] : List UInt8)) = false := bne_eq_false_iff_eq.mpr c13
   clear c13
   replace H := Option.bind_eq_some_iff.mp H
   obtain ⟨t257, A140, H⟩ := H
   replace H : (if t257 = 0 then ((rows_End.f k t216 0).bind fun t258 => (if t258 = 3 then (if t225 = 0 then (if (t222.length : Int) = 4 then (if t229 = 41 then (if t233 = 1 then (if t235 = 0 then ((boltingref04_Same.f t234 (([(⟨0, 2, (⟨#[]⟩ : ByteArray), (⟨#[99]⟩ : ByteArray), ([] : List (S46))⟩ : S43)] : List (S43)))).bind fun t262 => (if t262 = true then (if t241 = 0 then ((boltingref04_Same.f t238 t216).bind fun t263 => (if t263 = true then (if t243 = 41 then (if (t246.length : Int) = 2 then (if 1 < (t246.length : Int) then (if ((rd_T43 t246 1).f3).toList = ([97, 98] : List UInt8) then ((rows_Check.f k t216).bind fun t265 => (if t265 = 0 then (if 1 ≤ (t216.length : Int) then ((rows_Check.f k (t216.drop 1)).bind fun t271 => (if t271 = 40 then ((boltinglaw04_div.f).bind fun t272 => ((rows_Same.f t216 t272).bind fun t275 => (some t275))) else (none))) else (none)) else (none))) else (none)) else (none)) else (none)) else (none)) else (none))) else (none)) else (none))) else (none)) else (none)) else (none)) else (none)) else (none)) else (none))) else (none)) = some r := H
   have A14 := Aside0.mk A140
   clear A140
   by_cases c15 : t257 = 0
   ·rw [if_pos c15] at H
    have c15b0 : (t257 == 0) = true := beq_iff_eq.mpr c15
    have c15b1 : (t257 != 0) = false := bne_eq_false_iff_eq.mpr c15
    clear c15
    replace H := Option.bind_eq_some_iff.mp H
    obtain ⟨t258, A160, H⟩ := H
    replace H : (if t258 = 3 then (if t225 = 0 then (if (t222.length : Int) = 4 then (if t229 = 41 then (if t233 = 1 then (if t235 = 0 then ((boltingref04_Same.f t234 (([(⟨0, 2, (⟨#[]⟩ : ByteArray), (⟨#[99]⟩ : ByteArray), ([] : List (S46))⟩ : S43)] : List (S43)))).bind fun t262 => (if t262 = true then (if t241 = 0 then ((boltingref04_Same.f t238 t216).bind fun t263 => (if t263 = true then (if t243 = 41 then (if (t246.length : Int) = 2 then (if 1 < (t246.length : Int) then (if ((rd_T43 t246 1).f3).toList = ([97, 98] : List UInt8) then ((rows_Check.f k t216).bind fun t265 => (if t265 = 0 then (if 1 ≤ (t216.length : Int) then ((rows_Check.f k (t216.drop 1)).bind fun t271 => (if t271 = 40 then ((boltinglaw04_div.f).bind fun t272 => ((rows_Same.f t216 t272).bind fun t275 => (some t275))) else (none))) else (none)) else (none))) else (none)) else (none)) else (none)) else (none)) else (none))) else (none)) else (none))) else (none)) else (none)) else (none)) else (none)) else (none)) else (none)) = some r := H
    have A16 := Aside0.mk A160
    clear A160
    by_cases c17 : t258 = 3
    ·rw [if_pos c17] at H
     have c17b0 : (t258 == 3) = true := beq_iff_eq.mpr c17
     have c17b1 : (t258 != 3) = false := bne_eq_false_iff_eq.mpr c17
     clear c17
     by_cases c18 : t225 = 0
     ·rw [if_pos c18] at H
      have c18b0 : (t225 == 0) = true := beq_iff_eq.mpr c18
      have c18b1 : (t225 != 0) = false := bne_eq_false_iff_eq.mpr c18
      clear c18
      by_cases c19 : (t222.length : Int) = 4
      ·rw [if_pos c19] at H
       have c19b0 : ((t222.length : Int) == 4) = true := beq_iff_eq.mpr c19
       have c19b1 : ((t222.length : Int) != 4) = false := bne_eq_false_iff_eq.mpr c19
       clear c19
       by_cases c20 : t229 = 41
       ·rw [if_pos c20] at H
        have c20b0 : (t229 == 41) = true := beq_iff_eq.mpr c20
        have c20b1 : (t229 != 41) = false := bne_eq_false_iff_eq.mpr c20
        clear c20
        by_cases c21 : t233 = 1
        ·rw [if_pos c21] at H
         have c21b0 : (t233 == 1) = true := beq_iff_eq.mpr c21
         have c21b1 : (t233 != 1) = false := bne_eq_false_iff_eq.mpr c21
         clear c21
         by_cases c22 : t235 = 0
         ·rw [if_pos c22] at H
          have c22b0 : (t235 == 0) = true := beq_iff_eq.mpr c22
          have c22b1 : (t235 != 0) = false := bne_eq_false_iff_eq.mpr c22
          clear c22
          obtain ⟨y259, hy259⟩ : ∃ y_ : List (S43), y_ = (([(⟨0, 2, (⟨#[]⟩ : ByteArray), (⟨#[99]⟩ : ByteArray), ([] : List (S46))⟩ : S43)] : List (S43))) := ⟨_, rfl⟩
          replace H : ((boltingref04_Same.f t234 y259).bind fun t262 => (if t262 = true then (if t241 = 0 then ((boltingref04_Same.f t238 t216).bind fun t263 => (if t263 = true then (if t243 = 41 then (if (t246.length : Int) = 2 then (if 1 < (t246.length : Int) then (if ((rd_T43 t246 1).f3).toList = ([97, 98] : List UInt8) then ((rows_Check.f k t216).bind fun t265 => (if t265 = 0 then (if 1 ≤ (t216.length : Int) then ((rows_Check.f k (t216.drop 1)).bind fun t271 => (if t271 = 40 then ((boltinglaw04_div.f).bind fun t272 => ((rows_Same.f t216 t272).bind fun t275 => (some t275))) else (none))) else (none)) else (none))) else (none)) else (none)) else (none)) else (none)) else (none))) else (none)) else (none))) = some r := by first | (rw [hy259]; with_reducible exact H) | (have H2_ := (Option.bind_some _ _).symm.trans H; rw [hy259]; with_reducible exact H2_) | (have H2_ := (Option.bind_some _ _).symm.trans H; with_reducible exact H2_) | with_reducible exact H | (rw [hy259]; exact H) | exact H
          have Ny259 := Aside0.mk hy259
          clear hy259
          replace H := Option.bind_eq_some_iff.mp H
          obtain ⟨t262, A230, H⟩ := H
          replace H : (if t262 = true then (if t241 = 0 then ((boltingref04_Same.f t238 t216).bind fun t263 => (if t263 = true then (if t243 = 41 then (if (t246.length : Int) = 2 then (if 1 < (t246.length : Int) then (if ((rd_T43 t246 1).f3).toList = ([97, 98] : List UInt8) then ((rows_Check.f k t216).bind fun t265 => (if t265 = 0 then (if 1 ≤ (t216.length : Int) then ((rows_Check.f k (t216.drop 1)).bind fun t271 => (if t271 = 40 then ((boltinglaw04_div.f).bind fun t272 => ((rows_Same.f t216 t272).bind fun t275 => (some t275))) else (none))) else (none)) else (none))) else (none)) else (none)) else (none)) else (none)) else (none))) else (none)) else (none)) = some r := H
          have A23 := Aside0.mk A230
          clear A230
          by_cases c24 : t262 = true
          ·subst c24
           have H1 : (if t241 = 0 then ((boltingref04_Same.f t238 t216).bind fun t263 => (if t263 = true then (if t243 = 41 then (if (t246.length : Int) = 2 then (if 1 < (t246.length : Int) then (if ((rd_T43 t246 1).f3).toList = ([97, 98] : List UInt8) then ((rows_Check.f k t216).bind fun t265 => (if t265 = 0 then (if 1 ≤ (t216.length : Int) then ((rows_Check.f k (t216.drop 1)).bind fun t271 => (if t271 = 40 then ((boltinglaw04_div.f).bind fun t272 => ((rows_Same.f t216 t272).bind fun t275 => (some t275))) else (none))) else (none)) else (none))) else (none)) else (none)) else (none)) else (none)) else (none))) else (none)) = some r := by rw [if_pos rfl] at H; exact H
           clear H
           have H := H1
           clear H1
           by_cases c25 : t241 = 0
           ·rw [if_pos c25] at H
            have c25b0 : (t241 == 0) = true := beq_iff_eq.mpr c25
            have c25b1 : (t241 != 0) = false := bne_eq_false_iff_eq.mpr c25
            clear c25
            replace H := Option.bind_eq_some_iff.mp H
            obtain ⟨t263, A260, H⟩ := H
            replace H : (if t263 = true then (if t243 = 41 then (if (t246.length : Int) = 2 then (if 1 < (t246.length : Int) then (if ((rd_T43 t246 1).f3).toList = ([97, 98] : List UInt8) then ((rows_Check.f k t216).bind fun t265 => (if t265 = 0 then (if 1 ≤ (t216.length : Int) then ((rows_Check.f k (t216.drop 1)).bind fun t271 => (if t271 = 40 then ((boltinglaw04_div.f).bind fun t272 => ((rows_Same.f t216 t272).bind fun t275 => (some t275))) else (none))) else (none)) else (none))) else (none)) else (none)) else (none)) else (none)) else (none)) = some r := H
            have A26 := Aside0.mk A260
            clear A260
            by_cases c27 : t263 = true
            ·subst c27
             have H1 : (if t243 = 41 then (if (t246.length : Int) = 2 then (if 1 < (t246.length : Int) then (if ((rd_T43 t246 1).f3).toList = ([97, 98] : List UInt8) then ((rows_Check.f k t216).bind fun t265 => (if t265 = 0 then (if 1 ≤ (t216.length : Int) then ((rows_Check.f k (t216.drop 1)).bind fun t271 => (if t271 = 40 then ((boltinglaw04_div.f).bind fun t272 => ((rows_Same.f t216 t272).bind fun t275 => (some t275))) else (none))) else (none)) else (none))) else (none)) else (none)) else (none)) else (none)) = some r := by rw [if_pos rfl] at H; exact H
             clear H
             have H := H1
             clear H1
             by_cases c28 : t243 = 41
             ·rw [if_pos c28] at H
              have c28b0 : (t243 == 41) = true := beq_iff_eq.mpr c28
              have c28b1 : (t243 != 41) = false := bne_eq_false_iff_eq.mpr c28
              clear c28
              by_cases c29 : (t246.length : Int) = 2
              ·rw [if_pos c29] at H
               have c29b0 : ((t246.length : Int) == 2) = true := beq_iff_eq.mpr c29
               have c29b1 : ((t246.length : Int) != 2) = false := bne_eq_false_iff_eq.mpr c29
               clear c29
               by_cases c30 : 1 < (t246.length : Int)
               ·rw [if_pos c30] at H
                have c30b0 : decide (1 < (t246.length : Int)) = true := decide_eq_true c30
                have c30b1 : decide (1 < t246.length) = true := decide_eq_true (by omega)
                clear c30
                by_cases c31 : ((rd_T43 t246 1).f3).toList = ([97, 98] : List UInt8)
                ·rw [if_pos c31] at H
                 have c31b0 : (((rd_T43 t246 1).f3).toList == ([97, 98] : List UInt8)) = true := beq_iff_eq.mpr c31
                 have c31b1 : (((rd_T43 t246 1).f3).toList != ([97, 98] : List UInt8)) = false := bne_eq_false_iff_eq.mpr c31
                 clear c31
                 replace H := Option.bind_eq_some_iff.mp H
                 obtain ⟨t265, A320, H⟩ := H
                 replace H : (if t265 = 0 then (if 1 ≤ (t216.length : Int) then ((rows_Check.f k (t216.drop 1)).bind fun t271 => (if t271 = 40 then ((boltinglaw04_div.f).bind fun t272 => ((rows_Same.f t216 t272).bind fun t275 => (some t275))) else (none))) else (none)) else (none)) = some r := H
                 have A32 := Aside0.mk A320
                 clear A320
                 by_cases c33 : t265 = 0
                 ·rw [if_pos c33] at H
                  have c33b0 : (t265 == 0) = true := beq_iff_eq.mpr c33
                  have c33b1 : (t265 != 0) = false := bne_eq_false_iff_eq.mpr c33
                  clear c33
                  by_cases c34 : 1 ≤ (t216.length : Int)
                  ·rw [if_pos c34] at H
                   have c34b0 := eq_true c34
                   have c34b1 : decide (1 ≤ (t216.length : Int)) = true := decide_eq_true c34
                   clear c34
                   obtain ⟨y266, hy266⟩ : ∃ y_ : List (S43), y_ = (t216.drop 1) := ⟨_, rfl⟩
                   replace H : ((rows_Check.f k y266).bind fun t271 => (if t271 = 40 then ((boltinglaw04_div.f).bind fun t272 => ((rows_Same.f t216 t272).bind fun t275 => (some t275))) else (none))) = some r := by first | (rw [hy266]; with_reducible exact H) | (have H2_ := (Option.bind_some _ _).symm.trans H; rw [hy266]; with_reducible exact H2_) | (have H2_ := (Option.bind_some _ _).symm.trans H; with_reducible exact H2_) | with_reducible exact H | (rw [hy266]; exact H) | exact H
                   have Ny266 := Aside0.mk hy266
                   clear hy266
                   replace H := Option.bind_eq_some_iff.mp H
                   obtain ⟨t271, A350, H⟩ := H
                   replace H : (if t271 = 40 then ((boltinglaw04_div.f).bind fun t272 => ((rows_Same.f t216 t272).bind fun t275 => (some t275))) else (none)) = some r := H
                   have A35 := Aside0.mk A350
                   clear A350
                   by_cases c36 : t271 = 40
                   ·rw [if_pos c36] at H
                    have c36b0 : (t271 == 40) = true := beq_iff_eq.mpr c36
                    have c36b1 : (t271 != 40) = false := bne_eq_false_iff_eq.mpr c36
                    clear c36
                    replace H := Option.bind_eq_some_iff.mp H
                    obtain ⟨t272, A370, H⟩ := H
                    replace H : ((rows_Same.f t216 t272).bind fun t275 => (some t275)) = some r := H
                    have A37 := Aside0.mk A370
                    clear A370
                    replace H := Option.bind_eq_some_iff.mp H
                    obtain ⟨t275, A380, H⟩ := H
                    replace H : (some t275) = some r := H
                    have A38 := Aside0.mk A380
                    clear A380
                    obtain rfl := Option.some.inj H
                    go_enter Try.func12, Try.ntmps12
                    go_wp2_with (first | ((with_reducible refine gate_callee (f := 35) rfl ?_); refine goesL_ (some 15) rfl rfl Try.func35 (by kernel_rfl) rfl #[] rfl (by (try simp only [List.map_toArray, List.map_cons, List.map_nil]); first | done | rfl | (simp only [List.length_drop, List.length_take]; rfl)) ?_; (with_reducible refine (boltinglaw04_div.calls  t216 _ A1.out).mono ?_); rintro e w39 ⟨v217, rfl, ho0, hb⟩; refine ⟨_, rfl, ?_⟩; have n0_ := Aside0.mk (Kd.N_lower (Kd.N_mono (ok' := fun k_ => True) (Kd.S_N (Kd.S_bound ho0)) (fun k_ hk_ => trivial)) (below_size (aB HB))); have n1_ := Aside0.mk (below_step (aB HB) hb); clear HB; have HO218 := n0_; have HB := n1_; clear n0_ n1_; (try clear hb); (try clear hb2); (try clear hk); (try clear hi); (try clear ho0)) | ((with_reducible refine gate_dst (N := 19) rfl ?_); (try (refine gate_guard (by rfl) ?_; dsimp only)); refine Kd.N_lit k43 _ 43 ?hg (N' := 19) ?hd (xs := ([(⟨0, 2, (⟨#[]⟩ : ByteArray), (⟨#[99]⟩ : ByteArray), ([] : List (S46))⟩ : S43)] : List (S43))) (inner := [.int .i64 0, .int .i64 2, .string (⟨#[]⟩ : ByteArray), .string (⟨#[99]⟩ : ByteArray), .slice none 0 0]) (ok := (fun k_ => some k_ ≠ (v217 : Value).ownBlock)) (okp := (fun k_ => some k_ ≠ (v217 : Value).ownBlock)) ?hr ?hp (fun _ hk => hk) ((show ∀ k_, w39.heap.size ≤ k_ → (fun k_ => some k_ ≠ (v217 : Value).ownBlock) k_ from fun k_ hk => Kd.fresh' (Kd.N_lt (aN HO218)) k_ hk) _ (Nat.le_refl _)) (Below.refl _ _) (Nat.le_refl _) (by simp) ?_; (case hd => rfl); (case hg => rfl); (case hr => first | (go_simp; done) | (go_simp; rfl)); (case hp => exact (Reps.c5 (show Kd.FK k43 _ _ (⟨0, 2, (⟨#[]⟩ : ByteArray), (⟨#[99]⟩ : ByteArray), ([] : List (S46))⟩ : S43) [.int .i64 0, .int .i64 2, .string (⟨#[]⟩ : ByteArray), .string (⟨#[99]⟩ : ByteArray), .slice none 0 0] from (k43_mkF _ _ (⟨0, 2, (⟨#[]⟩ : ByteArray), (⟨#[99]⟩ : ByteArray), ([] : List (S46))⟩ : S43) (Nat.le_refl _) (Kd.F_nil _ _ _))) (Reps.none _ _))); intro v220 w40 ho41 hb hg_ hnew_; clear hg_ hnew_; (first | rw [← Ny219.out] at ho41 | (simp only [Int.reduceToNat] at ho41; rw [← Ny219.out] at ho41)); have n0_ := Aside0.mk (Kd.N_elder' (aN HO218) (aS ho41) hb); have n1_ := Aside0.mk (Kd.N_lower ho41 (below_size (aB HB))); have n2_ := Aside0.mk (below_step (aB HB) hb); clear HO218; clear HB; have HO218 := n0_; have HO221 := n1_; have HB := n2_; clear n0_ n1_ n2_; clear hb ho41; obtain ⟨Ao42, co42, eo42⟩ := Kd.N_slice HO218.out; subst eo42; obtain ⟨Ao43, co43, eo43⟩ := Kd.N_slice HO221.out; subst eo43) | ((with_reducible refine gate_callee (f := 28) rfl ?_); refine goesL_ (some 20) rfl rfl Try.func28 (by kernel_rfl) rfl #[.slice Ao42 t216.length co42, .int .i64 0, .int .i64 1, .slice Ao43 y219.length co43] rfl (by (try simp only [List.map_toArray, List.map_cons, List.map_nil]); first | done | rfl | (simp only [List.length_drop, List.length_take]; rfl)) ?_; (with_reducible refine (rows_Put.calls k _ _ t216 0 1 _ _ y219 t222 t225 _ ?side1 ?side2 ?side3 ?side4 A2.out).mono ?_); (case side1 => exact aC (Kd.N_reads' HO218.out).2.2); (case side2 => exact (Kd.N_reads' HO218.out).2.1); (case side3 => exact aC (Kd.N_reads' HO221.out).2.2); (case side4 => exact (Kd.N_reads' HO221.out).2.1); rintro e w44 ⟨v223, rfl, ho0, hb⟩; refine ⟨_, rfl, ?_⟩; have n0_ := Aside0.mk (Kd.N_elder' (aN HO218) (aS ho0) hb); have n1_ := Aside0.mk (Kd.N_elder' (aN HO221) (aS ho0) hb); have n2_ := Aside0.mk (Kd.N_lower (Kd.N_mono (ok' := fun k_ => some k_ ≠ (.slice Ao42 t216.length co42 : Value).ownBlock ∧ some k_ ≠ (.slice Ao43 y219.length co43 : Value).ownBlock) ho0 (fun k_ hk_ => ⟨(Kd.fresh' (Kd.N_lt (aN HO218)) k_ hk_), (Kd.fresh' (Kd.N_lt (aN HO221)) k_ hk_)⟩)) (below_size (aB HB))); have n3_ := Aside0.mk (below_step (aB HB) hb); clear HO218; clear HO221; clear HB; have HO218 := n0_; have HO221 := n1_; have HO224 := n2_; have HB := n3_; clear n0_ n1_ n2_ n3_; (try clear hb); (try clear hb2); (try clear hk); (try clear hi); (try clear ho0)) | ((with_reducible refine gate_callee (f := 28) rfl ?_); refine goesL_ (some 25) rfl rfl Try.func28 (by kernel_rfl) rfl #[.slice Ao42 t216.length co42, .int .i64 1, .int .i64 0, .slice none 0 0] rfl (by (try simp only [List.map_toArray, List.map_cons, List.map_nil]); first | done | rfl | (simp only [List.length_drop, List.length_take]; rfl)) ?_; (refine (rows_Put.calls k _ _ t216 1 0 _ _ ([] : List (S43)) t226 t229 _ ?side1 ?side2 ?side3 ?side4 A3.out).mono ?_); (case side1 => exact aC (Kd.N_reads' HO218.out).2.2); (case side2 => exact (Kd.N_reads' HO218.out).2.1); (case side3 => exact Kd.C_nil _ _); (case side4 => exact Nat.le_refl _); rintro e w45 ⟨v227, rfl, ho0, hb⟩; refine ⟨_, rfl, ?_⟩; have n0_ := Aside0.mk (Kd.N_elder' (aN HO218) (aS ho0) hb); have n1_ := Aside0.mk (Kd.N_elder' (aN HO221) (aS ho0) hb); have n2_ := Aside0.mk (Kd.N_elder' (aN HO224) (aS ho0) hb); have n3_ := Aside0.mk (Kd.N_lower (Kd.N_mono (ok' := fun k_ => some k_ ≠ (.slice Ao42 t216.length co42 : Value).ownBlock ∧ some k_ ≠ (.slice Ao43 y219.length co43 : Value).ownBlock ∧ some k_ ≠ (v223 : Value).ownBlock) ho0 (fun k_ hk_ => ⟨(Kd.fresh' (Kd.N_lt (aN HO218)) k_ hk_), (Kd.fresh' (Kd.N_lt (aN HO221)) k_ hk_), (Kd.fresh' (Kd.N_lt (aN HO224)) k_ hk_)⟩)) (below_size (aB HB))); have n4_ := Aside0.mk (below_step (aB HB) hb); clear HO218; clear HO221; clear HO224; clear HB; have HO218 := n0_; have HO221 := n1_; have HO224 := n2_; have HO228 := n3_; have HB := n4_; clear n0_ n1_ n2_ n3_ n4_; (try clear hb); (try clear hb2); (try clear hk); (try clear hi); (try clear ho0)) | ((with_reducible refine gate_callee (f := 28) rfl ?_); refine goesL_ (some 30) rfl rfl Try.func28 (by kernel_rfl) rfl #[.slice Ao42 t216.length co42, .int .i64 0, .int .i64 3, .slice none 0 0] rfl (by (try simp only [List.map_toArray, List.map_cons, List.map_nil]); first | done | rfl | (simp only [List.length_drop, List.length_take]; rfl)) ?_; (refine (rows_Put.calls k _ _ t216 0 3 _ _ ([] : List (S43)) t230 t233 _ ?side1 ?side2 ?side3 ?side4 A4.out).mono ?_); (case side1 => exact aC (Kd.N_reads' HO218.out).2.2); (case side2 => exact (Kd.N_reads' HO218.out).2.1); (case side3 => exact Kd.C_nil _ _); (case side4 => exact Nat.le_refl _); rintro e w46 ⟨v231, rfl, ho0, hb⟩; refine ⟨_, rfl, ?_⟩; have n0_ := Aside0.mk (Kd.N_elder' (aN HO218) (aS ho0) hb); have n1_ := Aside0.mk (Kd.N_elder' (aN HO221) (aS ho0) hb); have n2_ := Aside0.mk (Kd.N_elder' (aN HO224) (aS ho0) hb); have n3_ := Aside0.mk (Kd.N_elder' (aN HO228) (aS ho0) hb); have n4_ := Aside0.mk (Kd.N_lower (Kd.N_mono (ok' := fun k_ => some k_ ≠ (.slice Ao42 t216.length co42 : Value).ownBlock ∧ some k_ ≠ (.slice Ao43 y219.length co43 : Value).ownBlock ∧ some k_ ≠ (v223 : Value).ownBlock ∧ some k_ ≠ (v227 : Value).ownBlock) ho0 (fun k_ hk_ => ⟨(Kd.fresh' (Kd.N_lt (aN HO218)) k_ hk_), (Kd.fresh' (Kd.N_lt (aN HO221)) k_ hk_), (Kd.fresh' (Kd.N_lt (aN HO224)) k_ hk_), (Kd.fresh' (Kd.N_lt (aN HO228)) k_ hk_)⟩)) (below_size (aB HB))); have n5_ := Aside0.mk (below_step (aB HB) hb); clear HO218; clear HO221; clear HO224; clear HO228; clear HB; have HO218 := n0_; have HO221 := n1_; have HO224 := n2_; have HO228 := n3_; have HO232 := n4_; have HB := n5_; clear n0_ n1_ n2_ n3_ n4_ n5_; (try clear hb); (try clear hb2); (try clear hk); (try clear hi); (try clear ho0); obtain ⟨Ao47, co47, eo47⟩ := Kd.N_slice HO224.out; subst eo47) | ((with_reducible refine gate_callee (f := 30) rfl ?_); refine goesL_ (some 35) rfl rfl Try.func30 (by kernel_rfl) rfl #[.slice Ao47 t222.length co47, .int .i64 2] rfl (by (try simp only [List.map_toArray, List.map_cons, List.map_nil]); first | done | rfl | (simp only [List.length_drop, List.length_take]; rfl)) ?_; (with_reducible refine (rows_Take.calls k _ _ t222 2 t234 t235 _ ?side1 ?side2 A5.out).mono ?_); (case side1 => exact aC (Kd.N_reads' HO224.out).2.2); (case side2 => exact (Kd.N_reads' HO224.out).2.1); rintro e w48 ⟨v236, rfl, ho0, hb⟩; refine ⟨_, rfl, ?_⟩; have n0_ := Aside0.mk (Kd.N_elder' (aN HO218) (aS ho0) hb); have n1_ := Aside0.mk (Kd.N_elder' (aN HO221) (aS ho0) hb); have n2_ := Aside0.mk (Kd.N_elder' (aN HO224) (aS ho0) hb); have n3_ := Aside0.mk (Kd.N_elder' (aN HO228) (aS ho0) hb); have n4_ := Aside0.mk (Kd.N_elder' (aN HO232) (aS ho0) hb); have n5_ := Aside0.mk (Kd.N_lower (Kd.N_mono (ok' := fun k_ => some k_ ≠ (.slice Ao42 t216.length co42 : Value).ownBlock ∧ some k_ ≠ (.slice Ao43 y219.length co43 : Value).ownBlock ∧ some k_ ≠ (.slice Ao47 t222.length co47 : Value).ownBlock ∧ some k_ ≠ (v227 : Value).ownBlock ∧ some k_ ≠ (v231 : Value).ownBlock) (Kd.S_N (Kd.S_bound ho0)) (fun k_ hk_ => ⟨(Kd.fresh' (Kd.N_lt (aN HO218)) k_ hk_.2.1), (Kd.fresh' (Kd.N_lt (aN HO221)) k_ hk_.2.1), (Kd.fresh' (Kd.N_lt (aN HO224)) k_ hk_.2.1), (Kd.fresh' (Kd.N_lt (aN HO228)) k_ hk_.2.1), (Kd.fresh' (Kd.N_lt (aN HO232)) k_ hk_.2.1)⟩)) (below_size (aB HB))); have n6_ := Aside0.mk (below_step (aB HB) hb); clear HO218; clear HO221; clear HO224; clear HO228; clear HO232; clear HB; have HO218 := n0_; have HO221 := n1_; have HO224 := n2_; have HO228 := n3_; have HO232 := n4_; have HO237 := n5_; have HB := n6_; clear n0_ n1_ n2_ n3_ n4_ n5_ n6_; (try clear hb); (try clear hb2); (try clear hk); (try clear hi); (try clear ho0)) | ((with_reducible refine gate_callee (f := 31) rfl ?_); refine goesL_ (some 40) rfl rfl Try.func31 (by kernel_rfl) rfl #[.slice Ao47 t222.length co47, .int .i64 2] rfl (by (try simp only [List.map_toArray, List.map_cons, List.map_nil]); first | done | rfl | (simp only [List.length_drop, List.length_take]; rfl)) ?_; (with_reducible refine (rows_Drop.calls k _ _ t222 2 t238 t241 _ ?side1 ?side2 A6.out).mono ?_); (case side1 => exact aC (Kd.N_reads' HO224.out).2.2); (case side2 => exact (Kd.N_reads' HO224.out).2.1); rintro e w49 ⟨v239, rfl, ho0, hb⟩; refine ⟨_, rfl, ?_⟩; have n0_ := Aside0.mk (Kd.N_elder' (aN HO218) (aS ho0) hb); have n1_ := Aside0.mk (Kd.N_elder' (aN HO221) (aS ho0) hb); have n2_ := Aside0.mk (Kd.N_elder' (aN HO224) (aS ho0) hb); have n3_ := Aside0.mk (Kd.N_elder' (aN HO228) (aS ho0) hb); have n4_ := Aside0.mk (Kd.N_elder' (aN HO232) (aS ho0) hb); have n5_ := Aside0.mk (Kd.N_elder' (aN HO237) (aS ho0) hb); have n6_ := Aside0.mk (Kd.N_lower (Kd.N_mono (ok' := fun k_ => some k_ ≠ (.slice Ao42 t216.length co42 : Value).ownBlock ∧ some k_ ≠ (.slice Ao43 y219.length co43 : Value).ownBlock ∧ some k_ ≠ (.slice Ao47 t222.length co47 : Value).ownBlock ∧ some k_ ≠ (v227 : Value).ownBlock ∧ some k_ ≠ (v231 : Value).ownBlock ∧ some k_ ≠ (v236 : Value).ownBlock) ho0 (fun k_ hk_ => ⟨(Kd.fresh' (Kd.N_lt (aN HO218)) k_ hk_), (Kd.fresh' (Kd.N_lt (aN HO221)) k_ hk_), (Kd.fresh' (Kd.N_lt (aN HO224)) k_ hk_), (Kd.fresh' (Kd.N_lt (aN HO228)) k_ hk_), (Kd.fresh' (Kd.N_lt (aN HO232)) k_ hk_), (Kd.fresh' (Kd.N_lt (aN HO237)) k_ hk_)⟩)) (below_size (aB HB))); have n7_ := Aside0.mk (below_step (aB HB) hb); clear HO218; clear HO221; clear HO224; clear HO228; clear HO232; clear HO237; clear HB; have HO218 := n0_; have HO221 := n1_; have HO224 := n2_; have HO228 := n3_; have HO232 := n4_; have HO237 := n5_; have HO240 := n6_; have HB := n7_; clear n0_ n1_ n2_ n3_ n4_ n5_ n6_ n7_; (try clear hb); (try clear hb2); (try clear hk); (try clear hi); (try clear ho0)) | ((with_reducible refine gate_callee (f := 30) rfl ?_); refine goesL_ (some 45) rfl rfl Try.func30 (by kernel_rfl) rfl #[.slice Ao42 t216.length co42, .int .i64 3] rfl (by (try simp only [List.map_toArray, List.map_cons, List.map_nil]); first | done | rfl | (simp only [List.length_drop, List.length_take]; rfl)) ?_; (with_reducible refine (rows_Take.calls k _ _ t216 3 t242 t243 _ ?side1 ?side2 A7.out).mono ?_); (case side1 => exact aC (Kd.N_reads' HO218.out).2.2); (case side2 => exact (Kd.N_reads' HO218.out).2.1); rintro e w50 ⟨v244, rfl, ho0, hb⟩; refine ⟨_, rfl, ?_⟩; have n0_ := Aside0.mk (Kd.N_elder' (aN HO218) (aS ho0) hb); have n1_ := Aside0.mk (Kd.N_elder' (aN HO221) (aS ho0) hb); have n2_ := Aside0.mk (Kd.N_elder' (aN HO224) (aS ho0) hb); have n3_ := Aside0.mk (Kd.N_elder' (aN HO228) (aS ho0) hb); have n4_ := Aside0.mk (Kd.N_elder' (aN HO232) (aS ho0) hb); have n5_ := Aside0.mk (Kd.N_elder' (aN HO237) (aS ho0) hb); have n6_ := Aside0.mk (Kd.N_elder' (aN HO240) (aS ho0) hb); have n7_ := Aside0.mk (Kd.N_lower (Kd.N_mono (ok' := fun k_ => some k_ ≠ (.slice Ao42 t216.length co42 : Value).ownBlock ∧ some k_ ≠ (.slice Ao43 y219.length co43 : Value).ownBlock ∧ some k_ ≠ (.slice Ao47 t222.length co47 : Value).ownBlock ∧ some k_ ≠ (v227 : Value).ownBlock ∧ some k_ ≠ (v231 : Value).ownBlock ∧ some k_ ≠ (v236 : Value).ownBlock ∧ some k_ ≠ (v239 : Value).ownBlock) (Kd.S_N (Kd.S_bound ho0)) (fun k_ hk_ => ⟨(Kd.fresh' (Kd.N_lt (aN HO218)) k_ hk_.2.1), (Kd.fresh' (Kd.N_lt (aN HO221)) k_ hk_.2.1), (Kd.fresh' (Kd.N_lt (aN HO224)) k_ hk_.2.1), (Kd.fresh' (Kd.N_lt (aN HO228)) k_ hk_.2.1), (Kd.fresh' (Kd.N_lt (aN HO232)) k_ hk_.2.1), (Kd.fresh' (Kd.N_lt (aN HO237)) k_ hk_.2.1), (Kd.fresh' (Kd.N_lt (aN HO240)) k_ hk_.2.1)⟩)) (below_size (aB HB))); have n8_ := Aside0.mk (below_step (aB HB) hb); clear HO218; clear HO221; clear HO224; clear HO228; clear HO232; clear HO237; clear HO240; clear HB; have HO218 := n0_; have HO221 := n1_; have HO224 := n2_; have HO228 := n3_; have HO232 := n4_; have HO237 := n5_; have HO240 := n6_; have HO245 := n7_; have HB := n8_; clear n0_ n1_ n2_ n3_ n4_ n5_ n6_ n7_ n8_; (try clear hb); (try clear hb2); (try clear hk); (try clear hi); (try clear ho0)) | ((with_reducible refine gate_callee (f := 33) rfl ?_); refine goesL_ (some 49) rfl rfl Try.func33 (by kernel_rfl) rfl #[.slice Ao42 t216.length co42] rfl (by (try simp only [List.map_toArray, List.map_cons, List.map_nil]); first | done | rfl | (simp only [List.length_drop, List.length_take]; rfl)) ?_; (with_reducible refine (rows_Normal.calls _ _ t216 t246 _ ?side1 ?side2 A8.out).mono ?_); (case side1 => exact aC (Kd.N_reads' HO218.out).2.2); (case side2 => exact (Kd.N_reads' HO218.out).2.1); rintro e w51 ⟨v247, rfl, ho0, hb⟩; refine ⟨_, rfl, ?_⟩; have n0_ := Aside0.mk (Kd.N_elder' (aN HO218) (aS ho0) hb); have n1_ := Aside0.mk (Kd.N_elder' (aN HO221) (aS ho0) hb); have n2_ := Aside0.mk (Kd.N_elder' (aN HO224) (aS ho0) hb); have n3_ := Aside0.mk (Kd.N_elder' (aN HO228) (aS ho0) hb); have n4_ := Aside0.mk (Kd.N_elder' (aN HO232) (aS ho0) hb); have n5_ := Aside0.mk (Kd.N_elder' (aN HO237) (aS ho0) hb); have n6_ := Aside0.mk (Kd.N_elder' (aN HO240) (aS ho0) hb); have n7_ := Aside0.mk (Kd.N_elder' (aN HO245) (aS ho0) hb); have n8_ := Aside0.mk (Kd.N_lower (Kd.N_mono (ok' := fun k_ => some k_ ≠ (.slice Ao42 t216.length co42 : Value).ownBlock ∧ some k_ ≠ (.slice Ao43 y219.length co43 : Value).ownBlock ∧ some k_ ≠ (.slice Ao47 t222.length co47 : Value).ownBlock ∧ some k_ ≠ (v227 : Value).ownBlock ∧ some k_ ≠ (v231 : Value).ownBlock ∧ some k_ ≠ (v236 : Value).ownBlock ∧ some k_ ≠ (v239 : Value).ownBlock ∧ some k_ ≠ (v244 : Value).ownBlock) (Kd.S_N (Kd.S_bound ho0)) (fun k_ hk_ => ⟨(Kd.fresh' (Kd.N_lt (aN HO218)) k_ hk_.2.1), (Kd.fresh' (Kd.N_lt (aN HO221)) k_ hk_.2.1), (Kd.fresh' (Kd.N_lt (aN HO224)) k_ hk_.2.1), (Kd.fresh' (Kd.N_lt (aN HO228)) k_ hk_.2.1), (Kd.fresh' (Kd.N_lt (aN HO232)) k_ hk_.2.1), (Kd.fresh' (Kd.N_lt (aN HO237)) k_ hk_.2.1), (Kd.fresh' (Kd.N_lt (aN HO240)) k_ hk_.2.1), (Kd.fresh' (Kd.N_lt (aN HO245)) k_ hk_.2.1)⟩)) (below_size (aB HB))); have n9_ := Aside0.mk (below_step (aB HB) hb); clear HO218; clear HO221; clear HO224; clear HO228; clear HO232; clear HO237; clear HO240; clear HO245; clear HB; have HO218 := n0_; have HO221 := n1_; have HO224 := n2_; have HO228 := n3_; have HO232 := n4_; have HO237 := n5_; have HO240 := n6_; have HO245 := n7_; have HO248 := n8_; have HB := n9_; clear n0_ n1_ n2_ n3_ n4_ n5_ n6_ n7_ n8_ n9_; (try clear hb); (try clear hb2); (try clear hk); (try clear hi); (try clear ho0)) | (go_at_call 24; (with_reducible refine (rows_Kids.calls _ _ t216 0 t249 _ ?side1 ?side2 A9.out).mono ?_); (case side1 => ((with_reducible repeat (first | refine Kd.C_alloc ?_ _ | refine Kd.C_drewN ?_ _ | refine Kd.C_drew ?_)); exact (Kd.N_reads' HO218.out).2.2)); (case side2 => exact (Kd.N_reads' HO218.out).2.1); rintro e w52 ⟨v250, rfl, ho0, hb⟩; have n0_ := Aside0.mk (Kd.N_elder' (aN HO218) (Kd.R_base ho0) hb); have n5_ := Aside0.mk (Kd.N_elder' (aN HO237) (Kd.R_base ho0) hb); have n6_ := Aside0.mk (Kd.N_elder' (aN HO240) (Kd.R_base ho0) hb); have n8_ := Aside0.mk (Kd.N_elder' (aN HO248) (Kd.R_base ho0) hb); have n9_ := Aside0.mk (Kd.R_lower ho0 (below_size (aB HB))); have n10_ := Aside0.mk (below_step (aB HB) hb); (try clear HO218); (try clear HO221); (try clear HO224); (try clear HO228); (try clear HO232); (try clear HO237); (try clear HO240); (try clear HO245); (try clear HO248); (try clear HB); have HO218 := n0_; have HO237 := n5_; have HO240 := n6_; have HO248 := n8_; have HO251 := n9_; have HB := n10_; clear n0_ n5_ n6_ n8_ n9_ n10_; (try clear hb); (try clear hb2); (try clear hk); (try clear hi); (try clear ho0); (dsimp only; refine ‹∀ (a : Act) (w : World), wpList Try.prog _ _ _ a w → _› _ _ ?_); (try (refine gate_guard (by rfl) ?_; dsimp only)); refine Kd.R_lit (Kd.int .i64) _ 3 ?hg (N := 52) ?hd (xs := ([1, 2] : List Int)) (inner := [.int .i64 1, .int .i64 2]) (ok := fun _ => True) (okp := fun _ => True) ?hr ?hp (fun _ hk => hk) trivial (Below.refl _ _) (Nat.le_refl _) (by simp) ?_; (case hd => rfl); (case hg => rfl); (case hr => first | (go_simp; done) | (go_simp; rfl)); (case hp => exact (Reps.one (show Kd.M (Kd.int .i64) _ _ _ 1 [.int .i64 1] from rfl) (Reps.one (show Kd.M (Kd.int .i64) _ _ _ 2 [.int .i64 2] from rfl) (Reps.none _ _)))); intro v253 w53 ho54 hb hg_ hnew_; clear hg_ hnew_; (first | rw [← Ny252.out] at ho54 | (simp only [Int.reduceToNat] at ho54; rw [← Ny252.out] at ho54)); have n0_ := Aside0.mk (Kd.N_elder' (aN HO218) (Kd.R_base ho54) hb); have n5_ := Aside0.mk (Kd.N_elder' (aN HO237) (Kd.R_base ho54) hb); have n6_ := Aside0.mk (Kd.N_elder' (aN HO240) (Kd.R_base ho54) hb); have n8_ := Aside0.mk (Kd.N_elder' (aN HO248) (Kd.R_base ho54) hb); have n9_ := Aside0.mk (Kd.R_elder' (aR HO251) (Kd.R_base ho54) hb); have n10_ := Aside0.mk (Kd.R_lower (Kd.R_new' ho54 (Kd.R_lt (aR HO251))) (below_size (aB HB))); have n11_ := Aside0.mk (below_step (aB HB) hb); (try clear HO218); (try clear HO221); (try clear HO224); (try clear HO228); (try clear HO232); (try clear HO237); (try clear HO240); (try clear HO245); (try clear HO248); (try clear HO251); (try clear HB); have HO218 := n0_; have HO237 := n5_; have HO240 := n6_; have HO248 := n8_; have HO251 := n9_; have HO254 := n10_; have HB := n11_; clear n0_ n5_ n6_ n8_ n9_ n10_ n11_; clear hb ho54; obtain ⟨Ao55, co55, eo55⟩ := Kd.R_slice HO251.out; subst eo55; obtain ⟨Ao56, co56, eo56⟩ := Kd.R_slice HO254.out; subst eo56) | (go_at_call 23; (with_reducible refine (boltinglaw04_nums.calls k _ _ t249 _ _ y252 true _ ?side1 ?side2 ?side3 ?side4 A10.out).mono ?_); (case side1 => ((with_reducible repeat (first | refine Kd.C_alloc ?_ _ | refine Kd.C_drewN ?_ _ | refine Kd.C_drew ?_)); exact (Kd.R_reads' HO251.out).2.2)); (case side2 => exact (Kd.R_reads' HO251.out).2.1); (case side3 => ((with_reducible repeat (first | refine Kd.C_alloc ?_ _ | refine Kd.C_drewN ?_ _ | refine Kd.C_drew ?_)); exact (Kd.R_reads' HO254.out).2.2)); (case side4 => exact (Kd.R_reads' HO254.out).2.1); rintro e w' ⟨rfl, ⟨nd, rfl⟩⟩) | (go_at_call 26; (with_reducible refine (rows_Text.calls _ _ t216 0 t256 _ ?side1 ?side2 A12.out).mono ?_); (case side1 => ((with_reducible repeat (first | refine Kd.C_alloc ?_ _ | refine Kd.C_drewN ?_ _ | refine Kd.C_drew ?_)); exact (Kd.N_reads' HO218.out).2.2)); (case side2 => exact (Kd.N_reads' HO218.out).2.1); rintro e w57 ⟨rfl, hb⟩; have n0_ := Aside0.mk (Kd.N_below (aN HO218) hb); have n5_ := Aside0.mk (Kd.N_below (aN HO237) hb); have n6_ := Aside0.mk (Kd.N_below (aN HO240) hb); have n8_ := Aside0.mk (Kd.N_below (aN HO248) hb); have n11_ := Aside0.mk (below_step (aB HB) hb); (try clear HO218); (try clear HO221); (try clear HO224); (try clear HO228); (try clear HO232); (try clear HO237); (try clear HO240); (try clear HO245); (try clear HO248); (try clear HO251); (try clear HO254); (try clear HB); have HO218 := n0_; have HO237 := n5_; have HO240 := n6_; have HO248 := n8_; have HB := n11_; clear n0_ n5_ n6_ n8_ n11_; (try clear hb); (try clear hb2); (try clear hk); (try clear hi)) | (go_at_call 21; (with_reducible refine (rows_Parent.calls k _ _ t216 2 t257 _ ?side1 ?side2 A14.out).mono ?_); (case side1 => ((with_reducible repeat (first | refine Kd.C_alloc ?_ _ | refine Kd.C_drewN ?_ _ | refine Kd.C_drew ?_)); exact (Kd.N_reads' HO218.out).2.2)); (case side2 => exact (Kd.N_reads' HO218.out).2.1); rintro e w' ⟨rfl, ⟨nd, rfl⟩⟩) | (go_at_call 19; (with_reducible refine (rows_End.calls k _ _ t216 0 t258 _ ?side1 ?side2 A16.out).mono ?_); (case side1 => ((with_reducible repeat (first | refine Kd.C_alloc ?_ _ | refine Kd.C_drewN ?_ _ | refine Kd.C_drew ?_)); exact (Kd.N_reads' HO218.out).2.2)); (case side2 => exact (Kd.N_reads' HO218.out).2.1); rintro e w' ⟨rfl, ⟨nd, rfl⟩⟩) | ((with_reducible refine gate_dst (N := 93) rfl ?_); (try (refine gate_guard (by rfl) ?_; dsimp only)); refine Kd.N_lit k43 _ 43 ?hg (N' := 93) ?hd (xs := ([(⟨0, 2, (⟨#[]⟩ : ByteArray), (⟨#[99]⟩ : ByteArray), ([] : List (S46))⟩ : S43)] : List (S43))) (inner := [.int .i64 0, .int .i64 2, .string (⟨#[]⟩ : ByteArray), .string (⟨#[99]⟩ : ByteArray), .slice none 0 0]) (ok := (fun k_ => some k_ ≠ (.slice Ao42 t216.length co42 : Value).ownBlock ∧ some k_ ≠ (.slice Ao43 y219.length co43 : Value).ownBlock ∧ some k_ ≠ (.slice Ao47 t222.length co47 : Value).ownBlock ∧ some k_ ≠ (v227 : Value).ownBlock ∧ some k_ ≠ (v231 : Value).ownBlock ∧ some k_ ≠ (v236 : Value).ownBlock ∧ some k_ ≠ (v239 : Value).ownBlock ∧ some k_ ≠ (v244 : Value).ownBlock ∧ some k_ ≠ (v247 : Value).ownBlock ∧ some k_ ≠ (.slice Ao55 t249.length co55 : Value).ownBlock ∧ some k_ ≠ (.slice Ao56 y252.length co56 : Value).ownBlock)) (okp := (fun k_ => some k_ ≠ (.slice Ao42 t216.length co42 : Value).ownBlock ∧ some k_ ≠ (.slice Ao43 y219.length co43 : Value).ownBlock ∧ some k_ ≠ (.slice Ao47 t222.length co47 : Value).ownBlock ∧ some k_ ≠ (v227 : Value).ownBlock ∧ some k_ ≠ (v231 : Value).ownBlock ∧ some k_ ≠ (v236 : Value).ownBlock ∧ some k_ ≠ (v239 : Value).ownBlock ∧ some k_ ≠ (v244 : Value).ownBlock ∧ some k_ ≠ (v247 : Value).ownBlock ∧ some k_ ≠ (.slice Ao55 t249.length co55 : Value).ownBlock ∧ some k_ ≠ (.slice Ao56 y252.length co56 : Value).ownBlock)) ?hr ?hp (fun _ hk => hk) ((show ∀ k_, w57.heap.size ≤ k_ → (fun k_ => some k_ ≠ (.slice Ao42 t216.length co42 : Value).ownBlock ∧ some k_ ≠ (.slice Ao43 y219.length co43 : Value).ownBlock ∧ some k_ ≠ (.slice Ao47 t222.length co47 : Value).ownBlock ∧ some k_ ≠ (v227 : Value).ownBlock ∧ some k_ ≠ (v231 : Value).ownBlock ∧ some k_ ≠ (v236 : Value).ownBlock ∧ some k_ ≠ (v239 : Value).ownBlock ∧ some k_ ≠ (v244 : Value).ownBlock ∧ some k_ ≠ (v247 : Value).ownBlock ∧ some k_ ≠ (.slice Ao55 t249.length co55 : Value).ownBlock ∧ some k_ ≠ (.slice Ao56 y252.length co56 : Value).ownBlock) k_ from fun k_ hk => ⟨Kd.fresh' (Kd.N_lt (aN HO218)) k_ hk, Kd.fresh' (Kd.N_lt (aN HO221)) k_ hk, Kd.fresh' (Kd.N_lt (aN HO224)) k_ hk, Kd.fresh' (Kd.N_lt (aN HO228)) k_ hk, Kd.fresh' (Kd.N_lt (aN HO232)) k_ hk, Kd.fresh' (Kd.N_lt (aN HO237)) k_ hk, Kd.fresh' (Kd.N_lt (aN HO240)) k_ hk, Kd.fresh' (Kd.N_lt (aN HO245)) k_ hk, Kd.fresh' (Kd.N_lt (aN HO248)) k_ hk, Kd.fresh' (Kd.R_lt (aR HO251)) k_ hk, Kd.fresh' (Kd.R_lt (aR HO254)) k_ hk⟩) _ (Nat.le_refl _)) (Below.refl _ _) (Nat.le_refl _) (by simp) ?_; (case hd => rfl); (case hg => rfl); (case hr => first | (go_simp; done) | (go_simp; rfl)); (case hp => exact (Reps.c5 (show Kd.FK k43 _ _ (⟨0, 2, (⟨#[]⟩ : ByteArray), (⟨#[99]⟩ : ByteArray), ([] : List (S46))⟩ : S43) [.int .i64 0, .int .i64 2, .string (⟨#[]⟩ : ByteArray), .string (⟨#[99]⟩ : ByteArray), .slice none 0 0] from (k43_mkF _ _ (⟨0, 2, (⟨#[]⟩ : ByteArray), (⟨#[99]⟩ : ByteArray), ([] : List (S46))⟩ : S43) (Nat.le_refl _) (Kd.F_nil _ _ _))) (Reps.none _ _))); intro v260 w58 ho59 hb hg_ hnew_; clear hg_ hnew_; (first | rw [← Ny259.out] at ho59 | (simp only [Int.reduceToNat] at ho59; rw [← Ny259.out] at ho59)); have n0_ := Aside0.mk (Kd.N_elder' (aN HO218) (aS ho59) hb); have n1_ := Aside0.mk (Kd.N_elder' (aN HO221) (aS ho59) hb); have n2_ := Aside0.mk (Kd.N_elder' (aN HO224) (aS ho59) hb); have n3_ := Aside0.mk (Kd.N_elder' (aN HO228) (aS ho59) hb); have n4_ := Aside0.mk (Kd.N_elder' (aN HO232) (aS ho59) hb); have n5_ := Aside0.mk (Kd.N_elder' (aN HO237) (aS ho59) hb); have n6_ := Aside0.mk (Kd.N_elder' (aN HO240) (aS ho59) hb); have n7_ := Aside0.mk (Kd.N_elder' (aN HO245) (aS ho59) hb); have n8_ := Aside0.mk (Kd.N_elder' (aN HO248) (aS ho59) hb); have n9_ := Aside0.mk (Kd.R_below (aR HO251) hb); have n10_ := Aside0.mk (Kd.R_below (aR HO254) hb); have n11_ := Aside0.mk (Kd.N_lower ho59 (below_size (aB HB))); have n12_ := Aside0.mk (below_step (aB HB) hb); clear HO218; clear HO221; clear HO224; clear HO228; clear HO232; clear HO237; clear HO240; clear HO245; clear HO248; clear HO251; clear HO254; clear HB; have HO218 := n0_; have HO221 := n1_; have HO224 := n2_; have HO228 := n3_; have HO232 := n4_; have HO237 := n5_; have HO240 := n6_; have HO245 := n7_; have HO248 := n8_; have HO251 := n9_; have HO254 := n10_; have HO261 := n11_; have HB := n12_; clear n0_ n1_ n2_ n3_ n4_ n5_ n6_ n7_ n8_ n9_ n10_ n11_ n12_; clear hb ho59; obtain ⟨Ao60, co60, eo60⟩ := Kd.N_slice HO237.out; subst eo60; obtain ⟨Ao61, co61, eo61⟩ := Kd.N_slice HO261.out; subst eo61) | (go_at_call 16; obtain ⟨At_, ct_, et_⟩ := Kd.N_slice HO237.out; subst et_; refine calls_lit (m := y259.length) (by rw [Ny259.out]; rfl) ?_; have HO261 : Aside0 (∀ n_, Kd.N k43 43 ((World.drewN w57 n_).alloc (.cells #[.int .i64 0, .int .i64 2, .string (⟨#[]⟩ : ByteArray), .string (⟨#[99]⟩ : ByteArray), .slice none 0 0] 43)) w.heap.size (fun _ => True) (.slice (some ⟨w57.heap.size, 0, none⟩) y259.length 1) y259) := ⟨fun n_ => lit_rowN' w57 n_ w.heap.size (below_size HB.out) y259 Ny259.out⟩; (with_reducible refine (boltingref04_Same.calls _ _ t234 _ _ y259 true _ ?side1 ?side2 ?side3 ?side4 A23.out).mono ?_); (case side1 => (with_reducible repeat (first | refine Kd.C_alloc ?_ _ | refine Kd.C_drewN ?_ _ | refine Kd.C_drew ?_)); exact (Kd.N_reads' HO237.out).2.2); (case side2 => exact (Kd.N_reads' HO237.out).2.1); (case side3 => with_reducible exact (Kd.N_reads' (HO261.out _)).2.2); (case side4 => exact (Kd.N_reads' (HO261.out 0)).2.1); rintro e w62 ⟨rfl, hb⟩; have n0_ := Aside0.mk (Kd.N_below (aN HO218) hb); have n6_ := Aside0.mk (Kd.N_below (aN HO240) hb); have n8_ := Aside0.mk (Kd.N_below (aN HO248) hb); have n12_ := Aside0.mk (below_step (aB HB) hb); (try clear HO218); (try clear HO221); (try clear HO224); (try clear HO228); (try clear HO232); (try clear HO237); (try clear HO240); (try clear HO245); (try clear HO248); (try clear HO251); (try clear HO254); (try clear HO261); (try clear HB); have HO218 := n0_; have HO240 := n6_; have HO248 := n8_; have HB := n12_; clear n0_ n6_ n8_ n12_; (try clear hb); (try clear hb2); (try clear hk); (try clear hi); obtain ⟨Ao63, co63, eo63⟩ := Kd.N_slice HO240.out; subst eo63) | (go_at_call 16; (with_reducible refine (boltingref04_Same.calls _ _ t238 _ _ t216 true _ ?side1 ?side2 ?side3 ?side4 A26.out).mono ?_); (case side1 => ((with_reducible repeat (first | refine Kd.C_alloc ?_ _ | refine Kd.C_drewN ?_ _ | refine Kd.C_drew ?_)); exact (Kd.N_reads' HO240.out).2.2)); (case side2 => exact (Kd.N_reads' HO240.out).2.1); (case side3 => ((with_reducible repeat (first | refine Kd.C_alloc ?_ _ | refine Kd.C_drewN ?_ _ | refine Kd.C_drew ?_)); exact (Kd.N_reads' HO218.out).2.2)); (case side4 => exact (Kd.N_reads' HO218.out).2.1); rintro e w64 ⟨rfl, hb⟩; have n0_ := Aside0.mk (Kd.N_below (aN HO218) hb); have n8_ := Aside0.mk (Kd.N_below (aN HO248) hb); have n12_ := Aside0.mk (below_step (aB HB) hb); (try clear HO218); (try clear HO221); (try clear HO224); (try clear HO228); (try clear HO232); (try clear HO237); (try clear HO240); (try clear HO245); (try clear HO248); (try clear HO251); (try clear HO254); (try clear HO261); (try clear HB); have HO218 := n0_; have HO248 := n8_; have HB := n12_; clear n0_ n8_ n12_; (try clear hb); (try clear hb2); (try clear hk); (try clear hi); obtain ⟨Ao65, co65, eo65⟩ := Kd.N_slice HO248.out; subst eo65; have p264 : 0 ≤ (1 : Int) := (by omega); have q264 : 1 < (t246.length : Int) := of_decide_eq_true aA; obtain ⟨ad264, A264_4, c264_4, e264, hx264_0, hx264_1, hx264_2, hx264_3, hx264_4, hl264_4, hi264_4⟩ := at_T43 (Kd.N_reads' HO248.out).2.2 1 p264 q264; cases e264; obtain ⟨ce264, hce264, hMe264, hcc264⟩ := Kd.N_get HO248.out z43 1 p264 (by first | exact q264 | exact of_decide_eq_true aA | (have e_ := (Kd.N_reads' HO248.out).1; omega)); obtain ⟨ua264_4, uc264_4, rfl, ul264_4, ge264_4⟩ := k43_openF hMe264; have hv264_4 := hcc264 4 _ rfl; rw [add_field _ _ 4 (by omega)] at hv264_4; replace hv264_4 := Option.some.inj (hv264_4.symm.trans hx264_4); injection hv264_4 with hva_ hvn_ hvc_; rw [hva_] at ge264_4; rw [hvc_] at ul264_4; have HL264_4 := Aside0.mk (show Kd.V k46 46 _ w.heap.size _ _ ((rd_T43 t246 1).f4) from Kd.V_mk ul264_4 ge264_4); clear hva_ hvn_ hvc_ ge264_4 ul264_4; clear hcc264 hce264; (try simp only [show (1 : Int).toNat = 1 from rfl, Nat.reduceMul, Nat.reduceEqDiff, Go.Addr.add, ↓reduceIte] at hx264_0); (try simp only [show (1 : Int).toNat = 1 from rfl, Nat.reduceMul, Nat.reduceEqDiff, Go.Addr.add, ↓reduceIte] at hx264_1); (try simp only [show (1 : Int).toNat = 1 from rfl, Nat.reduceMul, Nat.reduceEqDiff, Go.Addr.add, ↓reduceIte] at hx264_2); (try simp only [show (1 : Int).toNat = 1 from rfl, Nat.reduceMul, Nat.reduceEqDiff, Go.Addr.add, ↓reduceIte] at hx264_3); (try simp only [show (1 : Int).toNat = 1 from rfl, Nat.reduceMul, Nat.reduceEqDiff, Go.Addr.add, ↓reduceIte] at hx264_4); have qi264 : (1 < t246.length) = True := eq_true (by omega); (try rw [show ((1 : Int)).toNat = 1 from rfl] at hx264_0); (try rw [show 1 * 5 = 5 from rfl] at hx264_0); (try rw [show ((1 : Int)).toNat = 1 from rfl] at hx264_1); (try rw [show 1 * 5 = 5 from rfl] at hx264_1); (try rw [show ((1 : Int)).toNat = 1 from rfl] at hx264_2); (try rw [show 1 * 5 = 5 from rfl] at hx264_2); (try rw [show ((1 : Int)).toNat = 1 from rfl] at hx264_3); (try rw [show 1 * 5 = 5 from rfl] at hx264_3); (try rw [show ((1 : Int)).toNat = 1 from rfl] at hx264_4); (try rw [show 1 * 5 = 5 from rfl] at hx264_4); have HR264_4 := Aside0.mk hi264_4; have HC264_4 := Aside0.mk hl264_4; clear hi264_4 hl264_4; replace p264 := eq_true p264; replace q264 := eq_true q264) | (go_at_call 13; (with_reducible refine (rows_Check.calls k _ _ t216 t265 _ ?side1 ?side2 A32.out).mono ?_); (case side1 => ((with_reducible repeat (first | refine Kd.C_alloc ?_ _ | refine Kd.C_drewN ?_ _ | refine Kd.C_drew ?_)); exact (Kd.N_reads' HO218.out).2.2)); (case side2 => exact (Kd.N_reads' HO218.out).2.1); rintro e w66 ⟨rfl, hb⟩; have n0_ := Aside0.mk (Kd.N_below (aN HO218) hb); have n14_ := Aside0.mk (below_step (aB HB) hb); (try clear HO218); (try clear HO221); (try clear HO224); (try clear HO228); (try clear HO232); (try clear HO237); (try clear HO240); (try clear HO245); (try clear HO248); (try clear HO251); (try clear HO254); (try clear HO261); (try clear HL264_4); (try clear HR264_4); (try clear HB); have HO218 := n0_; have HB := n14_; clear n0_ n14_; (try clear hb); (try clear hb2); (try clear hk); (try clear hi); have q67 : (1 : Int) ≤ ((t216.length : Int) : Int) := of_decide_eq_true aA; obtain ⟨i067, hi067, _, hsz67, _⟩ := info_parts info43; have hroom67 : t216.length ≤ co42 := (Kd.N_reads' HO218.out).2.1; have hC67 : Kd.F k43 _ _ Ao42 t216.length t216 := (Kd.V_at (base := w.heap.size) (Kd.N_V HO218.out)).2.2; have hcut67 := cut_from (P := Try.prog) 22 43 .i64 Try.underlying22 hi067 5 hsz67 Ao42 t216.length co42 1 (by omega) q67; have hr67 := Kd.F_cut (m := (1 : Int).toNat) (c := co42) hC67 (by omega) hroom67; obtain ⟨A67, hA67⟩ : ∃ A1, A1 = (if co42 = (1 : Int).toNat then Ao42 else (Ao42 : Option Addr).map (·.add ((1 : Int).toNat * 5))) := ⟨_, rfl⟩; obtain ⟨c67, hc67⟩ : ∃ c1, c1 = co42 - (1 : Int).toNat := ⟨_, rfl⟩; have hy67 : y266.length = t216.length - (1 : Int).toNat := (by rw [Ny266.out, List.length_drop] <;> omega); rw [show (t216).drop (1 : Int).toNat = y266 from Ny266.out.symm] at hr67; replace hr67 : Kd.F k43 _ _ A67 y266.length y266 := (by rw [hA67]; exact hr67); rw [← hy67, ← hA67, ← hc67] at hcut67; have HO270 := Aside0.mk (show Kd.V k43 43 _ w.heap.size _ (.slice A67 y266.length c67) y266 from Kd.V_mk (by rw [hy67, hc67]; exact Nat.sub_le_sub_right hroom67 _) hr67); have HC270 := Aside0.mk (show y266.length ≤ c67 from by rw [hy67, hc67]; exact Nat.sub_le_sub_right hroom67 _); clear hr67 hC67 hroom67 hi067 hsz67 hc67; have KY67 := Aside0.mk hy67; have KA67 := Aside0.mk hA67; clear hy67 hA67; replace q67 := eq_true q67) | (go_at_call 13; (with_reducible refine (rows_Check.calls k _ _ y266 t271 _ ?side1 ?side2 A35.out).mono ?_); (case side1 => ((with_reducible repeat (first | refine Kd.C_alloc ?_ _ | refine Kd.C_drewN ?_ _ | refine Kd.C_drew ?_)); exact (Kd.V_reads' HO270.out).2.2)); (case side2 => exact (Kd.V_reads' HO270.out).2.1); rintro e w68 ⟨rfl, hb⟩; have n0_ := Aside0.mk (Kd.N_below (aN HO218) hb); have n15_ := Aside0.mk (below_step (aB HB) hb); (try clear HO218); (try clear HO221); (try clear HO224); (try clear HO228); (try clear HO232); (try clear HO237); (try clear HO240); (try clear HO245); (try clear HO248); (try clear HO251); (try clear HO254); (try clear HO261); (try clear HL264_4); (try clear HO270); (try clear HR264_4); (try clear HB); have HO218 := n0_; have HB := n15_; clear n0_ n15_; (try clear hb); (try clear hb2); (try clear hk); (try clear hi)) | (go_at_call 35; (with_reducible refine (boltinglaw04_div.calls  t272 _ A37.out).mono ?_); rintro e w69 ⟨v273, rfl, ho0, hb⟩; have n0_ := Aside0.mk (Kd.N_elder' (aN HO218) (aS ho0) hb); have n14_ := Aside0.mk (Kd.N_lower (Kd.N_mono (ok' := fun k_ => some k_ ≠ (.slice Ao42 t216.length co42 : Value).ownBlock) (Kd.S_N (Kd.S_bound ho0)) (fun k_ hk_ => (Kd.fresh' (Kd.N_lt (aN HO218)) k_ hk_.2.1))) (below_size (aB HB))); have n16_ := Aside0.mk (below_step (aB HB) hb); (try clear HO218); (try clear HO221); (try clear HO224); (try clear HO228); (try clear HO232); (try clear HO237); (try clear HO240); (try clear HO245); (try clear HO248); (try clear HO251); (try clear HO254); (try clear HO261); (try clear HL264_4); (try clear HO270); (try clear HR264_4); (try clear HB); have HO218 := n0_; have HO274 := n14_; have HB := n16_; clear n0_ n14_ n16_; (try clear hb); (try clear hb2); (try clear hk); (try clear hi); (try clear ho0); obtain ⟨Ao70, co70, eo70⟩ := Kd.N_slice HO274.out; subst eo70) | (go_at_call 15; (with_reducible refine (rows_Same.calls _ _ t216 _ _ t272 t275 _ ?side1 ?side2 ?side3 ?side4 A38.out).mono ?_); (case side1 => ((with_reducible repeat (first | refine Kd.C_alloc ?_ _ | refine Kd.C_drewN ?_ _ | refine Kd.C_drew ?_)); exact (Kd.N_reads' HO218.out).2.2)); (case side2 => exact (Kd.N_reads' HO218.out).2.1); (case side3 => ((with_reducible repeat (first | refine Kd.C_alloc ?_ _ | refine Kd.C_drewN ?_ _ | refine Kd.C_drew ?_)); exact (Kd.N_reads' HO274.out).2.2)); (case side4 => exact (Kd.N_reads' HO274.out).2.1); rintro e w71 ⟨rfl, hb⟩; have n16_ := Aside0.mk (below_step (aB HB) hb); (try clear HO218); (try clear HO221); (try clear HO224); (try clear HO228); (try clear HO232); (try clear HO237); (try clear HO240); (try clear HO245); (try clear HO248); (try clear HO251); (try clear HO254); (try clear HO261); (try clear HL264_4); (try clear HO270); (try clear HO274); (try clear HR264_4); (try clear HB); have HB := n16_; clear n16_; (try clear hb); (try clear hb2); (try clear hk); (try clear hi)))
                    go_ret
                    exact ⟨by first | rfl | (simp [errW_none, errW_some] <;> rfl) | (simp [*, errW_none, errW_some] <;> rfl), aB HB⟩
                   ·rw [if_neg c36] at H
                    exact absurd H (by simp)
                  ·rw [if_neg c34] at H
                   exact absurd H (by simp)
                 ·rw [if_neg c33] at H
                  exact absurd H (by simp)
                ·rw [if_neg c31] at H
                 exact absurd H (by simp)
               ·rw [if_neg c30] at H
                exact absurd H (by simp)
              ·rw [if_neg c29] at H
               exact absurd H (by simp)
             ·rw [if_neg c28] at H
              exact absurd H (by simp)
            ·replace c27 := Bool.eq_false_iff.mpr c27
             subst c27
             have H1 : (none) = some r := by rw [if_neg (show ¬ (false = true) by decide)] at H; exact H
             clear H
             have H := H1
             clear H1
             exact absurd H (by simp)
           ·rw [if_neg c25] at H
            exact absurd H (by simp)
          ·replace c24 := Bool.eq_false_iff.mpr c24
           subst c24
           have H1 : (none) = some r := by rw [if_neg (show ¬ (false = true) by decide)] at H; exact H
           clear H
           have H := H1
           clear H1
           exact absurd H (by simp)
         ·rw [if_neg c22] at H
          exact absurd H (by simp)
        ·rw [if_neg c21] at H
         exact absurd H (by simp)
       ·rw [if_neg c20] at H
        exact absurd H (by simp)
      ·rw [if_neg c19] at H
       exact absurd H (by simp)
     ·rw [if_neg c18] at H
      exact absurd H (by simp)
    ·rw [if_neg c17] at H
     exact absurd H (by simp)
   ·rw [if_neg c15] at H
    exact absurd H (by simp)
  ·rw [if_neg c13] at H
   exact absurd H (by simp)
 ·replace c11 := Bool.eq_false_iff.mpr c11
  subst c11
  have H1 : (none) = some r := by rw [if_neg (show ¬ (false = true) by decide)] at H; exact H
  clear H
  have H := H1
  clear H1
  exact absurd H (by simp)

/-! ### boltingref04_Row: function 43 -/
mutual
def boltingref04_Row.j0 : Nat → Bool → Int → Int → ByteArray → ByteArray → List (S46) → Option (Bool)
 | 0, _, _, _, _, _, _ => none
 | k + 1, x12, x277000, x277001, x277002, x277003, x277004 => if x12 = true then (if x277002.toList = ([] : List UInt8) then (some ((x277004.length : Int) == 0)) else (some false)) else (boltingref04_Row.l0 k 0 x277000 x277001 x277002 x277003 x277004)
def boltingref04_Row.l0 : Nat → Int → Int → Int → ByteArray → ByteArray → List (S46) → Option (Bool)
 | 0, _, _, _, _, _, _ => none
 | k + 1, x3, x277000, x277001, x277002, x277003, x277004 => if x3 < (x277004.length : Int) then (boltingref04_Row.l1 k x3 0 x277000 x277001 x277002 x277003 x277004) else (if x277001 = 0 then (if x277002.toList = ([] : List UInt8) then (some false) else (some (x277003.toList == ([] : List UInt8)))) else (some false))
def boltingref04_Row.l1 : Nat → Int → Int → Int → Int → ByteArray → ByteArray → List (S46) → Option (Bool)
 | 0, _, _, _, _, _, _, _ => none
 | k + 1, x3, x4, x277000, x277001, x277002, x277003, x277004 => if x4 < x3 then (if 0 ≤ x3 then (if x3 < (x277004.length : Int) then (if 0 ≤ x4 then (if x4 < (x277004.length : Int) then (if ((rd_T46 x277004 x3).f0).toList = ((rd_T46 x277004 x4).f0).toList then (some false) else (boltingref04_Row.l1 k x3 (wrap64 (x4 + 1)) x277000 x277001 x277002 x277003 x277004)) else (none)) else (none)) else (none)) else (none)) else (boltingref04_Row.l0 k (wrap64 (x3 + 1)) x277000 x277001 x277002 x277003 x277004)
end
def boltingref04_Row.f (k : Nat) (a0_0 : Int) (a0_1 : Int) (a0_2 : ByteArray) (a0_3 : ByteArray) (l0_4 : List (S46)) : Option (Bool) := if a0_1 = 1 then (boltingref04_Row.j0 k true a0_0 a0_1 a0_2 a0_3 l0_4) else (boltingref04_Row.j0 k (a0_1 == 2) a0_0 a0_1 a0_2 a0_3 l0_4)
theorem boltingref04_Row.mono_l : ∀ k, (∀ y0 y1 y2 y3 y4 y5, LeO (boltingref04_Row.j0 k y0 y1 y2 y3 y4 y5) (boltingref04_Row.j0 (k + 1) y0 y1 y2 y3 y4 y5)) ∧ (∀ y0 y1 y2 y3 y4 y5, LeO (boltingref04_Row.l0 k y0 y1 y2 y3 y4 y5) (boltingref04_Row.l0 (k + 1) y0 y1 y2 y3 y4 y5)) ∧ (∀ y0 y1 y2 y3 y4 y5 y6, LeO (boltingref04_Row.l1 k y0 y1 y2 y3 y4 y5 y6) (boltingref04_Row.l1 (k + 1) y0 y1 y2 y3 y4 y5 y6))
 | 0 => ⟨fun _ _ _ _ _ _ r h => by simp [boltingref04_Row.j0] at h, fun _ _ _ _ _ _ r h => by simp [boltingref04_Row.l0] at h, fun _ _ _ _ _ _ _ r h => by simp [boltingref04_Row.l1] at h⟩
 | k + 1 => by
  obtain ⟨ih0, ih1, ih2⟩ := boltingref04_Row.mono_l k
  refine ⟨?_, ?_, ?_⟩
  ·intro y0 y1 y2 y3 y4 y5
   unfold boltingref04_Row.j0
   repeat' first
   | (with_reducible exact ih0 _ _ _ _ _ _)
   | (with_reducible exact ih1 _ _ _ _ _ _)
   | (with_reducible exact ih2 _ _ _ _ _ _ _)
   | (with_reducible exact LeO.refl _)
   | (with_reducible exact LeO.none _)
   | (with_reducible refine LeO.ite ?_ ?_)
   | (with_reducible refine LeO.bind ?_ (fun _ => ?_))
   | exact ih0 _ _ _ _ _ _
   | exact ih1 _ _ _ _ _ _
   | exact ih2 _ _ _ _ _ _ _
   | exact LeO.none _
   | refine LeO.ite ?_ ?_
   | refine LeO.bind ?_ (fun _ => ?_)
  ·intro y0 y1 y2 y3 y4 y5
   unfold boltingref04_Row.l0
   repeat' first
   | (with_reducible exact ih0 _ _ _ _ _ _)
   | (with_reducible exact ih1 _ _ _ _ _ _)
   | (with_reducible exact ih2 _ _ _ _ _ _ _)
   | (with_reducible exact LeO.refl _)
   | (with_reducible exact LeO.none _)
   | (with_reducible refine LeO.ite ?_ ?_)
   | (with_reducible refine LeO.bind ?_ (fun _ => ?_))
   | exact ih0 _ _ _ _ _ _
   | exact ih1 _ _ _ _ _ _
   | exact ih2 _ _ _ _ _ _ _
   | exact LeO.none _
   | refine LeO.ite ?_ ?_
   | refine LeO.bind ?_ (fun _ => ?_)
  ·intro y0 y1 y2 y3 y4 y5 y6
   unfold boltingref04_Row.l1
   repeat' first
   | (with_reducible exact ih0 _ _ _ _ _ _)
   | (with_reducible exact ih1 _ _ _ _ _ _)
   | (with_reducible exact ih2 _ _ _ _ _ _ _)
   | (with_reducible exact LeO.refl _)
   | (with_reducible exact LeO.none _)
   | (with_reducible refine LeO.ite ?_ ?_)
   | (with_reducible refine LeO.bind ?_ (fun _ => ?_))
   | exact ih0 _ _ _ _ _ _
   | exact ih1 _ _ _ _ _ _
   | exact ih2 _ _ _ _ _ _ _
   | exact LeO.none _
   | refine LeO.ite ?_ ?_
   | refine LeO.bind ?_ (fun _ => ?_)
theorem boltingref04_Row.mono : ∀ a0 a1 a2 a3 a4 k, LeO (boltingref04_Row.f k a0 a1 a2 a3 a4) (boltingref04_Row.f (k + 1) a0 a1 a2 a3 a4) := by
 intro a0 a1 a2 a3 a4 k
 obtain ⟨ih0, ih1, ih2⟩ := boltingref04_Row.mono_l k
 unfold boltingref04_Row.f
 repeat' first
   | (with_reducible exact ih0 _ _ _ _ _ _)
   | (with_reducible exact ih1 _ _ _ _ _ _)
   | (with_reducible exact ih2 _ _ _ _ _ _ _)
   | (with_reducible exact LeO.refl _)
   | (with_reducible exact LeO.none _)
   | (with_reducible refine LeO.ite ?_ ?_)
   | (with_reducible refine LeO.bind ?_ (fun _ => ?_))
   | exact ih0 _ _ _ _ _ _
   | exact ih1 _ _ _ _ _ _
   | exact ih2 _ _ _ _ _ _ _
   | exact LeO.none _
   | refine LeO.ite ?_ ?_
   | refine LeO.bind ?_ (fun _ => ?_)
set_option maxHeartbeats 8000000 in
set_option maxRecDepth 100000 in
theorem boltingref04_Row.calls (k : Nat) (a0_0 : Int) (a0_1 : Int) (a0_2 : ByteArray) (a0_3 : ByteArray) (A0_4 : Option Addr) (c0_4 : Nat) (l0_4 : List (S46)) (r : Bool) (w : World) (hr0_4 : Kd.C k46 w A0_4 l0_4.length l0_4) (hc0_4 : l0_4.length ≤ c0_4) (h : boltingref04_Row.f k a0_0 a0_1 a0_2 a0_3 l0_4 = some r) :
  Calls Try.prog 43 #[.agg #[.int .i64 a0_0, .int .i64 a0_1, .string a0_2, .string a0_3, .slice A0_4 l0_4.length c0_4]] w fun e w' => e = .returned (.bool r) ∧ Below w.heap.size w w' := by
 have hu43 := Try.underlying43
 have HR0_4 := Aside0.mk hr0_4
 have HC0_4 := Aside0.mk hc0_4
 clear hr0_4 hc0_4
 have HB := Aside0.mk (Below.refl w.heap.size w)
 have H : (if a0_1 = 1 then (boltingref04_Row.j0 k true a0_0 a0_1 a0_2 a0_3 l0_4) else (boltingref04_Row.j0 k (a0_1 == 2) a0_0 a0_1 a0_2 a0_3 l0_4)) = some r := h
 clear h
 have HC2 := Aside0.mk H
 clear H
 go_enter Try.func43, Try.ntmps43
 go_upto_region 1 with (first | ((with_reducible refine gate_dst (N := 1) rfl ?_); (try (refine gate_guard (by rfl) ?_; dsimp only)); refine box_event ?hg (N := 1) ?hd (cs := #[.int .i64 a0_0, .int .i64 a0_1, .string a0_2, .string a0_3, .slice A0_4 l0_4.length c0_4]) (t := 43) ?hr ?_; (case hd => rfl); (case hg => rfl); (case hr => first | (go_simp; done) | (go_simp; rfl)); intro gb276 hg w3 hbox hb; have n0_ := Aside0.mk (below_step (aB HB) hb); have n1_ := Aside0.mk (hbox); have n2_ := Aside0.mk ((by rw [hg]; exact (below_size (aB HB)) : w.heap.size ≤ gb276)); have n3_ := Aside0.mk ((by rw [hg]; exact (below_size (aB HB)) : w.heap.size ≤ gb276)); clear HB; have HB := n0_; have BK276 := n1_; have GW276 := n2_; have GE276 := n3_; clear n0_ n1_ n2_ n3_; clear hb hbox hg))
 repeat (go_quiet (first | ((with_reducible refine gate_dst (N := 1) rfl ?_); (try (refine gate_guard (by rfl) ?_; dsimp only)); refine box_event ?hg (N := 1) ?hd (cs := #[.int .i64 a0_0, .int .i64 a0_1, .string a0_2, .string a0_3, .slice A0_4 l0_4.length c0_4]) (t := 43) ?hr ?_; (case hd => rfl); (case hg => rfl); (case hr => first | (go_simp; done) | (go_simp; rfl)); intro gb276 hg w3 hbox hb; have n0_ := Aside0.mk (below_step (aB HB) hb); have n1_ := Aside0.mk (hbox); have n2_ := Aside0.mk ((by rw [hg]; exact (below_size (aB HB)) : w.heap.size ≤ gb276)); have n3_ := Aside0.mk ((by rw [hg]; exact (below_size (aB HB)) : w.heap.size ≤ gb276)); clear HB; have HB := n0_; have BK276 := n1_; have GW276 := n2_; have GE276 := n3_; clear n0_ n1_ n2_ n3_; clear hb hbox hg)); go_upto_region 1 with (first | ((with_reducible refine gate_dst (N := 1) rfl ?_); (try (refine gate_guard (by rfl) ?_; dsimp only)); refine box_event ?hg (N := 1) ?hd (cs := #[.int .i64 a0_0, .int .i64 a0_1, .string a0_2, .string a0_3, .slice A0_4 l0_4.length c0_4]) (t := 43) ?hr ?_; (case hd => rfl); (case hg => rfl); (case hr => first | (go_simp; done) | (go_simp; rfl)); intro gb276 hg w3 hbox hb; have n0_ := Aside0.mk (below_step (aB HB) hb); have n1_ := Aside0.mk (hbox); have n2_ := Aside0.mk ((by rw [hg]; exact (below_size (aB HB)) : w.heap.size ≤ gb276)); have n3_ := Aside0.mk ((by rw [hg]; exact (below_size (aB HB)) : w.heap.size ≤ gb276)); clear HB; have HB := n0_; have BK276 := n1_; have GW276 := n2_; have GE276 := n3_; clear n0_ n1_ n2_ n3_; clear hb hbox hg)))
 (try simp only [Act.put, List.setIfInBounds_toArray, List.set_cons_zero, List.set_cons_succ])
 go_cut [12] (fun v12 wc => ∃ (kq : Nat) (x12_1 : Bool), v12 = .bool x12_1 ∧ Aside0 (boltingref04_Row.j0 kq x12_1 a0_0 a0_1 a0_2 a0_3 l0_4 = some r) ∧ Aside0 (kq ≤ k) ∧ Aside0 (wc.heap[gb276]? = some (.cells #[.int .i64 a0_0, .int .i64 a0_1, .string a0_2, .string a0_3, (.slice A0_4 l0_4.length c0_4)] 43 (0, 0))) ∧ Aside0 (Below w.heap.size w wc))
 case first =>
  have H := HC2.out
  clear HC2
  by_cases c4 : a0_1 = 1
  ·rw [if_pos c4] at H
   have c4b0 : (a0_1 == 1) = true := beq_iff_eq.mpr c4
   have c4b1 : (a0_1 != 1) = false := bne_eq_false_iff_eq.mpr c4
   clear c4
   (first | rw [c4b0] | (simp only [i64_w, i32_w]; rw [c4b0]) | skip)
   have H' := Aside0.mk H
   clear H
   have hcz5_0 : w3.cell? ⟨gb276, 0, none⟩ = some (.int .i64 a0_0) := (blk_cell BK276.out 0).trans rfl
   have hcz5_1 : w3.cell? ⟨gb276, 1, none⟩ = some (.int .i64 a0_1) := (blk_cell BK276.out 1).trans rfl
   have hcz5_2 : w3.cell? ⟨gb276, 2, none⟩ = some (.string a0_2) := (blk_cell BK276.out 2).trans rfl
   have hcz5_3 : w3.cell? ⟨gb276, 3, none⟩ = some (.string a0_3) := (blk_cell BK276.out 3).trans rfl
   have hcz5_4 : w3.cell? ⟨gb276, 4, none⟩ = some (.slice A0_4 l0_4.length c0_4) := (blk_cell BK276.out 4).trans rfl
   have hfz5_0 := blk_frozen BK276.out 0
   have hfz5_1 := blk_frozen BK276.out 1
   have hfz5_2 := blk_frozen BK276.out 2
   have hfz5_3 := blk_frozen BK276.out 3
   have hfz5_4 := blk_frozen BK276.out 4
   go_wp2
   repeat (go_quiet (fail); try go_wp2)
   go_meet
   case rel => exact ⟨_, (true), aE, H', ⟨by first | omega | exact Nat.le_refl _⟩, ⟨aK BK276⟩, ⟨by repeat (first | (with_reducible first | exact HB.out | apply below_alloc | apply pw_below_drewN | apply below_drew1 | refine below_set ?_ GE276.out) | exact HB.out)⟩⟩
  ·rw [if_neg c4] at H
   have c4b0 : (a0_1 == 1) = false := beq_eq_false_iff_ne.mpr c4
   have c4b1 : (a0_1 != 1) = true := bne_iff_ne.mpr c4
   (first | rw [c4b0] | (simp only [i64_w, i32_w]; rw [c4b0]) | skip)
   have H' := Aside0.mk H
   clear H
   have hcz6_0 : w3.cell? ⟨gb276, 0, none⟩ = some (.int .i64 a0_0) := (blk_cell BK276.out 0).trans rfl
   have hcz6_1 : w3.cell? ⟨gb276, 1, none⟩ = some (.int .i64 a0_1) := (blk_cell BK276.out 1).trans rfl
   have hcz6_2 : w3.cell? ⟨gb276, 2, none⟩ = some (.string a0_2) := (blk_cell BK276.out 2).trans rfl
   have hcz6_3 : w3.cell? ⟨gb276, 3, none⟩ = some (.string a0_3) := (blk_cell BK276.out 3).trans rfl
   have hcz6_4 : w3.cell? ⟨gb276, 4, none⟩ = some (.slice A0_4 l0_4.length c0_4) := (blk_cell BK276.out 4).trans rfl
   have hfz6_0 := blk_frozen BK276.out 0
   have hfz6_1 := blk_frozen BK276.out 1
   have hfz6_2 := blk_frozen BK276.out 2
   have hfz6_3 := blk_frozen BK276.out 3
   have hfz6_4 := blk_frozen BK276.out 4
   go_wp2
   repeat (go_quiet (fail); try go_wp2)
   go_meet
   case rel => exact ⟨_, ((a0_1 == 2)), aE, H', ⟨by first | omega | exact Nat.le_refl _⟩, ⟨aK BK276⟩, ⟨by repeat (first | (with_reducible first | exact HB.out | apply below_alloc | apply pw_below_drewN | apply below_drew1 | refine below_set ?_ GE276.out) | exact HB.out)⟩⟩
 case rest =>
  clear HC2
  try clear p2
  try clear c4
  try clear c4b0
  try clear c4b1
  try clear hcz5_0
  try clear hcz5_1
  try clear hcz5_2
  try clear hcz5_3
  try clear hcz5_4
  try clear hcz6_0
  try clear hcz6_1
  try clear hcz6_2
  try clear hcz6_3
  try clear hcz6_4
  try clear hfz5_0
  try clear hfz5_1
  try clear hfz5_2
  try clear hfz5_3
  try clear hfz5_4
  try clear hfz6_0
  try clear hfz6_1
  try clear hfz6_2
  try clear hfz6_3
  try clear hfz6_4
  obtain ⟨kq, x12_1, rfl, HA, HJ1, BK276, HB⟩ := hcut
  cases kq with
  | zero => exact absurd HA.out (by simp [boltingref04_Row.j0])
  | succ kj1 =>
   have H := HA.out
   clear HA
   simp only [boltingref04_Row.j0] at H
   by_cases c7 : x12_1 = true
   ·subst c7
    have H1 : (if a0_2.toList = ([] : List UInt8) then (some ((l0_4.length : Int) == 0)) else (some false)) = some r := by rw [if_pos rfl] at H; exact H
    clear H
    have H := H1
    clear H1
    by_cases c8 : a0_2.toList = ([] : List UInt8)
    ·rw [if_pos c8] at H
     have c8b0 : (a0_2.toList == ([] : List UInt8)) = true := beq_iff_eq.mpr c8
     have c8b1 : (a0_2.toList != ([] : List UInt8)) = false := bne_eq_false_iff_eq.mpr c8
     clear c8
     obtain rfl := Option.some.inj H
     have hcz9_0 : wc.cell? ⟨gb276, 0, none⟩ = some (.int .i64 a0_0) := (blk_cell BK276.out 0).trans rfl
     have hcz9_1 : wc.cell? ⟨gb276, 1, none⟩ = some (.int .i64 a0_1) := (blk_cell BK276.out 1).trans rfl
     have hcz9_2 : wc.cell? ⟨gb276, 2, none⟩ = some (.string a0_2) := (blk_cell BK276.out 2).trans rfl
     have hcz9_3 : wc.cell? ⟨gb276, 3, none⟩ = some (.string a0_3) := (blk_cell BK276.out 3).trans rfl
     have hcz9_4 : wc.cell? ⟨gb276, 4, none⟩ = some (.slice A0_4 l0_4.length c0_4) := (blk_cell BK276.out 4).trans rfl
     have hfz9_0 := blk_frozen BK276.out 0
     have hfz9_1 := blk_frozen BK276.out 1
     have hfz9_2 := blk_frozen BK276.out 2
     have hfz9_3 := blk_frozen BK276.out 3
     have hfz9_4 := blk_frozen BK276.out 4
     go_wp2
     repeat (go_quiet (fail); try go_wp2)
     go_ret
     exact ⟨by first | rfl | (simp [errW_none, errW_some] <;> rfl) | (simp [*, errW_none, errW_some] <;> rfl), by repeat (first | (with_reducible first | exact HB.out | apply below_alloc | apply pw_below_drewN | apply below_drew1 | refine below_set ?_ GE276.out) | exact HB.out)⟩
    ·rw [if_neg c8] at H
     have c8b0 : (a0_2.toList == ([] : List UInt8)) = false := beq_eq_false_iff_ne.mpr c8
     have c8b1 : (a0_2.toList != ([] : List UInt8)) = true := bne_iff_ne.mpr c8
     obtain rfl := Option.some.inj H
     have hcz10_0 : wc.cell? ⟨gb276, 0, none⟩ = some (.int .i64 a0_0) := (blk_cell BK276.out 0).trans rfl
     have hcz10_1 : wc.cell? ⟨gb276, 1, none⟩ = some (.int .i64 a0_1) := (blk_cell BK276.out 1).trans rfl
     have hcz10_2 : wc.cell? ⟨gb276, 2, none⟩ = some (.string a0_2) := (blk_cell BK276.out 2).trans rfl
     have hcz10_3 : wc.cell? ⟨gb276, 3, none⟩ = some (.string a0_3) := (blk_cell BK276.out 3).trans rfl
     have hcz10_4 : wc.cell? ⟨gb276, 4, none⟩ = some (.slice A0_4 l0_4.length c0_4) := (blk_cell BK276.out 4).trans rfl
     have hfz10_0 := blk_frozen BK276.out 0
     have hfz10_1 := blk_frozen BK276.out 1
     have hfz10_2 := blk_frozen BK276.out 2
     have hfz10_3 := blk_frozen BK276.out 3
     have hfz10_4 := blk_frozen BK276.out 4
     go_wp2
     repeat (go_quiet (fail); try go_wp2)
     go_ret
     exact ⟨by first | rfl | (simp [errW_none, errW_some] <;> rfl) | (simp [*, errW_none, errW_some] <;> rfl), by repeat (first | (with_reducible first | exact HB.out | apply below_alloc | apply pw_below_drewN | apply below_drew1 | refine below_set ?_ GE276.out) | exact HB.out)⟩
   ·replace c7 := Bool.eq_false_iff.mpr c7
    subst c7
    have H1 : (boltingref04_Row.l0 kj1 0 a0_0 a0_1 a0_2 a0_3 l0_4) = some r := by rw [if_neg (show ¬ (false = true) by decide)] at H; exact H
    clear H
    have H := H1
    clear H1
    have H' := Aside0.mk H
    clear H
    go_wp2
    repeat (go_quiet (fail); try go_wp2)
    go_loopg [3] kj1 (fun kq v3 w' => ∃ (x3_2 : Int), v3 = .int .i64 x3_2 ∧ Aside0 (boltingref04_Row.l0 kq x3_2 a0_0 a0_1 a0_2 a0_3 l0_4 = some r) ∧ Aside0 (kq ≤ kj1) ∧ Aside0 (w'.heap[gb276]? = some (.cells #[.int .i64 a0_0, .int .i64 a0_1, .string a0_2, .string a0_3, (.slice A0_4 l0_4.length c0_4)] 43 (0, 0))) ∧ Aside0 (Below w.heap.size w w'))
    case atStart => exact ⟨(0), aE, H', ⟨Nat.le_refl _⟩, ⟨aK BK276⟩, ⟨by repeat (first | (with_reducible first | exact HB.out | apply below_alloc | apply pw_below_drewN | apply below_drew1 | refine below_set ?_ GE276.out) | exact HB.out)⟩⟩
    case round =>
     clear H'
     try clear p2
     try clear c4
     try clear c4b0
     try clear c4b1
     try clear c7
     try clear c8
     try clear c8b0
     try clear c8b1
     try clear hcz10_0
     try clear hcz10_1
     try clear hcz10_2
     try clear hcz10_3
     try clear hcz10_4
     try clear hcz5_0
     try clear hcz5_1
     try clear hcz5_2
     try clear hcz5_3
     try clear hcz5_4
     try clear hcz6_0
     try clear hcz6_1
     try clear hcz6_2
     try clear hcz6_3
     try clear hcz6_4
     try clear hcz9_0
     try clear hcz9_1
     try clear hcz9_2
     try clear hcz9_3
     try clear hcz9_4
     try clear hfz10_0
     try clear hfz10_1
     try clear hfz10_2
     try clear hfz10_3
     try clear hfz10_4
     try clear hfz5_0
     try clear hfz5_1
     try clear hfz5_2
     try clear hfz5_3
     try clear hfz5_4
     try clear hfz6_0
     try clear hfz6_1
     try clear hfz6_2
     try clear hfz6_3
     try clear hfz6_4
     try clear hfz9_0
     try clear hfz9_1
     try clear hfz9_2
     try clear hfz9_3
     try clear hfz9_4
     try clear p2
     obtain ⟨x3_2, rfl, HA, HK2, BK276, HB⟩ := hrel
     cases gk with
     | zero => exact absurd HA.out (by simp [boltingref04_Row.l0])
     | succ k2 =>
      have H := HA.out
      clear HA
      simp only [boltingref04_Row.l0] at H
      by_cases c11 : x3_2 < (l0_4.length : Int)
      ·rw [if_pos c11] at H
       have c11b0 : decide (x3_2 < (l0_4.length : Int)) = true := decide_eq_true c11
       clear c11
       have H' := Aside0.mk H
       clear H
       have hcz12_0 : wr.cell? ⟨gb276, 0, none⟩ = some (.int .i64 a0_0) := (blk_cell BK276.out 0).trans rfl
       have hcz12_1 : wr.cell? ⟨gb276, 1, none⟩ = some (.int .i64 a0_1) := (blk_cell BK276.out 1).trans rfl
       have hcz12_2 : wr.cell? ⟨gb276, 2, none⟩ = some (.string a0_2) := (blk_cell BK276.out 2).trans rfl
       have hcz12_3 : wr.cell? ⟨gb276, 3, none⟩ = some (.string a0_3) := (blk_cell BK276.out 3).trans rfl
       have hcz12_4 : wr.cell? ⟨gb276, 4, none⟩ = some (.slice A0_4 l0_4.length c0_4) := (blk_cell BK276.out 4).trans rfl
       have hfz12_0 := blk_frozen BK276.out 0
       have hfz12_1 := blk_frozen BK276.out 1
       have hfz12_2 := blk_frozen BK276.out 2
       have hfz12_3 := blk_frozen BK276.out 3
       have hfz12_4 := blk_frozen BK276.out 4
       go_wp2
       repeat (go_quiet (fail); try go_wp2)
       go_loopg [4] k2 (fun kq v4 w' => ∃ (x4_3 : Int), v4 = .int .i64 x4_3 ∧ Aside0 (boltingref04_Row.l1 kq x3_2 x4_3 a0_0 a0_1 a0_2 a0_3 l0_4 = some r) ∧ Aside0 (kq ≤ k2) ∧ Aside0 (w'.heap[gb276]? = some (.cells #[.int .i64 a0_0, .int .i64 a0_1, .string a0_2, .string a0_3, (.slice A0_4 l0_4.length c0_4)] 43 (0, 0))) ∧ Aside0 (Below w.heap.size w w'))
       case atStart => exact ⟨(0), aE, H', ⟨Nat.le_refl _⟩, ⟨aK BK276⟩, ⟨by repeat (first | (with_reducible first | exact HB.out | apply below_alloc | apply pw_below_drewN | apply below_drew1 | refine below_set ?_ GE276.out) | exact HB.out)⟩⟩
       case round =>
        clear H'
        try clear c1
        try clear p2
        try clear c4
        try clear c4b0
        try clear c4b1
        try clear c7
        try clear c8
        try clear c8b0
        try clear c8b1
        try clear c11
        try clear c11b0
        try clear hcz10_0
        try clear hcz10_1
        try clear hcz10_2
        try clear hcz10_3
        try clear hcz10_4
        try clear hcz12_0
        try clear hcz12_1
        try clear hcz12_2
        try clear hcz12_3
        try clear hcz12_4
        try clear hcz5_0
        try clear hcz5_1
        try clear hcz5_2
        try clear hcz5_3
        try clear hcz5_4
        try clear hcz6_0
        try clear hcz6_1
        try clear hcz6_2
        try clear hcz6_3
        try clear hcz6_4
        try clear hcz9_0
        try clear hcz9_1
        try clear hcz9_2
        try clear hcz9_3
        try clear hcz9_4
        try clear hfz10_0
        try clear hfz10_1
        try clear hfz10_2
        try clear hfz10_3
        try clear hfz10_4
        try clear hfz12_0
        try clear hfz12_1
        try clear hfz12_2
        try clear hfz12_3
        try clear hfz12_4
        try clear hfz5_0
        try clear hfz5_1
        try clear hfz5_2
        try clear hfz5_3
        try clear hfz5_4
        try clear hfz6_0
        try clear hfz6_1
        try clear hfz6_2
        try clear hfz6_3
        try clear hfz6_4
        try clear hfz9_0
        try clear hfz9_1
        try clear hfz9_2
        try clear hfz9_3
        try clear hfz9_4
        try clear p2
        obtain ⟨x4_3, rfl, HA, HK3, BK276, HB⟩ := hrel
        cases gk with
        | zero => exact absurd HA.out (by simp [boltingref04_Row.l1])
        | succ k3 =>
         have H := HA.out
         clear HA
         simp only [boltingref04_Row.l1] at H
         by_cases c13 : x4_3 < x3_2
         ·rw [if_pos c13] at H
          have c13b0 : decide (x4_3 < x3_2) = true := decide_eq_true c13
          clear c13
          by_cases c14 : 0 ≤ x3_2
          ·rw [if_pos c14] at H
           have c14b0 : decide (0 ≤ x3_2) = true := decide_eq_true c14
           clear c14
           by_cases c15 : x3_2 < (l0_4.length : Int)
           ·rw [if_pos c15] at H
            have c15b0 : decide (x3_2 < (l0_4.length : Int)) = true := decide_eq_true c15
            clear c15
            by_cases c16 : 0 ≤ x4_3
            ·rw [if_pos c16] at H
             have c16b0 : decide (0 ≤ x4_3) = true := decide_eq_true c16
             clear c16
             by_cases c17 : x4_3 < (l0_4.length : Int)
             ·rw [if_pos c17] at H
              have c17b0 : decide (x4_3 < (l0_4.length : Int)) = true := decide_eq_true c17
              clear c17
              by_cases c18 : ((rd_T46 l0_4 x3_2).f0).toList = ((rd_T46 l0_4 x4_3).f0).toList
              ·rw [if_pos c18] at H
               have c18b0 : (((rd_T46 l0_4 x3_2).f0).toList == ((rd_T46 l0_4 x4_3).f0).toList) = true := beq_iff_eq.mpr c18
               have c18b1 : (((rd_T46 l0_4 x3_2).f0).toList != ((rd_T46 l0_4 x4_3).f0).toList) = false := bne_eq_false_iff_eq.mpr c18
               clear c18
               obtain rfl := Option.some.inj H
               have hcz19_0 : wr.cell? ⟨gb276, 0, none⟩ = some (.int .i64 a0_0) := (blk_cell BK276.out 0).trans rfl
               have hcz19_1 : wr.cell? ⟨gb276, 1, none⟩ = some (.int .i64 a0_1) := (blk_cell BK276.out 1).trans rfl
               have hcz19_2 : wr.cell? ⟨gb276, 2, none⟩ = some (.string a0_2) := (blk_cell BK276.out 2).trans rfl
               have hcz19_3 : wr.cell? ⟨gb276, 3, none⟩ = some (.string a0_3) := (blk_cell BK276.out 3).trans rfl
               have hcz19_4 : wr.cell? ⟨gb276, 4, none⟩ = some (.slice A0_4 l0_4.length c0_4) := (blk_cell BK276.out 4).trans rfl
               have hfz19_0 := blk_frozen BK276.out 0
               have hfz19_1 := blk_frozen BK276.out 1
               have hfz19_2 := blk_frozen BK276.out 2
               have hfz19_3 := blk_frozen BK276.out 3
               have hfz19_4 := blk_frozen BK276.out 4
               have p277 : 0 ≤ (x3_2 : Int) := of_decide_eq_true aA
               have q277 : x3_2 < (l0_4.length : Int) := of_decide_eq_true aA
               obtain ⟨ad277, e277, hx277_0, hx277_1⟩ := at_T46 HR0_4.out x3_2 p277 q277
               cases e277
               replace hx277_0 := (HB.out.cell (World.block_lt_of_cell? w _ hx277_0)).trans hx277_0
               replace hx277_1 := (HB.out.cell (World.block_lt_of_cell? w _ hx277_1)).trans hx277_1
               replace p277 := eq_true p277
               replace q277 := eq_true q277
               have p278 : 0 ≤ (x4_3 : Int) := of_decide_eq_true aA
               have q278 : x4_3 < (l0_4.length : Int) := of_decide_eq_true aA
               obtain ⟨ad278, e278, hx278_0, hx278_1⟩ := at_T46 HR0_4.out x4_3 p278 q278
               obtain rfl : ad277 = ad278 := (by injection e278)
               replace hx278_0 := (HB.out.cell (World.block_lt_of_cell? w _ hx278_0)).trans hx278_0
               replace hx278_1 := (HB.out.cell (World.block_lt_of_cell? w _ hx278_1)).trans hx278_1
               replace p278 := eq_true p278
               replace q278 := eq_true q278
               go_wp2
               repeat (go_quiet (fail); try go_wp2)
               go_ret
               exact ⟨by first | rfl | (simp [errW_none, errW_some] <;> rfl) | (simp [*, errW_none, errW_some] <;> rfl), by repeat (first | (with_reducible first | exact HB.out | apply below_alloc | apply pw_below_drewN | apply below_drew1 | refine below_set ?_ GE276.out) | exact HB.out)⟩
              ·rw [if_neg c18] at H
               have c18b0 : (((rd_T46 l0_4 x3_2).f0).toList == ((rd_T46 l0_4 x4_3).f0).toList) = false := beq_eq_false_iff_ne.mpr c18
               have c18b1 : (((rd_T46 l0_4 x3_2).f0).toList != ((rd_T46 l0_4 x4_3).f0).toList) = true := bne_iff_ne.mpr c18
               have H' := Aside0.mk H
               clear H
               have hcz20_0 : wr.cell? ⟨gb276, 0, none⟩ = some (.int .i64 a0_0) := (blk_cell BK276.out 0).trans rfl
               have hcz20_1 : wr.cell? ⟨gb276, 1, none⟩ = some (.int .i64 a0_1) := (blk_cell BK276.out 1).trans rfl
               have hcz20_2 : wr.cell? ⟨gb276, 2, none⟩ = some (.string a0_2) := (blk_cell BK276.out 2).trans rfl
               have hcz20_3 : wr.cell? ⟨gb276, 3, none⟩ = some (.string a0_3) := (blk_cell BK276.out 3).trans rfl
               have hcz20_4 : wr.cell? ⟨gb276, 4, none⟩ = some (.slice A0_4 l0_4.length c0_4) := (blk_cell BK276.out 4).trans rfl
               have hfz20_0 := blk_frozen BK276.out 0
               have hfz20_1 := blk_frozen BK276.out 1
               have hfz20_2 := blk_frozen BK276.out 2
               have hfz20_3 := blk_frozen BK276.out 3
               have hfz20_4 := blk_frozen BK276.out 4
               have p277 : 0 ≤ (x3_2 : Int) := of_decide_eq_true aA
               have q277 : x3_2 < (l0_4.length : Int) := of_decide_eq_true aA
               obtain ⟨ad277, e277, hx277_0, hx277_1⟩ := at_T46 HR0_4.out x3_2 p277 q277
               cases e277
               replace hx277_0 := (HB.out.cell (World.block_lt_of_cell? w _ hx277_0)).trans hx277_0
               replace hx277_1 := (HB.out.cell (World.block_lt_of_cell? w _ hx277_1)).trans hx277_1
               replace p277 := eq_true p277
               replace q277 := eq_true q277
               have p278 : 0 ≤ (x4_3 : Int) := of_decide_eq_true aA
               have q278 : x4_3 < (l0_4.length : Int) := of_decide_eq_true aA
               obtain ⟨ad278, e278, hx278_0, hx278_1⟩ := at_T46 HR0_4.out x4_3 p278 q278
               obtain rfl : ad277 = ad278 := (by injection e278)
               replace hx278_0 := (HB.out.cell (World.block_lt_of_cell? w _ hx278_0)).trans hx278_0
               replace hx278_1 := (HB.out.cell (World.block_lt_of_cell? w _ hx278_1)).trans hx278_1
               replace p278 := eq_true p278
               replace q278 := eq_true q278
               go_wp2
               repeat (go_quiet (fail); try go_wp2)
               go_roundg k3
               case measure => have := HJ1.out; have := HK2.out; have := HK3.out; omega
               case rel => exact ⟨(wrap64 (x4_3 + 1)), aE, H', ⟨by have := HJ1.out; have := HK2.out; have := HK3.out; omega⟩, ⟨aK BK276⟩, ⟨by repeat (first | (with_reducible first | exact HB.out | apply below_alloc | apply pw_below_drewN | apply below_drew1 | refine below_set ?_ GE276.out) | exact HB.out)⟩⟩
             ·rw [if_neg c17] at H
              exact absurd H (by simp)
            ·rw [if_neg c16] at H
             exact absurd H (by simp)
           ·rw [if_neg c15] at H
            exact absurd H (by simp)
          ·rw [if_neg c14] at H
           exact absurd H (by simp)
         ·rw [if_neg c13] at H
          have c13b0 : decide (x4_3 < x3_2) = false := decide_eq_false c13
          clear c13
          have H' := Aside0.mk H
          clear H
          go_wp2
          repeat (go_quiet (fail); try go_wp2)
          go_roundg k3
          case measure => have := HJ1.out; have := HK2.out; have := HK3.out; omega
          case rel => exact ⟨(wrap64 (x3_2 + 1)), aE, H', ⟨by have := HJ1.out; have := HK2.out; have := HK3.out; omega⟩, ⟨aK BK276⟩, ⟨by repeat (first | (with_reducible first | exact HB.out | apply below_alloc | apply pw_below_drewN | apply below_drew1 | refine below_set ?_ GE276.out) | exact HB.out)⟩⟩
      ·rw [if_neg c11] at H
       have c11b0 : decide (x3_2 < (l0_4.length : Int)) = false := decide_eq_false c11
       clear c11
       by_cases c21 : a0_1 = 0
       ·rw [if_pos c21] at H
        have c21b0 : (a0_1 == 0) = true := beq_iff_eq.mpr c21
        have c21b1 : (a0_1 != 0) = false := bne_eq_false_iff_eq.mpr c21
        clear c21
        by_cases c22 : a0_2.toList = ([] : List UInt8)
        ·rw [if_pos c22] at H
         have c22b0 : (a0_2.toList == ([] : List UInt8)) = true := beq_iff_eq.mpr c22
         have c22b1 : (a0_2.toList != ([] : List UInt8)) = false := bne_eq_false_iff_eq.mpr c22
         clear c22
         obtain rfl := Option.some.inj H
         have hcz23_0 : wr.cell? ⟨gb276, 0, none⟩ = some (.int .i64 a0_0) := (blk_cell BK276.out 0).trans rfl
         have hcz23_1 : wr.cell? ⟨gb276, 1, none⟩ = some (.int .i64 a0_1) := (blk_cell BK276.out 1).trans rfl
         have hcz23_2 : wr.cell? ⟨gb276, 2, none⟩ = some (.string a0_2) := (blk_cell BK276.out 2).trans rfl
         have hcz23_3 : wr.cell? ⟨gb276, 3, none⟩ = some (.string a0_3) := (blk_cell BK276.out 3).trans rfl
         have hcz23_4 : wr.cell? ⟨gb276, 4, none⟩ = some (.slice A0_4 l0_4.length c0_4) := (blk_cell BK276.out 4).trans rfl
         have hfz23_0 := blk_frozen BK276.out 0
         have hfz23_1 := blk_frozen BK276.out 1
         have hfz23_2 := blk_frozen BK276.out 2
         have hfz23_3 := blk_frozen BK276.out 3
         have hfz23_4 := blk_frozen BK276.out 4
         go_wp2
         repeat (go_quiet (fail); try go_wp2)
         go_ret
         exact ⟨by first | rfl | (simp [errW_none, errW_some] <;> rfl) | (simp [*, errW_none, errW_some] <;> rfl), by repeat (first | (with_reducible first | exact HB.out | apply below_alloc | apply pw_below_drewN | apply below_drew1 | refine below_set ?_ GE276.out) | exact HB.out)⟩
        ·rw [if_neg c22] at H
         have c22b0 : (a0_2.toList == ([] : List UInt8)) = false := beq_eq_false_iff_ne.mpr c22
         have c22b1 : (a0_2.toList != ([] : List UInt8)) = true := bne_iff_ne.mpr c22
         obtain rfl := Option.some.inj H
         have hcz24_0 : wr.cell? ⟨gb276, 0, none⟩ = some (.int .i64 a0_0) := (blk_cell BK276.out 0).trans rfl
         have hcz24_1 : wr.cell? ⟨gb276, 1, none⟩ = some (.int .i64 a0_1) := (blk_cell BK276.out 1).trans rfl
         have hcz24_2 : wr.cell? ⟨gb276, 2, none⟩ = some (.string a0_2) := (blk_cell BK276.out 2).trans rfl
         have hcz24_3 : wr.cell? ⟨gb276, 3, none⟩ = some (.string a0_3) := (blk_cell BK276.out 3).trans rfl
         have hcz24_4 : wr.cell? ⟨gb276, 4, none⟩ = some (.slice A0_4 l0_4.length c0_4) := (blk_cell BK276.out 4).trans rfl
         have hfz24_0 := blk_frozen BK276.out 0
         have hfz24_1 := blk_frozen BK276.out 1
         have hfz24_2 := blk_frozen BK276.out 2
         have hfz24_3 := blk_frozen BK276.out 3
         have hfz24_4 := blk_frozen BK276.out 4
         go_wp2
         repeat (go_quiet (fail); try go_wp2)
         go_ret
         exact ⟨by first | rfl | (simp [errW_none, errW_some] <;> rfl) | (simp [*, errW_none, errW_some] <;> rfl), by repeat (first | (with_reducible first | exact HB.out | apply below_alloc | apply pw_below_drewN | apply below_drew1 | refine below_set ?_ GE276.out) | exact HB.out)⟩
       ·rw [if_neg c21] at H
        have c21b0 : (a0_1 == 0) = false := beq_eq_false_iff_ne.mpr c21
        have c21b1 : (a0_1 != 0) = true := bne_iff_ne.mpr c21
        obtain rfl := Option.some.inj H
        have hcz25_0 : wr.cell? ⟨gb276, 0, none⟩ = some (.int .i64 a0_0) := (blk_cell BK276.out 0).trans rfl
        have hcz25_1 : wr.cell? ⟨gb276, 1, none⟩ = some (.int .i64 a0_1) := (blk_cell BK276.out 1).trans rfl
        have hcz25_2 : wr.cell? ⟨gb276, 2, none⟩ = some (.string a0_2) := (blk_cell BK276.out 2).trans rfl
        have hcz25_3 : wr.cell? ⟨gb276, 3, none⟩ = some (.string a0_3) := (blk_cell BK276.out 3).trans rfl
        have hcz25_4 : wr.cell? ⟨gb276, 4, none⟩ = some (.slice A0_4 l0_4.length c0_4) := (blk_cell BK276.out 4).trans rfl
        have hfz25_0 := blk_frozen BK276.out 0
        have hfz25_1 := blk_frozen BK276.out 1
        have hfz25_2 := blk_frozen BK276.out 2
        have hfz25_3 := blk_frozen BK276.out 3
        have hfz25_4 := blk_frozen BK276.out 4
        go_wp2
        repeat (go_quiet (fail); try go_wp2)
        go_ret
        exact ⟨by first | rfl | (simp [errW_none, errW_some] <;> rfl) | (simp [*, errW_none, errW_some] <;> rfl), by repeat (first | (with_reducible first | exact HB.out | apply below_alloc | apply pw_below_drewN | apply below_drew1 | refine below_set ?_ GE276.out) | exact HB.out)⟩

end Go.Proofs.Ytllggaogjcknoaa.QA
