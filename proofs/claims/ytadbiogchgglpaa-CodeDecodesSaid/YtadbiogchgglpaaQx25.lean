-- PRINTED by print.py (a twelfth state) out of the translation. Not trusted: Lean checks it.
import Derived.Test.YtadbiogchgglpaaQx0
import Derived.Test.YtadbiogchgglpaaQx14
import Derived.Test.YtadbiogchgglpaaQx23
import Derived.Test.YtadbiogchgglpaaQx24
namespace Go.Proofs.Ytadbiogchgglpaa.Q
open Go.RowKit Go.Proofs.YtadbiogchgglpaaW.PrintWords Go.Proofs.YtadbiogchgglpaaW.PrintLast Go.Proofs.YtadbiogchgglpaaW.PrintMore
attribute [local go_sem] max2_int min2_int max_two min_two max_three min_three max_four min_four   -- for this text's walks alone
set_option linter.unusedVariables false
set_option linter.unusedSimpArgs false

/-! ### zD: function 20 -/
mutual
def zD.j0 : Nat → List Int → Bool → List Int → Int → Bool → Option ((List (S40)) × List Int × List ByteArray × Int × Int)
 | 0, _, _, _, _, _ => none
 | k + 1, x0, x44, x466000, x466001, x466002 => if x44 = true then (some (([] : List (S40)), ([] : List Int), ([] : List ByteArray), 0, 31)) else ((zO.f x466000 x466001 x466002).bind fun bt475 => ((zO.f x466000 bt475.2.1 bt475.2.2).bind fun bt479 => (zD.l0 k x0 bt479.1 0 x466000 bt479.2.1 bt479.2.2 ([] : List Int) bt475.1)))
def zD.l0 : Nat → List Int → Int → Int → List Int → Int → Bool → List Int → Int → Option ((List (S40)) × List Int × List ByteArray × Int × Int)
 | 0, _, _, _, _, _, _, _, _ => none
 | k + 1, x0, x9, x10, x466000, x466001, x466002, x479001, x479003 => if x10 < x9 then (zD.l1 k x0 x9 x10 0 1 0 x466000 x466001 x466002 x479001 x479003) else ((zO.f x466000 x466001 x466002).bind fun bt494 => (zD.l2 k x0 bt494.1 0 x466000 bt494.2.1 bt494.2.2 x479001 ([] : List ByteArray) x479003))
def zD.l1 : Nat → List Int → Int → Int → Int → Int → Int → List Int → Int → Bool → List Int → Int → Option ((List (S40)) × List Int × List ByteArray × Int × Int)
 | 0, _, _, _, _, _, _, _, _, _, _, _ => none
 | k + 1, x0, x9, x10, x11, x12, x13, x466000, x466001, x466002, x479001, x479003 => if x13 < 7 then ((zO.f x466000 x466001 x466002).bind fun bt482 => (zD.l1 k x0 x9 x10 (wrap64 (x11 + (wrap64 (bt482.1 * x12)))) (wrap64 (x12 * 256)) (wrap64 (x13 + 1)) x466000 bt482.2.1 bt482.2.2 x479001 x479003)) else ((zO.f x466000 x466001 x466002).bind fun bt485 => (if bt485.1 > 127 then (if x479001.length < 17592186044416 then (zD.l0 k x0 x9 (wrap64 (x10 + 1)) x466000 bt485.2.1 bt485.2.2 (x479001 ++ [wrap64 (x11 + (wrap64 ((wrap64 (bt485.1 - 256)) * x12)))]) x479003) else (none)) else (if x479001.length < 17592186044416 then (zD.l0 k x0 x9 (wrap64 (x10 + 1)) x466000 bt485.2.1 bt485.2.2 (x479001 ++ [wrap64 (x11 + (wrap64 (bt485.1 * x12)))]) x479003) else (none))))
def zD.l2 : Nat → List Int → Int → Int → List Int → Int → Bool → List Int → List ByteArray → Int → Option ((List (S40)) × List Int × List ByteArray × Int × Int)
 | 0, _, _, _, _, _, _, _, _, _ => none
 | k + 1, x0, x9, x15, x466000, x466001, x466002, x479001, x479002, x479003 => if x15 < x9 then ((zO.f x466000 x466001 x466002).bind fun bt497 => (zD.l3 k x0 x9 x15 bt497.1 ([] : List Int) 0 x466000 bt497.2.1 bt497.2.2 x479001 x479002 x479003)) else ((zO.f x466000 x466001 x466002).bind fun bt509 => (zD.l4 k x0 bt509.1 0 x466000 bt509.2.1 bt509.2.2 ([] : List (S40)) x479001 x479002 x479003))
def zD.l3 : Nat → List Int → Int → Int → Int → List Int → Int → List Int → Int → Bool → List Int → List ByteArray → Int → Option ((List (S40)) × List Int × List ByteArray × Int × Int)
 | 0, _, _, _, _, _, _, _, _, _, _, _, _ => none
 | k + 1, x0, x9, x15, x16, x17, x18, x466000, x466001, x466002, x479001, x479002, x479003 => if x18 < x16 then ((zO.f x466000 x466001 x466002).bind fun bt500 => (if x17.length < 140737488355328 then (zD.l3 k x0 x9 x15 x16 (x17 ++ [(bt500.1) % 256]) (wrap64 (x18 + 1)) x466000 bt500.2.1 bt500.2.2 x479001 x479002 x479003) else (none))) else (if x479002.length < 8796093022208 then (zD.l2 k x0 x9 (wrap64 (x15 + 1)) x466000 x466001 x466002 x479001 (x479002 ++ [strOfNums x17]) x479003) else (none))
def zD.l4 : Nat → List Int → Int → Int → List Int → Int → Bool → List (S40) → List Int → List ByteArray → Int → Option ((List (S40)) × List Int × List ByteArray × Int × Int)
 | 0, _, _, _, _, _, _, _, _, _, _ => none
 | k + 1, x0, x9, x19, x466000, x466001, x466002, x479000, x479001, x479002, x479003 => if x19 < x9 then ((zO.f x466000 x466001 x466002).bind fun bt514 => ((zO.f x466000 bt514.2.1 bt514.2.2).bind fun bt517 => ((zO.f x466000 bt517.2.1 bt517.2.2).bind fun bt520 => ((zP.f x466000 bt520.2.1 bt520.2.2).bind fun bt523 => (zD.l5 k x0 x9 x19 bt523.1 0 x466000 bt523.2.1 bt523.2.2 x479000 x479001 x479002 x479003 bt514.1 bt517.1 bt520.1 ([] : List (S42))))))) else ((zM.f k x479000 x479001 x479002 x479003).bind fun t512 => (if x466002 = true then (some (([] : List (S40)), ([] : List Int), ([] : List ByteArray), 0, 31)) else (if x466001 = (x0.length : Int) then (if t512 = true then (some (x479000, x479001, x479002, x479003, 0)) else (some (([] : List (S40)), ([] : List Int), ([] : List ByteArray), 0, 31))) else (some (([] : List (S40)), ([] : List Int), ([] : List ByteArray), 0, 31)))))
def zD.l5 : Nat → List Int → Int → Int → Int → Int → List Int → Int → Bool → List (S40) → List Int → List ByteArray → Int → Int → Int → Int → List (S42) → Option ((List (S40)) × List Int × List ByteArray × Int × Int)
 | 0, _, _, _, _, _, _, _, _, _, _, _, _, _, _, _, _ => none
 | k + 1, x0, x9, x19, x21, x22, x466000, x466001, x466002, x479000, x479001, x479002, x479003, x514000, x514001, x514002, x514003 => if x22 < x21 then (zD.j7 k x0 x9 x19 x21 x22 (!x466002) x466000 x466001 x466002 x479000 x479001 x479002 x479003 x514000 x514001 x514002 x514003) else (zD.j7 k x0 x9 x19 x21 x22 false x466000 x466001 x466002 x479000 x479001 x479002 x479003 x514000 x514001 x514002 x514003)
def zD.j7 : Nat → List Int → Int → Int → Int → Int → Bool → List Int → Int → Bool → List (S40) → List Int → List ByteArray → Int → Int → Int → Int → List (S42) → Option ((List (S40)) × List Int × List ByteArray × Int × Int)
 | 0, _, _, _, _, _, _, _, _, _, _, _, _, _, _, _, _, _ => none
 | k + 1, x0, x9, x19, x21, x22, x139, x466000, x466001, x466002, x479000, x479001, x479002, x479003, x514000, x514001, x514002, x514003 => if x139 = true then ((zO.f x466000 x466001 x466002).bind fun bt526 => ((zP.f x466000 bt526.2.1 bt526.2.2).bind fun bt529 => ((zP.f x466000 bt529.2.1 bt529.2.2).bind fun bt532 => (if x514003.length < 5864062014805 then (zD.l5 k x0 x9 x19 x21 (wrap64 (x22 + 1)) x466000 bt532.2.1 bt532.2.2 x479000 x479001 x479002 x479003 x514000 x514001 x514002 (x514003 ++ [(⟨bt526.1, bt529.1, bt532.1⟩ : S42)])) else (none))))) else (if x479000.length < 2932031007402 then (zD.l4 k x0 x9 (wrap64 (x19 + 1)) x466000 x466001 x466002 (x479000 ++ [(⟨x514000, x514001, x514002, x514003⟩ : S40)]) x479001 x479002 x479003) else (none))
end
def zD.f (k : Nat) (l0 : List Int) : Option ((List (S40)) × List Int × List ByteArray × Int × Int) := (zO.f l0 0 false).bind fun bt466 => ((zO.f l0 bt466.2.1 bt466.2.2).bind fun bt469 => ((zO.f l0 bt469.2.1 bt469.2.2).bind fun bt472 => (if bt466.1 = 83 then (if bt469.1 = 77 then (zD.j0 k l0 (bt472.1 != 49) l0 bt472.2.1 bt472.2.2) else (zD.j0 k l0 true l0 bt472.2.1 bt472.2.2)) else (zD.j0 k l0 true l0 bt472.2.1 bt472.2.2))))
theorem zD.mono_l : ∀ k, (∀ y0 y1 y2 y3 y4, LeO (zD.j0 k y0 y1 y2 y3 y4) (zD.j0 (k + 1) y0 y1 y2 y3 y4)) ∧ (∀ y0 y1 y2 y3 y4 y5 y6 y7, LeO (zD.l0 k y0 y1 y2 y3 y4 y5 y6 y7) (zD.l0 (k + 1) y0 y1 y2 y3 y4 y5 y6 y7)) ∧ (∀ y0 y1 y2 y3 y4 y5 y6 y7 y8 y9 y10, LeO (zD.l1 k y0 y1 y2 y3 y4 y5 y6 y7 y8 y9 y10) (zD.l1 (k + 1) y0 y1 y2 y3 y4 y5 y6 y7 y8 y9 y10)) ∧ (∀ y0 y1 y2 y3 y4 y5 y6 y7 y8, LeO (zD.l2 k y0 y1 y2 y3 y4 y5 y6 y7 y8) (zD.l2 (k + 1) y0 y1 y2 y3 y4 y5 y6 y7 y8)) ∧ (∀ y0 y1 y2 y3 y4 y5 y6 y7 y8 y9 y10 y11, LeO (zD.l3 k y0 y1 y2 y3 y4 y5 y6 y7 y8 y9 y10 y11) (zD.l3 (k + 1) y0 y1 y2 y3 y4 y5 y6 y7 y8 y9 y10 y11)) ∧ (∀ y0 y1 y2 y3 y4 y5 y6 y7 y8 y9, LeO (zD.l4 k y0 y1 y2 y3 y4 y5 y6 y7 y8 y9) (zD.l4 (k + 1) y0 y1 y2 y3 y4 y5 y6 y7 y8 y9)) ∧ (∀ y0 y1 y2 y3 y4 y5 y6 y7 y8 y9 y10 y11 y12 y13 y14 y15, LeO (zD.l5 k y0 y1 y2 y3 y4 y5 y6 y7 y8 y9 y10 y11 y12 y13 y14 y15) (zD.l5 (k + 1) y0 y1 y2 y3 y4 y5 y6 y7 y8 y9 y10 y11 y12 y13 y14 y15)) ∧ (∀ y0 y1 y2 y3 y4 y5 y6 y7 y8 y9 y10 y11 y12 y13 y14 y15 y16, LeO (zD.j7 k y0 y1 y2 y3 y4 y5 y6 y7 y8 y9 y10 y11 y12 y13 y14 y15 y16) (zD.j7 (k + 1) y0 y1 y2 y3 y4 y5 y6 y7 y8 y9 y10 y11 y12 y13 y14 y15 y16))
 | 0 => ⟨fun _ _ _ _ _ r h => by simp [zD.j0] at h, fun _ _ _ _ _ _ _ _ r h => by simp [zD.l0] at h, fun _ _ _ _ _ _ _ _ _ _ _ r h => by simp [zD.l1] at h, fun _ _ _ _ _ _ _ _ _ r h => by simp [zD.l2] at h, fun _ _ _ _ _ _ _ _ _ _ _ _ r h => by simp [zD.l3] at h, fun _ _ _ _ _ _ _ _ _ _ r h => by simp [zD.l4] at h, fun _ _ _ _ _ _ _ _ _ _ _ _ _ _ _ _ r h => by simp [zD.l5] at h, fun _ _ _ _ _ _ _ _ _ _ _ _ _ _ _ _ _ r h => by simp [zD.j7] at h⟩
 | k + 1 => by
  obtain ⟨ih0, ih1, ih2, ih3, ih4, ih5, ih6, ih7⟩ := zD.mono_l k
  refine ⟨?_, ?_, ?_, ?_, ?_, ?_, ?_, ?_⟩
  ·intro y0 y1 y2 y3 y4
   unfold zD.j0
   repeat' first
   | (with_reducible exact ih0 _ _ _ _ _)
   | (with_reducible exact ih1 _ _ _ _ _ _ _ _)
   | (with_reducible exact ih2 _ _ _ _ _ _ _ _ _ _ _)
   | (with_reducible exact ih3 _ _ _ _ _ _ _ _ _)
   | (with_reducible exact ih4 _ _ _ _ _ _ _ _ _ _ _ _)
   | (with_reducible exact ih5 _ _ _ _ _ _ _ _ _ _)
   | (with_reducible exact ih6 _ _ _ _ _ _ _ _ _ _ _ _ _ _ _ _)
   | (with_reducible exact ih7 _ _ _ _ _ _ _ _ _ _ _ _ _ _ _ _ _)
   | (with_reducible exact zM.mono _ _ _ _ _)
   | (with_reducible exact LeO.refl _)
   | (with_reducible exact LeO.none _)
   | (with_reducible refine LeO.ite ?_ ?_)
   | (with_reducible refine LeO.bind ?_ (fun _ => ?_))
   | exact ih0 _ _ _ _ _
   | exact ih1 _ _ _ _ _ _ _ _
   | exact ih2 _ _ _ _ _ _ _ _ _ _ _
   | exact ih3 _ _ _ _ _ _ _ _ _
   | exact ih4 _ _ _ _ _ _ _ _ _ _ _ _
   | exact ih5 _ _ _ _ _ _ _ _ _ _
   | exact ih6 _ _ _ _ _ _ _ _ _ _ _ _ _ _ _ _
   | exact ih7 _ _ _ _ _ _ _ _ _ _ _ _ _ _ _ _ _
   | exact zM.mono _ _ _ _ _
   | exact LeO.none _
   | refine LeO.ite ?_ ?_
   | refine LeO.bind ?_ (fun _ => ?_)
  ·intro y0 y1 y2 y3 y4 y5 y6 y7
   unfold zD.l0
   repeat' first
   | (with_reducible exact ih0 _ _ _ _ _)
   | (with_reducible exact ih1 _ _ _ _ _ _ _ _)
   | (with_reducible exact ih2 _ _ _ _ _ _ _ _ _ _ _)
   | (with_reducible exact ih3 _ _ _ _ _ _ _ _ _)
   | (with_reducible exact ih4 _ _ _ _ _ _ _ _ _ _ _ _)
   | (with_reducible exact ih5 _ _ _ _ _ _ _ _ _ _)
   | (with_reducible exact ih6 _ _ _ _ _ _ _ _ _ _ _ _ _ _ _ _)
   | (with_reducible exact ih7 _ _ _ _ _ _ _ _ _ _ _ _ _ _ _ _ _)
   | (with_reducible exact zM.mono _ _ _ _ _)
   | (with_reducible exact LeO.refl _)
   | (with_reducible exact LeO.none _)
   | (with_reducible refine LeO.ite ?_ ?_)
   | (with_reducible refine LeO.bind ?_ (fun _ => ?_))
   | exact ih0 _ _ _ _ _
   | exact ih1 _ _ _ _ _ _ _ _
   | exact ih2 _ _ _ _ _ _ _ _ _ _ _
   | exact ih3 _ _ _ _ _ _ _ _ _
   | exact ih4 _ _ _ _ _ _ _ _ _ _ _ _
   | exact ih5 _ _ _ _ _ _ _ _ _ _
   | exact ih6 _ _ _ _ _ _ _ _ _ _ _ _ _ _ _ _
   | exact ih7 _ _ _ _ _ _ _ _ _ _ _ _ _ _ _ _ _
   | exact zM.mono _ _ _ _ _
   | exact LeO.none _
   | refine LeO.ite ?_ ?_
   | refine LeO.bind ?_ (fun _ => ?_)
  ·intro y0 y1 y2 y3 y4 y5 y6 y7 y8 y9 y10
   unfold zD.l1
   repeat' first
   | (with_reducible exact ih0 _ _ _ _ _)
   | (with_reducible exact ih1 _ _ _ _ _ _ _ _)
   | (with_reducible exact ih2 _ _ _ _ _ _ _ _ _ _ _)
   | (with_reducible exact ih3 _ _ _ _ _ _ _ _ _)
   | (with_reducible exact ih4 _ _ _ _ _ _ _ _ _ _ _ _)
   | (with_reducible exact ih5 _ _ _ _ _ _ _ _ _ _)
   | (with_reducible exact ih6 _ _ _ _ _ _ _ _ _ _ _ _ _ _ _ _)
   | (with_reducible exact ih7 _ _ _ _ _ _ _ _ _ _ _ _ _ _ _ _ _)
   | (with_reducible exact zM.mono _ _ _ _ _)
   | (with_reducible exact LeO.refl _)
   | (with_reducible exact LeO.none _)
   | (with_reducible refine LeO.ite ?_ ?_)
   | (with_reducible refine LeO.bind ?_ (fun _ => ?_))
   | exact ih0 _ _ _ _ _
   | exact ih1 _ _ _ _ _ _ _ _
   | exact ih2 _ _ _ _ _ _ _ _ _ _ _
   | exact ih3 _ _ _ _ _ _ _ _ _
   | exact ih4 _ _ _ _ _ _ _ _ _ _ _ _
   | exact ih5 _ _ _ _ _ _ _ _ _ _
   | exact ih6 _ _ _ _ _ _ _ _ _ _ _ _ _ _ _ _
   | exact ih7 _ _ _ _ _ _ _ _ _ _ _ _ _ _ _ _ _
   | exact zM.mono _ _ _ _ _
   | exact LeO.none _
   | refine LeO.ite ?_ ?_
   | refine LeO.bind ?_ (fun _ => ?_)
  ·intro y0 y1 y2 y3 y4 y5 y6 y7 y8
   unfold zD.l2
   repeat' first
   | (with_reducible exact ih0 _ _ _ _ _)
   | (with_reducible exact ih1 _ _ _ _ _ _ _ _)
   | (with_reducible exact ih2 _ _ _ _ _ _ _ _ _ _ _)
   | (with_reducible exact ih3 _ _ _ _ _ _ _ _ _)
   | (with_reducible exact ih4 _ _ _ _ _ _ _ _ _ _ _ _)
   | (with_reducible exact ih5 _ _ _ _ _ _ _ _ _ _)
   | (with_reducible exact ih6 _ _ _ _ _ _ _ _ _ _ _ _ _ _ _ _)
   | (with_reducible exact ih7 _ _ _ _ _ _ _ _ _ _ _ _ _ _ _ _ _)
   | (with_reducible exact zM.mono _ _ _ _ _)
   | (with_reducible exact LeO.refl _)
   | (with_reducible exact LeO.none _)
   | (with_reducible refine LeO.ite ?_ ?_)
   | (with_reducible refine LeO.bind ?_ (fun _ => ?_))
   | exact ih0 _ _ _ _ _
   | exact ih1 _ _ _ _ _ _ _ _
   | exact ih2 _ _ _ _ _ _ _ _ _ _ _
   | exact ih3 _ _ _ _ _ _ _ _ _
   | exact ih4 _ _ _ _ _ _ _ _ _ _ _ _
   | exact ih5 _ _ _ _ _ _ _ _ _ _
   | exact ih6 _ _ _ _ _ _ _ _ _ _ _ _ _ _ _ _
   | exact ih7 _ _ _ _ _ _ _ _ _ _ _ _ _ _ _ _ _
   | exact zM.mono _ _ _ _ _
   | exact LeO.none _
   | refine LeO.ite ?_ ?_
   | refine LeO.bind ?_ (fun _ => ?_)
  ·intro y0 y1 y2 y3 y4 y5 y6 y7 y8 y9 y10 y11
   unfold zD.l3
   repeat' first
   | (with_reducible exact ih0 _ _ _ _ _)
   | (with_reducible exact ih1 _ _ _ _ _ _ _ _)
   | (with_reducible exact ih2 _ _ _ _ _ _ _ _ _ _ _)
   | (with_reducible exact ih3 _ _ _ _ _ _ _ _ _)
   | (with_reducible exact ih4 _ _ _ _ _ _ _ _ _ _ _ _)
   | (with_reducible exact ih5 _ _ _ _ _ _ _ _ _ _)
   | (with_reducible exact ih6 _ _ _ _ _ _ _ _ _ _ _ _ _ _ _ _)
   | (with_reducible exact ih7 _ _ _ _ _ _ _ _ _ _ _ _ _ _ _ _ _)
   | (with_reducible exact zM.mono _ _ _ _ _)
   | (with_reducible exact LeO.refl _)
   | (with_reducible exact LeO.none _)
   | (with_reducible refine LeO.ite ?_ ?_)
   | (with_reducible refine LeO.bind ?_ (fun _ => ?_))
   | exact ih0 _ _ _ _ _
   | exact ih1 _ _ _ _ _ _ _ _
   | exact ih2 _ _ _ _ _ _ _ _ _ _ _
   | exact ih3 _ _ _ _ _ _ _ _ _
   | exact ih4 _ _ _ _ _ _ _ _ _ _ _ _
   | exact ih5 _ _ _ _ _ _ _ _ _ _
   | exact ih6 _ _ _ _ _ _ _ _ _ _ _ _ _ _ _ _
   | exact ih7 _ _ _ _ _ _ _ _ _ _ _ _ _ _ _ _ _
   | exact zM.mono _ _ _ _ _
   | exact LeO.none _
   | refine LeO.ite ?_ ?_
   | refine LeO.bind ?_ (fun _ => ?_)
  ·intro y0 y1 y2 y3 y4 y5 y6 y7 y8 y9
   unfold zD.l4
   repeat' first
   | (with_reducible exact ih0 _ _ _ _ _)
   | (with_reducible exact ih1 _ _ _ _ _ _ _ _)
   | (with_reducible exact ih2 _ _ _ _ _ _ _ _ _ _ _)
   | (with_reducible exact ih3 _ _ _ _ _ _ _ _ _)
   | (with_reducible exact ih4 _ _ _ _ _ _ _ _ _ _ _ _)
   | (with_reducible exact ih5 _ _ _ _ _ _ _ _ _ _)
   | (with_reducible exact ih6 _ _ _ _ _ _ _ _ _ _ _ _ _ _ _ _)
   | (with_reducible exact ih7 _ _ _ _ _ _ _ _ _ _ _ _ _ _ _ _ _)
   | (with_reducible exact zM.mono _ _ _ _ _)
   | (with_reducible exact LeO.refl _)
   | (with_reducible exact LeO.none _)
   | (with_reducible refine LeO.ite ?_ ?_)
   | (with_reducible refine LeO.bind ?_ (fun _ => ?_))
   | exact ih0 _ _ _ _ _
   | exact ih1 _ _ _ _ _ _ _ _
   | exact ih2 _ _ _ _ _ _ _ _ _ _ _
   | exact ih3 _ _ _ _ _ _ _ _ _
   | exact ih4 _ _ _ _ _ _ _ _ _ _ _ _
   | exact ih5 _ _ _ _ _ _ _ _ _ _
   | exact ih6 _ _ _ _ _ _ _ _ _ _ _ _ _ _ _ _
   | exact ih7 _ _ _ _ _ _ _ _ _ _ _ _ _ _ _ _ _
   | exact zM.mono _ _ _ _ _
   | exact LeO.none _
   | refine LeO.ite ?_ ?_
   | refine LeO.bind ?_ (fun _ => ?_)
  ·intro y0 y1 y2 y3 y4 y5 y6 y7 y8 y9 y10 y11 y12 y13 y14 y15
   unfold zD.l5
   repeat' first
   | (with_reducible exact ih0 _ _ _ _ _)
   | (with_reducible exact ih1 _ _ _ _ _ _ _ _)
   | (with_reducible exact ih2 _ _ _ _ _ _ _ _ _ _ _)
   | (with_reducible exact ih3 _ _ _ _ _ _ _ _ _)
   | (with_reducible exact ih4 _ _ _ _ _ _ _ _ _ _ _ _)
   | (with_reducible exact ih5 _ _ _ _ _ _ _ _ _ _)
   | (with_reducible exact ih6 _ _ _ _ _ _ _ _ _ _ _ _ _ _ _ _)
   | (with_reducible exact ih7 _ _ _ _ _ _ _ _ _ _ _ _ _ _ _ _ _)
   | (with_reducible exact zM.mono _ _ _ _ _)
   | (with_reducible exact LeO.refl _)
   | (with_reducible exact LeO.none _)
   | (with_reducible refine LeO.ite ?_ ?_)
   | (with_reducible refine LeO.bind ?_ (fun _ => ?_))
   | exact ih0 _ _ _ _ _
   | exact ih1 _ _ _ _ _ _ _ _
   | exact ih2 _ _ _ _ _ _ _ _ _ _ _
   | exact ih3 _ _ _ _ _ _ _ _ _
   | exact ih4 _ _ _ _ _ _ _ _ _ _ _ _
   | exact ih5 _ _ _ _ _ _ _ _ _ _
   | exact ih6 _ _ _ _ _ _ _ _ _ _ _ _ _ _ _ _
   | exact ih7 _ _ _ _ _ _ _ _ _ _ _ _ _ _ _ _ _
   | exact zM.mono _ _ _ _ _
   | exact LeO.none _
   | refine LeO.ite ?_ ?_
   | refine LeO.bind ?_ (fun _ => ?_)
  intro y0 y1 y2 y3 y4 y5 y6 y7 y8 y9 y10 y11 y12 y13 y14 y15 y16
  unfold zD.j7
  repeat' first
  | (with_reducible exact ih0 _ _ _ _ _)
  | (with_reducible exact ih1 _ _ _ _ _ _ _ _)
  | (with_reducible exact ih2 _ _ _ _ _ _ _ _ _ _ _)
  | (with_reducible exact ih3 _ _ _ _ _ _ _ _ _)
  | (with_reducible exact ih4 _ _ _ _ _ _ _ _ _ _ _ _)
  | (with_reducible exact ih5 _ _ _ _ _ _ _ _ _ _)
  | (with_reducible exact ih6 _ _ _ _ _ _ _ _ _ _ _ _ _ _ _ _)
  | (with_reducible exact ih7 _ _ _ _ _ _ _ _ _ _ _ _ _ _ _ _ _)
  | (with_reducible exact zM.mono _ _ _ _ _)
  | (with_reducible exact LeO.refl _)
  | (with_reducible exact LeO.none _)
  | (with_reducible refine LeO.ite ?_ ?_)
  | (with_reducible refine LeO.bind ?_ (fun _ => ?_))
  | exact ih0 _ _ _ _ _
  | exact ih1 _ _ _ _ _ _ _ _
  | exact ih2 _ _ _ _ _ _ _ _ _ _ _
  | exact ih3 _ _ _ _ _ _ _ _ _
  | exact ih4 _ _ _ _ _ _ _ _ _ _ _ _
  | exact ih5 _ _ _ _ _ _ _ _ _ _
  | exact ih6 _ _ _ _ _ _ _ _ _ _ _ _ _ _ _ _
  | exact ih7 _ _ _ _ _ _ _ _ _ _ _ _ _ _ _ _ _
  | exact zM.mono _ _ _ _ _
  | exact LeO.none _
  | refine LeO.ite ?_ ?_
  | refine LeO.bind ?_ (fun _ => ?_)
theorem zD.mono : ∀ a0 k, LeO (zD.f k a0) (zD.f (k + 1) a0) := by
 intro a0 k
 obtain ⟨ih0, ih1, ih2, ih3, ih4, ih5, ih6, ih7⟩ := zD.mono_l k
 unfold zD.f
 repeat' first
   | (with_reducible exact ih0 _ _ _ _ _)
   | (with_reducible exact ih1 _ _ _ _ _ _ _ _)
   | (with_reducible exact ih2 _ _ _ _ _ _ _ _ _ _ _)
   | (with_reducible exact ih3 _ _ _ _ _ _ _ _ _)
   | (with_reducible exact ih4 _ _ _ _ _ _ _ _ _ _ _ _)
   | (with_reducible exact ih5 _ _ _ _ _ _ _ _ _ _)
   | (with_reducible exact ih6 _ _ _ _ _ _ _ _ _ _ _ _ _ _ _ _)
   | (with_reducible exact ih7 _ _ _ _ _ _ _ _ _ _ _ _ _ _ _ _ _)
   | (with_reducible exact zM.mono _ _ _ _ _)
   | (with_reducible exact LeO.refl _)
   | (with_reducible exact LeO.none _)
   | (with_reducible refine LeO.ite ?_ ?_)
   | (with_reducible refine LeO.bind ?_ (fun _ => ?_))
   | exact ih0 _ _ _ _ _
   | exact ih1 _ _ _ _ _ _ _ _
   | exact ih2 _ _ _ _ _ _ _ _ _ _ _
   | exact ih3 _ _ _ _ _ _ _ _ _
   | exact ih4 _ _ _ _ _ _ _ _ _ _ _ _
   | exact ih5 _ _ _ _ _ _ _ _ _ _
   | exact ih6 _ _ _ _ _ _ _ _ _ _ _ _ _ _ _ _
   | exact ih7 _ _ _ _ _ _ _ _ _ _ _ _ _ _ _ _ _
   | exact zM.mono _ _ _ _ _
   | exact LeO.none _
   | refine LeO.ite ?_ ?_
   | refine LeO.bind ?_ (fun _ => ?_)
def zD.T48 : Bool × List (List Nat × List Nat) := (true, [([], []), ([0], [0]), ([], []), ([], []), ([], []), ([4], [4]), ([2, 3, 5], [2, 3, 5]), ([6], [6]), ([1, 7, 5], [1, 7]), ([0, 1, 2, 3, 4, 5, 6, 7, 8], []), ([9, 8, 8, 0, 1, 2, 3, 4, 5, 6, 7, 8], [8, 9])])
def zD.B48 : List Nat := [0, 1, 0, 0, 0, 16, 60, 124, 255, 511, 1023]
theorem zD.tab48 : rtab .any (opsOf Try.f20 48) = zD.T48 := by kernel_rfl
theorem zD.bits48 : waitsOk zD.T48.2 zD.B48 = true := by kernel_rfl
set_option maxHeartbeats 8000000 in
set_option maxRecDepth 100000 in
theorem zD.calls (k : Nat) (A0 : Option Addr) (c0 : Nat) (l0 : List Int) (r1 : List (S40)) (r2 : List Int) (r3 : List ByteArray) (r4 : Int) (r5 : Int) (w : World) (hr0 : Kd.C (Kd.int .u8) w A0 l0.length l0) (hc0 : l0.length ≤ c0) (h : zD.f k l0 = some (r1, r2, r3, r4, r5)) :
  Calls Try.prog 20 #[.slice A0 l0.length c0] w fun e w' => ∃ v0_ v1_ v2_ : Value, e = .returned (.tuple #[.agg #[v0_, v1_, v2_, .int .i64 r4], .int .i64 r5]) ∧ Kd.S k40 40 w' w.heap.size (fun _ => True) v0_ r1 ∧ Kd.R (Kd.int .i64) 3 w' w.heap.size (fun _ => True) v1_ r2 ∧ Kd.R Kd.string 9 w' w.heap.size (fun _ => True) v2_ r3 ∧ Below w.heap.size w w' := by
 have hu26 := Try.underlying26
 have hu60 := Try.underlying60
 have hu40 := Try.underlying40
 have hu42 := Try.underlying42
 have HR0 := Aside0.mk hr0
 have HC0 := Aside0.mk hc0
 clear hr0 hc0
 have HB := Aside0.mk (Below.refl w.heap.size w)
 have H : ((zO.f l0 0 false).bind fun bt466 => ((zO.f l0 bt466.2.1 bt466.2.2).bind fun bt469 => ((zO.f l0 bt469.2.1 bt469.2.2).bind fun bt472 => (if bt466.1 = 83 then (if bt469.1 = 77 then (zD.j0 k l0 (bt472.1 != 49) l0 bt472.2.1 bt472.2.2) else (zD.j0 k l0 true l0 bt472.2.1 bt472.2.2)) else (zD.j0 k l0 true l0 bt472.2.1 bt472.2.2))))) = some (r1, r2, r3, r4, r5) := h
 clear h
 replace H := Option.bind_eq_some_iff.mp H
 obtain ⟨⟨t466, t467, t468⟩, A20, H⟩ := H
 replace H : ((zO.f l0 t467 t468).bind fun bt469 => ((zO.f l0 bt469.2.1 bt469.2.2).bind fun bt472 => (if t466 = 83 then (if bt469.1 = 77 then (zD.j0 k l0 (bt472.1 != 49) l0 bt472.2.1 bt472.2.2) else (zD.j0 k l0 true l0 bt472.2.1 bt472.2.2)) else (zD.j0 k l0 true l0 bt472.2.1 bt472.2.2)))) = some (r1, r2, r3, r4, r5) := H
 have A2 := Aside0.mk A20
 clear A20
 replace H := Option.bind_eq_some_iff.mp H
 obtain ⟨⟨t469, t470, t471⟩, A30, H⟩ := H
 replace H : ((zO.f l0 t470 t471).bind fun bt472 => (if t466 = 83 then (if t469 = 77 then (zD.j0 k l0 (bt472.1 != 49) l0 bt472.2.1 bt472.2.2) else (zD.j0 k l0 true l0 bt472.2.1 bt472.2.2)) else (zD.j0 k l0 true l0 bt472.2.1 bt472.2.2))) = some (r1, r2, r3, r4, r5) := H
 have A3 := Aside0.mk A30
 clear A30
 replace H := Option.bind_eq_some_iff.mp H
 obtain ⟨⟨t472, t473, t474⟩, A40, H⟩ := H
 replace H : (if t466 = 83 then (if t469 = 77 then (zD.j0 k l0 (t472 != 49) l0 t473 t474) else (zD.j0 k l0 true l0 t473 t474)) else (zD.j0 k l0 true l0 t473 t474)) = some (r1, r2, r3, r4, r5) := H
 have A4 := Aside0.mk A40
 clear A40
 have HC5 := Aside0.mk H
 clear H
 go_enter Try.func20, Try.ntmps20
 go_upto_region 5 with (first | ((with_reducible refine gate_dst (N := 2) rfl ?_); (try (refine gate_guard (by rfl) ?_; dsimp only)); refine box_event ?hg (N := 2) ?hd (cs := #[.slice none 0 0, .slice none 0 0, .slice none 0 0, .int .i64 0]) (t := 26) ?hr ?_; (case hd => rfl); (case hg => rfl); (case hr => first | (go_simp; done) | (go_simp; rfl)); intro gb464 hg w6 hbox hb; have n0_ := Aside0.mk (bT (by repeat (first | (with_reducible first | exact HB.out | apply bA | apply bN | apply bD) | exact HB.out)) hb); have n1_ := Aside0.mk (hbox); have n2_ := Aside0.mk ((by rw [hg]; exact (bZ (by repeat (first | (with_reducible first | exact HB.out | apply bA | apply bN | apply bD) | exact HB.out))) : w.heap.size ≤ gb464)); have n3_ := Aside0.mk ((by rw [hg]; exact (bZ (by repeat (first | (with_reducible first | exact HB.out | apply bA | apply bN | apply bD) | exact HB.out))) : w.heap.size ≤ gb464)); clear HB; have HB := n0_; have BK464 := n1_; have GW464 := n2_; have GE464 := n3_; clear n0_ n1_ n2_ n3_; clear hb hbox hg) | ((with_reducible refine gate_dst (N := 28) rfl ?_); (try (refine gate_guard (by rfl) ?_; dsimp only)); refine box_event ?hg (N := 28) ?hd (cs := #[.slice A0 l0.length c0, .int .i64 0, .bool false]) (t := 60) ?hr ?_; (case hd => rfl); (case hg => rfl); (case hr => first | (go_simp; done) | (go_simp; rfl)); intro gb465 hg w7 hbox hb; have n0_ := Aside0.mk (kB (g := gb464) (o := .cells #[.slice none 0 0, .slice none 0 0, .slice none 0 0, .int .i64 0] 26 (0, 0)) (by (with_reducible repeat (first | refine kN ?_ _ | refine kD ?_ | refine kA ?_ _)); exact BK464.out) hb); have n1_ := Aside0.mk (bT (by repeat (first | (with_reducible first | exact HB.out | apply bA | apply bN | apply bD | refine bS ?_ GE464.out) | exact HB.out)) hb); have n2_ := Aside0.mk ((⟨A0, c0, hbox, (by rw [hg]; exact (bZ (by repeat (first | (with_reducible first | exact HB.out | apply bA | apply bN | apply bD | refine bS ?_ GE464.out) | exact HB.out))) : w.heap.size ≤ gb465), HR0.out⟩ : I6 w w7 gb465 l0 0 false)); have n3_ := Aside0.mk ((by rw [hg]; exact Nat.ne_of_lt (blk_lt (g := gb464) (o := .cells #[.slice none 0 0, .slice none 0 0, .slice none 0 0, .int .i64 0] 26 (0, 0)) (by (with_reducible repeat (first | refine kN ?_ _ | refine kD ?_ | refine kA ?_ _)); exact BK464.out)) : gb464 ≠ gb465)); have n4_ := Aside0.mk ((by rw [hg]; exact Nat.ne_of_gt (blk_lt (g := gb464) (o := .cells #[.slice none 0 0, .slice none 0 0, .slice none 0 0, .int .i64 0] 26 (0, 0)) (by (with_reducible repeat (first | refine kN ?_ _ | refine kD ?_ | refine kA ?_ _)); exact BK464.out)) : gb465 ≠ gb464)); clear BK464; clear HB; have BK464 := n0_; have HB := n1_; have HI465 := n2_; have NB464_465 := n3_; have NB465_464 := n4_; clear n0_ n1_ n2_ n3_ n4_; clear hb hbox hg) | ((with_reducible refine gate_callee (f := 34) rfl ?_); refine goesL_ (some 30) rfl rfl Try.func34 (by kernel_rfl) rfl #[.pointer (some ⟨gb465, 0, none⟩)] rfl (by (try simp only [List.map_toArray, List.map_cons, List.map_nil]); first | done | rfl | (simp only [List.length_drop, List.length_take]; rfl)) ?_; (with_reducible refine (zO.calls gb465 l0 0 false t466 t467 t468 w _ ?side1 ?side2 A2.out).mono ?_); (case side1 => repeat (first | (with_reducible first | exact HI465.out | apply I6.alloc | apply I6.drewN | apply I6.drew | apply I6.set_1 | apply I6.set_2 | refine I6.far ?_ NB465_464.out _) | exact HI465.out)); (case side2 => repeat (first | (with_reducible first | exact HB.out | apply bA | apply bN | apply bD | refine bS ?_ (I6.ge HI465.out) | refine bS ?_ GE464.out) | exact HB.out)); rintro e w8 ⟨rfl, hi, hb, hk⟩; refine ⟨_, rfl, ?_⟩; have n0_ := Aside0.mk (KeepBut.blk hk (g' := gb464) (o := .cells #[.slice none 0 0, .slice none 0 0, .slice none 0 0, .int .i64 0] 26 (0, 0)) (by (with_reducible repeat (first | refine kN ?_ _ | refine kD ?_ | refine kA ?_ _)); exact BK464.out) NB464_465.out (by simp)); have n1_ := Aside0.mk (hb); have n2_ := Aside0.mk (hi); clear BK464; clear HB; clear HI465; have BK464 := n0_; have HB := n1_; have HI465 := n2_; clear n0_ n1_ n2_; (try clear hb); (try clear hb2); (try clear hk); (try clear hi)) | ((with_reducible refine gate_callee (f := 34) rfl ?_); refine goesL_ (some 32) rfl rfl Try.func34 (by kernel_rfl) rfl #[.pointer (some ⟨gb465, 0, none⟩)] rfl (by (try simp only [List.map_toArray, List.map_cons, List.map_nil]); first | done | rfl | (simp only [List.length_drop, List.length_take]; rfl)) ?_; (with_reducible refine (zO.calls gb465 l0 t467 t468 t469 t470 t471 w _ ?side1 ?side2 A3.out).mono ?_); (case side1 => repeat (first | (with_reducible first | exact HI465.out | apply I6.alloc | apply I6.drewN | apply I6.drew | apply I6.set_1 | apply I6.set_2 | refine I6.far ?_ NB465_464.out _) | exact HI465.out)); (case side2 => repeat (first | (with_reducible first | exact HB.out | apply bA | apply bN | apply bD | refine bS ?_ (I6.ge HI465.out) | refine bS ?_ GE464.out) | exact HB.out)); rintro e w9 ⟨rfl, hi, hb, hk⟩; refine ⟨_, rfl, ?_⟩; have n0_ := Aside0.mk (KeepBut.blk hk (g' := gb464) (o := .cells #[.slice none 0 0, .slice none 0 0, .slice none 0 0, .int .i64 0] 26 (0, 0)) (by (with_reducible repeat (first | refine kN ?_ _ | refine kD ?_ | refine kA ?_ _)); exact BK464.out) NB464_465.out (by simp)); have n1_ := Aside0.mk (hb); have n2_ := Aside0.mk (hi); clear BK464; clear HB; clear HI465; have BK464 := n0_; have HB := n1_; have HI465 := n2_; clear n0_ n1_ n2_; (try clear hb); (try clear hb2); (try clear hk); (try clear hi)) | ((with_reducible refine gate_callee (f := 34) rfl ?_); refine goesL_ (some 34) rfl rfl Try.func34 (by kernel_rfl) rfl #[.pointer (some ⟨gb465, 0, none⟩)] rfl (by (try simp only [List.map_toArray, List.map_cons, List.map_nil]); first | done | rfl | (simp only [List.length_drop, List.length_take]; rfl)) ?_; (with_reducible refine (zO.calls gb465 l0 t470 t471 t472 t473 t474 w _ ?side1 ?side2 A4.out).mono ?_); (case side1 => repeat (first | (with_reducible first | exact HI465.out | apply I6.alloc | apply I6.drewN | apply I6.drew | apply I6.set_1 | apply I6.set_2 | refine I6.far ?_ NB465_464.out _) | exact HI465.out)); (case side2 => repeat (first | (with_reducible first | exact HB.out | apply bA | apply bN | apply bD | refine bS ?_ (I6.ge HI465.out) | refine bS ?_ GE464.out) | exact HB.out)); rintro e w10 ⟨rfl, hi, hb, hk⟩; refine ⟨_, rfl, ?_⟩; have n0_ := Aside0.mk (KeepBut.blk hk (g' := gb464) (o := .cells #[.slice none 0 0, .slice none 0 0, .slice none 0 0, .int .i64 0] 26 (0, 0)) (by (with_reducible repeat (first | refine kN ?_ _ | refine kD ?_ | refine kA ?_ _)); exact BK464.out) NB464_465.out (by simp)); have n1_ := Aside0.mk (hb); have n2_ := Aside0.mk (hi); clear BK464; clear HB; clear HI465; have BK464 := n0_; have HB := n1_; have HI465 := n2_; clear n0_ n1_ n2_; (try clear hb); (try clear hb2); (try clear hk); (try clear hi)))
 (try simp only [Act.put, List.setIfInBounds_toArray, List.set_cons_zero, List.set_cons_succ])
 go_cut [44] (fun v44 wc => ∃ (kq : Nat) (x44_4 : Bool), v44 = .bool x44_4 ∧ Aside0 (zD.j0 kq l0 x44_4 l0 t473 t474 = some (r1, r2, r3, r4, r5)) ∧ Aside0 (kq ≤ k) ∧ Aside0 (wc.heap[gb464]? = some (.cells #[(.slice none 0 0), (.slice none 0 0), (.slice none 0 0), .int .i64 0] 26 (0, 0))) ∧ Aside0 (I6 w wc gb465 l0 t473 t474) ∧ Aside0 (Below w.heap.size w wc))
 case first =>
  have H := HC5.out
  clear HC5
  by_cases c11 : t466 = 83
  ·rw [if_pos c11] at H
   have c11b0 : (t466 == 83) = true := beq_iff_eq.mpr c11
   have c11b1 : (t466 != 83) = false := bne_eq_false_iff_eq.mpr c11
   clear c11
   (first | rw [c11b0] | (simp only [i64_w, i32_w]; rw [c11b0]) | skip)
   by_cases c12 : t469 = 77
   ·rw [if_pos c12] at H
    have c12b0 : (t469 == 77) = true := beq_iff_eq.mpr c12
    have c12b1 : (t469 != 77) = false := bne_eq_false_iff_eq.mpr c12
    clear c12
    have H' := Aside0.mk H
    clear H
    go_wp2
    go_meet
    case rel => exact ⟨_, ((t472 != 49)), (by first | rfl | (simp; done) | (simp [*]; done)), H', ⟨by first | omega | exact Nat.le_refl _⟩, ⟨by (with_reducible repeat (first | refine kN ?_ _ | refine kD ?_ | refine kA ?_ _)); exact BK464.out⟩, ⟨by repeat (first | (with_reducible first | exact HI465.out | apply I6.alloc | apply I6.drewN | apply I6.drew | apply I6.set_1 | apply I6.set_2 | refine I6.far ?_ NB465_464.out _) | exact HI465.out)⟩, ⟨by repeat (first | (with_reducible first | exact HB.out | apply bA | apply bN | apply bD | refine bS ?_ (I6.ge HI465.out) | refine bS ?_ GE464.out) | exact HB.out)⟩⟩
   rw [if_neg c12] at H
   have c12b0 : (t469 == 77) = false := beq_eq_false_iff_ne.mpr c12
   have c12b1 : (t469 != 77) = true := bne_iff_ne.mpr c12
   have H' := Aside0.mk H
   clear H
   go_wp2
   go_meet
   case rel => exact ⟨_, (true), (by first | rfl | (simp; done) | (simp [*]; done)), H', ⟨by first | omega | exact Nat.le_refl _⟩, ⟨by (with_reducible repeat (first | refine kN ?_ _ | refine kD ?_ | refine kA ?_ _)); exact BK464.out⟩, ⟨by repeat (first | (with_reducible first | exact HI465.out | apply I6.alloc | apply I6.drewN | apply I6.drew | apply I6.set_1 | apply I6.set_2 | refine I6.far ?_ NB465_464.out _) | exact HI465.out)⟩, ⟨by repeat (first | (with_reducible first | exact HB.out | apply bA | apply bN | apply bD | refine bS ?_ (I6.ge HI465.out) | refine bS ?_ GE464.out) | exact HB.out)⟩⟩
  rw [if_neg c11] at H
  have c11b0 : (t466 == 83) = false := beq_eq_false_iff_ne.mpr c11
  have c11b1 : (t466 != 83) = true := bne_iff_ne.mpr c11
  (first | rw [c11b0] | (simp only [i64_w, i32_w]; rw [c11b0]) | skip)
  have H' := Aside0.mk H
  clear H
  go_wp2
  go_meet
  case rel => exact ⟨_, (true), (by first | rfl | (simp; done) | (simp [*]; done)), H', ⟨by first | omega | exact Nat.le_refl _⟩, ⟨by (with_reducible repeat (first | refine kN ?_ _ | refine kD ?_ | refine kA ?_ _)); exact BK464.out⟩, ⟨by repeat (first | (with_reducible first | exact HI465.out | apply I6.alloc | apply I6.drewN | apply I6.drew | apply I6.set_1 | apply I6.set_2 | refine I6.far ?_ NB465_464.out _) | exact HI465.out)⟩, ⟨by repeat (first | (with_reducible first | exact HB.out | apply bA | apply bN | apply bD | refine bS ?_ (I6.ge HI465.out) | refine bS ?_ GE464.out) | exact HB.out)⟩⟩
 case rest =>
  clear HC5
  obtain ⟨kq, x44_4, rfl, HA, HJ4, BK464, HI465, HB⟩ := hcut
  cases kq with
  | zero => exact absurd HA.out (by simp [zD.j0])
  | succ kj4 =>
   have H := HA.out
   clear HA
   simp only [zD.j0] at H
   by_cases c13 : x44_4 = true
   ·subst c13
    have H1 : (some (([] : List (S40)), ([] : List Int), ([] : List ByteArray), 0, 31)) = some (r1, r2, r3, r4, r5) := by rw [if_pos rfl] at H; exact H
    clear H
    have H := H1
    clear H1
    simp only [Option.some.injEq, Prod.mk.injEq] at H
    obtain ⟨rfl, rfl, rfl, rfl, rfl⟩ := H
    have hnb14 := NB464_465.out
    have hnc14 := NB465_464.out
    have hcz15_0 : wc.cell? ⟨gb464, 0, none⟩ = some (.slice none 0 0) := (kC BK464.out 0).trans rfl
    have hcz15_1 : wc.cell? ⟨gb464, 1, none⟩ = some (.slice none 0 0) := (kC BK464.out 1).trans rfl
    have hcz15_2 : wc.cell? ⟨gb464, 2, none⟩ = some (.slice none 0 0) := (kC BK464.out 2).trans rfl
    have hcz15_3 : wc.cell? ⟨gb464, 3, none⟩ = some (.int .i64 0) := (kC BK464.out 3).trans rfl
    have hfz15_0 := kF BK464.out 0
    have hfz15_1 := kF BK464.out 1
    have hfz15_2 := kF BK464.out 2
    have hfz15_3 := kF BK464.out 3
    go_wp2
    refine bodyPost_ret (results_ct rfl _ _ gb464 26 #[.slice none 0 0, .slice none 0 0, .slice none 0 0, .int .i64 0] (0, 0) _ rfl (by (with_reducible repeat (first | refine kN ?_ _ | refine kD ?_ | refine kA ?_ _)); refine kP (cs := #[.slice none 0 0, .slice none 0 0, .slice none 0 0, .int .i64 0]) ?_ 3 _ rfl; (with_reducible repeat (first | refine kN ?_ _ | refine kD ?_ | refine kA ?_ _)); refine kP (cs := #[.slice none 0 0, .slice none 0 0, .slice none 0 0, .int .i64 0]) ?_ 2 _ rfl; (with_reducible repeat (first | refine kN ?_ _ | refine kD ?_ | refine kA ?_ _)); refine kP (cs := #[.slice none 0 0, .slice none 0 0, .slice none 0 0, .int .i64 0]) ?_ 1 _ rfl; (with_reducible repeat (first | refine kN ?_ _ | refine kD ?_ | refine kA ?_ _)); refine kP (cs := #[.slice none 0 0, .slice none 0 0, .slice none 0 0, .int .i64 0]) ?_ 0 _ rfl; (with_reducible repeat (first | refine kN ?_ _ | refine kD ?_ | refine kA ?_ _)); exact BK464.out) Try.underlying26 rfl (by kernel_rfl)) rfl ?_
    exact ⟨_, _, _, by first | rfl | (simp [wN, wS] <;> rfl) | (simp [*, wN, wS] <;> rfl), by first | exact Kd.S_nil _ _ _ _ _ | exact Kd.N_nil _ _ _ _ _ | exact Kd.V_nil _ _ _ _ _ | exact Kd.Q_nil _ _ _ _ _ | exact Kd.R_nil _ _ _ _ _, by first | exact Kd.R_nil _ _ _ _ _ | exact Kd.N_nil _ _ _ _ _ | exact Kd.V_nil _ _ _ _ _ | exact Kd.Q_nil _ _ _ _ _ | exact Kd.S_nil _ _ _ _ _, by first | exact Kd.R_nil _ _ _ _ _ | exact Kd.N_nil _ _ _ _ _ | exact Kd.V_nil _ _ _ _ _ | exact Kd.Q_nil _ _ _ _ _ | exact Kd.S_nil _ _ _ _ _, by repeat (first | (with_reducible first | exact HB.out | apply bA | apply bN | apply bD | refine bS ?_ (I6.ge HI465.out) | refine bS ?_ GE464.out) | exact HB.out)⟩
   replace c13 := Bool.eq_false_iff.mpr c13
   subst c13
   have H1 : ((zO.f l0 t473 t474).bind fun bt475 => ((zO.f l0 bt475.2.1 bt475.2.2).bind fun bt479 => (zD.l0 kj4 l0 bt479.1 0 l0 bt479.2.1 bt479.2.2 ([] : List Int) bt475.1))) = some (r1, r2, r3, r4, r5) := by rw [if_neg (show ¬ (false = true) by decide)] at H; exact H
   clear H
   have H := H1
   clear H1
   replace H := Option.bind_eq_some_iff.mp H
   obtain ⟨⟨t475, t476, t477⟩, A160, H⟩ := H
   replace H : ((zO.f l0 t476 t477).bind fun bt479 => (zD.l0 kj4 l0 bt479.1 0 l0 bt479.2.1 bt479.2.2 ([] : List Int) t475)) = some (r1, r2, r3, r4, r5) := H
   have A16 := Aside0.mk A160
   clear A160
   replace H := Option.bind_eq_some_iff.mp H
   obtain ⟨⟨t479, t480, t481⟩, A170, H⟩ := H
   replace H : (zD.l0 kj4 l0 t479 0 l0 t480 t481 ([] : List Int) t475) = some (r1, r2, r3, r4, r5) := H
   have A17 := Aside0.mk A170
   clear A170
   have H' := Aside0.mk H
   clear H
   go_wp2_with (first | ((with_reducible refine gate_callee (f := 34) rfl ?_); refine goesL_ (some 47) rfl rfl Try.func34 (by kernel_rfl) rfl #[.pointer (some ⟨gb465, 0, none⟩)] rfl (by (try simp only [List.map_toArray, List.map_cons, List.map_nil]); first | done | rfl | (simp only [List.length_drop, List.length_take]; rfl)) ?_; (with_reducible refine (zO.calls gb465 l0 t473 t474 t475 t476 t477 w _ ?side1 ?side2 A16.out).mono ?_); (case side1 => repeat (first | (with_reducible first | exact HI465.out | apply I6.alloc | apply I6.drewN | apply I6.drew | apply I6.set_1 | apply I6.set_2 | refine I6.far ?_ NB465_464.out _) | exact HI465.out)); (case side2 => repeat (first | (with_reducible first | exact HB.out | apply bA | apply bN | apply bD | refine bS ?_ (I6.ge HI465.out) | refine bS ?_ GE464.out) | exact HB.out)); rintro e w18 ⟨rfl, hi, hb, hk⟩; refine ⟨_, rfl, ?_⟩; have n0_ := Aside0.mk (KeepBut.blk hk (g' := gb464) (o := .cells #[.slice none 0 0, .slice none 0 0, .slice none 0 0, .int .i64 0] 26 (0, 0)) (by (with_reducible repeat (first | refine kN ?_ _ | refine kD ?_ | refine kA ?_ _)); exact BK464.out) NB464_465.out (by simp)); have n1_ := Aside0.mk (hb); have n2_ := Aside0.mk (hi); clear BK464; clear HB; clear HI465; have BK464 := n0_; have HB := n1_; have HI465 := n2_; clear n0_ n1_ n2_; (try clear hb); (try clear hb2); (try clear hk); (try clear hi)) | ((with_reducible refine gate_dst (N := 8) rfl ?_); (try (refine gate_guard (by rfl) ?_; dsimp only)); refine box_event ?hg (N := 8) ?hd (cs := #[.slice none 0 0, .slice none 0 0, .slice none 0 0, .int .i64 0]) (t := 26) ?hr ?_; (case hd => rfl); (case hg => rfl); (case hr => first | (go_simp; done) | (go_simp; rfl)); intro gb478 hg w19 hbox hb; have n0_ := Aside0.mk (kB (g := gb464) (o := .cells #[.slice none 0 0, .slice none 0 0, .slice none 0 0, .int .i64 0] 26 (0, 0)) (by (with_reducible repeat (first | refine kN ?_ _ | refine kD ?_ | refine kA ?_ _)); exact BK464.out) hb); have n1_ := Aside0.mk (I6.below (by repeat (first | (with_reducible first | exact HI465.out | apply I6.alloc | apply I6.drewN | apply I6.drew | apply I6.set_1 | apply I6.set_2 | refine I6.far ?_ NB465_464.out _) | exact HI465.out)) hb); have n2_ := Aside0.mk (bT (by repeat (first | (with_reducible first | exact HB.out | apply bA | apply bN | apply bD | refine bS ?_ (I6.ge HI465.out) | refine bS ?_ GE464.out) | exact HB.out)) hb); have n3_ := Aside0.mk (hbox); have n4_ := Aside0.mk ((by rw [hg]; exact (bZ (by repeat (first | (with_reducible first | exact HB.out | apply bA | apply bN | apply bD | refine bS ?_ (I6.ge HI465.out) | refine bS ?_ GE464.out) | exact HB.out))) : w.heap.size ≤ gb478)); have n5_ := Aside0.mk ((by rw [hg]; exact (bZ (by repeat (first | (with_reducible first | exact HB.out | apply bA | apply bN | apply bD | refine bS ?_ (I6.ge HI465.out) | refine bS ?_ GE464.out) | exact HB.out))) : w.heap.size ≤ gb478)); have n6_ := Aside0.mk ((by rw [hg]; exact Nat.ne_of_lt (blk_lt (g := gb464) (o := .cells #[.slice none 0 0, .slice none 0 0, .slice none 0 0, .int .i64 0] 26 (0, 0)) (by (with_reducible repeat (first | refine kN ?_ _ | refine kD ?_ | refine kA ?_ _)); exact BK464.out)) : gb464 ≠ gb478)); have n7_ := Aside0.mk ((by rw [hg]; exact Nat.ne_of_gt (blk_lt (g := gb464) (o := .cells #[.slice none 0 0, .slice none 0 0, .slice none 0 0, .int .i64 0] 26 (0, 0)) (by (with_reducible repeat (first | refine kN ?_ _ | refine kD ?_ | refine kA ?_ _)); exact BK464.out)) : gb478 ≠ gb464)); have n8_ := Aside0.mk ((by rw [hg]; exact Nat.ne_of_lt (I6.lt (show I6 w _ gb465 l0 t476 t477 from by repeat (first | (with_reducible first | exact HI465.out | apply I6.alloc | apply I6.drewN | apply I6.drew | apply I6.set_1 | apply I6.set_2 | refine I6.far ?_ NB465_464.out _) | exact HI465.out))) : gb465 ≠ gb478)); have n9_ := Aside0.mk ((by rw [hg]; exact Nat.ne_of_gt (I6.lt (show I6 w _ gb465 l0 t476 t477 from by repeat (first | (with_reducible first | exact HI465.out | apply I6.alloc | apply I6.drewN | apply I6.drew | apply I6.set_1 | apply I6.set_2 | refine I6.far ?_ NB465_464.out _) | exact HI465.out))) : gb478 ≠ gb465)); clear BK464; clear HI465; clear HB; have BK464 := n0_; have HI465 := n1_; have HB := n2_; have BK478 := n3_; have GW478 := n4_; have GE478 := n5_; have NB464_478 := n6_; have NB478_464 := n7_; have NB465_478 := n8_; have NB478_465 := n9_; clear n0_ n1_ n2_ n3_ n4_ n5_ n6_ n7_ n8_ n9_; clear hb hbox hg; have hnb20 := NB478_464.out; have hnc20 := NB464_478.out; have hnb21 := NB478_465.out; have hnc21 := NB465_478.out; have hcz22_0 : w19.cell? ⟨gb478, 0, none⟩ = some (.slice none 0 0) := (kC BK478.out 0).trans rfl; have hcz22_1 : w19.cell? ⟨gb478, 1, none⟩ = some (.slice none 0 0) := (kC BK478.out 1).trans rfl; have hcz22_2 : w19.cell? ⟨gb478, 2, none⟩ = some (.slice none 0 0) := (kC BK478.out 2).trans rfl; have hcz22_3 : w19.cell? ⟨gb478, 3, none⟩ = some (.int .i64 0) := (kC BK478.out 3).trans rfl; have hfz22_0 := kF BK478.out 0; have hfz22_1 := kF BK478.out 1; have hfz22_2 := kF BK478.out 2; have hfz22_3 := kF BK478.out 3) | ((with_reducible refine gate_callee (f := 34) rfl ?_); refine goesL_ (some 50) rfl rfl Try.func34 (by kernel_rfl) rfl #[.pointer (some ⟨gb465, 0, none⟩)] rfl (by (try simp only [List.map_toArray, List.map_cons, List.map_nil]); first | done | rfl | (simp only [List.length_drop, List.length_take]; rfl)) ?_; (with_reducible refine (zO.calls gb465 l0 t476 t477 t479 t480 t481 w _ ?side1 ?side2 A17.out).mono ?_); (case side1 => repeat (first | (with_reducible first | exact HI465.out | apply I6.alloc | apply I6.drewN | apply I6.drew | apply I6.set_1 | apply I6.set_2 | refine I6.far ?_ NB465_464.out _ | refine I6.far ?_ NB465_478.out _) | exact HI465.out)); (case side2 => repeat (first | (with_reducible first | exact HB.out | apply bA | apply bN | apply bD | refine bS ?_ (I6.ge HI465.out) | refine bS ?_ GE464.out | refine bS ?_ GE478.out) | exact HB.out)); rintro e w23 ⟨rfl, hi, hb, hk⟩; refine ⟨_, rfl, ?_⟩; have n0_ := Aside0.mk (KeepBut.blk hk (g' := gb464) (o := .cells #[.slice none 0 0, .slice none 0 0, .slice none 0 0, .int .i64 0] 26 (0, 0)) (by (with_reducible repeat (first | refine kN ?_ _ | refine kD ?_ | refine kA ?_ _)); refine blk_far ?_ NB464_478.out _; (with_reducible repeat (first | refine kN ?_ _ | refine kD ?_ | refine kA ?_ _)); refine blk_far ?_ NB464_478.out _; (with_reducible repeat (first | refine kN ?_ _ | refine kD ?_ | refine kA ?_ _)); refine blk_far ?_ NB464_478.out _; (with_reducible repeat (first | refine kN ?_ _ | refine kD ?_ | refine kA ?_ _)); refine blk_far ?_ NB464_478.out _; (with_reducible repeat (first | refine kN ?_ _ | refine kD ?_ | refine kA ?_ _)); exact BK464.out) NB464_465.out (by simp)); have n1_ := Aside0.mk (KeepBut.blk hk (g' := gb478) (o := .cells #[.slice none 0 0, .slice none 0 0, .slice none 0 0, .int .i64 t475] 26 (0, 0)) (by (with_reducible repeat (first | refine kN ?_ _ | refine kD ?_ | refine kA ?_ _)); refine kP (cs := #[.slice none 0 0, .slice none 0 0, .slice none 0 0, .int .i64 0]) ?_ 3 _ rfl; (with_reducible repeat (first | refine kN ?_ _ | refine kD ?_ | refine kA ?_ _)); refine kP (cs := #[.slice none 0 0, .slice none 0 0, .slice none 0 0, .int .i64 0]) ?_ 2 _ rfl; (with_reducible repeat (first | refine kN ?_ _ | refine kD ?_ | refine kA ?_ _)); refine kP (cs := #[.slice none 0 0, .slice none 0 0, .slice none 0 0, .int .i64 0]) ?_ 1 _ rfl; (with_reducible repeat (first | refine kN ?_ _ | refine kD ?_ | refine kA ?_ _)); refine kP (cs := #[.slice none 0 0, .slice none 0 0, .slice none 0 0, .int .i64 0]) ?_ 0 _ rfl; (with_reducible repeat (first | refine kN ?_ _ | refine kD ?_ | refine kA ?_ _)); exact BK478.out) NB478_465.out (by simp)); have n2_ := Aside0.mk (hb); have n3_ := Aside0.mk (hi); clear BK464; clear BK478; clear HB; clear HI465; have BK464 := n0_; have BK478 := n1_; have HB := n2_; have HI465 := n3_; clear n0_ n1_ n2_ n3_; (try clear hb); (try clear hb2); (try clear hk); (try clear hi)))
   go_loopg [10] kj4 (fun kq v10 w' => ∃ (x10_2 : Int) (x466001_2 : Int) (x466002_2 : Bool) (x479001_2 : List Int) (u479001 : Value), v10 = .int .i64 x10_2 ∧ Aside0 (zD.l0 kq l0 t479 x10_2 l0 x466001_2 x466002_2 x479001_2 t475 = some (r1, r2, r3, r4, r5)) ∧ Aside0 (kq ≤ kj4) ∧ Aside0 (Kd.R (Kd.int .i64) 3 w' w.heap.size (fun _ => True) u479001 x479001_2) ∧ Aside0 (w'.heap[gb464]? = some (.cells #[(.slice none 0 0), (.slice none 0 0), (.slice none 0 0), .int .i64 0] 26 (0, 0))) ∧ Aside0 (w'.heap[gb478]? = some (.cells #[(.slice none 0 0), u479001, (.slice none 0 0), .int .i64 t475] 26 (0, 0))) ∧ Aside0 (I6 w w' gb465 l0 x466001_2 x466002_2) ∧ Aside0 (Below w.heap.size w w'))
   case atStart => exact ⟨(0), (t480), (t481), (([] : List Int)), (.slice none 0 0), (by first | rfl | (simp; done) | (simp [*]; done)), H', ⟨Nat.le_refl _⟩, ⟨by first | exact Kd.R_nil _ _ _ _ _ | exact Kd.N_nil _ _ _ _ _ | exact Kd.V_nil _ _ _ _ _ | exact Kd.Q_nil _ _ _ _ _ | exact Kd.S_nil _ _ _ _ _⟩, ⟨by (with_reducible repeat (first | refine kN ?_ _ | refine kD ?_ | refine kA ?_ _)); exact BK464.out⟩, ⟨by (with_reducible repeat (first | refine kN ?_ _ | refine kD ?_ | refine kA ?_ _)); exact BK478.out⟩, ⟨by repeat (first | (with_reducible first | exact HI465.out | apply I6.alloc | apply I6.drewN | apply I6.drew | apply I6.set_1 | apply I6.set_2 | refine I6.far ?_ NB465_464.out _ | refine I6.far ?_ NB465_478.out _) | exact HI465.out)⟩, ⟨by repeat (first | (with_reducible first | exact HB.out | apply bA | apply bN | apply bD | refine bS ?_ (I6.ge HI465.out) | refine bS ?_ GE464.out | refine bS ?_ GE478.out) | exact HB.out)⟩⟩
   case round =>
    clear H'
    try clear hcz22_0
    try clear hcz22_1
    try clear hcz22_2
    try clear hcz22_3
    try clear hfz22_0
    try clear hfz22_1
    try clear hfz22_2
    try clear hfz22_3
    obtain ⟨x10_2, x466001_2, x466002_2, x479001_2, u479001, rfl, HA, HK2, HO_479001, BK464, BK478, HI465, HB⟩ := hrel
    cases gk with
    | zero => exact absurd HA.out (by simp [zD.l0])
    | succ k2 =>
     have H := HA.out
     clear HA
     simp only [zD.l0] at H
     by_cases c24 : x10_2 < t479
     ·rw [if_pos c24] at H
      have c24b0 : decide (x10_2 < t479) = true := decide_eq_true c24
      clear c24
      have H' := Aside0.mk H
      clear H
      go_wp2
      go_loopg [11, 12, 13] k2 (fun kq v11 v12 v13 w' => ∃ (x11_3 : Int) (x12_3 : Int) (x13_3 : Int) (x466001_3 : Int) (x466002_3 : Bool), v11 = .int .i64 x11_3 ∧ v12 = .int .i64 x12_3 ∧ v13 = .int .i64 x13_3 ∧ Aside0 (zD.l1 kq l0 t479 x10_2 x11_3 x12_3 x13_3 l0 x466001_3 x466002_3 x479001_2 t475 = some (r1, r2, r3, r4, r5)) ∧ Aside0 (kq ≤ k2) ∧ Aside0 (Kd.R (Kd.int .i64) 3 w' w.heap.size (fun _ => True) u479001 x479001_2) ∧ Aside0 (w'.heap[gb464]? = some (.cells #[(.slice none 0 0), (.slice none 0 0), (.slice none 0 0), .int .i64 0] 26 (0, 0))) ∧ Aside0 (w'.heap[gb478]? = some (.cells #[(.slice none 0 0), u479001, (.slice none 0 0), .int .i64 t475] 26 (0, 0))) ∧ Aside0 (I6 w w' gb465 l0 x466001_3 x466002_3) ∧ Aside0 (Below w.heap.size w w'))
      case atStart => exact ⟨(0), (1), (0), (x466001_2), (x466002_2), (by first | rfl | (simp; done) | (simp [*]; done)), (by first | rfl | (simp; done) | (simp [*]; done)), (by first | rfl | (simp; done) | (simp [*]; done)), H', ⟨Nat.le_refl _⟩, ⟨by (with_reducible repeat (first | apply Kd.R_alloc | apply Kd.R_drewN | apply Kd.R_drew)); exact HO_479001.out⟩, ⟨by (with_reducible repeat (first | refine kN ?_ _ | refine kD ?_ | refine kA ?_ _)); exact BK464.out⟩, ⟨by (with_reducible repeat (first | refine kN ?_ _ | refine kD ?_ | refine kA ?_ _)); exact BK478.out⟩, ⟨by repeat (first | (with_reducible first | exact HI465.out | apply I6.alloc | apply I6.drewN | apply I6.drew | apply I6.set_1 | apply I6.set_2 | refine I6.far ?_ NB465_464.out _ | refine I6.far ?_ NB465_478.out _) | exact HI465.out)⟩, ⟨by repeat (first | (with_reducible first | exact HB.out | apply bA | apply bN | apply bD | refine bS ?_ (I6.ge HI465.out) | refine bS ?_ GE464.out | refine bS ?_ GE478.out) | exact HB.out)⟩⟩
      case round =>
       clear H'
       try clear c24b0
       obtain ⟨x11_3, x12_3, x13_3, x466001_3, x466002_3, rfl, rfl, rfl, HA, HK3, HO_479001, BK464, BK478, HI465, HB⟩ := hrel
       cases gk with
       | zero => exact absurd HA.out (by simp [zD.l1])
       | succ k3 =>
        have H := HA.out
        clear HA
        simp only [zD.l1] at H
        by_cases c25 : x13_3 < 7
        ·rw [if_pos c25] at H
         have c25b0 : decide (x13_3 < 7) = true := decide_eq_true c25
         clear c25
         replace H := Option.bind_eq_some_iff.mp H
         obtain ⟨⟨t482, t483, t484⟩, A260, H⟩ := H
         replace H : (zD.l1 k3 l0 t479 x10_2 (wrap64 (x11_3 + (wrap64 (t482 * x12_3)))) (wrap64 (x12_3 * 256)) (wrap64 (x13_3 + 1)) l0 t483 t484 x479001_2 t475) = some (r1, r2, r3, r4, r5) := H
         have A26 := Aside0.mk A260
         clear A260
         have H' := Aside0.mk H
         clear H
         go_wp2_with (first | ((with_reducible refine gate_callee (f := 34) rfl ?_); refine goesL_ (some 62) rfl rfl Try.func34 (by kernel_rfl) rfl #[.pointer (some ⟨gb465, 0, none⟩)] rfl (by (try simp only [List.map_toArray, List.map_cons, List.map_nil]); first | done | rfl | (simp only [List.length_drop, List.length_take]; rfl)) ?_; (with_reducible refine (zO.calls gb465 l0 x466001_3 x466002_3 t482 t483 t484 w _ ?side1 ?side2 A26.out).mono ?_); (case side1 => repeat (first | (with_reducible first | exact HI465.out | apply I6.alloc | apply I6.drewN | apply I6.drew | apply I6.set_1 | apply I6.set_2 | refine I6.far ?_ NB465_464.out _ | refine I6.far ?_ NB465_478.out _) | exact HI465.out)); (case side2 => repeat (first | (with_reducible first | exact HB.out | apply bA | apply bN | apply bD | refine bS ?_ (I6.ge HI465.out) | refine bS ?_ GE464.out | refine bS ?_ GE478.out) | exact HB.out)); rintro e w27 ⟨rfl, hi, hb, hk⟩; refine ⟨_, rfl, ?_⟩; have n0_ := Aside0.mk (Kd.R_mono (Kd.R_keep (I6.apart (show I6 w _ gb465 l0 x466001_3 x466002_3 from by repeat (first | (with_reducible first | exact HI465.out | apply I6.alloc | apply I6.drewN | apply I6.drew | apply I6.set_1 | apply I6.set_2 | refine I6.far ?_ NB465_464.out _ | refine I6.far ?_ NB465_478.out _) | exact HI465.out)) (by (with_reducible repeat (first | apply Kd.R_alloc | apply Kd.R_drewN | apply Kd.R_drew)); exact HO_479001.out) (by decide)) hk (fun _ h => h.2)) (fun _ h => h.1)); have n1_ := Aside0.mk (KeepBut.blk hk (g' := gb464) (o := .cells #[.slice none 0 0, .slice none 0 0, .slice none 0 0, .int .i64 0] 26 (0, 0)) (by (with_reducible repeat (first | refine kN ?_ _ | refine kD ?_ | refine kA ?_ _)); exact BK464.out) NB464_465.out (by simp)); have n2_ := Aside0.mk (KeepBut.blk hk (g' := gb478) (o := .cells #[.slice none 0 0, u479001, .slice none 0 0, .int .i64 t475] 26 (0, 0)) (by (with_reducible repeat (first | refine kN ?_ _ | refine kD ?_ | refine kA ?_ _)); exact BK478.out) NB478_465.out (by simp)); have n3_ := Aside0.mk (hb); have n4_ := Aside0.mk (hi); clear HO_479001; clear BK464; clear BK478; clear HB; clear HI465; have HO_479001 := n0_; have BK464 := n1_; have BK478 := n2_; have HB := n3_; have HI465 := n4_; clear n0_ n1_ n2_ n3_ n4_; (try clear hb); (try clear hb2); (try clear hk); (try clear hi)))
         go_roundg k3
         case measure => have := HJ4.out; have := HK2.out; have := HK3.out; omega
         case rel => exact ⟨(wrap64 (x11_3 + (wrap64 (t482 * x12_3)))), (wrap64 (x12_3 * 256)), (wrap64 (x13_3 + 1)), (t483), (t484), (by first | rfl | (simp; done) | (simp [*]; done)), (by first | rfl | (simp; done) | (simp [*]; done)), (by first | rfl | (simp; done) | (simp [*]; done)), H', ⟨by have := HJ4.out; have := HK2.out; have := HK3.out; omega⟩, ⟨by (with_reducible repeat (first | apply Kd.R_alloc | apply Kd.R_drewN | apply Kd.R_drew)); exact HO_479001.out⟩, ⟨by (with_reducible repeat (first | refine kN ?_ _ | refine kD ?_ | refine kA ?_ _)); exact BK464.out⟩, ⟨by (with_reducible repeat (first | refine kN ?_ _ | refine kD ?_ | refine kA ?_ _)); exact BK478.out⟩, ⟨by repeat (first | (with_reducible first | exact HI465.out | apply I6.alloc | apply I6.drewN | apply I6.drew | apply I6.set_1 | apply I6.set_2 | refine I6.far ?_ NB465_464.out _ | refine I6.far ?_ NB465_478.out _) | exact HI465.out)⟩, ⟨by repeat (first | (with_reducible first | exact HB.out | apply bA | apply bN | apply bD | refine bS ?_ (I6.ge HI465.out) | refine bS ?_ GE464.out | refine bS ?_ GE478.out) | exact HB.out)⟩⟩
        rw [if_neg c25] at H
        have c25b0 : decide (x13_3 < 7) = false := decide_eq_false c25
        clear c25
        replace H := Option.bind_eq_some_iff.mp H
        obtain ⟨⟨t485, t486, t487⟩, A280, H⟩ := H
        replace H : (if t485 > 127 then (if x479001_2.length < 17592186044416 then (zD.l0 k3 l0 t479 (wrap64 (x10_2 + 1)) l0 t486 t487 (x479001_2 ++ [wrap64 (x11_3 + (wrap64 ((wrap64 (t485 - 256)) * x12_3)))]) t475) else (none)) else (if x479001_2.length < 17592186044416 then (zD.l0 k3 l0 t479 (wrap64 (x10_2 + 1)) l0 t486 t487 (x479001_2 ++ [wrap64 (x11_3 + (wrap64 (t485 * x12_3)))]) t475) else (none))) = some (r1, r2, r3, r4, r5) := H
        have A28 := Aside0.mk A280
        clear A280
        by_cases c29 : t485 > 127
        ·rw [if_pos c29] at H
         have c29b0 : decide (127 < t485) = true := decide_eq_true c29
         clear c29
         by_cases c30 : x479001_2.length < 17592186044416
         ·rw [if_pos c30] at H
          have LMc30 := Aside0.mk c30
          clear c30
          obtain ⟨y488, hy488⟩ : ∃ y_ : List Int, y_ = (x479001_2 ++ [wrap64 (x11_3 + (wrap64 ((wrap64 (t485 - 256)) * x12_3)))]) := ⟨_, rfl⟩
          replace H : (zD.l0 k3 l0 t479 (wrap64 (x10_2 + 1)) l0 t486 t487 y488 t475) = some (r1, r2, r3, r4, r5) := by first | (rw [hy488]; with_reducible exact H) | (have H2_ := (Option.bind_some _ _).symm.trans H; rw [hy488]; with_reducible exact H2_) | (have H2_ := (Option.bind_some _ _).symm.trans H; with_reducible exact H2_) | with_reducible exact H | (rw [hy488]; exact H) | exact H
          have Ny488 := Aside0.mk hy488
          clear hy488
          have H' := Aside0.mk H
          clear H
          go_wp2_with (first | ((with_reducible refine gate_callee (f := 34) rfl ?_); refine goesL_ (some 69) rfl rfl Try.func34 (by kernel_rfl) rfl #[.pointer (some ⟨gb465, 0, none⟩)] rfl (by (try simp only [List.map_toArray, List.map_cons, List.map_nil]); first | done | rfl | (simp only [List.length_drop, List.length_take]; rfl)) ?_; (with_reducible refine (zO.calls gb465 l0 x466001_3 x466002_3 t485 t486 t487 w _ ?side1 ?side2 A28.out).mono ?_); (case side1 => repeat (first | (with_reducible first | exact HI465.out | apply I6.alloc | apply I6.drewN | apply I6.drew | apply I6.set_1 | apply I6.set_2 | refine I6.far ?_ NB465_464.out _ | refine I6.far ?_ NB465_478.out _) | exact HI465.out)); (case side2 => repeat (first | (with_reducible first | exact HB.out | apply bA | apply bN | apply bD | refine bS ?_ (I6.ge HI465.out) | refine bS ?_ GE464.out | refine bS ?_ GE478.out) | exact HB.out)); rintro e w31 ⟨rfl, hi, hb, hk⟩; refine ⟨_, rfl, ?_⟩; have n0_ := Aside0.mk (Kd.R_mono (Kd.R_keep (I6.apart (show I6 w _ gb465 l0 x466001_3 x466002_3 from by repeat (first | (with_reducible first | exact HI465.out | apply I6.alloc | apply I6.drewN | apply I6.drew | apply I6.set_1 | apply I6.set_2 | refine I6.far ?_ NB465_464.out _ | refine I6.far ?_ NB465_478.out _) | exact HI465.out)) (by (with_reducible repeat (first | apply Kd.R_alloc | apply Kd.R_drewN | apply Kd.R_drew)); exact HO_479001.out) (by decide)) hk (fun _ h => h.2)) (fun _ h => h.1)); have n1_ := Aside0.mk (KeepBut.blk hk (g' := gb464) (o := .cells #[.slice none 0 0, .slice none 0 0, .slice none 0 0, .int .i64 0] 26 (0, 0)) (by (with_reducible repeat (first | refine kN ?_ _ | refine kD ?_ | refine kA ?_ _)); exact BK464.out) NB464_465.out (by simp)); have n2_ := Aside0.mk (KeepBut.blk hk (g' := gb478) (o := .cells #[.slice none 0 0, u479001, .slice none 0 0, .int .i64 t475] 26 (0, 0)) (by (with_reducible repeat (first | refine kN ?_ _ | refine kD ?_ | refine kA ?_ _)); exact BK478.out) NB478_465.out (by simp)); have n3_ := Aside0.mk (hb); have n4_ := Aside0.mk (hi); clear HO_479001; clear BK464; clear BK478; clear HB; clear HI465; have HO_479001 := n0_; have BK464 := n1_; have BK478 := n2_; have HB := n3_; have HI465 := n4_; clear n0_ n1_ n2_ n3_ n4_; (try clear hb); (try clear hb2); (try clear hk); (try clear hi); have hnb32 := NB478_464.out; have hnc32 := NB464_478.out; have hnb33 := NB478_465.out; have hnc33 := NB465_478.out; have hcz34_0 : w31.cell? ⟨gb478, 0, none⟩ = some (.slice none 0 0) := (kC BK478.out 0).trans rfl; have hcz34_1 : w31.cell? ⟨gb478, 1, none⟩ = some (u479001) := (kC BK478.out 1).trans rfl; have hcz34_2 : w31.cell? ⟨gb478, 2, none⟩ = some (.slice none 0 0) := (kC BK478.out 2).trans rfl; have hcz34_3 : w31.cell? ⟨gb478, 3, none⟩ = some (.int .i64 t475) := (kC BK478.out 3).trans rfl; have hfz34_0 := kF BK478.out 0; have hfz34_1 := kF BK478.out 1; have hfz34_2 := kF BK478.out 2; have hfz34_3 := kF BK478.out 3) | ((with_reducible refine gate_builtin (b := .append) (xs := #[.tmp 75, .tmp 81]) rfl ?_); (try (refine gate_guard (by rfl) ?_; dsimp only)); at_builtin; refine Kd.R_append (Kd.int .i64) (w0 := w) w.heap.size rfl (.tmp 75) (.tmp 81) 23 3 (.int .i64 0) 8 rfl Try.underlying23 info3 rfl (by decide) (by omega) u479001 x479001_2 (wrap64 (x11_3 + (wrap64 ((wrap64 (t485 - 256)) * x12_3)))) [.int .i64 (wrap64 (x11_3 + (wrap64 ((wrap64 (t485 - 256)) * x12_3))))] (fun _ => True) (fun _ => False) rfl rfl ?aP (fun _ hk => hk.elim) ?aF ?aO ?aB ?aS ?aL ?_; (case aP => exact rfl); (case aB => exact (by repeat (first | (with_reducible first | exact HB.out | apply bA | apply bN | apply bD | refine bS ?_ (I6.ge HI465.out) | refine bS ?_ GE464.out | refine bS ?_ GE478.out) | exact HB.out))); (case aF => exact (fun _ _ => trivial)); (case aO => exact (by (with_reducible repeat (first | apply Kd.R_alloc | apply Kd.R_drewN | apply Kd.R_drew)); exact HO_479001.out)); (case aS => exact (bZ (by repeat (first | (with_reducible first | exact HB.out | apply bA | apply bN | apply bD | refine bS ?_ (I6.ge HI465.out) | refine bS ?_ GE464.out | refine bS ?_ GE478.out) | exact HB.out)))); (case aL => have := LMc30.out; omega); intro v489 w35 ho hb hg hat; rw [← Ny488.out] at ho; have n0_ := Aside0.mk (blk_grown (g := gb464) (o := .cells #[.slice none 0 0, .slice none 0 0, .slice none 0 0, .int .i64 0] 26 (0, 0)) (by (with_reducible repeat (first | refine kN ?_ _ | refine kD ?_ | refine kA ?_ _)); exact BK464.out) hg (Kd.R_ne HO_479001.out BK464.out (by decide))); have n1_ := Aside0.mk (blk_grown (g := gb478) (o := .cells #[.slice none 0 0, u479001, .slice none 0 0, .int .i64 t475] 26 (0, 0)) (by (with_reducible repeat (first | refine kN ?_ _ | refine kD ?_ | refine kA ?_ _)); exact BK478.out) hg (Kd.R_ne HO_479001.out BK478.out (by decide))); have n2_ := Aside0.mk (I6.grown (by repeat (first | (with_reducible first | exact HI465.out | apply I6.alloc | apply I6.drewN | apply I6.drew | apply I6.set_1 | apply I6.set_2 | refine I6.far ?_ NB465_464.out _ | refine I6.far ?_ NB465_478.out _) | exact HI465.out)) hg (I6.own_ne HI465.out HO_479001.out (by decide))); have n3_ := Aside0.mk (hb); have n4_ := Aside0.mk (ho); clear BK464; clear BK478; clear HI465; clear HB; clear HO_479001; have BK464 := n0_; have BK478 := n1_; have HI465 := n2_; have HB := n3_; have HO490 := n4_; clear n0_ n1_ n2_ n3_ n4_; clear ho hb hg hat; obtain ⟨Ao36, co36, eo36⟩ := Kd.R_slice HO490.out; subst eo36; have hcz37_0 : w35.cell? ⟨gb478, 0, none⟩ = some (.slice none 0 0) := (kC BK478.out 0).trans rfl; have hcz37_1 : w35.cell? ⟨gb478, 1, none⟩ = some (u479001) := (kC BK478.out 1).trans rfl; have hcz37_2 : w35.cell? ⟨gb478, 2, none⟩ = some (.slice none 0 0) := (kC BK478.out 2).trans rfl; have hcz37_3 : w35.cell? ⟨gb478, 3, none⟩ = some (.int .i64 t475) := (kC BK478.out 3).trans rfl; have hfz37_0 := kF BK478.out 0; have hfz37_1 := kF BK478.out 1; have hfz37_2 := kF BK478.out 2; have hfz37_3 := kF BK478.out 3))
          go_roundg k3
          case measure => have := HJ4.out; have := HK2.out; have := HK3.out; omega
          case rel => exact ⟨(wrap64 (x10_2 + 1)), (t486), (t487), (y488), (.slice Ao36 y488.length co36), (by first | rfl | (simp; done) | (simp [*]; done)), H', ⟨by have := HJ4.out; have := HK2.out; have := HK3.out; omega⟩, ⟨by (with_reducible repeat (first | apply Kd.R_alloc | apply Kd.R_drewN | apply Kd.R_drew)); exact Kd.R_mono (Kd.R_far (p := ⟨gb478, 1, none⟩) (Kd.R_types HO490.out BK478.out (by decide)) (fun _ hk => hk.2) (.slice Ao36 y488.length co36)) (fun _ hk => trivial)⟩, ⟨by (with_reducible repeat (first | refine kN ?_ _ | refine kD ?_ | refine kA ?_ _)); refine blk_far ?_ NB464_478.out _; (with_reducible repeat (first | refine kN ?_ _ | refine kD ?_ | refine kA ?_ _)); exact BK464.out⟩, ⟨by (with_reducible repeat (first | refine kN ?_ _ | refine kD ?_ | refine kA ?_ _)); refine kP (cs := #[.slice none 0 0, u479001, .slice none 0 0, .int .i64 t475]) ?_ 1 _ rfl; (with_reducible repeat (first | refine kN ?_ _ | refine kD ?_ | refine kA ?_ _)); exact BK478.out⟩, ⟨by repeat (first | (with_reducible first | exact HI465.out | apply I6.alloc | apply I6.drewN | apply I6.drew | apply I6.set_1 | apply I6.set_2 | refine I6.far ?_ NB465_464.out _ | refine I6.far ?_ NB465_478.out _) | exact HI465.out)⟩, ⟨by repeat (first | (with_reducible first | exact HB.out | apply bA | apply bN | apply bD | refine bS ?_ (I6.ge HI465.out) | refine bS ?_ GE464.out | refine bS ?_ GE478.out) | exact HB.out)⟩⟩
         rw [if_neg c30] at H
         exact absurd H (by simp)
        rw [if_neg c29] at H
        have c29b0 : decide (127 < t485) = false := decide_eq_false c29
        clear c29
        by_cases c38 : x479001_2.length < 17592186044416
        ·rw [if_pos c38] at H
         have LMc38 := Aside0.mk c38
         clear c38
         obtain ⟨y491, hy491⟩ : ∃ y_ : List Int, y_ = (x479001_2 ++ [wrap64 (x11_3 + (wrap64 (t485 * x12_3)))]) := ⟨_, rfl⟩
         replace H : (zD.l0 k3 l0 t479 (wrap64 (x10_2 + 1)) l0 t486 t487 y491 t475) = some (r1, r2, r3, r4, r5) := by first | (rw [hy491]; with_reducible exact H) | (have H2_ := (Option.bind_some _ _).symm.trans H; rw [hy491]; with_reducible exact H2_) | (have H2_ := (Option.bind_some _ _).symm.trans H; with_reducible exact H2_) | with_reducible exact H | (rw [hy491]; exact H) | exact H
         have Ny491 := Aside0.mk hy491
         clear hy491
         have H' := Aside0.mk H
         clear H
         go_wp2_with (first | ((with_reducible refine gate_callee (f := 34) rfl ?_); refine goesL_ (some 69) rfl rfl Try.func34 (by kernel_rfl) rfl #[.pointer (some ⟨gb465, 0, none⟩)] rfl (by (try simp only [List.map_toArray, List.map_cons, List.map_nil]); first | done | rfl | (simp only [List.length_drop, List.length_take]; rfl)) ?_; (with_reducible refine (zO.calls gb465 l0 x466001_3 x466002_3 t485 t486 t487 w _ ?side1 ?side2 A28.out).mono ?_); (case side1 => repeat (first | (with_reducible first | exact HI465.out | apply I6.alloc | apply I6.drewN | apply I6.drew | apply I6.set_1 | apply I6.set_2 | refine I6.far ?_ NB465_464.out _ | refine I6.far ?_ NB465_478.out _) | exact HI465.out)); (case side2 => repeat (first | (with_reducible first | exact HB.out | apply bA | apply bN | apply bD | refine bS ?_ (I6.ge HI465.out) | refine bS ?_ GE464.out | refine bS ?_ GE478.out) | exact HB.out)); rintro e w39 ⟨rfl, hi, hb, hk⟩; refine ⟨_, rfl, ?_⟩; have n0_ := Aside0.mk (Kd.R_mono (Kd.R_keep (I6.apart (show I6 w _ gb465 l0 x466001_3 x466002_3 from by repeat (first | (with_reducible first | exact HI465.out | apply I6.alloc | apply I6.drewN | apply I6.drew | apply I6.set_1 | apply I6.set_2 | refine I6.far ?_ NB465_464.out _ | refine I6.far ?_ NB465_478.out _) | exact HI465.out)) (by (with_reducible repeat (first | apply Kd.R_alloc | apply Kd.R_drewN | apply Kd.R_drew)); exact HO_479001.out) (by decide)) hk (fun _ h => h.2)) (fun _ h => h.1)); have n1_ := Aside0.mk (KeepBut.blk hk (g' := gb464) (o := .cells #[.slice none 0 0, .slice none 0 0, .slice none 0 0, .int .i64 0] 26 (0, 0)) (by (with_reducible repeat (first | refine kN ?_ _ | refine kD ?_ | refine kA ?_ _)); exact BK464.out) NB464_465.out (by simp)); have n2_ := Aside0.mk (KeepBut.blk hk (g' := gb478) (o := .cells #[.slice none 0 0, u479001, .slice none 0 0, .int .i64 t475] 26 (0, 0)) (by (with_reducible repeat (first | refine kN ?_ _ | refine kD ?_ | refine kA ?_ _)); exact BK478.out) NB478_465.out (by simp)); have n3_ := Aside0.mk (hb); have n4_ := Aside0.mk (hi); clear HO_479001; clear BK464; clear BK478; clear HB; clear HI465; have HO_479001 := n0_; have BK464 := n1_; have BK478 := n2_; have HB := n3_; have HI465 := n4_; clear n0_ n1_ n2_ n3_ n4_; (try clear hb); (try clear hb2); (try clear hk); (try clear hi); have hnb40 := NB478_464.out; have hnc40 := NB464_478.out; have hnb41 := NB478_465.out; have hnc41 := NB465_478.out; have hcz42_0 : w39.cell? ⟨gb478, 0, none⟩ = some (.slice none 0 0) := (kC BK478.out 0).trans rfl; have hcz42_1 : w39.cell? ⟨gb478, 1, none⟩ = some (u479001) := (kC BK478.out 1).trans rfl; have hcz42_2 : w39.cell? ⟨gb478, 2, none⟩ = some (.slice none 0 0) := (kC BK478.out 2).trans rfl; have hcz42_3 : w39.cell? ⟨gb478, 3, none⟩ = some (.int .i64 t475) := (kC BK478.out 3).trans rfl; have hfz42_0 := kF BK478.out 0; have hfz42_1 := kF BK478.out 1; have hfz42_2 := kF BK478.out 2; have hfz42_3 := kF BK478.out 3) | ((with_reducible refine gate_builtin (b := .append) (xs := #[.tmp 75, .tmp 81]) rfl ?_); (try (refine gate_guard (by rfl) ?_; dsimp only)); at_builtin; refine Kd.R_append (Kd.int .i64) (w0 := w) w.heap.size rfl (.tmp 75) (.tmp 81) 23 3 (.int .i64 0) 8 rfl Try.underlying23 info3 rfl (by decide) (by omega) u479001 x479001_2 (wrap64 (x11_3 + (wrap64 (t485 * x12_3)))) [.int .i64 (wrap64 (x11_3 + (wrap64 (t485 * x12_3))))] (fun _ => True) (fun _ => False) rfl rfl ?aP (fun _ hk => hk.elim) ?aF ?aO ?aB ?aS ?aL ?_; (case aP => exact rfl); (case aB => exact (by repeat (first | (with_reducible first | exact HB.out | apply bA | apply bN | apply bD | refine bS ?_ (I6.ge HI465.out) | refine bS ?_ GE464.out | refine bS ?_ GE478.out) | exact HB.out))); (case aF => exact (fun _ _ => trivial)); (case aO => exact (by (with_reducible repeat (first | apply Kd.R_alloc | apply Kd.R_drewN | apply Kd.R_drew)); exact HO_479001.out)); (case aS => exact (bZ (by repeat (first | (with_reducible first | exact HB.out | apply bA | apply bN | apply bD | refine bS ?_ (I6.ge HI465.out) | refine bS ?_ GE464.out | refine bS ?_ GE478.out) | exact HB.out)))); (case aL => have := LMc38.out; omega); intro v492 w43 ho hb hg hat; rw [← Ny491.out] at ho; have n0_ := Aside0.mk (blk_grown (g := gb464) (o := .cells #[.slice none 0 0, .slice none 0 0, .slice none 0 0, .int .i64 0] 26 (0, 0)) (by (with_reducible repeat (first | refine kN ?_ _ | refine kD ?_ | refine kA ?_ _)); exact BK464.out) hg (Kd.R_ne HO_479001.out BK464.out (by decide))); have n1_ := Aside0.mk (blk_grown (g := gb478) (o := .cells #[.slice none 0 0, u479001, .slice none 0 0, .int .i64 t475] 26 (0, 0)) (by (with_reducible repeat (first | refine kN ?_ _ | refine kD ?_ | refine kA ?_ _)); exact BK478.out) hg (Kd.R_ne HO_479001.out BK478.out (by decide))); have n2_ := Aside0.mk (I6.grown (by repeat (first | (with_reducible first | exact HI465.out | apply I6.alloc | apply I6.drewN | apply I6.drew | apply I6.set_1 | apply I6.set_2 | refine I6.far ?_ NB465_464.out _ | refine I6.far ?_ NB465_478.out _) | exact HI465.out)) hg (I6.own_ne HI465.out HO_479001.out (by decide))); have n3_ := Aside0.mk (hb); have n4_ := Aside0.mk (ho); clear BK464; clear BK478; clear HI465; clear HB; clear HO_479001; have BK464 := n0_; have BK478 := n1_; have HI465 := n2_; have HB := n3_; have HO493 := n4_; clear n0_ n1_ n2_ n3_ n4_; clear ho hb hg hat; obtain ⟨Ao44, co44, eo44⟩ := Kd.R_slice HO493.out; subst eo44; have hcz45_0 : w43.cell? ⟨gb478, 0, none⟩ = some (.slice none 0 0) := (kC BK478.out 0).trans rfl; have hcz45_1 : w43.cell? ⟨gb478, 1, none⟩ = some (u479001) := (kC BK478.out 1).trans rfl; have hcz45_2 : w43.cell? ⟨gb478, 2, none⟩ = some (.slice none 0 0) := (kC BK478.out 2).trans rfl; have hcz45_3 : w43.cell? ⟨gb478, 3, none⟩ = some (.int .i64 t475) := (kC BK478.out 3).trans rfl; have hfz45_0 := kF BK478.out 0; have hfz45_1 := kF BK478.out 1; have hfz45_2 := kF BK478.out 2; have hfz45_3 := kF BK478.out 3))
         go_roundg k3
         case measure => have := HJ4.out; have := HK2.out; have := HK3.out; omega
         case rel => exact ⟨(wrap64 (x10_2 + 1)), (t486), (t487), (y491), (.slice Ao44 y491.length co44), (by first | rfl | (simp; done) | (simp [*]; done)), H', ⟨by have := HJ4.out; have := HK2.out; have := HK3.out; omega⟩, ⟨by (with_reducible repeat (first | apply Kd.R_alloc | apply Kd.R_drewN | apply Kd.R_drew)); exact Kd.R_mono (Kd.R_far (p := ⟨gb478, 1, none⟩) (Kd.R_types HO493.out BK478.out (by decide)) (fun _ hk => hk.2) (.slice Ao44 y491.length co44)) (fun _ hk => trivial)⟩, ⟨by (with_reducible repeat (first | refine kN ?_ _ | refine kD ?_ | refine kA ?_ _)); refine blk_far ?_ NB464_478.out _; (with_reducible repeat (first | refine kN ?_ _ | refine kD ?_ | refine kA ?_ _)); exact BK464.out⟩, ⟨by (with_reducible repeat (first | refine kN ?_ _ | refine kD ?_ | refine kA ?_ _)); refine kP (cs := #[.slice none 0 0, u479001, .slice none 0 0, .int .i64 t475]) ?_ 1 _ rfl; (with_reducible repeat (first | refine kN ?_ _ | refine kD ?_ | refine kA ?_ _)); exact BK478.out⟩, ⟨by repeat (first | (with_reducible first | exact HI465.out | apply I6.alloc | apply I6.drewN | apply I6.drew | apply I6.set_1 | apply I6.set_2 | refine I6.far ?_ NB465_464.out _ | refine I6.far ?_ NB465_478.out _) | exact HI465.out)⟩, ⟨by repeat (first | (with_reducible first | exact HB.out | apply bA | apply bN | apply bD | refine bS ?_ (I6.ge HI465.out) | refine bS ?_ GE464.out | refine bS ?_ GE478.out) | exact HB.out)⟩⟩
        rw [if_neg c38] at H
        exact absurd H (by simp)
     rw [if_neg c24] at H
     have c24b0 : decide (x10_2 < t479) = false := decide_eq_false c24
     clear c24
     replace H := Option.bind_eq_some_iff.mp H
     obtain ⟨⟨t494, t495, t496⟩, A460, H⟩ := H
     replace H : (zD.l2 k2 l0 t494 0 l0 t495 t496 x479001_2 ([] : List ByteArray) t475) = some (r1, r2, r3, r4, r5) := H
     have A46 := Aside0.mk A460
     clear A460
     have H' := Aside0.mk H
     clear H
     go_wp2_with (first | ((with_reducible refine gate_callee (f := 34) rfl ?_); refine goesL_ (some 85) rfl rfl Try.func34 (by kernel_rfl) rfl #[.pointer (some ⟨gb465, 0, none⟩)] rfl (by (try simp only [List.map_toArray, List.map_cons, List.map_nil]); first | done | rfl | (simp only [List.length_drop, List.length_take]; rfl)) ?_; (with_reducible refine (zO.calls gb465 l0 x466001_2 x466002_2 t494 t495 t496 w _ ?side1 ?side2 A46.out).mono ?_); (case side1 => repeat (first | (with_reducible first | exact HI465.out | apply I6.alloc | apply I6.drewN | apply I6.drew | apply I6.set_1 | apply I6.set_2 | refine I6.far ?_ NB465_464.out _ | refine I6.far ?_ NB465_478.out _) | exact HI465.out)); (case side2 => repeat (first | (with_reducible first | exact HB.out | apply bA | apply bN | apply bD | refine bS ?_ (I6.ge HI465.out) | refine bS ?_ GE464.out | refine bS ?_ GE478.out) | exact HB.out)); rintro e w47 ⟨rfl, hi, hb, hk⟩; refine ⟨_, rfl, ?_⟩; have n0_ := Aside0.mk (Kd.R_mono (Kd.R_keep (I6.apart (show I6 w _ gb465 l0 x466001_2 x466002_2 from by repeat (first | (with_reducible first | exact HI465.out | apply I6.alloc | apply I6.drewN | apply I6.drew | apply I6.set_1 | apply I6.set_2 | refine I6.far ?_ NB465_464.out _ | refine I6.far ?_ NB465_478.out _) | exact HI465.out)) (by (with_reducible repeat (first | apply Kd.R_alloc | apply Kd.R_drewN | apply Kd.R_drew)); exact HO_479001.out) (by decide)) hk (fun _ h => h.2)) (fun _ h => h.1)); have n1_ := Aside0.mk (KeepBut.blk hk (g' := gb464) (o := .cells #[.slice none 0 0, .slice none 0 0, .slice none 0 0, .int .i64 0] 26 (0, 0)) (by (with_reducible repeat (first | refine kN ?_ _ | refine kD ?_ | refine kA ?_ _)); exact BK464.out) NB464_465.out (by simp)); have n2_ := Aside0.mk (KeepBut.blk hk (g' := gb478) (o := .cells #[.slice none 0 0, u479001, .slice none 0 0, .int .i64 t475] 26 (0, 0)) (by (with_reducible repeat (first | refine kN ?_ _ | refine kD ?_ | refine kA ?_ _)); exact BK478.out) NB478_465.out (by simp)); have n3_ := Aside0.mk (hb); have n4_ := Aside0.mk (hi); clear HO_479001; clear BK464; clear BK478; clear HB; clear HI465; have HO_479001 := n0_; have BK464 := n1_; have BK478 := n2_; have HB := n3_; have HI465 := n4_; clear n0_ n1_ n2_ n3_ n4_; (try clear hb); (try clear hb2); (try clear hk); (try clear hi)))
     go_loopg [15] k2 (fun kq v15 w' => ∃ (x15_3 : Int) (x466001_3 : Int) (x466002_3 : Bool) (x479002_3 : List ByteArray) (u479002 : Value), v15 = .int .i64 x15_3 ∧ Aside0 (zD.l2 kq l0 t494 x15_3 l0 x466001_3 x466002_3 x479001_2 x479002_3 t475 = some (r1, r2, r3, r4, r5)) ∧ Aside0 (kq ≤ k2) ∧ Aside0 (Kd.R (Kd.int .i64) 3 w' w.heap.size (fun _ => True) u479001 x479001_2) ∧ Aside0 (Kd.R Kd.string 9 w' w.heap.size (fun _ => True) u479002 x479002_3) ∧ Aside0 (w'.heap[gb464]? = some (.cells #[(.slice none 0 0), (.slice none 0 0), (.slice none 0 0), .int .i64 0] 26 (0, 0))) ∧ Aside0 (w'.heap[gb478]? = some (.cells #[(.slice none 0 0), u479001, u479002, .int .i64 t475] 26 (0, 0))) ∧ Aside0 (I6 w w' gb465 l0 x466001_3 x466002_3) ∧ Aside0 (Below w.heap.size w w'))
     case atStart => exact ⟨(0), (t495), (t496), (([] : List ByteArray)), (.slice none 0 0), (by first | rfl | (simp; done) | (simp [*]; done)), H', ⟨Nat.le_refl _⟩, ⟨by (with_reducible repeat (first | apply Kd.R_alloc | apply Kd.R_drewN | apply Kd.R_drew)); exact HO_479001.out⟩, ⟨by first | exact Kd.R_nil _ _ _ _ _ | exact Kd.N_nil _ _ _ _ _ | exact Kd.V_nil _ _ _ _ _ | exact Kd.Q_nil _ _ _ _ _ | exact Kd.S_nil _ _ _ _ _⟩, ⟨by (with_reducible repeat (first | refine kN ?_ _ | refine kD ?_ | refine kA ?_ _)); exact BK464.out⟩, ⟨by (with_reducible repeat (first | refine kN ?_ _ | refine kD ?_ | refine kA ?_ _)); exact BK478.out⟩, ⟨by repeat (first | (with_reducible first | exact HI465.out | apply I6.alloc | apply I6.drewN | apply I6.drew | apply I6.set_1 | apply I6.set_2 | refine I6.far ?_ NB465_464.out _ | refine I6.far ?_ NB465_478.out _) | exact HI465.out)⟩, ⟨by repeat (first | (with_reducible first | exact HB.out | apply bA | apply bN | apply bD | refine bS ?_ (I6.ge HI465.out) | refine bS ?_ GE464.out | refine bS ?_ GE478.out) | exact HB.out)⟩⟩
     case round =>
      clear H'
      try clear c24b0
      obtain ⟨x15_3, x466001_3, x466002_3, x479002_3, u479002, rfl, HA, HK3, HO_479001, HO_479002, BK464, BK478, HI465, HB⟩ := hrel
      cases gk with
      | zero => exact absurd HA.out (by simp [zD.l2])
      | succ k3 =>
       have H := HA.out
       clear HA
       simp only [zD.l2] at H
       by_cases c48 : x15_3 < t494
       ·rw [if_pos c48] at H
        have c48b0 : decide (x15_3 < t494) = true := decide_eq_true c48
        clear c48
        replace H := Option.bind_eq_some_iff.mp H
        obtain ⟨⟨t497, t498, t499⟩, A490, H⟩ := H
        replace H : (zD.l3 k3 l0 t494 x15_3 t497 ([] : List Int) 0 l0 t498 t499 x479001_2 x479002_3 t475) = some (r1, r2, r3, r4, r5) := H
        have A49 := Aside0.mk A490
        clear A490
        have H' := Aside0.mk H
        clear H
        go_wp2_with (first | ((with_reducible refine gate_callee (f := 34) rfl ?_); refine goesL_ (some 92) rfl rfl Try.func34 (by kernel_rfl) rfl #[.pointer (some ⟨gb465, 0, none⟩)] rfl (by (try simp only [List.map_toArray, List.map_cons, List.map_nil]); first | done | rfl | (simp only [List.length_drop, List.length_take]; rfl)) ?_; (with_reducible refine (zO.calls gb465 l0 x466001_3 x466002_3 t497 t498 t499 w _ ?side1 ?side2 A49.out).mono ?_); (case side1 => repeat (first | (with_reducible first | exact HI465.out | apply I6.alloc | apply I6.drewN | apply I6.drew | apply I6.set_1 | apply I6.set_2 | refine I6.far ?_ NB465_464.out _ | refine I6.far ?_ NB465_478.out _) | exact HI465.out)); (case side2 => repeat (first | (with_reducible first | exact HB.out | apply bA | apply bN | apply bD | refine bS ?_ (I6.ge HI465.out) | refine bS ?_ GE464.out | refine bS ?_ GE478.out) | exact HB.out)); rintro e w50 ⟨rfl, hi, hb, hk⟩; refine ⟨_, rfl, ?_⟩; have n0_ := Aside0.mk (Kd.R_mono (Kd.R_keep (I6.apart (show I6 w _ gb465 l0 x466001_3 x466002_3 from by repeat (first | (with_reducible first | exact HI465.out | apply I6.alloc | apply I6.drewN | apply I6.drew | apply I6.set_1 | apply I6.set_2 | refine I6.far ?_ NB465_464.out _ | refine I6.far ?_ NB465_478.out _) | exact HI465.out)) (by (with_reducible repeat (first | apply Kd.R_alloc | apply Kd.R_drewN | apply Kd.R_drew)); exact HO_479001.out) (by decide)) hk (fun _ h => h.2)) (fun _ h => h.1)); have n1_ := Aside0.mk (Kd.R_mono (Kd.R_keep (I6.apart (show I6 w _ gb465 l0 x466001_3 x466002_3 from by repeat (first | (with_reducible first | exact HI465.out | apply I6.alloc | apply I6.drewN | apply I6.drew | apply I6.set_1 | apply I6.set_2 | refine I6.far ?_ NB465_464.out _ | refine I6.far ?_ NB465_478.out _) | exact HI465.out)) (by (with_reducible repeat (first | apply Kd.R_alloc | apply Kd.R_drewN | apply Kd.R_drew)); exact HO_479002.out) (by decide)) hk (fun _ h => h.2)) (fun _ h => h.1)); have n2_ := Aside0.mk (KeepBut.blk hk (g' := gb464) (o := .cells #[.slice none 0 0, .slice none 0 0, .slice none 0 0, .int .i64 0] 26 (0, 0)) (by (with_reducible repeat (first | refine kN ?_ _ | refine kD ?_ | refine kA ?_ _)); exact BK464.out) NB464_465.out (by simp)); have n3_ := Aside0.mk (KeepBut.blk hk (g' := gb478) (o := .cells #[.slice none 0 0, u479001, u479002, .int .i64 t475] 26 (0, 0)) (by (with_reducible repeat (first | refine kN ?_ _ | refine kD ?_ | refine kA ?_ _)); exact BK478.out) NB478_465.out (by simp)); have n4_ := Aside0.mk (hb); have n5_ := Aside0.mk (hi); clear HO_479001; clear HO_479002; clear BK464; clear BK478; clear HB; clear HI465; have HO_479001 := n0_; have HO_479002 := n1_; have BK464 := n2_; have BK478 := n3_; have HB := n4_; have HI465 := n5_; clear n0_ n1_ n2_ n3_ n4_ n5_; (try clear hb); (try clear hb2); (try clear hk); (try clear hi)))
        go_loopg [17, 18] k3 (fun kq v17 v18 w' => ∃ (x17_4 : List Int) (x18_4 : Int) (x466001_4 : Int) (x466002_4 : Bool), v18 = .int .i64 x18_4 ∧ Aside0 (zD.l3 kq l0 t494 x15_3 t497 x17_4 x18_4 l0 x466001_4 x466002_4 x479001_2 x479002_3 t475 = some (r1, r2, r3, r4, r5)) ∧ Aside0 (kq ≤ k3) ∧ Aside0 (Kd.R (Kd.int .u8) 5 w' w.heap.size (fun _ => True) v17 x17_4) ∧ Aside0 (Kd.R (Kd.int .i64) 3 w' w.heap.size (fun _ => True) u479001 x479001_2) ∧ Aside0 (Kd.R Kd.string 9 w' w.heap.size (fun _ => True) u479002 x479002_3) ∧ Aside0 (w'.heap[gb464]? = some (.cells #[(.slice none 0 0), (.slice none 0 0), (.slice none 0 0), .int .i64 0] 26 (0, 0))) ∧ Aside0 (w'.heap[gb478]? = some (.cells #[(.slice none 0 0), u479001, u479002, .int .i64 t475] 26 (0, 0))) ∧ Aside0 (I6 w w' gb465 l0 x466001_4 x466002_4) ∧ Aside0 (Below w.heap.size w w'))
        case atStart => exact ⟨(([] : List Int)), (0), (t498), (t499), (by first | rfl | (simp; done) | (simp [*]; done)), H', ⟨Nat.le_refl _⟩, ⟨by first | exact Kd.R_nil _ _ _ _ _ | exact Kd.N_nil _ _ _ _ _ | exact Kd.V_nil _ _ _ _ _ | exact Kd.Q_nil _ _ _ _ _ | exact Kd.S_nil _ _ _ _ _⟩, ⟨by (with_reducible repeat (first | apply Kd.R_alloc | apply Kd.R_drewN | apply Kd.R_drew)); exact HO_479001.out⟩, ⟨by (with_reducible repeat (first | apply Kd.R_alloc | apply Kd.R_drewN | apply Kd.R_drew)); exact HO_479002.out⟩, ⟨by (with_reducible repeat (first | refine kN ?_ _ | refine kD ?_ | refine kA ?_ _)); exact BK464.out⟩, ⟨by (with_reducible repeat (first | refine kN ?_ _ | refine kD ?_ | refine kA ?_ _)); exact BK478.out⟩, ⟨by repeat (first | (with_reducible first | exact HI465.out | apply I6.alloc | apply I6.drewN | apply I6.drew | apply I6.set_1 | apply I6.set_2 | refine I6.far ?_ NB465_464.out _ | refine I6.far ?_ NB465_478.out _) | exact HI465.out)⟩, ⟨by repeat (first | (with_reducible first | exact HB.out | apply bA | apply bN | apply bD | refine bS ?_ (I6.ge HI465.out) | refine bS ?_ GE464.out | refine bS ?_ GE478.out) | exact HB.out)⟩⟩
        case round =>
         clear H'
         try clear c48b0
         obtain ⟨x17_4, x18_4, x466001_4, x466002_4, rfl, HA, HK4, HO_17, HO_479001, HO_479002, BK464, BK478, HI465, HB⟩ := hrel
         cases gk with
         | zero => exact absurd HA.out (by simp [zD.l3])
         | succ k4 =>
          have H := HA.out
          clear HA
          simp only [zD.l3] at H
          by_cases c51 : x18_4 < t497
          ·rw [if_pos c51] at H
           have c51b0 : decide (x18_4 < t497) = true := decide_eq_true c51
           clear c51
           replace H := Option.bind_eq_some_iff.mp H
           obtain ⟨⟨t500, t501, t502⟩, A520, H⟩ := H
           replace H : (if x17_4.length < 140737488355328 then (zD.l3 k4 l0 t494 x15_3 t497 (x17_4 ++ [(t500) % 256]) (wrap64 (x18_4 + 1)) l0 t501 t502 x479001_2 x479002_3 t475) else (none)) = some (r1, r2, r3, r4, r5) := H
           have A52 := Aside0.mk A520
           clear A520
           by_cases c53 : x17_4.length < 140737488355328
           ·rw [if_pos c53] at H
            have LMc53 := Aside0.mk c53
            clear c53
            obtain ⟨y503, hy503⟩ : ∃ y_ : List Int, y_ = (x17_4 ++ [(t500) % 256]) := ⟨_, rfl⟩
            replace H : (zD.l3 k4 l0 t494 x15_3 t497 y503 (wrap64 (x18_4 + 1)) l0 t501 t502 x479001_2 x479002_3 t475) = some (r1, r2, r3, r4, r5) := by first | (rw [hy503]; with_reducible exact H) | (have H2_ := (Option.bind_some _ _).symm.trans H; rw [hy503]; with_reducible exact H2_) | (have H2_ := (Option.bind_some _ _).symm.trans H; with_reducible exact H2_) | with_reducible exact H | (rw [hy503]; exact H) | exact H
            have Ny503 := Aside0.mk hy503
            clear hy503
            have H' := Aside0.mk H
            clear H
            go_wp2_with (first | ((with_reducible refine gate_callee (f := 34) rfl ?_); refine goesL_ (some 100) rfl rfl Try.func34 (by kernel_rfl) rfl #[.pointer (some ⟨gb465, 0, none⟩)] rfl (by (try simp only [List.map_toArray, List.map_cons, List.map_nil]); first | done | rfl | (simp only [List.length_drop, List.length_take]; rfl)) ?_; (with_reducible refine (zO.calls gb465 l0 x466001_4 x466002_4 t500 t501 t502 w _ ?side1 ?side2 A52.out).mono ?_); (case side1 => repeat (first | (with_reducible first | exact HI465.out | apply I6.alloc | apply I6.drewN | apply I6.drew | apply I6.set_1 | apply I6.set_2 | refine I6.far ?_ NB465_464.out _ | refine I6.far ?_ NB465_478.out _) | exact HI465.out)); (case side2 => repeat (first | (with_reducible first | exact HB.out | apply bA | apply bN | apply bD | refine bS ?_ (I6.ge HI465.out) | refine bS ?_ GE464.out | refine bS ?_ GE478.out) | exact HB.out)); rintro e w54 ⟨rfl, hi, hb, hk⟩; refine ⟨_, rfl, ?_⟩; have n0_ := Aside0.mk (Kd.R_mono (Kd.R_keep (I6.apart (show I6 w _ gb465 l0 x466001_4 x466002_4 from by repeat (first | (with_reducible first | exact HI465.out | apply I6.alloc | apply I6.drewN | apply I6.drew | apply I6.set_1 | apply I6.set_2 | refine I6.far ?_ NB465_464.out _ | refine I6.far ?_ NB465_478.out _) | exact HI465.out)) (by (with_reducible repeat (first | apply Kd.R_alloc | apply Kd.R_drewN | apply Kd.R_drew)); exact HO_17.out) (by decide)) hk (fun _ h => h.2)) (fun _ h => h.1)); have n1_ := Aside0.mk (Kd.R_mono (Kd.R_keep (I6.apart (show I6 w _ gb465 l0 x466001_4 x466002_4 from by repeat (first | (with_reducible first | exact HI465.out | apply I6.alloc | apply I6.drewN | apply I6.drew | apply I6.set_1 | apply I6.set_2 | refine I6.far ?_ NB465_464.out _ | refine I6.far ?_ NB465_478.out _) | exact HI465.out)) (by (with_reducible repeat (first | apply Kd.R_alloc | apply Kd.R_drewN | apply Kd.R_drew)); exact HO_479001.out) (by decide)) hk (fun _ h => h.2)) (fun _ h => h.1)); have n2_ := Aside0.mk (Kd.R_mono (Kd.R_keep (I6.apart (show I6 w _ gb465 l0 x466001_4 x466002_4 from by repeat (first | (with_reducible first | exact HI465.out | apply I6.alloc | apply I6.drewN | apply I6.drew | apply I6.set_1 | apply I6.set_2 | refine I6.far ?_ NB465_464.out _ | refine I6.far ?_ NB465_478.out _) | exact HI465.out)) (by (with_reducible repeat (first | apply Kd.R_alloc | apply Kd.R_drewN | apply Kd.R_drew)); exact HO_479002.out) (by decide)) hk (fun _ h => h.2)) (fun _ h => h.1)); have n3_ := Aside0.mk (KeepBut.blk hk (g' := gb464) (o := .cells #[.slice none 0 0, .slice none 0 0, .slice none 0 0, .int .i64 0] 26 (0, 0)) (by (with_reducible repeat (first | refine kN ?_ _ | refine kD ?_ | refine kA ?_ _)); exact BK464.out) NB464_465.out (by simp)); have n4_ := Aside0.mk (KeepBut.blk hk (g' := gb478) (o := .cells #[.slice none 0 0, u479001, u479002, .int .i64 t475] 26 (0, 0)) (by (with_reducible repeat (first | refine kN ?_ _ | refine kD ?_ | refine kA ?_ _)); exact BK478.out) NB478_465.out (by simp)); have n5_ := Aside0.mk (hb); have n6_ := Aside0.mk (hi); clear HO_17; clear HO_479001; clear HO_479002; clear BK464; clear BK478; clear HB; clear HI465; have HO_17 := n0_; have HO_479001 := n1_; have HO_479002 := n2_; have BK464 := n3_; have BK478 := n4_; have HB := n5_; have HI465 := n6_; clear n0_ n1_ n2_ n3_ n4_ n5_ n6_; (try clear hb); (try clear hb2); (try clear hk); (try clear hi)) | ((with_reducible refine gate_builtin (b := .append) (xs := #[.tmp 98, .tmp 102]) rfl ?_); (try (refine gate_guard (by rfl) ?_; dsimp only)); at_builtin; refine Kd.R_append (Kd.int .u8) (w0 := w) w.heap.size rfl (.tmp 98) (.tmp 102) 28 5 (.int .u8 0) 1 rfl Try.underlying28 info5 rfl (by decide) (by omega) u17 x17_4 ((t500) % 256) [.int .u8 ((t500) % 256)] (fun _ => True) (fun _ => False) rfl rfl ?aP (fun _ hk => hk.elim) ?aF ?aO ?aB ?aS ?aL ?_; (case aP => exact rfl); (case aB => exact (by repeat (first | (with_reducible first | exact HB.out | apply bA | apply bN | apply bD | refine bS ?_ (I6.ge HI465.out) | refine bS ?_ GE464.out | refine bS ?_ GE478.out) | exact HB.out))); (case aF => exact (fun _ _ => trivial)); (case aO => exact (by (with_reducible repeat (first | apply Kd.R_alloc | apply Kd.R_drewN | apply Kd.R_drew)); exact HO_17.out)); (case aS => exact (bZ (by repeat (first | (with_reducible first | exact HB.out | apply bA | apply bN | apply bD | refine bS ?_ (I6.ge HI465.out) | refine bS ?_ GE464.out | refine bS ?_ GE478.out) | exact HB.out)))); (case aL => have := LMc53.out; omega); intro v504 w55 ho hb hg hat; rw [← Ny503.out] at ho; have n0_ := Aside0.mk (Kd.R_over' (by (with_reducible repeat (first | apply Kd.R_alloc | apply Kd.R_drewN | apply Kd.R_drew)); exact HO_479001.out) (Kd.R_typed (by (with_reducible repeat (first | apply Kd.R_alloc | apply Kd.R_drewN | apply Kd.R_drew)); exact HO_17.out)) (by decide) hg); have n1_ := Aside0.mk (Kd.R_over' (by (with_reducible repeat (first | apply Kd.R_alloc | apply Kd.R_drewN | apply Kd.R_drew)); exact HO_479002.out) (Kd.R_typed (by (with_reducible repeat (first | apply Kd.R_alloc | apply Kd.R_drewN | apply Kd.R_drew)); exact HO_17.out)) (by decide) hg); have n2_ := Aside0.mk (blk_grown (g := gb464) (o := .cells #[.slice none 0 0, .slice none 0 0, .slice none 0 0, .int .i64 0] 26 (0, 0)) (by (with_reducible repeat (first | refine kN ?_ _ | refine kD ?_ | refine kA ?_ _)); exact BK464.out) hg (Kd.R_ne HO_17.out BK464.out (by decide))); have n3_ := Aside0.mk (blk_grown (g := gb478) (o := .cells #[.slice none 0 0, u479001, u479002, .int .i64 t475] 26 (0, 0)) (by (with_reducible repeat (first | refine kN ?_ _ | refine kD ?_ | refine kA ?_ _)); exact BK478.out) hg (Kd.R_ne HO_17.out BK478.out (by decide))); have n4_ := Aside0.mk (I6.grown (by repeat (first | (with_reducible first | exact HI465.out | apply I6.alloc | apply I6.drewN | apply I6.drew | apply I6.set_1 | apply I6.set_2 | refine I6.far ?_ NB465_464.out _ | refine I6.far ?_ NB465_478.out _) | exact HI465.out)) hg (I6.own_ne HI465.out HO_17.out (by decide))); have n5_ := Aside0.mk (hb); have n6_ := Aside0.mk (ho); clear HO_479001; clear HO_479002; clear BK464; clear BK478; clear HI465; clear HB; clear HO_17; have HO_479001 := n0_; have HO_479002 := n1_; have BK464 := n2_; have BK478 := n3_; have HI465 := n4_; have HB := n5_; have HO505 := n6_; clear n0_ n1_ n2_ n3_ n4_ n5_ n6_; clear ho hb hg hat))
            go_roundg k4
            case measure => have := HJ4.out; have := HK2.out; have := HK3.out; have := HK4.out; omega
            case rel => exact ⟨(y503), (wrap64 (x18_4 + 1)), (t501), (t502), (by first | rfl | (simp; done) | (simp [*]; done)), H', ⟨by have := HJ4.out; have := HK2.out; have := HK3.out; have := HK4.out; omega⟩, ⟨by (with_reducible repeat (first | apply Kd.R_alloc | apply Kd.R_drewN | apply Kd.R_drew)); exact HO505.out⟩, ⟨by (with_reducible repeat (first | apply Kd.R_alloc | apply Kd.R_drewN | apply Kd.R_drew)); exact HO_479001.out⟩, ⟨by (with_reducible repeat (first | apply Kd.R_alloc | apply Kd.R_drewN | apply Kd.R_drew)); exact HO_479002.out⟩, ⟨by (with_reducible repeat (first | refine kN ?_ _ | refine kD ?_ | refine kA ?_ _)); exact BK464.out⟩, ⟨by (with_reducible repeat (first | refine kN ?_ _ | refine kD ?_ | refine kA ?_ _)); exact BK478.out⟩, ⟨by repeat (first | (with_reducible first | exact HI465.out | apply I6.alloc | apply I6.drewN | apply I6.drew | apply I6.set_1 | apply I6.set_2 | refine I6.far ?_ NB465_464.out _ | refine I6.far ?_ NB465_478.out _) | exact HI465.out)⟩, ⟨by repeat (first | (with_reducible first | exact HB.out | apply bA | apply bN | apply bD | refine bS ?_ (I6.ge HI465.out) | refine bS ?_ GE464.out | refine bS ?_ GE478.out) | exact HB.out)⟩⟩
           rw [if_neg c53] at H
           exact absurd H (by simp)
          rw [if_neg c51] at H
          have c51b0 : decide (x18_4 < t497) = false := decide_eq_false c51
          clear c51
          by_cases c56 : x479002_3.length < 8796093022208
          ·rw [if_pos c56] at H
           have LMc56 := Aside0.mk c56
           clear c56
           obtain ⟨y506, hy506⟩ : ∃ y_ : List ByteArray, y_ = (x479002_3 ++ [strOfNums x17_4]) := ⟨_, rfl⟩
           replace H : (zD.l2 k4 l0 t494 (wrap64 (x15_3 + 1)) l0 x466001_4 x466002_4 x479001_2 y506 t475) = some (r1, r2, r3, r4, r5) := by first | (rw [hy506]; with_reducible exact H) | (have H2_ := (Option.bind_some _ _).symm.trans H; rw [hy506]; with_reducible exact H2_) | (have H2_ := (Option.bind_some _ _).symm.trans H; with_reducible exact H2_) | with_reducible exact H | (rw [hy506]; exact H) | exact H
           have Ny506 := Aside0.mk hy506
           clear hy506
           have H' := Aside0.mk H
           clear H
           have hnb57 := NB478_464.out
           have hnc57 := NB464_478.out
           have hnb58 := NB478_465.out
           have hnc58 := NB465_478.out
           have hcz59_0 : wr.cell? ⟨gb478, 0, none⟩ = some (.slice none 0 0) := (kC BK478.out 0).trans rfl
           have hcz59_1 : wr.cell? ⟨gb478, 1, none⟩ = some (u479001) := (kC BK478.out 1).trans rfl
           have hcz59_2 : wr.cell? ⟨gb478, 2, none⟩ = some (u479002) := (kC BK478.out 2).trans rfl
           have hcz59_3 : wr.cell? ⟨gb478, 3, none⟩ = some (.int .i64 t475) := (kC BK478.out 3).trans rfl
           have hfz59_0 := kF BK478.out 0
           have hfz59_1 := kF BK478.out 1
           have hfz59_2 := kF BK478.out 2
           have hfz59_3 := kF BK478.out 3
           have hcv60 := own_string (P := Try.prog) Try.underlying28 Try.underlying5 Try.underlying9 (Kd.own_of_R HO_17.out)
           go_wp2_with (first | ((with_reducible refine gate_builtin (b := .append) (xs := #[.tmp 105, .tmp 108]) rfl ?_); (try (refine gate_guard (by rfl) ?_; dsimp only)); at_builtin; refine Kd.R_append Kd.string (w0 := w) w.heap.size rfl (.tmp 105) (.tmp 108) 24 9 (.string ⟨#[]⟩) 16 rfl Try.underlying24 info9 rfl (by decide) (by omega) u479002 x479002_3 (strOfNums x17_4) [.string (strOfNums x17_4)] (fun _ => True) (fun _ => False) rfl rfl ?aP (fun _ hk => hk.elim) ?aF ?aO ?aB ?aS ?aL ?_; (case aP => exact rfl); (case aB => exact (by repeat (first | (with_reducible first | exact HB.out | apply bA | apply bN | apply bD | refine bS ?_ (I6.ge HI465.out) | refine bS ?_ GE464.out | refine bS ?_ GE478.out) | exact HB.out))); (case aF => exact (fun _ _ => trivial)); (case aO => exact (by (with_reducible repeat (first | apply Kd.R_alloc | apply Kd.R_drewN | apply Kd.R_drew)); exact HO_479002.out)); (case aS => exact (bZ (by repeat (first | (with_reducible first | exact HB.out | apply bA | apply bN | apply bD | refine bS ?_ (I6.ge HI465.out) | refine bS ?_ GE464.out | refine bS ?_ GE478.out) | exact HB.out)))); (case aL => have := LMc56.out; omega); intro v507 w61 ho hb hg hat; rw [← Ny506.out] at ho; have n0_ := Aside0.mk (Kd.R_over' (by (with_reducible repeat (first | apply Kd.R_alloc | apply Kd.R_drewN | apply Kd.R_drew)); exact HO_17.out) (Kd.R_typed (by (with_reducible repeat (first | apply Kd.R_alloc | apply Kd.R_drewN | apply Kd.R_drew)); exact HO_479002.out)) (by decide) hg); have n1_ := Aside0.mk (Kd.R_over' (by (with_reducible repeat (first | apply Kd.R_alloc | apply Kd.R_drewN | apply Kd.R_drew)); exact HO_479001.out) (Kd.R_typed (by (with_reducible repeat (first | apply Kd.R_alloc | apply Kd.R_drewN | apply Kd.R_drew)); exact HO_479002.out)) (by decide) hg); have n2_ := Aside0.mk (blk_grown (g := gb464) (o := .cells #[.slice none 0 0, .slice none 0 0, .slice none 0 0, .int .i64 0] 26 (0, 0)) (by (with_reducible repeat (first | refine kN ?_ _ | refine kD ?_ | refine kA ?_ _)); exact BK464.out) hg (Kd.R_ne HO_479002.out BK464.out (by decide))); have n3_ := Aside0.mk (blk_grown (g := gb478) (o := .cells #[.slice none 0 0, u479001, u479002, .int .i64 t475] 26 (0, 0)) (by (with_reducible repeat (first | refine kN ?_ _ | refine kD ?_ | refine kA ?_ _)); exact BK478.out) hg (Kd.R_ne HO_479002.out BK478.out (by decide))); have n4_ := Aside0.mk (I6.grown (by repeat (first | (with_reducible first | exact HI465.out | apply I6.alloc | apply I6.drewN | apply I6.drew | apply I6.set_1 | apply I6.set_2 | refine I6.far ?_ NB465_464.out _ | refine I6.far ?_ NB465_478.out _) | exact HI465.out)) hg (I6.own_ne HI465.out HO_479002.out (by decide))); have n5_ := Aside0.mk (hb); have n6_ := Aside0.mk (ho); clear HO_17; clear HO_479001; clear BK464; clear BK478; clear HI465; clear HB; clear HO_479002; have HO_17 := n0_; have HO_479001 := n1_; have BK464 := n2_; have BK478 := n3_; have HI465 := n4_; have HB := n5_; have HO508 := n6_; clear n0_ n1_ n2_ n3_ n4_ n5_ n6_; clear ho hb hg hat; obtain ⟨Ao62, co62, eo62⟩ := Kd.R_slice HO508.out; subst eo62; have hcz63_0 : w61.cell? ⟨gb478, 0, none⟩ = some (.slice none 0 0) := (kC BK478.out 0).trans rfl; have hcz63_1 : w61.cell? ⟨gb478, 1, none⟩ = some (u479001) := (kC BK478.out 1).trans rfl; have hcz63_2 : w61.cell? ⟨gb478, 2, none⟩ = some (u479002) := (kC BK478.out 2).trans rfl; have hcz63_3 : w61.cell? ⟨gb478, 3, none⟩ = some (.int .i64 t475) := (kC BK478.out 3).trans rfl; have hfz63_0 := kF BK478.out 0; have hfz63_1 := kF BK478.out 1; have hfz63_2 := kF BK478.out 2; have hfz63_3 := kF BK478.out 3))
           go_roundg k4
           case measure => have := HJ4.out; have := HK2.out; have := HK3.out; have := HK4.out; omega
           case rel => exact ⟨(wrap64 (x15_3 + 1)), (x466001_4), (x466002_4), (y506), (.slice Ao62 y506.length co62), (by first | rfl | (simp; done) | (simp [*]; done)), H', ⟨by have := HJ4.out; have := HK2.out; have := HK3.out; have := HK4.out; omega⟩, ⟨by (with_reducible repeat (first | apply Kd.R_alloc | apply Kd.R_drewN | apply Kd.R_drew)); exact Kd.R_mono (Kd.R_far (p := ⟨gb478, 2, none⟩) (Kd.R_types HO_479001.out BK478.out (by decide)) (fun _ hk => hk.2) (.slice Ao62 y506.length co62)) (fun _ hk => trivial)⟩, ⟨by (with_reducible repeat (first | apply Kd.R_alloc | apply Kd.R_drewN | apply Kd.R_drew)); exact Kd.R_mono (Kd.R_far (p := ⟨gb478, 2, none⟩) (Kd.R_types HO508.out BK478.out (by decide)) (fun _ hk => hk.2) (.slice Ao62 y506.length co62)) (fun _ hk => trivial)⟩, ⟨by (with_reducible repeat (first | refine kN ?_ _ | refine kD ?_ | refine kA ?_ _)); refine blk_far ?_ NB464_478.out _; (with_reducible repeat (first | refine kN ?_ _ | refine kD ?_ | refine kA ?_ _)); exact BK464.out⟩, ⟨by (with_reducible repeat (first | refine kN ?_ _ | refine kD ?_ | refine kA ?_ _)); refine kP (cs := #[.slice none 0 0, u479001, u479002, .int .i64 t475]) ?_ 2 _ rfl; (with_reducible repeat (first | refine kN ?_ _ | refine kD ?_ | refine kA ?_ _)); exact BK478.out⟩, ⟨by repeat (first | (with_reducible first | exact HI465.out | apply I6.alloc | apply I6.drewN | apply I6.drew | apply I6.set_1 | apply I6.set_2 | refine I6.far ?_ NB465_464.out _ | refine I6.far ?_ NB465_478.out _) | exact HI465.out)⟩, ⟨by repeat (first | (with_reducible first | exact HB.out | apply bA | apply bN | apply bD | refine bS ?_ (I6.ge HI465.out) | refine bS ?_ GE464.out | refine bS ?_ GE478.out) | exact HB.out)⟩⟩
          rw [if_neg c56] at H
          exact absurd H (by simp)
       rw [if_neg c48] at H
       have c48b0 : decide (x15_3 < t494) = false := decide_eq_false c48
       clear c48
       replace H := Option.bind_eq_some_iff.mp H
       obtain ⟨⟨t509, t510, t511⟩, A640, H⟩ := H
       replace H : (zD.l4 k3 l0 t509 0 l0 t510 t511 ([] : List (S40)) x479001_2 x479002_3 t475) = some (r1, r2, r3, r4, r5) := H
       have A64 := Aside0.mk A640
       clear A640
       have H' := Aside0.mk H
       clear H
       go_wp2_with (first | ((with_reducible refine gate_callee (f := 34) rfl ?_); refine goesL_ (some 112) rfl rfl Try.func34 (by kernel_rfl) rfl #[.pointer (some ⟨gb465, 0, none⟩)] rfl (by (try simp only [List.map_toArray, List.map_cons, List.map_nil]); first | done | rfl | (simp only [List.length_drop, List.length_take]; rfl)) ?_; (with_reducible refine (zO.calls gb465 l0 x466001_3 x466002_3 t509 t510 t511 w _ ?side1 ?side2 A64.out).mono ?_); (case side1 => repeat (first | (with_reducible first | exact HI465.out | apply I6.alloc | apply I6.drewN | apply I6.drew | apply I6.set_1 | apply I6.set_2 | refine I6.far ?_ NB465_464.out _ | refine I6.far ?_ NB465_478.out _) | exact HI465.out)); (case side2 => repeat (first | (with_reducible first | exact HB.out | apply bA | apply bN | apply bD | refine bS ?_ (I6.ge HI465.out) | refine bS ?_ GE464.out | refine bS ?_ GE478.out) | exact HB.out)); rintro e w65 ⟨rfl, hi, hb, hk⟩; refine ⟨_, rfl, ?_⟩; have n0_ := Aside0.mk (Kd.R_mono (Kd.R_keep (I6.apart (show I6 w _ gb465 l0 x466001_3 x466002_3 from by repeat (first | (with_reducible first | exact HI465.out | apply I6.alloc | apply I6.drewN | apply I6.drew | apply I6.set_1 | apply I6.set_2 | refine I6.far ?_ NB465_464.out _ | refine I6.far ?_ NB465_478.out _) | exact HI465.out)) (by (with_reducible repeat (first | apply Kd.R_alloc | apply Kd.R_drewN | apply Kd.R_drew)); exact HO_479001.out) (by decide)) hk (fun _ h => h.2)) (fun _ h => h.1)); have n1_ := Aside0.mk (Kd.R_mono (Kd.R_keep (I6.apart (show I6 w _ gb465 l0 x466001_3 x466002_3 from by repeat (first | (with_reducible first | exact HI465.out | apply I6.alloc | apply I6.drewN | apply I6.drew | apply I6.set_1 | apply I6.set_2 | refine I6.far ?_ NB465_464.out _ | refine I6.far ?_ NB465_478.out _) | exact HI465.out)) (by (with_reducible repeat (first | apply Kd.R_alloc | apply Kd.R_drewN | apply Kd.R_drew)); exact HO_479002.out) (by decide)) hk (fun _ h => h.2)) (fun _ h => h.1)); have n2_ := Aside0.mk (KeepBut.blk hk (g' := gb464) (o := .cells #[.slice none 0 0, .slice none 0 0, .slice none 0 0, .int .i64 0] 26 (0, 0)) (by (with_reducible repeat (first | refine kN ?_ _ | refine kD ?_ | refine kA ?_ _)); exact BK464.out) NB464_465.out (by simp)); have n3_ := Aside0.mk (KeepBut.blk hk (g' := gb478) (o := .cells #[.slice none 0 0, u479001, u479002, .int .i64 t475] 26 (0, 0)) (by (with_reducible repeat (first | refine kN ?_ _ | refine kD ?_ | refine kA ?_ _)); exact BK478.out) NB478_465.out (by simp)); have n4_ := Aside0.mk (hb); have n5_ := Aside0.mk (hi); clear HO_479001; clear HO_479002; clear BK464; clear BK478; clear HB; clear HI465; have HO_479001 := n0_; have HO_479002 := n1_; have BK464 := n2_; have BK478 := n3_; have HB := n4_; have HI465 := n5_; clear n0_ n1_ n2_ n3_ n4_ n5_; (try clear hb); (try clear hb2); (try clear hk); (try clear hi)))
       go_loopg [19] k3 (fun kq v19 w' => ∃ (x19_4 : Int) (x466001_4 : Int) (x466002_4 : Bool) (x479000_4 : List (S40)) (u479000 : Value), v19 = .int .i64 x19_4 ∧ Aside0 (zD.l4 kq l0 t509 x19_4 l0 x466001_4 x466002_4 x479000_4 x479001_2 x479002_3 t475 = some (r1, r2, r3, r4, r5)) ∧ Aside0 (kq ≤ k3) ∧ Aside0 (Kd.S k40 40 w' w.heap.size (fun _ => True) u479000 x479000_4) ∧ Aside0 (Kd.R (Kd.int .i64) 3 w' w.heap.size (fun _ => True) u479001 x479001_2) ∧ Aside0 (Kd.R Kd.string 9 w' w.heap.size (fun _ => True) u479002 x479002_3) ∧ Aside0 (w'.heap[gb464]? = some (.cells #[(.slice none 0 0), (.slice none 0 0), (.slice none 0 0), .int .i64 0] 26 (0, 0))) ∧ Aside0 (w'.heap[gb478]? = some (.cells #[u479000, u479001, u479002, .int .i64 t475] 26 (0, 0))) ∧ Aside0 (I6 w w' gb465 l0 x466001_4 x466002_4) ∧ Aside0 (Below w.heap.size w w'))
       case atStart => exact ⟨(0), (t510), (t511), (([] : List (S40))), (.slice none 0 0), (by first | rfl | (simp; done) | (simp [*]; done)), H', ⟨Nat.le_refl _⟩, ⟨by first | exact Kd.S_nil _ _ _ _ _ | exact Kd.N_nil _ _ _ _ _ | exact Kd.V_nil _ _ _ _ _ | exact Kd.Q_nil _ _ _ _ _ | exact Kd.R_nil _ _ _ _ _⟩, ⟨by (with_reducible repeat (first | apply Kd.R_alloc | apply Kd.R_drewN | apply Kd.R_drew)); exact HO_479001.out⟩, ⟨by (with_reducible repeat (first | apply Kd.R_alloc | apply Kd.R_drewN | apply Kd.R_drew)); exact HO_479002.out⟩, ⟨by (with_reducible repeat (first | refine kN ?_ _ | refine kD ?_ | refine kA ?_ _)); exact BK464.out⟩, ⟨by (with_reducible repeat (first | refine kN ?_ _ | refine kD ?_ | refine kA ?_ _)); exact BK478.out⟩, ⟨by repeat (first | (with_reducible first | exact HI465.out | apply I6.alloc | apply I6.drewN | apply I6.drew | apply I6.set_1 | apply I6.set_2 | refine I6.far ?_ NB465_464.out _ | refine I6.far ?_ NB465_478.out _) | exact HI465.out)⟩, ⟨by repeat (first | (with_reducible first | exact HB.out | apply bA | apply bN | apply bD | refine bS ?_ (I6.ge HI465.out) | refine bS ?_ GE464.out | refine bS ?_ GE478.out) | exact HB.out)⟩⟩
       case round =>
        clear H'
        try clear c48b0
        obtain ⟨x19_4, x466001_4, x466002_4, x479000_4, u479000, rfl, HA, HK4, HO_479000, HO_479001, HO_479002, BK464, BK478, HI465, HB⟩ := hrel
        cases gk with
        | zero => exact absurd HA.out (by simp [zD.l4])
        | succ k4 =>
         have H := HA.out
         clear HA
         simp only [zD.l4] at H
         by_cases c66 : x19_4 < t509
         ·rw [if_pos c66] at H
          have c66b0 : decide (x19_4 < t509) = true := decide_eq_true c66
          clear c66
          replace H := Option.bind_eq_some_iff.mp H
          obtain ⟨⟨t514, t515, t516⟩, A670, H⟩ := H
          replace H : ((zO.f l0 t515 t516).bind fun bt517 => ((zO.f l0 bt517.2.1 bt517.2.2).bind fun bt520 => ((zP.f l0 bt520.2.1 bt520.2.2).bind fun bt523 => (zD.l5 k4 l0 t509 x19_4 bt523.1 0 l0 bt523.2.1 bt523.2.2 x479000_4 x479001_2 x479002_3 t475 t514 bt517.1 bt520.1 ([] : List (S42)))))) = some (r1, r2, r3, r4, r5) := H
          have A67 := Aside0.mk A670
          clear A670
          replace H := Option.bind_eq_some_iff.mp H
          obtain ⟨⟨t517, t518, t519⟩, A680, H⟩ := H
          replace H : ((zO.f l0 t518 t519).bind fun bt520 => ((zP.f l0 bt520.2.1 bt520.2.2).bind fun bt523 => (zD.l5 k4 l0 t509 x19_4 bt523.1 0 l0 bt523.2.1 bt523.2.2 x479000_4 x479001_2 x479002_3 t475 t514 t517 bt520.1 ([] : List (S42))))) = some (r1, r2, r3, r4, r5) := H
          have A68 := Aside0.mk A680
          clear A680
          replace H := Option.bind_eq_some_iff.mp H
          obtain ⟨⟨t520, t521, t522⟩, A690, H⟩ := H
          replace H : ((zP.f l0 t521 t522).bind fun bt523 => (zD.l5 k4 l0 t509 x19_4 bt523.1 0 l0 bt523.2.1 bt523.2.2 x479000_4 x479001_2 x479002_3 t475 t514 t517 t520 ([] : List (S42)))) = some (r1, r2, r3, r4, r5) := H
          have A69 := Aside0.mk A690
          clear A690
          replace H := Option.bind_eq_some_iff.mp H
          obtain ⟨⟨t523, t524, t525⟩, A700, H⟩ := H
          replace H : (zD.l5 k4 l0 t509 x19_4 t523 0 l0 t524 t525 x479000_4 x479001_2 x479002_3 t475 t514 t517 t520 ([] : List (S42))) = some (r1, r2, r3, r4, r5) := H
          have A70 := Aside0.mk A700
          clear A700
          have H' := Aside0.mk H
          clear H
          go_wp2_with (first | ((with_reducible refine gate_dst (N := 20) rfl ?_); (try (refine gate_guard (by rfl) ?_; dsimp only)); refine box_event ?hg (N := 20) ?hd (cs := #[.int .i64 0, .int .i64 0, .int .i64 0, .slice none 0 0]) (t := 40) ?hr ?_; (case hd => rfl); (case hg => rfl); (case hr => first | (go_simp; done) | (go_simp; rfl)); intro gb513 hg w71 hbox hb; have n0_ := Aside0.mk (Kd.S_below (Kd.S_elderB (by (with_reducible repeat (first | apply Kd.S_alloc | apply Kd.S_drewN | apply Kd.S_drew)); exact HO_479000.out) gb513 (Nat.le_of_eq hg.symm)) hb); have n1_ := Aside0.mk (Kd.R_below (by (with_reducible repeat (first | apply Kd.R_alloc | apply Kd.R_drewN | apply Kd.R_drew)); exact HO_479001.out) hb); have n2_ := Aside0.mk (Kd.R_below (by (with_reducible repeat (first | apply Kd.R_alloc | apply Kd.R_drewN | apply Kd.R_drew)); exact HO_479002.out) hb); have n3_ := Aside0.mk (kB (g := gb464) (o := .cells #[.slice none 0 0, .slice none 0 0, .slice none 0 0, .int .i64 0] 26 (0, 0)) (by (with_reducible repeat (first | refine kN ?_ _ | refine kD ?_ | refine kA ?_ _)); exact BK464.out) hb); have n4_ := Aside0.mk (kB (g := gb478) (o := .cells #[u479000, u479001, u479002, .int .i64 t475] 26 (0, 0)) (by (with_reducible repeat (first | refine kN ?_ _ | refine kD ?_ | refine kA ?_ _)); exact BK478.out) hb); have n5_ := Aside0.mk (I6.below (by repeat (first | (with_reducible first | exact HI465.out | apply I6.alloc | apply I6.drewN | apply I6.drew | apply I6.set_1 | apply I6.set_2 | refine I6.far ?_ NB465_464.out _ | refine I6.far ?_ NB465_478.out _) | exact HI465.out)) hb); have n6_ := Aside0.mk (bT (by repeat (first | (with_reducible first | exact HB.out | apply bA | apply bN | apply bD | refine bS ?_ (I6.ge HI465.out) | refine bS ?_ GE464.out | refine bS ?_ GE478.out) | exact HB.out)) hb); have n7_ := Aside0.mk (hbox); have n8_ := Aside0.mk ((by rw [hg]; exact (bZ (by repeat (first | (with_reducible first | exact HB.out | apply bA | apply bN | apply bD | refine bS ?_ (I6.ge HI465.out) | refine bS ?_ GE464.out | refine bS ?_ GE478.out) | exact HB.out))) : w.heap.size ≤ gb513)); have n9_ := Aside0.mk ((by rw [hg]; exact (bZ (by repeat (first | (with_reducible first | exact HB.out | apply bA | apply bN | apply bD | refine bS ?_ (I6.ge HI465.out) | refine bS ?_ GE464.out | refine bS ?_ GE478.out) | exact HB.out))) : w.heap.size ≤ gb513)); have n10_ := Aside0.mk ((by rw [hg]; exact Nat.ne_of_lt (blk_lt (g := gb464) (o := .cells #[.slice none 0 0, .slice none 0 0, .slice none 0 0, .int .i64 0] 26 (0, 0)) (by (with_reducible repeat (first | refine kN ?_ _ | refine kD ?_ | refine kA ?_ _)); exact BK464.out)) : gb464 ≠ gb513)); have n11_ := Aside0.mk ((by rw [hg]; exact Nat.ne_of_gt (blk_lt (g := gb464) (o := .cells #[.slice none 0 0, .slice none 0 0, .slice none 0 0, .int .i64 0] 26 (0, 0)) (by (with_reducible repeat (first | refine kN ?_ _ | refine kD ?_ | refine kA ?_ _)); exact BK464.out)) : gb513 ≠ gb464)); have n12_ := Aside0.mk ((by rw [hg]; exact Nat.ne_of_lt (blk_lt (g := gb478) (o := .cells #[u479000, u479001, u479002, .int .i64 t475] 26 (0, 0)) (by (with_reducible repeat (first | refine kN ?_ _ | refine kD ?_ | refine kA ?_ _)); exact BK478.out)) : gb478 ≠ gb513)); have n13_ := Aside0.mk ((by rw [hg]; exact Nat.ne_of_gt (blk_lt (g := gb478) (o := .cells #[u479000, u479001, u479002, .int .i64 t475] 26 (0, 0)) (by (with_reducible repeat (first | refine kN ?_ _ | refine kD ?_ | refine kA ?_ _)); exact BK478.out)) : gb513 ≠ gb478)); have n14_ := Aside0.mk ((by rw [hg]; exact Nat.ne_of_lt (I6.lt (show I6 w _ gb465 l0 x466001_4 x466002_4 from by repeat (first | (with_reducible first | exact HI465.out | apply I6.alloc | apply I6.drewN | apply I6.drew | apply I6.set_1 | apply I6.set_2 | refine I6.far ?_ NB465_464.out _ | refine I6.far ?_ NB465_478.out _) | exact HI465.out))) : gb465 ≠ gb513)); have n15_ := Aside0.mk ((by rw [hg]; exact Nat.ne_of_gt (I6.lt (show I6 w _ gb465 l0 x466001_4 x466002_4 from by repeat (first | (with_reducible first | exact HI465.out | apply I6.alloc | apply I6.drewN | apply I6.drew | apply I6.set_1 | apply I6.set_2 | refine I6.far ?_ NB465_464.out _ | refine I6.far ?_ NB465_478.out _) | exact HI465.out))) : gb513 ≠ gb465)); clear HO_479000; clear HO_479001; clear HO_479002; clear BK464; clear BK478; clear HI465; clear HB; have HO_479000 := n0_; have HO_479001 := n1_; have HO_479002 := n2_; have BK464 := n3_; have BK478 := n4_; have HI465 := n5_; have HB := n6_; have BK513 := n7_; have GW513 := n8_; have GE513 := n9_; have NB464_513 := n10_; have NB513_464 := n11_; have NB478_513 := n12_; have NB513_478 := n13_; have NB465_513 := n14_; have NB513_465 := n15_; clear n0_ n1_ n2_ n3_ n4_ n5_ n6_ n7_ n8_ n9_ n10_ n11_ n12_ n13_ n14_ n15_; clear hb hbox hg; have hnb72 := NB513_464.out; have hnc72 := NB464_513.out; have hnb73 := NB513_478.out; have hnc73 := NB478_513.out; have hnb74 := NB513_465.out; have hnc74 := NB465_513.out; have hcz75_0 : w71.cell? ⟨gb513, 0, none⟩ = some (.int .i64 0) := (kC BK513.out 0).trans rfl; have hcz75_1 : w71.cell? ⟨gb513, 1, none⟩ = some (.int .i64 0) := (kC BK513.out 1).trans rfl; have hcz75_2 : w71.cell? ⟨gb513, 2, none⟩ = some (.int .i64 0) := (kC BK513.out 2).trans rfl; have hcz75_3 : w71.cell? ⟨gb513, 3, none⟩ = some (.slice none 0 0) := (kC BK513.out 3).trans rfl; have hfz75_0 := kF BK513.out 0; have hfz75_1 := kF BK513.out 1; have hfz75_2 := kF BK513.out 2; have hfz75_3 := kF BK513.out 3) | ((with_reducible refine gate_callee (f := 34) rfl ?_); refine goesL_ (some 120) rfl rfl Try.func34 (by kernel_rfl) rfl #[.pointer (some ⟨gb465, 0, none⟩)] rfl (by (try simp only [List.map_toArray, List.map_cons, List.map_nil]); first | done | rfl | (simp only [List.length_drop, List.length_take]; rfl)) ?_; (with_reducible refine (zO.calls gb465 l0 x466001_4 x466002_4 t514 t515 t516 w _ ?side1 ?side2 A67.out).mono ?_); (case side1 => repeat (first | (with_reducible first | exact HI465.out | apply I6.alloc | apply I6.drewN | apply I6.drew | apply I6.set_1 | apply I6.set_2 | refine I6.far ?_ NB465_464.out _ | refine I6.far ?_ NB465_478.out _ | refine I6.far ?_ NB465_513.out _) | exact HI465.out)); (case side2 => repeat (first | (with_reducible first | exact HB.out | apply bA | apply bN | apply bD | refine bS ?_ (I6.ge HI465.out) | refine bS ?_ GE464.out | refine bS ?_ GE478.out | refine bS ?_ GE513.out) | exact HB.out)); rintro e w76 ⟨rfl, hi, hb, hk⟩; refine ⟨_, rfl, ?_⟩; have n0_ := Aside0.mk (Kd.S_mono (Kd.S_keep (I6.apartS (show I6 w _ gb465 l0 x466001_4 x466002_4 from by repeat (first | (with_reducible first | exact HI465.out | apply I6.alloc | apply I6.drewN | apply I6.drew | apply I6.set_1 | apply I6.set_2 | refine I6.far ?_ NB465_464.out _ | refine I6.far ?_ NB465_478.out _ | refine I6.far ?_ NB465_513.out _) | exact HI465.out)) (by (with_reducible repeat (first | apply Kd.S_alloc | apply Kd.S_drewN | apply Kd.S_drew)); exact (Kd.S_mono (Kd.S_far (p := ⟨gb513, 3, none⟩) (Kd.S_far (p := ⟨gb513, 2, none⟩) (Kd.S_far (p := ⟨gb513, 1, none⟩) (Kd.S_far (p := ⟨gb513, 0, none⟩) (Kd.S_mono HO_479000.out (fun k_ hk => (⟨hk, hk.2⟩ : _ ∧ k_ ≠ gb513))) (fun _ hk => hk.2) (.int .i64 0)) (fun _ hk => hk.2) (.int .i64 0)) (fun _ hk => hk.2) (.int .i64 0)) (fun _ hk => hk.2) (.slice none 0 0)) (fun _ h_ => h_.1))) (by decide)) hk (fun _ h => h.2)) (fun _ h => h.1)); have n1_ := Aside0.mk (Kd.R_mono (Kd.R_keep (I6.apart (show I6 w _ gb465 l0 x466001_4 x466002_4 from by repeat (first | (with_reducible first | exact HI465.out | apply I6.alloc | apply I6.drewN | apply I6.drew | apply I6.set_1 | apply I6.set_2 | refine I6.far ?_ NB465_464.out _ | refine I6.far ?_ NB465_478.out _ | refine I6.far ?_ NB465_513.out _) | exact HI465.out)) (by (with_reducible repeat (first | apply Kd.R_alloc | apply Kd.R_drewN | apply Kd.R_drew)); exact (Kd.R_mono (Kd.R_far (p := ⟨gb513, 3, none⟩) (Kd.R_far (p := ⟨gb513, 2, none⟩) (Kd.R_far (p := ⟨gb513, 1, none⟩) (Kd.R_far (p := ⟨gb513, 0, none⟩) (Kd.R_types HO_479001.out BK513.out (by decide)) (fun _ hk => hk.2) (.int .i64 0)) (fun _ hk => hk.2) (.int .i64 0)) (fun _ hk => hk.2) (.int .i64 0)) (fun _ hk => hk.2) (.slice none 0 0)) (fun _ h_ => h_.1))) (by decide)) hk (fun _ h => h.2)) (fun _ h => h.1)); have n2_ := Aside0.mk (Kd.R_mono (Kd.R_keep (I6.apart (show I6 w _ gb465 l0 x466001_4 x466002_4 from by repeat (first | (with_reducible first | exact HI465.out | apply I6.alloc | apply I6.drewN | apply I6.drew | apply I6.set_1 | apply I6.set_2 | refine I6.far ?_ NB465_464.out _ | refine I6.far ?_ NB465_478.out _ | refine I6.far ?_ NB465_513.out _) | exact HI465.out)) (by (with_reducible repeat (first | apply Kd.R_alloc | apply Kd.R_drewN | apply Kd.R_drew)); exact (Kd.R_mono (Kd.R_far (p := ⟨gb513, 3, none⟩) (Kd.R_far (p := ⟨gb513, 2, none⟩) (Kd.R_far (p := ⟨gb513, 1, none⟩) (Kd.R_far (p := ⟨gb513, 0, none⟩) (Kd.R_types HO_479002.out BK513.out (by decide)) (fun _ hk => hk.2) (.int .i64 0)) (fun _ hk => hk.2) (.int .i64 0)) (fun _ hk => hk.2) (.int .i64 0)) (fun _ hk => hk.2) (.slice none 0 0)) (fun _ h_ => h_.1))) (by decide)) hk (fun _ h => h.2)) (fun _ h => h.1)); have n3_ := Aside0.mk (KeepBut.blk hk (g' := gb464) (o := .cells #[.slice none 0 0, .slice none 0 0, .slice none 0 0, .int .i64 0] 26 (0, 0)) (by (with_reducible repeat (first | refine kN ?_ _ | refine kD ?_ | refine kA ?_ _)); refine blk_far ?_ NB464_513.out _; (with_reducible repeat (first | refine kN ?_ _ | refine kD ?_ | refine kA ?_ _)); refine blk_far ?_ NB464_513.out _; (with_reducible repeat (first | refine kN ?_ _ | refine kD ?_ | refine kA ?_ _)); refine blk_far ?_ NB464_513.out _; (with_reducible repeat (first | refine kN ?_ _ | refine kD ?_ | refine kA ?_ _)); refine blk_far ?_ NB464_513.out _; (with_reducible repeat (first | refine kN ?_ _ | refine kD ?_ | refine kA ?_ _)); exact BK464.out) NB464_465.out (by simp)); have n4_ := Aside0.mk (KeepBut.blk hk (g' := gb478) (o := .cells #[u479000, u479001, u479002, .int .i64 t475] 26 (0, 0)) (by (with_reducible repeat (first | refine kN ?_ _ | refine kD ?_ | refine kA ?_ _)); refine blk_far ?_ NB478_513.out _; (with_reducible repeat (first | refine kN ?_ _ | refine kD ?_ | refine kA ?_ _)); refine blk_far ?_ NB478_513.out _; (with_reducible repeat (first | refine kN ?_ _ | refine kD ?_ | refine kA ?_ _)); refine blk_far ?_ NB478_513.out _; (with_reducible repeat (first | refine kN ?_ _ | refine kD ?_ | refine kA ?_ _)); refine blk_far ?_ NB478_513.out _; (with_reducible repeat (first | refine kN ?_ _ | refine kD ?_ | refine kA ?_ _)); exact BK478.out) NB478_465.out (by simp)); have n5_ := Aside0.mk (KeepBut.blk hk (g' := gb513) (o := .cells #[.int .i64 0, .int .i64 0, .int .i64 0, .slice none 0 0] 40 (0, 0)) (by (with_reducible repeat (first | refine kN ?_ _ | refine kD ?_ | refine kA ?_ _)); refine kP (cs := #[.int .i64 0, .int .i64 0, .int .i64 0, .slice none 0 0]) ?_ 3 _ rfl; (with_reducible repeat (first | refine kN ?_ _ | refine kD ?_ | refine kA ?_ _)); refine kP (cs := #[.int .i64 0, .int .i64 0, .int .i64 0, .slice none 0 0]) ?_ 2 _ rfl; (with_reducible repeat (first | refine kN ?_ _ | refine kD ?_ | refine kA ?_ _)); refine kP (cs := #[.int .i64 0, .int .i64 0, .int .i64 0, .slice none 0 0]) ?_ 1 _ rfl; (with_reducible repeat (first | refine kN ?_ _ | refine kD ?_ | refine kA ?_ _)); refine kP (cs := #[.int .i64 0, .int .i64 0, .int .i64 0, .slice none 0 0]) ?_ 0 _ rfl; (with_reducible repeat (first | refine kN ?_ _ | refine kD ?_ | refine kA ?_ _)); exact BK513.out) NB513_465.out (by simp)); have n6_ := Aside0.mk (hb); have n7_ := Aside0.mk (hi); clear HO_479000; clear HO_479001; clear HO_479002; clear BK464; clear BK478; clear BK513; clear HB; clear HI465; have HO_479000 := n0_; have HO_479001 := n1_; have HO_479002 := n2_; have BK464 := n3_; have BK478 := n4_; have BK513 := n5_; have HB := n6_; have HI465 := n7_; clear n0_ n1_ n2_ n3_ n4_ n5_ n6_ n7_; (try clear hb); (try clear hb2); (try clear hk); (try clear hi); have hcz77_0 : w76.cell? ⟨gb513, 0, none⟩ = some (.int .i64 0) := (kC BK513.out 0).trans rfl; have hcz77_1 : w76.cell? ⟨gb513, 1, none⟩ = some (.int .i64 0) := (kC BK513.out 1).trans rfl; have hcz77_2 : w76.cell? ⟨gb513, 2, none⟩ = some (.int .i64 0) := (kC BK513.out 2).trans rfl; have hcz77_3 : w76.cell? ⟨gb513, 3, none⟩ = some (.slice none 0 0) := (kC BK513.out 3).trans rfl; have hfz77_0 := kF BK513.out 0; have hfz77_1 := kF BK513.out 1; have hfz77_2 := kF BK513.out 2; have hfz77_3 := kF BK513.out 3) | ((with_reducible refine gate_callee (f := 34) rfl ?_); refine goesL_ (some 123) rfl rfl Try.func34 (by kernel_rfl) rfl #[.pointer (some ⟨gb465, 0, none⟩)] rfl (by (try simp only [List.map_toArray, List.map_cons, List.map_nil]); first | done | rfl | (simp only [List.length_drop, List.length_take]; rfl)) ?_; (with_reducible refine (zO.calls gb465 l0 t515 t516 t517 t518 t519 w _ ?side1 ?side2 A68.out).mono ?_); (case side1 => repeat (first | (with_reducible first | exact HI465.out | apply I6.alloc | apply I6.drewN | apply I6.drew | apply I6.set_1 | apply I6.set_2 | refine I6.far ?_ NB465_464.out _ | refine I6.far ?_ NB465_478.out _ | refine I6.far ?_ NB465_513.out _) | exact HI465.out)); (case side2 => repeat (first | (with_reducible first | exact HB.out | apply bA | apply bN | apply bD | refine bS ?_ (I6.ge HI465.out) | refine bS ?_ GE464.out | refine bS ?_ GE478.out | refine bS ?_ GE513.out) | exact HB.out)); rintro e w78 ⟨rfl, hi, hb, hk⟩; refine ⟨_, rfl, ?_⟩; have n0_ := Aside0.mk (Kd.S_mono (Kd.S_keep (I6.apartS (show I6 w _ gb465 l0 t515 t516 from by repeat (first | (with_reducible first | exact HI465.out | apply I6.alloc | apply I6.drewN | apply I6.drew | apply I6.set_1 | apply I6.set_2 | refine I6.far ?_ NB465_464.out _ | refine I6.far ?_ NB465_478.out _ | refine I6.far ?_ NB465_513.out _) | exact HI465.out)) (by (with_reducible repeat (first | apply Kd.S_alloc | apply Kd.S_drewN | apply Kd.S_drew)); exact (Kd.S_mono (Kd.S_far (p := ⟨gb513, 0, none⟩) (Kd.S_mono HO_479000.out (fun k_ hk => (⟨hk, hk.2⟩ : _ ∧ k_ ≠ gb513))) (fun _ hk => hk.2) (.int .i64 t514)) (fun _ h_ => h_.1))) (by decide)) hk (fun _ h => h.2)) (fun _ h => h.1)); have n1_ := Aside0.mk (Kd.R_mono (Kd.R_keep (I6.apart (show I6 w _ gb465 l0 t515 t516 from by repeat (first | (with_reducible first | exact HI465.out | apply I6.alloc | apply I6.drewN | apply I6.drew | apply I6.set_1 | apply I6.set_2 | refine I6.far ?_ NB465_464.out _ | refine I6.far ?_ NB465_478.out _ | refine I6.far ?_ NB465_513.out _) | exact HI465.out)) (by (with_reducible repeat (first | apply Kd.R_alloc | apply Kd.R_drewN | apply Kd.R_drew)); exact (Kd.R_mono (Kd.R_far (p := ⟨gb513, 0, none⟩) (Kd.R_types HO_479001.out BK513.out (by decide)) (fun _ hk => hk.2) (.int .i64 t514)) (fun _ h_ => h_.1))) (by decide)) hk (fun _ h => h.2)) (fun _ h => h.1)); have n2_ := Aside0.mk (Kd.R_mono (Kd.R_keep (I6.apart (show I6 w _ gb465 l0 t515 t516 from by repeat (first | (with_reducible first | exact HI465.out | apply I6.alloc | apply I6.drewN | apply I6.drew | apply I6.set_1 | apply I6.set_2 | refine I6.far ?_ NB465_464.out _ | refine I6.far ?_ NB465_478.out _ | refine I6.far ?_ NB465_513.out _) | exact HI465.out)) (by (with_reducible repeat (first | apply Kd.R_alloc | apply Kd.R_drewN | apply Kd.R_drew)); exact (Kd.R_mono (Kd.R_far (p := ⟨gb513, 0, none⟩) (Kd.R_types HO_479002.out BK513.out (by decide)) (fun _ hk => hk.2) (.int .i64 t514)) (fun _ h_ => h_.1))) (by decide)) hk (fun _ h => h.2)) (fun _ h => h.1)); have n3_ := Aside0.mk (KeepBut.blk hk (g' := gb464) (o := .cells #[.slice none 0 0, .slice none 0 0, .slice none 0 0, .int .i64 0] 26 (0, 0)) (by (with_reducible repeat (first | refine kN ?_ _ | refine kD ?_ | refine kA ?_ _)); refine blk_far ?_ NB464_513.out _; (with_reducible repeat (first | refine kN ?_ _ | refine kD ?_ | refine kA ?_ _)); exact BK464.out) NB464_465.out (by simp)); have n4_ := Aside0.mk (KeepBut.blk hk (g' := gb478) (o := .cells #[u479000, u479001, u479002, .int .i64 t475] 26 (0, 0)) (by (with_reducible repeat (first | refine kN ?_ _ | refine kD ?_ | refine kA ?_ _)); refine blk_far ?_ NB478_513.out _; (with_reducible repeat (first | refine kN ?_ _ | refine kD ?_ | refine kA ?_ _)); exact BK478.out) NB478_465.out (by simp)); have n5_ := Aside0.mk (KeepBut.blk hk (g' := gb513) (o := .cells #[.int .i64 t514, .int .i64 0, .int .i64 0, .slice none 0 0] 40 (0, 0)) (by (with_reducible repeat (first | refine kN ?_ _ | refine kD ?_ | refine kA ?_ _)); refine kP (cs := #[.int .i64 0, .int .i64 0, .int .i64 0, .slice none 0 0]) ?_ 0 _ rfl; (with_reducible repeat (first | refine kN ?_ _ | refine kD ?_ | refine kA ?_ _)); exact BK513.out) NB513_465.out (by simp)); have n6_ := Aside0.mk (hb); have n7_ := Aside0.mk (hi); clear HO_479000; clear HO_479001; clear HO_479002; clear BK464; clear BK478; clear BK513; clear HB; clear HI465; have HO_479000 := n0_; have HO_479001 := n1_; have HO_479002 := n2_; have BK464 := n3_; have BK478 := n4_; have BK513 := n5_; have HB := n6_; have HI465 := n7_; clear n0_ n1_ n2_ n3_ n4_ n5_ n6_ n7_; (try clear hb); (try clear hb2); (try clear hk); (try clear hi); have hcz79_0 : w78.cell? ⟨gb513, 0, none⟩ = some (.int .i64 t514) := (kC BK513.out 0).trans rfl; have hcz79_1 : w78.cell? ⟨gb513, 1, none⟩ = some (.int .i64 0) := (kC BK513.out 1).trans rfl; have hcz79_2 : w78.cell? ⟨gb513, 2, none⟩ = some (.int .i64 0) := (kC BK513.out 2).trans rfl; have hcz79_3 : w78.cell? ⟨gb513, 3, none⟩ = some (.slice none 0 0) := (kC BK513.out 3).trans rfl; have hfz79_0 := kF BK513.out 0; have hfz79_1 := kF BK513.out 1; have hfz79_2 := kF BK513.out 2; have hfz79_3 := kF BK513.out 3) | ((with_reducible refine gate_callee (f := 34) rfl ?_); refine goesL_ (some 126) rfl rfl Try.func34 (by kernel_rfl) rfl #[.pointer (some ⟨gb465, 0, none⟩)] rfl (by (try simp only [List.map_toArray, List.map_cons, List.map_nil]); first | done | rfl | (simp only [List.length_drop, List.length_take]; rfl)) ?_; (with_reducible refine (zO.calls gb465 l0 t518 t519 t520 t521 t522 w _ ?side1 ?side2 A69.out).mono ?_); (case side1 => repeat (first | (with_reducible first | exact HI465.out | apply I6.alloc | apply I6.drewN | apply I6.drew | apply I6.set_1 | apply I6.set_2 | refine I6.far ?_ NB465_464.out _ | refine I6.far ?_ NB465_478.out _ | refine I6.far ?_ NB465_513.out _) | exact HI465.out)); (case side2 => repeat (first | (with_reducible first | exact HB.out | apply bA | apply bN | apply bD | refine bS ?_ (I6.ge HI465.out) | refine bS ?_ GE464.out | refine bS ?_ GE478.out | refine bS ?_ GE513.out) | exact HB.out)); rintro e w80 ⟨rfl, hi, hb, hk⟩; refine ⟨_, rfl, ?_⟩; have n0_ := Aside0.mk (Kd.S_mono (Kd.S_keep (I6.apartS (show I6 w _ gb465 l0 t518 t519 from by repeat (first | (with_reducible first | exact HI465.out | apply I6.alloc | apply I6.drewN | apply I6.drew | apply I6.set_1 | apply I6.set_2 | refine I6.far ?_ NB465_464.out _ | refine I6.far ?_ NB465_478.out _ | refine I6.far ?_ NB465_513.out _) | exact HI465.out)) (by (with_reducible repeat (first | apply Kd.S_alloc | apply Kd.S_drewN | apply Kd.S_drew)); exact (Kd.S_mono (Kd.S_far (p := ⟨gb513, 1, none⟩) (Kd.S_mono HO_479000.out (fun k_ hk => (⟨hk, hk.2⟩ : _ ∧ k_ ≠ gb513))) (fun _ hk => hk.2) (.int .i64 t517)) (fun _ h_ => h_.1))) (by decide)) hk (fun _ h => h.2)) (fun _ h => h.1)); have n1_ := Aside0.mk (Kd.R_mono (Kd.R_keep (I6.apart (show I6 w _ gb465 l0 t518 t519 from by repeat (first | (with_reducible first | exact HI465.out | apply I6.alloc | apply I6.drewN | apply I6.drew | apply I6.set_1 | apply I6.set_2 | refine I6.far ?_ NB465_464.out _ | refine I6.far ?_ NB465_478.out _ | refine I6.far ?_ NB465_513.out _) | exact HI465.out)) (by (with_reducible repeat (first | apply Kd.R_alloc | apply Kd.R_drewN | apply Kd.R_drew)); exact (Kd.R_mono (Kd.R_far (p := ⟨gb513, 1, none⟩) (Kd.R_types HO_479001.out BK513.out (by decide)) (fun _ hk => hk.2) (.int .i64 t517)) (fun _ h_ => h_.1))) (by decide)) hk (fun _ h => h.2)) (fun _ h => h.1)); have n2_ := Aside0.mk (Kd.R_mono (Kd.R_keep (I6.apart (show I6 w _ gb465 l0 t518 t519 from by repeat (first | (with_reducible first | exact HI465.out | apply I6.alloc | apply I6.drewN | apply I6.drew | apply I6.set_1 | apply I6.set_2 | refine I6.far ?_ NB465_464.out _ | refine I6.far ?_ NB465_478.out _ | refine I6.far ?_ NB465_513.out _) | exact HI465.out)) (by (with_reducible repeat (first | apply Kd.R_alloc | apply Kd.R_drewN | apply Kd.R_drew)); exact (Kd.R_mono (Kd.R_far (p := ⟨gb513, 1, none⟩) (Kd.R_types HO_479002.out BK513.out (by decide)) (fun _ hk => hk.2) (.int .i64 t517)) (fun _ h_ => h_.1))) (by decide)) hk (fun _ h => h.2)) (fun _ h => h.1)); have n3_ := Aside0.mk (KeepBut.blk hk (g' := gb464) (o := .cells #[.slice none 0 0, .slice none 0 0, .slice none 0 0, .int .i64 0] 26 (0, 0)) (by (with_reducible repeat (first | refine kN ?_ _ | refine kD ?_ | refine kA ?_ _)); refine blk_far ?_ NB464_513.out _; (with_reducible repeat (first | refine kN ?_ _ | refine kD ?_ | refine kA ?_ _)); exact BK464.out) NB464_465.out (by simp)); have n4_ := Aside0.mk (KeepBut.blk hk (g' := gb478) (o := .cells #[u479000, u479001, u479002, .int .i64 t475] 26 (0, 0)) (by (with_reducible repeat (first | refine kN ?_ _ | refine kD ?_ | refine kA ?_ _)); refine blk_far ?_ NB478_513.out _; (with_reducible repeat (first | refine kN ?_ _ | refine kD ?_ | refine kA ?_ _)); exact BK478.out) NB478_465.out (by simp)); have n5_ := Aside0.mk (KeepBut.blk hk (g' := gb513) (o := .cells #[.int .i64 t514, .int .i64 t517, .int .i64 0, .slice none 0 0] 40 (0, 0)) (by (with_reducible repeat (first | refine kN ?_ _ | refine kD ?_ | refine kA ?_ _)); refine kP (cs := #[.int .i64 t514, .int .i64 0, .int .i64 0, .slice none 0 0]) ?_ 1 _ rfl; (with_reducible repeat (first | refine kN ?_ _ | refine kD ?_ | refine kA ?_ _)); exact BK513.out) NB513_465.out (by simp)); have n6_ := Aside0.mk (hb); have n7_ := Aside0.mk (hi); clear HO_479000; clear HO_479001; clear HO_479002; clear BK464; clear BK478; clear BK513; clear HB; clear HI465; have HO_479000 := n0_; have HO_479001 := n1_; have HO_479002 := n2_; have BK464 := n3_; have BK478 := n4_; have BK513 := n5_; have HB := n6_; have HI465 := n7_; clear n0_ n1_ n2_ n3_ n4_ n5_ n6_ n7_; (try clear hb); (try clear hb2); (try clear hk); (try clear hi); have hcz81_0 : w80.cell? ⟨gb513, 0, none⟩ = some (.int .i64 t514) := (kC BK513.out 0).trans rfl; have hcz81_1 : w80.cell? ⟨gb513, 1, none⟩ = some (.int .i64 t517) := (kC BK513.out 1).trans rfl; have hcz81_2 : w80.cell? ⟨gb513, 2, none⟩ = some (.int .i64 0) := (kC BK513.out 2).trans rfl; have hcz81_3 : w80.cell? ⟨gb513, 3, none⟩ = some (.slice none 0 0) := (kC BK513.out 3).trans rfl; have hfz81_0 := kF BK513.out 0; have hfz81_1 := kF BK513.out 1; have hfz81_2 := kF BK513.out 2; have hfz81_3 := kF BK513.out 3) | ((with_reducible refine gate_callee (f := 35) rfl ?_); refine goesL_ (some 129) rfl rfl Try.func35 (by kernel_rfl) rfl #[.pointer (some ⟨gb465, 0, none⟩)] rfl (by (try simp only [List.map_toArray, List.map_cons, List.map_nil]); first | done | rfl | (simp only [List.length_drop, List.length_take]; rfl)) ?_; (with_reducible refine (zP.calls gb465 l0 t521 t522 t523 t524 t525 w _ ?side1 ?side2 A70.out).mono ?_); (case side1 => repeat (first | (with_reducible first | exact HI465.out | apply I6.alloc | apply I6.drewN | apply I6.drew | apply I6.set_1 | apply I6.set_2 | refine I6.far ?_ NB465_464.out _ | refine I6.far ?_ NB465_478.out _ | refine I6.far ?_ NB465_513.out _) | exact HI465.out)); (case side2 => repeat (first | (with_reducible first | exact HB.out | apply bA | apply bN | apply bD | refine bS ?_ (I6.ge HI465.out) | refine bS ?_ GE464.out | refine bS ?_ GE478.out | refine bS ?_ GE513.out) | exact HB.out)); rintro e w82 ⟨rfl, hi, hb, hk⟩; refine ⟨_, rfl, ?_⟩; have n0_ := Aside0.mk (Kd.S_mono (Kd.S_keep (I6.apartS (show I6 w _ gb465 l0 t521 t522 from by repeat (first | (with_reducible first | exact HI465.out | apply I6.alloc | apply I6.drewN | apply I6.drew | apply I6.set_1 | apply I6.set_2 | refine I6.far ?_ NB465_464.out _ | refine I6.far ?_ NB465_478.out _ | refine I6.far ?_ NB465_513.out _) | exact HI465.out)) (by (with_reducible repeat (first | apply Kd.S_alloc | apply Kd.S_drewN | apply Kd.S_drew)); exact (Kd.S_mono (Kd.S_far (p := ⟨gb513, 2, none⟩) (Kd.S_mono HO_479000.out (fun k_ hk => (⟨hk, hk.2⟩ : _ ∧ k_ ≠ gb513))) (fun _ hk => hk.2) (.int .i64 t520)) (fun _ h_ => h_.1))) (by decide)) hk (fun _ h => h.2)) (fun _ h => h.1)); have n1_ := Aside0.mk (Kd.R_mono (Kd.R_keep (I6.apart (show I6 w _ gb465 l0 t521 t522 from by repeat (first | (with_reducible first | exact HI465.out | apply I6.alloc | apply I6.drewN | apply I6.drew | apply I6.set_1 | apply I6.set_2 | refine I6.far ?_ NB465_464.out _ | refine I6.far ?_ NB465_478.out _ | refine I6.far ?_ NB465_513.out _) | exact HI465.out)) (by (with_reducible repeat (first | apply Kd.R_alloc | apply Kd.R_drewN | apply Kd.R_drew)); exact (Kd.R_mono (Kd.R_far (p := ⟨gb513, 2, none⟩) (Kd.R_types HO_479001.out BK513.out (by decide)) (fun _ hk => hk.2) (.int .i64 t520)) (fun _ h_ => h_.1))) (by decide)) hk (fun _ h => h.2)) (fun _ h => h.1)); have n2_ := Aside0.mk (Kd.R_mono (Kd.R_keep (I6.apart (show I6 w _ gb465 l0 t521 t522 from by repeat (first | (with_reducible first | exact HI465.out | apply I6.alloc | apply I6.drewN | apply I6.drew | apply I6.set_1 | apply I6.set_2 | refine I6.far ?_ NB465_464.out _ | refine I6.far ?_ NB465_478.out _ | refine I6.far ?_ NB465_513.out _) | exact HI465.out)) (by (with_reducible repeat (first | apply Kd.R_alloc | apply Kd.R_drewN | apply Kd.R_drew)); exact (Kd.R_mono (Kd.R_far (p := ⟨gb513, 2, none⟩) (Kd.R_types HO_479002.out BK513.out (by decide)) (fun _ hk => hk.2) (.int .i64 t520)) (fun _ h_ => h_.1))) (by decide)) hk (fun _ h => h.2)) (fun _ h => h.1)); have n3_ := Aside0.mk (KeepBut.blk hk (g' := gb464) (o := .cells #[.slice none 0 0, .slice none 0 0, .slice none 0 0, .int .i64 0] 26 (0, 0)) (by (with_reducible repeat (first | refine kN ?_ _ | refine kD ?_ | refine kA ?_ _)); refine blk_far ?_ NB464_513.out _; (with_reducible repeat (first | refine kN ?_ _ | refine kD ?_ | refine kA ?_ _)); exact BK464.out) NB464_465.out (by simp)); have n4_ := Aside0.mk (KeepBut.blk hk (g' := gb478) (o := .cells #[u479000, u479001, u479002, .int .i64 t475] 26 (0, 0)) (by (with_reducible repeat (first | refine kN ?_ _ | refine kD ?_ | refine kA ?_ _)); refine blk_far ?_ NB478_513.out _; (with_reducible repeat (first | refine kN ?_ _ | refine kD ?_ | refine kA ?_ _)); exact BK478.out) NB478_465.out (by simp)); have n5_ := Aside0.mk (KeepBut.blk hk (g' := gb513) (o := .cells #[.int .i64 t514, .int .i64 t517, .int .i64 t520, .slice none 0 0] 40 (0, 0)) (by (with_reducible repeat (first | refine kN ?_ _ | refine kD ?_ | refine kA ?_ _)); refine kP (cs := #[.int .i64 t514, .int .i64 t517, .int .i64 0, .slice none 0 0]) ?_ 2 _ rfl; (with_reducible repeat (first | refine kN ?_ _ | refine kD ?_ | refine kA ?_ _)); exact BK513.out) NB513_465.out (by simp)); have n6_ := Aside0.mk (hb); have n7_ := Aside0.mk (hi); clear HO_479000; clear HO_479001; clear HO_479002; clear BK464; clear BK478; clear BK513; clear HB; clear HI465; have HO_479000 := n0_; have HO_479001 := n1_; have HO_479002 := n2_; have BK464 := n3_; have BK478 := n4_; have BK513 := n5_; have HB := n6_; have HI465 := n7_; clear n0_ n1_ n2_ n3_ n4_ n5_ n6_ n7_; (try clear hb); (try clear hb2); (try clear hk); (try clear hi)))
          go_loopg [22] k4 (fun kq v22 w' => ∃ (x22_5 : Int) (x466001_5 : Int) (x466002_5 : Bool) (x514003_5 : List (S42)) (u514003 : Value), v22 = .int .i64 x22_5 ∧ Aside0 (zD.l5 kq l0 t509 x19_4 t523 x22_5 l0 x466001_5 x466002_5 x479000_4 x479001_2 x479002_3 t475 t514 t517 t520 x514003_5 = some (r1, r2, r3, r4, r5)) ∧ Aside0 (kq ≤ k4) ∧ Aside0 (Kd.S k40 40 w' w.heap.size (fun k_ => some k_ ≠ (u514003 : Value).ownBlock ∧ k_ ≠ gb513) u479000 x479000_4) ∧ Aside0 (Kd.R (Kd.int .i64) 3 w' w.heap.size (fun _ => True) u479001 x479001_2) ∧ Aside0 (Kd.R Kd.string 9 w' w.heap.size (fun _ => True) u479002 x479002_3) ∧ Aside0 (Kd.R k42 42 w' w.heap.size (fun _ => True) u514003 x514003_5) ∧ Aside0 (w'.heap[gb464]? = some (.cells #[(.slice none 0 0), (.slice none 0 0), (.slice none 0 0), .int .i64 0] 26 (0, 0))) ∧ Aside0 (w'.heap[gb478]? = some (.cells #[u479000, u479001, u479002, .int .i64 t475] 26 (0, 0))) ∧ Aside0 (w'.heap[gb513]? = some (.cells #[.int .i64 t514, .int .i64 t517, .int .i64 t520, u514003] 40 (0, 0))) ∧ Aside0 (I6 w w' gb465 l0 x466001_5 x466002_5) ∧ Aside0 (Below w.heap.size w w'))
          case atStart => exact ⟨(0), (t524), (t525), (([] : List (S42))), (.slice none 0 0), (by first | rfl | (simp; done) | (simp [*]; done)), H', ⟨Nat.le_refl _⟩, ⟨by (with_reducible repeat (first | apply Kd.S_alloc | apply Kd.S_drewN | apply Kd.S_drew)); exact Kd.S_mono HO_479000.out (fun _ hk => ⟨(by simp [Value.ownBlock]), hk.2⟩)⟩, ⟨by (with_reducible repeat (first | apply Kd.R_alloc | apply Kd.R_drewN | apply Kd.R_drew)); exact HO_479001.out⟩, ⟨by (with_reducible repeat (first | apply Kd.R_alloc | apply Kd.R_drewN | apply Kd.R_drew)); exact HO_479002.out⟩, ⟨by first | exact Kd.R_nil _ _ _ _ _ | exact Kd.N_nil _ _ _ _ _ | exact Kd.V_nil _ _ _ _ _ | exact Kd.Q_nil _ _ _ _ _ | exact Kd.S_nil _ _ _ _ _⟩, ⟨by (with_reducible repeat (first | refine kN ?_ _ | refine kD ?_ | refine kA ?_ _)); exact BK464.out⟩, ⟨by (with_reducible repeat (first | refine kN ?_ _ | refine kD ?_ | refine kA ?_ _)); exact BK478.out⟩, ⟨by (with_reducible repeat (first | refine kN ?_ _ | refine kD ?_ | refine kA ?_ _)); exact BK513.out⟩, ⟨by repeat (first | (with_reducible first | exact HI465.out | apply I6.alloc | apply I6.drewN | apply I6.drew | apply I6.set_1 | apply I6.set_2 | refine I6.far ?_ NB465_464.out _ | refine I6.far ?_ NB465_478.out _ | refine I6.far ?_ NB465_513.out _) | exact HI465.out)⟩, ⟨by repeat (first | (with_reducible first | exact HB.out | apply bA | apply bN | apply bD | refine bS ?_ (I6.ge HI465.out) | refine bS ?_ GE464.out | refine bS ?_ GE478.out | refine bS ?_ GE513.out) | exact HB.out)⟩⟩
          case round =>
           clear H'
           try clear c66b0
           try clear hcz75_0
           try clear hcz75_1
           try clear hcz75_2
           try clear hcz75_3
           try clear hcz77_0
           try clear hcz77_1
           try clear hcz77_2
           try clear hcz77_3
           try clear hcz79_0
           try clear hcz79_1
           try clear hcz79_2
           try clear hcz79_3
           try clear hcz81_0
           try clear hcz81_1
           try clear hcz81_2
           try clear hcz81_3
           try clear hfz75_0
           try clear hfz75_1
           try clear hfz75_2
           try clear hfz75_3
           try clear hfz77_0
           try clear hfz77_1
           try clear hfz77_2
           try clear hfz77_3
           try clear hfz79_0
           try clear hfz79_1
           try clear hfz79_2
           try clear hfz79_3
           try clear hfz81_0
           try clear hfz81_1
           try clear hfz81_2
           try clear hfz81_3
           obtain ⟨x22_5, x466001_5, x466002_5, x514003_5, u514003, rfl, HA, HK5, HO_479000, HO_479001, HO_479002, HO_514003, BK464, BK478, BK513, HI465, HB⟩ := hrel
           cases gk with
           | zero => exact absurd HA.out (by simp [zD.l5])
           | succ k5 =>
            have H := HA.out
            clear HA
            simp only [zD.l5] at H
            have HC83 := Aside0.mk H
            clear H
            go_upto_region 44 with (fail)
            go_cut [139] (fun v139 wc => ∃ (kq : Nat) (x139_82 : Bool), v139 = .bool x139_82 ∧ Aside0 (zD.j7 kq l0 t509 x19_4 t523 x22_5 x139_82 l0 x466001_5 x466002_5 x479000_4 x479001_2 x479002_3 t475 t514 t517 t520 x514003_5 = some (r1, r2, r3, r4, r5)) ∧ Aside0 (kq ≤ k5) ∧ Aside0 (Kd.S k40 40 wc w.heap.size (fun k_ => some k_ ≠ (u514003 : Value).ownBlock ∧ k_ ≠ gb513) u479000 x479000_4) ∧ Aside0 (Kd.R (Kd.int .i64) 3 wc w.heap.size (fun _ => True) u479001 x479001_2) ∧ Aside0 (Kd.R Kd.string 9 wc w.heap.size (fun _ => True) u479002 x479002_3) ∧ Aside0 (Kd.R k42 42 wc w.heap.size (fun _ => True) u514003 x514003_5) ∧ Aside0 (wc.heap[gb464]? = some (.cells #[(.slice none 0 0), (.slice none 0 0), (.slice none 0 0), .int .i64 0] 26 (0, 0))) ∧ Aside0 (wc.heap[gb478]? = some (.cells #[u479000, u479001, u479002, .int .i64 t475] 26 (0, 0))) ∧ Aside0 (wc.heap[gb513]? = some (.cells #[.int .i64 t514, .int .i64 t517, .int .i64 t520, u514003] 40 (0, 0))) ∧ Aside0 (I6 w wc gb465 l0 x466001_5 x466002_5) ∧ Aside0 (Below w.heap.size w wc))
            case first =>
             have H := HC83.out
             clear HC83
             by_cases c84 : x22_5 < t523
             ·rw [if_pos c84] at H
              have c84b0 : decide (x22_5 < t523) = true := decide_eq_true c84
              clear c84
              (first | rw [c84b0] | (simp only [i64_w, i32_w]; rw [c84b0]) | skip)
              have H' := Aside0.mk H
              clear H
              obtain ⟨ASz85_0, cSz85_0, HGz85, hgz85, HSz85_0⟩ := HI465.out
              have hcz85_0 := cellS60_0 HGz85
              have hcz85_1 := cellS60_1 HGz85
              have hcz85_2 := cellS60_2 HGz85
              have hfz85_1 := kF HGz85 1
              have hfz85_2 := kF HGz85 2
              clear HGz85 hgz85
              go_wp2
              go_meet
              case rel => exact ⟨_, (!x466002_5), (by first | rfl | (simp; done) | (simp [*]; done)), H', ⟨by have := HJ4.out; have := HK2.out; have := HK3.out; have := HK4.out; have := HK5.out; first | omega | exact Nat.le_refl _⟩, ⟨by (with_reducible repeat (first | apply Kd.S_alloc | apply Kd.S_drewN | apply Kd.S_drew)); exact HO_479000.out⟩, ⟨by (with_reducible repeat (first | apply Kd.R_alloc | apply Kd.R_drewN | apply Kd.R_drew)); exact HO_479001.out⟩, ⟨by (with_reducible repeat (first | apply Kd.R_alloc | apply Kd.R_drewN | apply Kd.R_drew)); exact HO_479002.out⟩, ⟨by (with_reducible repeat (first | apply Kd.R_alloc | apply Kd.R_drewN | apply Kd.R_drew)); exact HO_514003.out⟩, ⟨by (with_reducible repeat (first | refine kN ?_ _ | refine kD ?_ | refine kA ?_ _)); exact BK464.out⟩, ⟨by (with_reducible repeat (first | refine kN ?_ _ | refine kD ?_ | refine kA ?_ _)); exact BK478.out⟩, ⟨by (with_reducible repeat (first | refine kN ?_ _ | refine kD ?_ | refine kA ?_ _)); exact BK513.out⟩, ⟨by repeat (first | (with_reducible first | exact HI465.out | apply I6.alloc | apply I6.drewN | apply I6.drew | apply I6.set_1 | apply I6.set_2 | refine I6.far ?_ NB465_464.out _ | refine I6.far ?_ NB465_478.out _ | refine I6.far ?_ NB465_513.out _) | exact HI465.out)⟩, ⟨by repeat (first | (with_reducible first | exact HB.out | apply bA | apply bN | apply bD | refine bS ?_ (I6.ge HI465.out) | refine bS ?_ GE464.out | refine bS ?_ GE478.out | refine bS ?_ GE513.out) | exact HB.out)⟩⟩
             rw [if_neg c84] at H
             have c84b0 : decide (x22_5 < t523) = false := decide_eq_false c84
             clear c84
             (first | rw [c84b0] | (simp only [i64_w, i32_w]; rw [c84b0]) | skip)
             have H' := Aside0.mk H
             clear H
             go_wp2
             go_meet
             case rel => exact ⟨_, (false), (by first | rfl | (simp; done) | (simp [*]; done)), H', ⟨by have := HJ4.out; have := HK2.out; have := HK3.out; have := HK4.out; have := HK5.out; first | omega | exact Nat.le_refl _⟩, ⟨by (with_reducible repeat (first | apply Kd.S_alloc | apply Kd.S_drewN | apply Kd.S_drew)); exact HO_479000.out⟩, ⟨by (with_reducible repeat (first | apply Kd.R_alloc | apply Kd.R_drewN | apply Kd.R_drew)); exact HO_479001.out⟩, ⟨by (with_reducible repeat (first | apply Kd.R_alloc | apply Kd.R_drewN | apply Kd.R_drew)); exact HO_479002.out⟩, ⟨by (with_reducible repeat (first | apply Kd.R_alloc | apply Kd.R_drewN | apply Kd.R_drew)); exact HO_514003.out⟩, ⟨by (with_reducible repeat (first | refine kN ?_ _ | refine kD ?_ | refine kA ?_ _)); exact BK464.out⟩, ⟨by (with_reducible repeat (first | refine kN ?_ _ | refine kD ?_ | refine kA ?_ _)); exact BK478.out⟩, ⟨by (with_reducible repeat (first | refine kN ?_ _ | refine kD ?_ | refine kA ?_ _)); exact BK513.out⟩, ⟨by repeat (first | (with_reducible first | exact HI465.out | apply I6.alloc | apply I6.drewN | apply I6.drew | apply I6.set_1 | apply I6.set_2 | refine I6.far ?_ NB465_464.out _ | refine I6.far ?_ NB465_478.out _ | refine I6.far ?_ NB465_513.out _) | exact HI465.out)⟩, ⟨by repeat (first | (with_reducible first | exact HB.out | apply bA | apply bN | apply bD | refine bS ?_ (I6.ge HI465.out) | refine bS ?_ GE464.out | refine bS ?_ GE478.out | refine bS ?_ GE513.out) | exact HB.out)⟩⟩
            case rest =>
             clear HC83
             obtain ⟨kq, x139_82, rfl, HA, HJ82, HO_479000, HO_479001, HO_479002, HO_514003, BK464, BK478, BK513, HI465, HB⟩ := hcut
             cases kq with
             | zero => exact absurd HA.out (by simp [zD.j7])
             | succ kj82 =>
              have H := HA.out
              clear HA
              simp only [zD.j7] at H
              by_cases c86 : x139_82 = true
              ·subst c86
               have H1 : ((zO.f l0 x466001_5 x466002_5).bind fun bt526 => ((zP.f l0 bt526.2.1 bt526.2.2).bind fun bt529 => ((zP.f l0 bt529.2.1 bt529.2.2).bind fun bt532 => (if x514003_5.length < 5864062014805 then (zD.l5 kj82 l0 t509 x19_4 t523 (wrap64 (x22_5 + 1)) l0 bt532.2.1 bt532.2.2 x479000_4 x479001_2 x479002_3 t475 t514 t517 t520 (x514003_5 ++ [(⟨bt526.1, bt529.1, bt532.1⟩ : S42)])) else (none))))) = some (r1, r2, r3, r4, r5) := by rw [if_pos rfl] at H; exact H
               clear H
               have H := H1
               clear H1
               replace H := Option.bind_eq_some_iff.mp H
               obtain ⟨⟨t526, t527, t528⟩, A870, H⟩ := H
               replace H : ((zP.f l0 t527 t528).bind fun bt529 => ((zP.f l0 bt529.2.1 bt529.2.2).bind fun bt532 => (if x514003_5.length < 5864062014805 then (zD.l5 kj82 l0 t509 x19_4 t523 (wrap64 (x22_5 + 1)) l0 bt532.2.1 bt532.2.2 x479000_4 x479001_2 x479002_3 t475 t514 t517 t520 (x514003_5 ++ [(⟨t526, bt529.1, bt532.1⟩ : S42)])) else (none)))) = some (r1, r2, r3, r4, r5) := H
               have A87 := Aside0.mk A870
               clear A870
               replace H := Option.bind_eq_some_iff.mp H
               obtain ⟨⟨t529, t530, t531⟩, A880, H⟩ := H
               replace H : ((zP.f l0 t530 t531).bind fun bt532 => (if x514003_5.length < 5864062014805 then (zD.l5 kj82 l0 t509 x19_4 t523 (wrap64 (x22_5 + 1)) l0 bt532.2.1 bt532.2.2 x479000_4 x479001_2 x479002_3 t475 t514 t517 t520 (x514003_5 ++ [(⟨t526, t529, bt532.1⟩ : S42)])) else (none))) = some (r1, r2, r3, r4, r5) := H
               have A88 := Aside0.mk A880
               clear A880
               replace H := Option.bind_eq_some_iff.mp H
               obtain ⟨⟨t532, t533, t534⟩, A890, H⟩ := H
               replace H : (if x514003_5.length < 5864062014805 then (zD.l5 kj82 l0 t509 x19_4 t523 (wrap64 (x22_5 + 1)) l0 t533 t534 x479000_4 x479001_2 x479002_3 t475 t514 t517 t520 (x514003_5 ++ [(⟨t526, t529, t532⟩ : S42)])) else (none)) = some (r1, r2, r3, r4, r5) := H
               have A89 := Aside0.mk A890
               clear A890
               by_cases c90 : x514003_5.length < 5864062014805
               ·rw [if_pos c90] at H
                have LMc90 := Aside0.mk c90
                clear c90
                obtain ⟨y535, hy535⟩ : ∃ y_ : List (S42), y_ = (x514003_5 ++ [(⟨t526, t529, t532⟩ : S42)]) := ⟨_, rfl⟩
                replace H : (zD.l5 kj82 l0 t509 x19_4 t523 (wrap64 (x22_5 + 1)) l0 t533 t534 x479000_4 x479001_2 x479002_3 t475 t514 t517 t520 y535) = some (r1, r2, r3, r4, r5) := by first | (rw [hy535]; with_reducible exact H) | (have H2_ := (Option.bind_some _ _).symm.trans H; rw [hy535]; with_reducible exact H2_) | (have H2_ := (Option.bind_some _ _).symm.trans H; with_reducible exact H2_) | with_reducible exact H | (rw [hy535]; exact H) | exact H
                have Ny535 := Aside0.mk hy535
                clear hy535
                have H' := Aside0.mk H
                clear H
                try go_wp2_with (first | ((with_reducible refine gate_callee (f := 34) rfl ?_); refine goesL_ (some 143) rfl rfl Try.func34 (by kernel_rfl) rfl #[.pointer (some ⟨gb465, 0, none⟩)] rfl (by (try simp only [List.map_toArray, List.map_cons, List.map_nil]); first | done | rfl | (simp only [List.length_drop, List.length_take]; rfl)) ?_; (with_reducible refine (zO.calls gb465 l0 x466001_5 x466002_5 t526 t527 t528 w _ ?side1 ?side2 A87.out).mono ?_); (case side1 => repeat (first | (with_reducible first | exact HI465.out | apply I6.alloc | apply I6.drewN | apply I6.drew | apply I6.set_1 | apply I6.set_2 | refine I6.far ?_ NB465_464.out _ | refine I6.far ?_ NB465_478.out _ | refine I6.far ?_ NB465_513.out _) | exact HI465.out)); (case side2 => repeat (first | (with_reducible first | exact HB.out | apply bA | apply bN | apply bD | refine bS ?_ (I6.ge HI465.out) | refine bS ?_ GE464.out | refine bS ?_ GE478.out | refine bS ?_ GE513.out) | exact HB.out)); rintro e w91 ⟨rfl, hi, hb, hk⟩; refine ⟨_, rfl, ?_⟩; have n0_ := Aside0.mk (Kd.S_mono (Kd.S_keep (I6.apartS (show I6 w _ gb465 l0 x466001_5 x466002_5 from by repeat (first | (with_reducible first | exact HI465.out | apply I6.alloc | apply I6.drewN | apply I6.drew | apply I6.set_1 | apply I6.set_2 | refine I6.far ?_ NB465_464.out _ | refine I6.far ?_ NB465_478.out _ | refine I6.far ?_ NB465_513.out _) | exact HI465.out)) (by (with_reducible repeat (first | apply Kd.S_alloc | apply Kd.S_drewN | apply Kd.S_drew)); exact HO_479000.out) (by decide)) hk (fun _ h => h.2)) (fun _ h => h.1)); have n1_ := Aside0.mk (Kd.R_mono (Kd.R_keep (I6.apart (show I6 w _ gb465 l0 x466001_5 x466002_5 from by repeat (first | (with_reducible first | exact HI465.out | apply I6.alloc | apply I6.drewN | apply I6.drew | apply I6.set_1 | apply I6.set_2 | refine I6.far ?_ NB465_464.out _ | refine I6.far ?_ NB465_478.out _ | refine I6.far ?_ NB465_513.out _) | exact HI465.out)) (by (with_reducible repeat (first | apply Kd.R_alloc | apply Kd.R_drewN | apply Kd.R_drew)); exact HO_479001.out) (by decide)) hk (fun _ h => h.2)) (fun _ h => h.1)); have n2_ := Aside0.mk (Kd.R_mono (Kd.R_keep (I6.apart (show I6 w _ gb465 l0 x466001_5 x466002_5 from by repeat (first | (with_reducible first | exact HI465.out | apply I6.alloc | apply I6.drewN | apply I6.drew | apply I6.set_1 | apply I6.set_2 | refine I6.far ?_ NB465_464.out _ | refine I6.far ?_ NB465_478.out _ | refine I6.far ?_ NB465_513.out _) | exact HI465.out)) (by (with_reducible repeat (first | apply Kd.R_alloc | apply Kd.R_drewN | apply Kd.R_drew)); exact HO_479002.out) (by decide)) hk (fun _ h => h.2)) (fun _ h => h.1)); have n3_ := Aside0.mk (Kd.R_mono (Kd.R_keep (I6.apart (show I6 w _ gb465 l0 x466001_5 x466002_5 from by repeat (first | (with_reducible first | exact HI465.out | apply I6.alloc | apply I6.drewN | apply I6.drew | apply I6.set_1 | apply I6.set_2 | refine I6.far ?_ NB465_464.out _ | refine I6.far ?_ NB465_478.out _ | refine I6.far ?_ NB465_513.out _) | exact HI465.out)) (by (with_reducible repeat (first | apply Kd.R_alloc | apply Kd.R_drewN | apply Kd.R_drew)); exact HO_514003.out) (by decide)) hk (fun _ h => h.2)) (fun _ h => h.1)); have n4_ := Aside0.mk (KeepBut.blk hk (g' := gb464) (o := .cells #[.slice none 0 0, .slice none 0 0, .slice none 0 0, .int .i64 0] 26 (0, 0)) (by (with_reducible repeat (first | refine kN ?_ _ | refine kD ?_ | refine kA ?_ _)); exact BK464.out) NB464_465.out (by simp)); have n5_ := Aside0.mk (KeepBut.blk hk (g' := gb478) (o := .cells #[u479000, u479001, u479002, .int .i64 t475] 26 (0, 0)) (by (with_reducible repeat (first | refine kN ?_ _ | refine kD ?_ | refine kA ?_ _)); exact BK478.out) NB478_465.out (by simp)); have n6_ := Aside0.mk (KeepBut.blk hk (g' := gb513) (o := .cells #[.int .i64 t514, .int .i64 t517, .int .i64 t520, u514003] 40 (0, 0)) (by (with_reducible repeat (first | refine kN ?_ _ | refine kD ?_ | refine kA ?_ _)); exact BK513.out) NB513_465.out (by simp)); have n7_ := Aside0.mk (hb); have n8_ := Aside0.mk (hi); clear HO_479000; clear HO_479001; clear HO_479002; clear HO_514003; clear BK464; clear BK478; clear BK513; clear HB; clear HI465; have HO_479000 := n0_; have HO_479001 := n1_; have HO_479002 := n2_; have HO_514003 := n3_; have BK464 := n4_; have BK478 := n5_; have BK513 := n6_; have HB := n7_; have HI465 := n8_; clear n0_ n1_ n2_ n3_ n4_ n5_ n6_ n7_ n8_; (try clear hb); (try clear hb2); (try clear hk); (try clear hi)) | ((with_reducible refine gate_callee (f := 35) rfl ?_); refine goesL_ (some 145) rfl rfl Try.func35 (by kernel_rfl) rfl #[.pointer (some ⟨gb465, 0, none⟩)] rfl (by (try simp only [List.map_toArray, List.map_cons, List.map_nil]); first | done | rfl | (simp only [List.length_drop, List.length_take]; rfl)) ?_; (with_reducible refine (zP.calls gb465 l0 t527 t528 t529 t530 t531 w _ ?side1 ?side2 A88.out).mono ?_); (case side1 => repeat (first | (with_reducible first | exact HI465.out | apply I6.alloc | apply I6.drewN | apply I6.drew | apply I6.set_1 | apply I6.set_2 | refine I6.far ?_ NB465_464.out _ | refine I6.far ?_ NB465_478.out _ | refine I6.far ?_ NB465_513.out _) | exact HI465.out)); (case side2 => repeat (first | (with_reducible first | exact HB.out | apply bA | apply bN | apply bD | refine bS ?_ (I6.ge HI465.out) | refine bS ?_ GE464.out | refine bS ?_ GE478.out | refine bS ?_ GE513.out) | exact HB.out)); rintro e w92 ⟨rfl, hi, hb, hk⟩; refine ⟨_, rfl, ?_⟩; have n0_ := Aside0.mk (Kd.S_mono (Kd.S_keep (I6.apartS (show I6 w _ gb465 l0 t527 t528 from by repeat (first | (with_reducible first | exact HI465.out | apply I6.alloc | apply I6.drewN | apply I6.drew | apply I6.set_1 | apply I6.set_2 | refine I6.far ?_ NB465_464.out _ | refine I6.far ?_ NB465_478.out _ | refine I6.far ?_ NB465_513.out _) | exact HI465.out)) (by (with_reducible repeat (first | apply Kd.S_alloc | apply Kd.S_drewN | apply Kd.S_drew)); exact HO_479000.out) (by decide)) hk (fun _ h => h.2)) (fun _ h => h.1)); have n1_ := Aside0.mk (Kd.R_mono (Kd.R_keep (I6.apart (show I6 w _ gb465 l0 t527 t528 from by repeat (first | (with_reducible first | exact HI465.out | apply I6.alloc | apply I6.drewN | apply I6.drew | apply I6.set_1 | apply I6.set_2 | refine I6.far ?_ NB465_464.out _ | refine I6.far ?_ NB465_478.out _ | refine I6.far ?_ NB465_513.out _) | exact HI465.out)) (by (with_reducible repeat (first | apply Kd.R_alloc | apply Kd.R_drewN | apply Kd.R_drew)); exact HO_479001.out) (by decide)) hk (fun _ h => h.2)) (fun _ h => h.1)); have n2_ := Aside0.mk (Kd.R_mono (Kd.R_keep (I6.apart (show I6 w _ gb465 l0 t527 t528 from by repeat (first | (with_reducible first | exact HI465.out | apply I6.alloc | apply I6.drewN | apply I6.drew | apply I6.set_1 | apply I6.set_2 | refine I6.far ?_ NB465_464.out _ | refine I6.far ?_ NB465_478.out _ | refine I6.far ?_ NB465_513.out _) | exact HI465.out)) (by (with_reducible repeat (first | apply Kd.R_alloc | apply Kd.R_drewN | apply Kd.R_drew)); exact HO_479002.out) (by decide)) hk (fun _ h => h.2)) (fun _ h => h.1)); have n3_ := Aside0.mk (Kd.R_mono (Kd.R_keep (I6.apart (show I6 w _ gb465 l0 t527 t528 from by repeat (first | (with_reducible first | exact HI465.out | apply I6.alloc | apply I6.drewN | apply I6.drew | apply I6.set_1 | apply I6.set_2 | refine I6.far ?_ NB465_464.out _ | refine I6.far ?_ NB465_478.out _ | refine I6.far ?_ NB465_513.out _) | exact HI465.out)) (by (with_reducible repeat (first | apply Kd.R_alloc | apply Kd.R_drewN | apply Kd.R_drew)); exact HO_514003.out) (by decide)) hk (fun _ h => h.2)) (fun _ h => h.1)); have n4_ := Aside0.mk (KeepBut.blk hk (g' := gb464) (o := .cells #[.slice none 0 0, .slice none 0 0, .slice none 0 0, .int .i64 0] 26 (0, 0)) (by (with_reducible repeat (first | refine kN ?_ _ | refine kD ?_ | refine kA ?_ _)); exact BK464.out) NB464_465.out (by simp)); have n5_ := Aside0.mk (KeepBut.blk hk (g' := gb478) (o := .cells #[u479000, u479001, u479002, .int .i64 t475] 26 (0, 0)) (by (with_reducible repeat (first | refine kN ?_ _ | refine kD ?_ | refine kA ?_ _)); exact BK478.out) NB478_465.out (by simp)); have n6_ := Aside0.mk (KeepBut.blk hk (g' := gb513) (o := .cells #[.int .i64 t514, .int .i64 t517, .int .i64 t520, u514003] 40 (0, 0)) (by (with_reducible repeat (first | refine kN ?_ _ | refine kD ?_ | refine kA ?_ _)); exact BK513.out) NB513_465.out (by simp)); have n7_ := Aside0.mk (hb); have n8_ := Aside0.mk (hi); clear HO_479000; clear HO_479001; clear HO_479002; clear HO_514003; clear BK464; clear BK478; clear BK513; clear HB; clear HI465; have HO_479000 := n0_; have HO_479001 := n1_; have HO_479002 := n2_; have HO_514003 := n3_; have BK464 := n4_; have BK478 := n5_; have BK513 := n6_; have HB := n7_; have HI465 := n8_; clear n0_ n1_ n2_ n3_ n4_ n5_ n6_ n7_ n8_; (try clear hb); (try clear hb2); (try clear hk); (try clear hi)))
                have n0_ := Aside0.mk (Kd.S_drew HO_479000.out)
                have n1_ := Aside0.mk (Kd.R_drew HO_479001.out)
                have n2_ := Aside0.mk (Kd.R_drew HO_479002.out)
                have n3_ := Aside0.mk (Kd.R_drew HO_514003.out)
                have n4_ := Aside0.mk (kD BK464.out)
                have n5_ := Aside0.mk (kD BK478.out)
                have n6_ := Aside0.mk (kD BK513.out)
                have n7_ := Aside0.mk (I6.drew HI465.out)
                have n8_ := Aside0.mk (bD HB.out)
                clear HO_479000
                clear HO_479001
                clear HO_479002
                clear HO_514003
                clear BK464
                clear BK478
                clear BK513
                clear HI465
                clear HB
                have HO_479000 := n0_
                have HO_479001 := n1_
                have HO_479002 := n2_
                have HO_514003 := n3_
                have BK464 := n4_
                have BK478 := n5_
                have BK513 := n6_
                have HI465 := n7_
                have HB := n8_
                clear n0_ n1_ n2_ n3_ n4_ n5_ n6_ n7_ n8_
                refine start_ (n := 11) (S := fun w' => w'.cell? ⟨gb513, 0, none⟩ = some (.int .i64 t514) ∧ w'.cell? ⟨gb513, 1, none⟩ = some (.int .i64 t517) ∧ w'.cell? ⟨gb513, 2, none⟩ = some (.int .i64 t520) ∧ w'.cell? ⟨gb513, 3, none⟩ = some (u514003)) (ds := [10]) #[false, false, false, false, false, false, false, false, false, false, false] (by kernel_rfl) rfl rfl ⟨(kC BK513.out 0).trans rfl, (kC BK513.out 1).trans rfl, (kC BK513.out 2).trans rfl, (kC BK513.out 3).trans rfl⟩ (fun hHeld => ?_); refine with_tabW zD.tab48 zD.bits48 (fun HT_ HW_ => ?_)
                generalize w92.drew = w93 at HO_479000 HO_479001 HO_479002 HO_514003 BK464 BK478 BK513 HI465 HB hHeld ⊢
                refine pure_ (i := 0) (N := some 146) (v := ?_) (a' := ?_) #[true, false, false, false, false, false, false, false, false, false, false] rfl rfl (any_of HT_.out (by kernel_rfl)) (fun _ _ _ h => h) (Or.inl ⟨by rfl, ?_⟩) ?_ ?_
                rotate_left
                ·intro w'
                 go_simp
                 with_reducible rfl
                rotate_left
                ·simp only [Act.put, List.setIfInBounds_toArray, List.set_cons_zero, List.set_cons_succ, i64_w, i32_w]
                 rfl
                refine pure_ (i := 2) (N := some 148) (v := ?_) (a' := ?_) #[true, false, true, false, false, false, false, false, false, false, false] rfl rfl (any_of HT_.out (by kernel_rfl)) (fun _ _ _ h => h) (Or.inl ⟨by rfl, ?_⟩) ?_ ?_
                rotate_left
                ·intro w'
                 go_simp
                 with_reducible rfl
                rotate_left
                ·simp only [Act.put, List.setIfInBounds_toArray, List.set_cons_zero, List.set_cons_succ, i64_w, i32_w]
                 rfl
                refine pure_ (i := 3) (N := some 149) (v := ?_) (a' := ?_) #[true, false, true, true, false, false, false, false, false, false, false] rfl rfl (any_of HT_.out (by kernel_rfl)) (fun _ _ _ h => h) (Or.inl ⟨by rfl, ?_⟩) ?_ ?_
                rotate_left
                ·intro w'
                 go_simp
                 with_reducible rfl
                rotate_left
                ·simp only [Act.put, List.setIfInBounds_toArray, List.set_cons_zero, List.set_cons_succ, i64_w, i32_w]
                 rfl
                refine pure_ (i := 4) (N := some 150) (v := ?_) (a' := ?_) #[true, false, true, true, true, false, false, false, false, false, false] rfl rfl (any_of HT_.out (by kernel_rfl)) (fun _ _ _ h => h) (Or.inl ⟨by rfl, ?_⟩) ?_ ?_
                rotate_left
                ·intro w'
                 go_simp
                 with_reducible rfl
                rotate_left
                ·simp only [Act.put, List.setIfInBounds_toArray, List.set_cons_zero, List.set_cons_succ, i64_w, i32_w]
                 rfl
                refine take_ (i := 1) (N := some 147) (v := ?_) (a' := ?_) #[true, true, true, true, true, false, false, false, false, false, false] rfl rfl (take_ofW HT_.out HW_.out (by kernel_rfl)) (fun _ _ _ h => h) (Or.inl ⟨by rfl, ?_⟩) hHeld ?_ ?_
                rotate_left
                ·rintro w' ⟨s0, s1, s2, s3⟩
                 go_simp
                 with_reducible rfl
                rotate_left
                ·simp only [Act.put, List.setIfInBounds_toArray, List.set_cons_zero, List.set_cons_succ, i64_w, i32_w]
                 rfl
                refine one_ (i := 5) (N := some 151) #[true, true, true, true, true, true, false, false, false, false, false] rfl rfl (one_of HT_.out (by kernel_rfl)) (by decide) (fun K hK => ?_)
                refine goes_ Try.func35 (by kernel_rfl) rfl #[.pointer (some ⟨gb465, 0, none⟩)] (by rfl) rfl rfl (by (try simp only [List.map_toArray, List.map_cons, List.map_nil]); first | done | rfl | (simp only [List.length_drop, List.length_take]; rfl)) ?_
                with_reducible refine (zP.calls gb465 l0 t530 t531 t532 t533 t534 w _ ?side1 ?side2 A89.out).mono ?_
                (case side1 => repeat (first | (with_reducible first | exact HI465.out | apply I6.alloc | apply I6.drewN | apply I6.drew | apply I6.set_1 | apply I6.set_2 | refine I6.far ?_ NB465_464.out _ | refine I6.far ?_ NB465_478.out _ | refine I6.far ?_ NB465_513.out _) | exact HI465.out))
                (case side2 => repeat (first | (with_reducible first | exact HB.out | apply bA | apply bN | apply bD | refine bS ?_ (I6.ge HI465.out) | refine bS ?_ GE464.out | refine bS ?_ GE478.out | refine bS ?_ GE513.out) | exact HB.out))
                rintro e w94 ⟨rfl, hi, hb, hk⟩
                refine ⟨_, rfl, ?_⟩
                have n0_ := Aside0.mk (Kd.S_mono (Kd.S_keep (I6.apartS (show I6 w _ gb465 l0 t530 t531 from by repeat (first | (with_reducible first | exact HI465.out | apply I6.alloc | apply I6.drewN | apply I6.drew | apply I6.set_1 | apply I6.set_2 | refine I6.far ?_ NB465_464.out _ | refine I6.far ?_ NB465_478.out _ | refine I6.far ?_ NB465_513.out _) | exact HI465.out)) (by (with_reducible repeat (first | apply Kd.S_alloc | apply Kd.S_drewN | apply Kd.S_drew)); exact HO_479000.out) (by decide)) hk (fun _ h => h.2)) (fun _ h => h.1))
                have n1_ := Aside0.mk (Kd.R_mono (Kd.R_keep (I6.apart (show I6 w _ gb465 l0 t530 t531 from by repeat (first | (with_reducible first | exact HI465.out | apply I6.alloc | apply I6.drewN | apply I6.drew | apply I6.set_1 | apply I6.set_2 | refine I6.far ?_ NB465_464.out _ | refine I6.far ?_ NB465_478.out _ | refine I6.far ?_ NB465_513.out _) | exact HI465.out)) (by (with_reducible repeat (first | apply Kd.R_alloc | apply Kd.R_drewN | apply Kd.R_drew)); exact HO_479001.out) (by decide)) hk (fun _ h => h.2)) (fun _ h => h.1))
                have n2_ := Aside0.mk (Kd.R_mono (Kd.R_keep (I6.apart (show I6 w _ gb465 l0 t530 t531 from by repeat (first | (with_reducible first | exact HI465.out | apply I6.alloc | apply I6.drewN | apply I6.drew | apply I6.set_1 | apply I6.set_2 | refine I6.far ?_ NB465_464.out _ | refine I6.far ?_ NB465_478.out _ | refine I6.far ?_ NB465_513.out _) | exact HI465.out)) (by (with_reducible repeat (first | apply Kd.R_alloc | apply Kd.R_drewN | apply Kd.R_drew)); exact HO_479002.out) (by decide)) hk (fun _ h => h.2)) (fun _ h => h.1))
                have n3_ := Aside0.mk (Kd.R_mono (Kd.R_keep (I6.apart (show I6 w _ gb465 l0 t530 t531 from by repeat (first | (with_reducible first | exact HI465.out | apply I6.alloc | apply I6.drewN | apply I6.drew | apply I6.set_1 | apply I6.set_2 | refine I6.far ?_ NB465_464.out _ | refine I6.far ?_ NB465_478.out _ | refine I6.far ?_ NB465_513.out _) | exact HI465.out)) (by (with_reducible repeat (first | apply Kd.R_alloc | apply Kd.R_drewN | apply Kd.R_drew)); exact HO_514003.out) (by decide)) hk (fun _ h => h.2)) (fun _ h => h.1))
                have n4_ := Aside0.mk (KeepBut.blk hk (g' := gb464) (o := .cells #[.slice none 0 0, .slice none 0 0, .slice none 0 0, .int .i64 0] 26 (0, 0)) (by (with_reducible repeat (first | refine kN ?_ _ | refine kD ?_ | refine kA ?_ _)); exact BK464.out) NB464_465.out (by simp))
                have n5_ := Aside0.mk (KeepBut.blk hk (g' := gb478) (o := .cells #[u479000, u479001, u479002, .int .i64 t475] 26 (0, 0)) (by (with_reducible repeat (first | refine kN ?_ _ | refine kD ?_ | refine kA ?_ _)); exact BK478.out) NB478_465.out (by simp))
                have n6_ := Aside0.mk (KeepBut.blk hk (g' := gb513) (o := .cells #[.int .i64 t514, .int .i64 t517, .int .i64 t520, u514003] 40 (0, 0)) (by (with_reducible repeat (first | refine kN ?_ _ | refine kD ?_ | refine kA ?_ _)); exact BK513.out) NB513_465.out (by simp))
                have n7_ := Aside0.mk (hb)
                have n8_ := Aside0.mk (hi)
                clear HO_479000
                clear HO_479001
                clear HO_479002
                clear HO_514003
                clear BK464
                clear BK478
                clear BK513
                clear HB
                clear HI465
                have HO_479000 := n0_
                have HO_479001 := n1_
                have HO_479002 := n2_
                have HO_514003 := n3_
                have BK464 := n4_
                have BK478 := n5_
                have BK513 := n6_
                have HB := n7_
                have HI465 := n8_
                clear n0_ n1_ n2_ n3_ n4_ n5_ n6_ n7_ n8_
                (try clear hb)
                (try clear hb2)
                (try clear hk)
                (try clear hi)
                refine hK.out _ _ ⟨(kC BK513.out 0).trans rfl, (kC BK513.out 1).trans rfl, (kC BK513.out 2).trans rfl, (kC BK513.out 3).trans rfl⟩ (fun hHeld => ?_)
                clear hK K
                refine norm_ (a' := ?_) ?_ ?_
                rotate_left
                ·show Act.put _ (some 151) _ = _
                 simp only [Act.put, List.setIfInBounds_toArray, List.set_cons_zero, List.set_cons_succ, i64_w, i32_w]
                 rfl
                refine pure_ (i := 6) (N := some 152) (v := ?_) (a' := ?_) #[true, true, true, true, true, true, true, false, false, false, false] rfl rfl (any_of HT_.out (by kernel_rfl)) (fun _ _ _ h => h) (Or.inl ⟨by rfl, ?_⟩) ?_ ?_
                rotate_left
                ·intro w'
                 go_simp
                 with_reducible rfl
                rotate_left
                ·simp only [Act.put, List.setIfInBounds_toArray, List.set_cons_zero, List.set_cons_succ, i64_w, i32_w]
                 rfl
                refine one_ (i := 7) (N := some 153) #[true, true, true, true, true, true, true, true, false, false, false] rfl rfl (one_of HT_.out (by kernel_rfl)) (by decide) (fun K hK => ?_)
                refine value_ (w1 := ?_) (v := ?_) (by rfl) rfl ?_ ?_
                rotate_left 2
                ·go_simp
                 constructor
                 ·rfl
                 rfl
                refine hK.out _ _ ⟨(kC (kA BK513.out _) 0).trans rfl, (kC (kA BK513.out _) 1).trans rfl, (kC (kA BK513.out _) 2).trans rfl, (kC (kA BK513.out _) 3).trans rfl⟩ (fun hHeld => ?_)
                clear hK K
                refine norm_ (a' := ?_) ?_ ?_
                rotate_left
                ·show Act.put _ (some 153) _ = _
                 simp only [Act.put, List.setIfInBounds_toArray, List.set_cons_zero, List.set_cons_succ, i64_w, i32_w]
                 rfl
                refine one_ (i := 8) (N := some 154) #[true, true, true, true, true, true, true, true, true, false, false] rfl rfl (one_of HT_.out (by kernel_rfl)) (by decide) (fun K hK => ?_)
                refine Kd.R_append_step k42 (w0 := w) w.heap.size (by rfl) (.tmp 147) (.tmp 153) 38 42 (.agg #[(.int .i64 0), (.int .i64 0), (.int .i64 0)]) 24 rfl Try.underlying38 info42 rfl (by decide) (by omega) u514003 x514003_5 (⟨t526, t529, t532⟩ : S42) [.int .i64 t526, .int .i64 t529, .int .i64 t532] (fun _ => True) (fun _ => False) rfl rfl ?aP (fun _ hk => hk.elim) ?aF ?aO ?aB ?aS ?aL ?_
                (case aP => exact k42_mkM _ _ _ (⟨t526, t529, t532⟩ : S42))
                (case aB => exact (by repeat (first | (with_reducible first | exact HB.out | apply bA | apply bN | apply bD | refine bS ?_ (I6.ge HI465.out) | refine bS ?_ GE464.out | refine bS ?_ GE478.out | refine bS ?_ GE513.out) | exact HB.out)))
                (case aF => exact (fun _ _ => trivial))
                (case aO => exact (by (with_reducible repeat (first | apply Kd.R_alloc | apply Kd.R_drewN | apply Kd.R_drew)); exact HO_514003.out))
                (case aS => exact (bZ (by repeat (first | (with_reducible first | exact HB.out | apply bA | apply bN | apply bD | refine bS ?_ (I6.ge HI465.out) | refine bS ?_ GE464.out | refine bS ?_ GE478.out | refine bS ?_ GE513.out) | exact HB.out))))
                (case aL => have := LMc90.out; omega)
                intro v536 w95 ho hb hg hat
                rw [← Ny535.out] at ho
                have n0_ := Aside0.mk (Kd.S_after (ok := (fun k_ => k_ ≠ gb513)) (by (with_reducible repeat (first | apply Kd.S_alloc | apply Kd.S_drewN | apply Kd.S_drew)); exact Kd.S_mono HO_479000.out (fun _ hk => ⟨hk.2, hk.1⟩)) hg hat)
                have n1_ := Aside0.mk (Kd.R_over' (by (with_reducible repeat (first | apply Kd.R_alloc | apply Kd.R_drewN | apply Kd.R_drew)); exact HO_479001.out) (Kd.R_typed (by (with_reducible repeat (first | apply Kd.R_alloc | apply Kd.R_drewN | apply Kd.R_drew)); exact HO_514003.out)) (by decide) hg)
                have n2_ := Aside0.mk (Kd.R_over' (by (with_reducible repeat (first | apply Kd.R_alloc | apply Kd.R_drewN | apply Kd.R_drew)); exact HO_479002.out) (Kd.R_typed (by (with_reducible repeat (first | apply Kd.R_alloc | apply Kd.R_drewN | apply Kd.R_drew)); exact HO_514003.out)) (by decide) hg)
                have n3_ := Aside0.mk (blk_grown (g := gb464) (o := .cells #[.slice none 0 0, .slice none 0 0, .slice none 0 0, .int .i64 0] 26 (0, 0)) (by (with_reducible repeat (first | refine kN ?_ _ | refine kD ?_ | refine kA ?_ _)); exact BK464.out) hg (Kd.R_ne HO_514003.out BK464.out (by decide)))
                have n4_ := Aside0.mk (blk_grown (g := gb478) (o := .cells #[u479000, u479001, u479002, .int .i64 t475] 26 (0, 0)) (by (with_reducible repeat (first | refine kN ?_ _ | refine kD ?_ | refine kA ?_ _)); exact BK478.out) hg (Kd.R_ne HO_514003.out BK478.out (by decide)))
                have n5_ := Aside0.mk (blk_grown (g := gb513) (o := .cells #[.int .i64 t514, .int .i64 t517, .int .i64 t520, u514003] 40 (0, 0)) (by (with_reducible repeat (first | refine kN ?_ _ | refine kD ?_ | refine kA ?_ _)); exact BK513.out) hg (Kd.R_ne HO_514003.out BK513.out (by decide)))
                have n6_ := Aside0.mk (I6.grown (by repeat (first | (with_reducible first | exact HI465.out | apply I6.alloc | apply I6.drewN | apply I6.drew | apply I6.set_1 | apply I6.set_2 | refine I6.far ?_ NB465_464.out _ | refine I6.far ?_ NB465_478.out _ | refine I6.far ?_ NB465_513.out _) | exact HI465.out)) hg (I6.own_ne HI465.out HO_514003.out (by decide)))
                have n7_ := Aside0.mk (hb)
                have n8_ := Aside0.mk (ho)
                clear HO_479000
                clear HO_479001
                clear HO_479002
                clear BK464
                clear BK478
                clear BK513
                clear HI465
                clear HB
                clear HO_514003
                have HO_479000 := n0_
                have HO_479001 := n1_
                have HO_479002 := n2_
                have BK464 := n3_
                have BK478 := n4_
                have BK513 := n5_
                have HI465 := n6_
                have HB := n7_
                have HO537 := n8_
                clear n0_ n1_ n2_ n3_ n4_ n5_ n6_ n7_ n8_
                clear ho hb hg hat
                obtain ⟨Ao96, co96, eo96⟩ := Kd.R_slice HO537.out
                (first | subst eo96 | (injection eo96 with f1_ f2_ f3_; have f4_ := f1_.symm; have f5_ := f3_.symm; clear f1_ f2_ f3_; subst f4_; subst f5_))
                refine hK.out _ _ ⟨(kC BK513.out 0).trans rfl, (kC BK513.out 1).trans rfl, (kC BK513.out 2).trans rfl, (kC BK513.out 3).trans rfl⟩ (fun hHeld => ?_)
                clear hK K
                refine norm_ (a' := ?_) ?_ ?_
                rotate_left
                ·show Act.put _ (some 154) _ = _
                 simp only [Act.put, List.setIfInBounds_toArray, List.set_cons_zero, List.set_cons_succ, i64_w, i32_w]
                 rfl
                refine pure_ (i := 9) (N := some 155) (v := ?_) (a' := ?_) #[true, true, true, true, true, true, true, true, true, true, false] rfl rfl (any_of HT_.out (by kernel_rfl)) (fun _ _ _ h => h) (Or.inl ⟨by rfl, ?_⟩) ?_ ?_
                rotate_left
                ·intro w'
                 go_simp
                 with_reducible rfl
                rotate_left
                ·simp only [Act.put, List.setIfInBounds_toArray, List.set_cons_zero, List.set_cons_succ, i64_w, i32_w]
                 rfl
                refine last_ (i := 10) (N := none) #[true, true, true, true, true, true, true, true, true, true, true] rfl rfl (one_of HT_.out (by kernel_rfl)) (by decide) (fun K hK => ?_)
                have hs97 : w95.cell? ⟨gb513, 3, none⟩ = some (u514003) := (kC BK513.out 3).trans rfl
                have hfs97 := kF BK513.out 3
                have hns97_0 := NB464_513.out
                have hns97_1 := NB478_513.out
                have hms97_0 := NB513_464.out
                have hms97_1 := NB513_478.out
                refine skip_ (w1 := ?_) (by rfl) rfl ?_ ?_
                rotate_left
                ·go_simp
                 rfl
                refine hK.out _ _ ?_
                clear hK K
                refine done_ (done_of HT_.out (by kernel_rfl)) ?_
                try go_wp2
                go_roundg kj82
                case measure => have := HJ4.out; have := HK2.out; have := HK3.out; have := HK4.out; have := HK5.out; have := HJ82.out; omega
                case rel => exact ⟨(wrap64 (x22_5 + 1)), (t533), (t534), (y535), (.slice Ao96 y535.length co96), (by first | rfl | (simp; done) | (simp [*]; done)), H', ⟨by have := HJ4.out; have := HK2.out; have := HK3.out; have := HK4.out; have := HK5.out; have := HJ82.out; omega⟩, ⟨by (with_reducible repeat (first | apply Kd.S_alloc | apply Kd.S_drewN | apply Kd.S_drew)); exact Kd.S_mono (Kd.S_far (p := ⟨gb513, 3, none⟩) (Kd.S_mono HO_479000.out (fun k_ hk => (⟨hk, hk.1⟩ : _ ∧ k_ ≠ gb513))) (fun _ hk => hk.2) (.slice Ao96 y535.length co96)) (fun _ hk => ⟨hk.1.2, hk.1.1⟩)⟩, ⟨by (with_reducible repeat (first | apply Kd.R_alloc | apply Kd.R_drewN | apply Kd.R_drew)); exact Kd.R_mono (Kd.R_far (p := ⟨gb513, 3, none⟩) (Kd.R_types HO_479001.out BK513.out (by decide)) (fun _ hk => hk.2) (.slice Ao96 y535.length co96)) (fun _ hk => trivial)⟩, ⟨by (with_reducible repeat (first | apply Kd.R_alloc | apply Kd.R_drewN | apply Kd.R_drew)); exact Kd.R_mono (Kd.R_far (p := ⟨gb513, 3, none⟩) (Kd.R_types HO_479002.out BK513.out (by decide)) (fun _ hk => hk.2) (.slice Ao96 y535.length co96)) (fun _ hk => trivial)⟩, ⟨by (with_reducible repeat (first | apply Kd.R_alloc | apply Kd.R_drewN | apply Kd.R_drew)); exact Kd.R_mono (Kd.R_far (p := ⟨gb513, 3, none⟩) (Kd.R_types HO537.out BK513.out (by decide)) (fun _ hk => hk.2) (.slice Ao96 y535.length co96)) (fun _ hk => trivial)⟩, ⟨by (with_reducible repeat (first | refine kN ?_ _ | refine kD ?_ | refine kA ?_ _)); refine blk_far ?_ NB464_513.out _; (with_reducible repeat (first | refine kN ?_ _ | refine kD ?_ | refine kA ?_ _)); exact BK464.out⟩, ⟨by (with_reducible repeat (first | refine kN ?_ _ | refine kD ?_ | refine kA ?_ _)); refine blk_far ?_ NB478_513.out _; (with_reducible repeat (first | refine kN ?_ _ | refine kD ?_ | refine kA ?_ _)); exact BK478.out⟩, ⟨by (with_reducible repeat (first | refine kN ?_ _ | refine kD ?_ | refine kA ?_ _)); refine kP (cs := #[.int .i64 t514, .int .i64 t517, .int .i64 t520, u514003]) ?_ 3 _ rfl; (with_reducible repeat (first | refine kN ?_ _ | refine kD ?_ | refine kA ?_ _)); exact BK513.out⟩, ⟨by repeat (first | (with_reducible first | exact HI465.out | apply I6.alloc | apply I6.drewN | apply I6.drew | apply I6.set_1 | apply I6.set_2 | refine I6.far ?_ NB465_464.out _ | refine I6.far ?_ NB465_478.out _ | refine I6.far ?_ NB465_513.out _) | exact HI465.out)⟩, ⟨by repeat (first | (with_reducible first | exact HB.out | apply bA | apply bN | apply bD | refine bS ?_ (I6.ge HI465.out) | refine bS ?_ GE464.out | refine bS ?_ GE478.out | refine bS ?_ GE513.out) | exact HB.out)⟩⟩
               rw [if_neg c90] at H
               exact absurd H (by simp)
              replace c86 := Bool.eq_false_iff.mpr c86
              subst c86
              have H1 : (if x479000_4.length < 2932031007402 then (zD.l4 kj82 l0 t509 (wrap64 (x19_4 + 1)) l0 x466001_5 x466002_5 (x479000_4 ++ [(⟨t514, t517, t520, x514003_5⟩ : S40)]) x479001_2 x479002_3 t475) else (none)) = some (r1, r2, r3, r4, r5) := by rw [if_neg (show ¬ (false = true) by decide)] at H; exact H
              clear H
              have H := H1
              clear H1
              by_cases c98 : x479000_4.length < 2932031007402
              ·rw [if_pos c98] at H
               have LMc98 := Aside0.mk c98
               clear c98
               obtain ⟨y538, hy538⟩ : ∃ y_ : List (S40), y_ = (x479000_4 ++ [(⟨t514, t517, t520, x514003_5⟩ : S40)]) := ⟨_, rfl⟩
               replace H : (zD.l4 kj82 l0 t509 (wrap64 (x19_4 + 1)) l0 x466001_5 x466002_5 y538 x479001_2 x479002_3 t475) = some (r1, r2, r3, r4, r5) := by first | (rw [hy538]; with_reducible exact H) | (have H2_ := (Option.bind_some _ _).symm.trans H; rw [hy538]; with_reducible exact H2_) | (have H2_ := (Option.bind_some _ _).symm.trans H; with_reducible exact H2_) | with_reducible exact H | (rw [hy538]; exact H) | exact H
               have Ny538 := Aside0.mk hy538
               clear hy538
               have H' := Aside0.mk H
               clear H
               have hnb99 := NB478_464.out
               have hnc99 := NB464_478.out
               have hnb100 := NB478_513.out
               have hnc100 := NB513_478.out
               have hnb101 := NB478_465.out
               have hnc101 := NB465_478.out
               have hcz102_0 : wc.cell? ⟨gb478, 0, none⟩ = some (u479000) := (kC BK478.out 0).trans rfl
               have hcz102_1 : wc.cell? ⟨gb478, 1, none⟩ = some (u479001) := (kC BK478.out 1).trans rfl
               have hcz102_2 : wc.cell? ⟨gb478, 2, none⟩ = some (u479002) := (kC BK478.out 2).trans rfl
               have hcz102_3 : wc.cell? ⟨gb478, 3, none⟩ = some (.int .i64 t475) := (kC BK478.out 3).trans rfl
               have hfz102_0 := kF BK478.out 0
               have hfz102_1 := kF BK478.out 1
               have hfz102_2 := kF BK478.out 2
               have hfz102_3 := kF BK478.out 3
               have hnb103 := NB513_464.out
               have hnc103 := NB464_513.out
               have hnb104 := NB513_465.out
               have hnc104 := NB465_513.out
               have hcz105_0 : wc.cell? ⟨gb513, 0, none⟩ = some (.int .i64 t514) := (kC BK513.out 0).trans rfl
               have hcz105_1 : wc.cell? ⟨gb513, 1, none⟩ = some (.int .i64 t517) := (kC BK513.out 1).trans rfl
               have hcz105_2 : wc.cell? ⟨gb513, 2, none⟩ = some (.int .i64 t520) := (kC BK513.out 2).trans rfl
               have hcz105_3 : wc.cell? ⟨gb513, 3, none⟩ = some (u514003) := (kC BK513.out 3).trans rfl
               have hfz105_0 := kF BK513.out 0
               have hfz105_1 := kF BK513.out 1
               have hfz105_2 := kF BK513.out 2
               have hfz105_3 := kF BK513.out 3
               obtain ⟨Ao107, co107, eo107⟩ := Kd.R_slice HO_514003.out
               subst eo107
               go_wp2_with (first | ((with_reducible refine gate_builtin (b := .append) (xs := #[.tmp 157, .tmp 159]) rfl ?_); (try (refine gate_guard (by rfl) ?_; dsimp only)); at_builtin; refine Kd.S_append k40 (w0 := w) w.heap.size rfl (.tmp 157) (.tmp 159) 22 40 (.agg #[(.int .i64 0), (.int .i64 0), (.int .i64 0), (.slice none 0 0)]) 48 rfl Try.underlying22 info40 rfl (by decide) (by omega) u479000 x479000_4 (⟨t514, t517, t520, x514003_5⟩ : S40) [.int .i64 t514, .int .i64 t517, .int .i64 t520, .slice Ao107 x514003_5.length co107] (fun k_ => k_ ≠ gb513) (fun k_ => some k_ = (.slice Ao107 x514003_5.length co107 : Value).ownBlock) rfl rfl ?aP (fun k_ hk_ => ((Kd.R_mono (ok' := fun k_ => ((fun k_ => k_ ≠ gb513)) k_ ∧ some k_ ≠ (u479000 : Value).ownBlock) (Kd.R_types (Kd.R_apart' (HO_514003.out) (Kd.S_typed HO_479000.out) (by decide)) BK513.out (by decide)) (fun k_ hk => ⟨hk.2, hk.1.2⟩))).1 k_ hk_.symm) ?aF ?aO ?aB ?aS ?aL ?_; (case aP => exact k40_mkM _ _ _ (⟨t514, t517, t520, x514003_5⟩ : S40) (Kd.R_mono (Kd.R_tight rfl (Kd.R_mono (ok' := fun k_ => ((fun k_ => k_ ≠ gb513)) k_ ∧ some k_ ≠ (u479000 : Value).ownBlock) (Kd.R_types (Kd.R_apart' (HO_514003.out) (Kd.S_typed HO_479000.out) (by decide)) BK513.out (by decide)) (fun k_ hk => ⟨hk.2, hk.1.2⟩))) (fun _ h_ => h_))); (case aB => exact (by repeat (first | (with_reducible first | exact HB.out | apply bA | apply bN | apply bD | refine bS ?_ (I6.ge HI465.out) | refine bS ?_ GE464.out | refine bS ?_ GE478.out | refine bS ?_ GE513.out) | exact HB.out))); (case aF => exact (fun k_ hk => Kd.freshB (g := gb513) (o := .cells #[.int .i64 t514, .int .i64 t517, .int .i64 t520, .slice Ao107 x514003_5.length co107] 40 (0, 0)) (by (with_reducible repeat (first | refine kN ?_ _ | refine kD ?_ | refine kA ?_ _)); exact BK513.out) k_ hk)); (case aO => exact (by (with_reducible repeat (first | apply Kd.S_alloc | apply Kd.S_drewN | apply Kd.S_drew)); exact Kd.S_mono HO_479000.out (fun k_ hk => ⟨hk.2, fun e_ => hk.1 e_⟩))); (case aS => exact (bZ (by repeat (first | (with_reducible first | exact HB.out | apply bA | apply bN | apply bD | refine bS ?_ (I6.ge HI465.out) | refine bS ?_ GE464.out | refine bS ?_ GE478.out | refine bS ?_ GE513.out) | exact HB.out)))); (case aL => have := LMc98.out; omega); intro v539 w106 ho hb hg hat; rw [← Ny538.out] at ho; have n0_ := Aside0.mk (Kd.R_over' (by (with_reducible repeat (first | apply Kd.R_alloc | apply Kd.R_drewN | apply Kd.R_drew)); exact HO_479001.out) (Kd.S_typed (by (with_reducible repeat (first | apply Kd.S_alloc | apply Kd.S_drewN | apply Kd.S_drew)); exact HO_479000.out)) (by decide) hg); have n1_ := Aside0.mk (Kd.R_over' (by (with_reducible repeat (first | apply Kd.R_alloc | apply Kd.R_drewN | apply Kd.R_drew)); exact HO_479002.out) (Kd.S_typed (by (with_reducible repeat (first | apply Kd.S_alloc | apply Kd.S_drewN | apply Kd.S_drew)); exact HO_479000.out)) (by decide) hg); have n2_ := Aside0.mk (blk_grown (g := gb464) (o := .cells #[.slice none 0 0, .slice none 0 0, .slice none 0 0, .int .i64 0] 26 (0, 0)) (by (with_reducible repeat (first | refine kN ?_ _ | refine kD ?_ | refine kA ?_ _)); exact BK464.out) hg (Kd.S_ne HO_479000.out BK464.out (by decide))); have n3_ := Aside0.mk (blk_grown (g := gb478) (o := .cells #[u479000, u479001, u479002, .int .i64 t475] 26 (0, 0)) (by (with_reducible repeat (first | refine kN ?_ _ | refine kD ?_ | refine kA ?_ _)); exact BK478.out) hg (Kd.S_ne HO_479000.out BK478.out (by decide))); have n4_ := Aside0.mk (blk_grown (g := gb513) (o := .cells #[.int .i64 t514, .int .i64 t517, .int .i64 t520, .slice Ao107 x514003_5.length co107] 40 (0, 0)) (by (with_reducible repeat (first | refine kN ?_ _ | refine kD ?_ | refine kA ?_ _)); exact BK513.out) hg (Kd.S_away HO_479000.out (fun _ hk => hk.2))); have n5_ := Aside0.mk (I6.grown (by repeat (first | (with_reducible first | exact HI465.out | apply I6.alloc | apply I6.drewN | apply I6.drew | apply I6.set_1 | apply I6.set_2 | refine I6.far ?_ NB465_464.out _ | refine I6.far ?_ NB465_478.out _ | refine I6.far ?_ NB465_513.out _) | exact HI465.out)) hg (I6.own_neS HI465.out HO_479000.out (by decide))); have n6_ := Aside0.mk (hb); have n7_ := Aside0.mk (ho); clear HO_479001; clear HO_479002; clear BK464; clear BK478; clear BK513; clear HI465; clear HB; clear HO_479000; clear HO_514003; have HO_479001 := n0_; have HO_479002 := n1_; have BK464 := n2_; have BK478 := n3_; have BK513 := n4_; have HI465 := n5_; have HB := n6_; have HO540 := n7_; clear n0_ n1_ n2_ n3_ n4_ n5_ n6_ n7_; clear ho hb hg hat; obtain ⟨Ao108, co108, eo108⟩ := Kd.S_slice HO540.out; subst eo108; have hcz109_0 : w106.cell? ⟨gb478, 0, none⟩ = some (u479000) := (kC BK478.out 0).trans rfl; have hcz109_1 : w106.cell? ⟨gb478, 1, none⟩ = some (u479001) := (kC BK478.out 1).trans rfl; have hcz109_2 : w106.cell? ⟨gb478, 2, none⟩ = some (u479002) := (kC BK478.out 2).trans rfl; have hcz109_3 : w106.cell? ⟨gb478, 3, none⟩ = some (.int .i64 t475) := (kC BK478.out 3).trans rfl; have hfz109_0 := kF BK478.out 0; have hfz109_1 := kF BK478.out 1; have hfz109_2 := kF BK478.out 2; have hfz109_3 := kF BK478.out 3))
               go_roundg kj82
               case measure => have := HJ4.out; have := HK2.out; have := HK3.out; have := HK4.out; have := HK5.out; have := HJ82.out; omega
               case rel => exact ⟨(wrap64 (x19_4 + 1)), (x466001_5), (x466002_5), (y538), (.slice Ao108 y538.length co108), (by first | rfl | (simp; done) | (simp [*]; done)), H', ⟨by have := HJ4.out; have := HK2.out; have := HK3.out; have := HK4.out; have := HK5.out; have := HJ82.out; omega⟩, ⟨by (with_reducible repeat (first | apply Kd.S_alloc | apply Kd.S_drewN | apply Kd.S_drew)); exact Kd.S_mono (Kd.S_far (p := ⟨gb478, 0, none⟩) (Kd.S_types HO540.out BK478.out (by decide)) (fun _ hk => hk.2) (.slice Ao108 y538.length co108)) (fun _ hk => trivial)⟩, ⟨by (with_reducible repeat (first | apply Kd.R_alloc | apply Kd.R_drewN | apply Kd.R_drew)); exact Kd.R_mono (Kd.R_far (p := ⟨gb478, 0, none⟩) (Kd.R_types HO_479001.out BK478.out (by decide)) (fun _ hk => hk.2) (.slice Ao108 y538.length co108)) (fun _ hk => trivial)⟩, ⟨by (with_reducible repeat (first | apply Kd.R_alloc | apply Kd.R_drewN | apply Kd.R_drew)); exact Kd.R_mono (Kd.R_far (p := ⟨gb478, 0, none⟩) (Kd.R_types HO_479002.out BK478.out (by decide)) (fun _ hk => hk.2) (.slice Ao108 y538.length co108)) (fun _ hk => trivial)⟩, ⟨by (with_reducible repeat (first | refine kN ?_ _ | refine kD ?_ | refine kA ?_ _)); refine blk_far ?_ NB464_478.out _; (with_reducible repeat (first | refine kN ?_ _ | refine kD ?_ | refine kA ?_ _)); exact BK464.out⟩, ⟨by (with_reducible repeat (first | refine kN ?_ _ | refine kD ?_ | refine kA ?_ _)); refine kP (cs := #[u479000, u479001, u479002, .int .i64 t475]) ?_ 0 _ rfl; (with_reducible repeat (first | refine kN ?_ _ | refine kD ?_ | refine kA ?_ _)); exact BK478.out⟩, ⟨by repeat (first | (with_reducible first | exact HI465.out | apply I6.alloc | apply I6.drewN | apply I6.drew | apply I6.set_1 | apply I6.set_2 | refine I6.far ?_ NB465_464.out _ | refine I6.far ?_ NB465_478.out _ | refine I6.far ?_ NB465_513.out _) | exact HI465.out)⟩, ⟨by repeat (first | (with_reducible first | exact HB.out | apply bA | apply bN | apply bD | refine bS ?_ (I6.ge HI465.out) | refine bS ?_ GE464.out | refine bS ?_ GE478.out | refine bS ?_ GE513.out) | exact HB.out)⟩⟩
              rw [if_neg c98] at H
              exact absurd H (by simp)
         rw [if_neg c66] at H
         have c66b0 : decide (x19_4 < t509) = false := decide_eq_false c66
         clear c66
         replace H := Option.bind_eq_some_iff.mp H
         obtain ⟨t512, A1100, H⟩ := H
         replace H : (if x466002_4 = true then (some (([] : List (S40)), ([] : List Int), ([] : List ByteArray), 0, 31)) else (if x466001_4 = (l0.length : Int) then (if t512 = true then (some (x479000_4, x479001_2, x479002_3, t475, 0)) else (some (([] : List (S40)), ([] : List Int), ([] : List ByteArray), 0, 31))) else (some (([] : List (S40)), ([] : List Int), ([] : List ByteArray), 0, 31)))) = some (r1, r2, r3, r4, r5) := H
         have A110 := Aside0.mk A1100
         clear A1100
         by_cases c111 : x466002_4 = true
         ·subst c111
          have H1 : (some (([] : List (S40)), ([] : List Int), ([] : List ByteArray), 0, 31)) = some (r1, r2, r3, r4, r5) := by rw [if_pos rfl] at H; exact H
          clear H
          have H := H1
          clear H1
          simp only [Option.some.injEq, Prod.mk.injEq] at H
          obtain ⟨rfl, rfl, rfl, rfl, rfl⟩ := H
          have hnb112 := NB478_464.out
          have hnc112 := NB464_478.out
          have hnb113 := NB478_465.out
          have hnc113 := NB465_478.out
          have hcz114_0 : wr.cell? ⟨gb478, 0, none⟩ = some (u479000) := (kC BK478.out 0).trans rfl
          have hcz114_1 : wr.cell? ⟨gb478, 1, none⟩ = some (u479001) := (kC BK478.out 1).trans rfl
          have hcz114_2 : wr.cell? ⟨gb478, 2, none⟩ = some (u479002) := (kC BK478.out 2).trans rfl
          have hcz114_3 : wr.cell? ⟨gb478, 3, none⟩ = some (.int .i64 t475) := (kC BK478.out 3).trans rfl
          have hfz114_0 := kF BK478.out 0
          have hfz114_1 := kF BK478.out 1
          have hfz114_2 := kF BK478.out 2
          have hfz114_3 := kF BK478.out 3
          obtain ⟨Ao115, co115, eo115⟩ := Kd.S_slice HO_479000.out
          subst eo115
          obtain ⟨Ao116, co116, eo116⟩ := Kd.R_slice HO_479001.out
          subst eo116
          obtain ⟨Ao117, co117, eo117⟩ := Kd.R_slice HO_479002.out
          subst eo117
          go_wp2_with (first | ((with_reducible refine gate_callee (f := 14) rfl ?_); refine goesL_ (some 163) rfl rfl Try.func14 (by kernel_rfl) rfl #[.agg #[.slice Ao115 x479000_4.length co115, .slice Ao116 x479001_2.length co116, .slice Ao117 x479002_3.length co117, .int .i64 t475]] rfl (by (try simp only [List.map_toArray, List.map_cons, List.map_nil]); first | done | rfl | (simp only [List.length_drop, List.length_take]; rfl)) ?_; (with_reducible refine (zM.calls k4 _ _ x479000_4 _ _ x479001_2 _ _ x479002_3 t475 t512 _ ?side1 ?side2 ?side3 ?side4 ?side5 ?side6 A110.out).mono ?_); (case side1 => repeat (first | exact (Kd.S_reads' HO_479000.out).2.2 | (with_reducible refine Kd.C_alloc ?_ _) | (with_reducible refine Kd.C_drewN ?_ _) | (with_reducible refine Kd.C_drew ?_))); (case side2 => exact (Kd.S_reads' HO_479000.out).2.1); (case side3 => repeat (first | exact (Kd.R_reads' HO_479001.out).2.2 | (with_reducible refine Kd.C_alloc ?_ _) | (with_reducible refine Kd.C_drewN ?_ _) | (with_reducible refine Kd.C_drew ?_))); (case side4 => exact (Kd.R_reads' HO_479001.out).2.1); (case side5 => repeat (first | exact (Kd.R_reads' HO_479002.out).2.2 | (with_reducible refine Kd.C_alloc ?_ _) | (with_reducible refine Kd.C_drewN ?_ _) | (with_reducible refine Kd.C_drew ?_))); (case side6 => exact (Kd.R_reads' HO_479002.out).2.1); rintro e w118 ⟨rfl, hb⟩; refine ⟨_, rfl, ?_⟩; have n0_ := Aside0.mk (Kd.S_below (by (with_reducible repeat (first | apply Kd.S_alloc | apply Kd.S_drewN | apply Kd.S_drew)); exact HO_479000.out) hb); have n1_ := Aside0.mk (Kd.R_below (by (with_reducible repeat (first | apply Kd.R_alloc | apply Kd.R_drewN | apply Kd.R_drew)); exact HO_479001.out) hb); have n2_ := Aside0.mk (Kd.R_below (by (with_reducible repeat (first | apply Kd.R_alloc | apply Kd.R_drewN | apply Kd.R_drew)); exact HO_479002.out) hb); have n3_ := Aside0.mk (kB (g := gb464) (o := .cells #[.slice none 0 0, .slice none 0 0, .slice none 0 0, .int .i64 0] 26 (0, 0)) (by (with_reducible repeat (first | refine kN ?_ _ | refine kD ?_ | refine kA ?_ _)); exact BK464.out) hb); have n4_ := Aside0.mk (kB (g := gb478) (o := .cells #[.slice Ao115 x479000_4.length co115, .slice Ao116 x479001_2.length co116, .slice Ao117 x479002_3.length co117, .int .i64 t475] 26 (0, 0)) (by (with_reducible repeat (first | refine kN ?_ _ | refine kD ?_ | refine kA ?_ _)); exact BK478.out) hb); have n5_ := Aside0.mk (I6.below (by repeat (first | (with_reducible first | exact HI465.out | apply I6.alloc | apply I6.drewN | apply I6.drew | apply I6.set_1 | apply I6.set_2 | refine I6.far ?_ NB465_464.out _ | refine I6.far ?_ NB465_478.out _) | exact HI465.out)) hb); have n6_ := Aside0.mk (bT (by repeat (first | (with_reducible first | exact HB.out | apply bA | apply bN | apply bD | refine bS ?_ (I6.ge HI465.out) | refine bS ?_ GE464.out | refine bS ?_ GE478.out) | exact HB.out)) hb); clear HO_479000; clear HO_479001; clear HO_479002; clear BK464; clear BK478; clear HI465; clear HB; have HO_479000 := n0_; have HO_479001 := n1_; have HO_479002 := n2_; have BK464 := n3_; have BK478 := n4_; have HI465 := n5_; have HB := n6_; clear n0_ n1_ n2_ n3_ n4_ n5_ n6_; (try clear hb); (try clear hb2); (try clear hk); (try clear hi); obtain ⟨ASz119_0, cSz119_0, HGz119, hgz119, HSz119_0⟩ := HI465.out; have hcz119_0 := cellS60_0 HGz119; have hcz119_1 := cellS60_1 HGz119; have hcz119_2 := cellS60_2 HGz119; have hfz119_1 := kF HGz119 1; have hfz119_2 := kF HGz119 2; clear HGz119 hgz119; have hnb120 := NB464_465.out; have hnc120 := NB465_464.out; have hcz121_0 : w118.cell? ⟨gb464, 0, none⟩ = some (.slice none 0 0) := (kC BK464.out 0).trans rfl; have hcz121_1 : w118.cell? ⟨gb464, 1, none⟩ = some (.slice none 0 0) := (kC BK464.out 1).trans rfl; have hcz121_2 : w118.cell? ⟨gb464, 2, none⟩ = some (.slice none 0 0) := (kC BK464.out 2).trans rfl; have hcz121_3 : w118.cell? ⟨gb464, 3, none⟩ = some (.int .i64 0) := (kC BK464.out 3).trans rfl; have hfz121_0 := kF BK464.out 0; have hfz121_1 := kF BK464.out 1; have hfz121_2 := kF BK464.out 2; have hfz121_3 := kF BK464.out 3))
          refine bodyPost_ret (results_ct rfl _ _ gb464 26 #[.slice none 0 0, .slice none 0 0, .slice none 0 0, .int .i64 0] (0, 0) _ rfl (by (with_reducible repeat (first | refine kN ?_ _ | refine kD ?_ | refine kA ?_ _)); refine kP (cs := #[.slice none 0 0, .slice none 0 0, .slice none 0 0, .int .i64 0]) ?_ 3 _ rfl; (with_reducible repeat (first | refine kN ?_ _ | refine kD ?_ | refine kA ?_ _)); refine kP (cs := #[.slice none 0 0, .slice none 0 0, .slice none 0 0, .int .i64 0]) ?_ 2 _ rfl; (with_reducible repeat (first | refine kN ?_ _ | refine kD ?_ | refine kA ?_ _)); refine kP (cs := #[.slice none 0 0, .slice none 0 0, .slice none 0 0, .int .i64 0]) ?_ 1 _ rfl; (with_reducible repeat (first | refine kN ?_ _ | refine kD ?_ | refine kA ?_ _)); refine kP (cs := #[.slice none 0 0, .slice none 0 0, .slice none 0 0, .int .i64 0]) ?_ 0 _ rfl; (with_reducible repeat (first | refine kN ?_ _ | refine kD ?_ | refine kA ?_ _)); exact BK464.out) Try.underlying26 rfl (by kernel_rfl)) rfl ?_
          exact ⟨_, _, _, by first | rfl | (simp [wN, wS] <;> rfl) | (simp [*, wN, wS] <;> rfl), by first | exact Kd.S_nil _ _ _ _ _ | exact Kd.N_nil _ _ _ _ _ | exact Kd.V_nil _ _ _ _ _ | exact Kd.Q_nil _ _ _ _ _ | exact Kd.R_nil _ _ _ _ _, by first | exact Kd.R_nil _ _ _ _ _ | exact Kd.N_nil _ _ _ _ _ | exact Kd.V_nil _ _ _ _ _ | exact Kd.Q_nil _ _ _ _ _ | exact Kd.S_nil _ _ _ _ _, by first | exact Kd.R_nil _ _ _ _ _ | exact Kd.N_nil _ _ _ _ _ | exact Kd.V_nil _ _ _ _ _ | exact Kd.Q_nil _ _ _ _ _ | exact Kd.S_nil _ _ _ _ _, by repeat (first | (with_reducible first | exact HB.out | apply bA | apply bN | apply bD | refine bS ?_ (I6.ge HI465.out) | refine bS ?_ GE464.out | refine bS ?_ GE478.out) | exact HB.out)⟩
         replace c111 := Bool.eq_false_iff.mpr c111
         subst c111
         have H1 : (if x466001_4 = (l0.length : Int) then (if t512 = true then (some (x479000_4, x479001_2, x479002_3, t475, 0)) else (some (([] : List (S40)), ([] : List Int), ([] : List ByteArray), 0, 31))) else (some (([] : List (S40)), ([] : List Int), ([] : List ByteArray), 0, 31))) = some (r1, r2, r3, r4, r5) := by rw [if_neg (show ¬ (false = true) by decide)] at H; exact H
         clear H
         have H := H1
         clear H1
         by_cases c122 : x466001_4 = (l0.length : Int)
         ·rw [if_pos c122] at H
          have c122b0 : (x466001_4 == (l0.length : Int)) = true := beq_iff_eq.mpr c122
          have c122b1 : (x466001_4 != (l0.length : Int)) = false := bne_eq_false_iff_eq.mpr c122
          clear c122
          by_cases c123 : t512 = true
          ·subst c123
           have H1 : (some (x479000_4, x479001_2, x479002_3, t475, 0)) = some (r1, r2, r3, r4, r5) := by rw [if_pos rfl] at H; exact H
           clear H
           have H := H1
           clear H1
           simp only [Option.some.injEq, Prod.mk.injEq] at H
           obtain ⟨rfl, rfl, rfl, rfl, rfl⟩ := H
           have hnb124 := NB478_464.out
           have hnc124 := NB464_478.out
           have hnb125 := NB478_465.out
           have hnc125 := NB465_478.out
           have hcz126_0 : wr.cell? ⟨gb478, 0, none⟩ = some (u479000) := (kC BK478.out 0).trans rfl
           have hcz126_1 : wr.cell? ⟨gb478, 1, none⟩ = some (u479001) := (kC BK478.out 1).trans rfl
           have hcz126_2 : wr.cell? ⟨gb478, 2, none⟩ = some (u479002) := (kC BK478.out 2).trans rfl
           have hcz126_3 : wr.cell? ⟨gb478, 3, none⟩ = some (.int .i64 t475) := (kC BK478.out 3).trans rfl
           have hfz126_0 := kF BK478.out 0
           have hfz126_1 := kF BK478.out 1
           have hfz126_2 := kF BK478.out 2
           have hfz126_3 := kF BK478.out 3
           obtain ⟨Ao127, co127, eo127⟩ := Kd.S_slice HO_479000.out
           subst eo127
           obtain ⟨Ao128, co128, eo128⟩ := Kd.R_slice HO_479001.out
           subst eo128
           obtain ⟨Ao129, co129, eo129⟩ := Kd.R_slice HO_479002.out
           subst eo129
           go_wp2_with (first | ((with_reducible refine gate_callee (f := 14) rfl ?_); refine goesL_ (some 163) rfl rfl Try.func14 (by kernel_rfl) rfl #[.agg #[.slice Ao127 x479000_4.length co127, .slice Ao128 x479001_2.length co128, .slice Ao129 x479002_3.length co129, .int .i64 t475]] rfl (by (try simp only [List.map_toArray, List.map_cons, List.map_nil]); first | done | rfl | (simp only [List.length_drop, List.length_take]; rfl)) ?_; (with_reducible refine (zM.calls k4 _ _ x479000_4 _ _ x479001_2 _ _ x479002_3 t475 true _ ?side1 ?side2 ?side3 ?side4 ?side5 ?side6 A110.out).mono ?_); (case side1 => repeat (first | exact (Kd.S_reads' HO_479000.out).2.2 | (with_reducible refine Kd.C_alloc ?_ _) | (with_reducible refine Kd.C_drewN ?_ _) | (with_reducible refine Kd.C_drew ?_))); (case side2 => exact (Kd.S_reads' HO_479000.out).2.1); (case side3 => repeat (first | exact (Kd.R_reads' HO_479001.out).2.2 | (with_reducible refine Kd.C_alloc ?_ _) | (with_reducible refine Kd.C_drewN ?_ _) | (with_reducible refine Kd.C_drew ?_))); (case side4 => exact (Kd.R_reads' HO_479001.out).2.1); (case side5 => repeat (first | exact (Kd.R_reads' HO_479002.out).2.2 | (with_reducible refine Kd.C_alloc ?_ _) | (with_reducible refine Kd.C_drewN ?_ _) | (with_reducible refine Kd.C_drew ?_))); (case side6 => exact (Kd.R_reads' HO_479002.out).2.1); rintro e w130 ⟨rfl, hb⟩; refine ⟨_, rfl, ?_⟩; have n0_ := Aside0.mk (Kd.S_below (by (with_reducible repeat (first | apply Kd.S_alloc | apply Kd.S_drewN | apply Kd.S_drew)); exact HO_479000.out) hb); have n1_ := Aside0.mk (Kd.R_below (by (with_reducible repeat (first | apply Kd.R_alloc | apply Kd.R_drewN | apply Kd.R_drew)); exact HO_479001.out) hb); have n2_ := Aside0.mk (Kd.R_below (by (with_reducible repeat (first | apply Kd.R_alloc | apply Kd.R_drewN | apply Kd.R_drew)); exact HO_479002.out) hb); have n3_ := Aside0.mk (kB (g := gb464) (o := .cells #[.slice none 0 0, .slice none 0 0, .slice none 0 0, .int .i64 0] 26 (0, 0)) (by (with_reducible repeat (first | refine kN ?_ _ | refine kD ?_ | refine kA ?_ _)); exact BK464.out) hb); have n4_ := Aside0.mk (kB (g := gb478) (o := .cells #[.slice Ao127 x479000_4.length co127, .slice Ao128 x479001_2.length co128, .slice Ao129 x479002_3.length co129, .int .i64 t475] 26 (0, 0)) (by (with_reducible repeat (first | refine kN ?_ _ | refine kD ?_ | refine kA ?_ _)); exact BK478.out) hb); have n5_ := Aside0.mk (I6.below (by repeat (first | (with_reducible first | exact HI465.out | apply I6.alloc | apply I6.drewN | apply I6.drew | apply I6.set_1 | apply I6.set_2 | refine I6.far ?_ NB465_464.out _ | refine I6.far ?_ NB465_478.out _) | exact HI465.out)) hb); have n6_ := Aside0.mk (bT (by repeat (first | (with_reducible first | exact HB.out | apply bA | apply bN | apply bD | refine bS ?_ (I6.ge HI465.out) | refine bS ?_ GE464.out | refine bS ?_ GE478.out) | exact HB.out)) hb); clear HO_479000; clear HO_479001; clear HO_479002; clear BK464; clear BK478; clear HI465; clear HB; have HO_479000 := n0_; have HO_479001 := n1_; have HO_479002 := n2_; have BK464 := n3_; have BK478 := n4_; have HI465 := n5_; have HB := n6_; clear n0_ n1_ n2_ n3_ n4_ n5_ n6_; (try clear hb); (try clear hb2); (try clear hk); (try clear hi); obtain ⟨ASz131_0, cSz131_0, HGz131, hgz131, HSz131_0⟩ := HI465.out; have hcz131_0 := cellS60_0 HGz131; have hcz131_1 := cellS60_1 HGz131; have hcz131_2 := cellS60_2 HGz131; have hfz131_1 := kF HGz131 1; have hfz131_2 := kF HGz131 2; clear HGz131 hgz131; have hcz132_0 : w130.cell? ⟨gb478, 0, none⟩ = some (.slice Ao127 x479000_4.length co127) := (kC BK478.out 0).trans rfl; have hcz132_1 : w130.cell? ⟨gb478, 1, none⟩ = some (.slice Ao128 x479001_2.length co128) := (kC BK478.out 1).trans rfl; have hcz132_2 : w130.cell? ⟨gb478, 2, none⟩ = some (.slice Ao129 x479002_3.length co129) := (kC BK478.out 2).trans rfl; have hcz132_3 : w130.cell? ⟨gb478, 3, none⟩ = some (.int .i64 t475) := (kC BK478.out 3).trans rfl; have hfz132_0 := kF BK478.out 0; have hfz132_1 := kF BK478.out 1; have hfz132_2 := kF BK478.out 2; have hfz132_3 := kF BK478.out 3; have hnb133 := NB464_465.out; have hnc133 := NB465_464.out; have hcz134_0 : w130.cell? ⟨gb464, 0, none⟩ = some (.slice none 0 0) := (kC BK464.out 0).trans rfl; have hcz134_1 : w130.cell? ⟨gb464, 1, none⟩ = some (.slice none 0 0) := (kC BK464.out 1).trans rfl; have hcz134_2 : w130.cell? ⟨gb464, 2, none⟩ = some (.slice none 0 0) := (kC BK464.out 2).trans rfl; have hcz134_3 : w130.cell? ⟨gb464, 3, none⟩ = some (.int .i64 0) := (kC BK464.out 3).trans rfl; have hfz134_0 := kF BK464.out 0; have hfz134_1 := kF BK464.out 1; have hfz134_2 := kF BK464.out 2; have hfz134_3 := kF BK464.out 3))
           refine bodyPost_ret (results_ct rfl _ _ gb464 26 #[.slice Ao127 x479000_4.length co127, .slice Ao128 x479001_2.length co128, .slice Ao129 x479002_3.length co129, .int .i64 t475] (0, 0) _ rfl (by (with_reducible repeat (first | refine kN ?_ _ | refine kD ?_ | refine kA ?_ _)); refine kP (cs := #[.slice Ao127 x479000_4.length co127, .slice Ao128 x479001_2.length co128, .slice Ao129 x479002_3.length co129, .int .i64 0]) ?_ 3 _ rfl; (with_reducible repeat (first | refine kN ?_ _ | refine kD ?_ | refine kA ?_ _)); refine kP (cs := #[.slice Ao127 x479000_4.length co127, .slice Ao128 x479001_2.length co128, .slice none 0 0, .int .i64 0]) ?_ 2 _ rfl; (with_reducible repeat (first | refine kN ?_ _ | refine kD ?_ | refine kA ?_ _)); refine kP (cs := #[.slice Ao127 x479000_4.length co127, .slice none 0 0, .slice none 0 0, .int .i64 0]) ?_ 1 _ rfl; (with_reducible repeat (first | refine kN ?_ _ | refine kD ?_ | refine kA ?_ _)); refine kP (cs := #[.slice none 0 0, .slice none 0 0, .slice none 0 0, .int .i64 0]) ?_ 0 _ rfl; (with_reducible repeat (first | refine kN ?_ _ | refine kD ?_ | refine kA ?_ _)); exact BK464.out) Try.underlying26 rfl (by kernel_rfl)) rfl ?_
           exact ⟨_, _, _, by first | rfl | (simp [wN, wS] <;> rfl) | (simp [*, wN, wS] <;> rfl), by (with_reducible repeat (first | apply Kd.S_alloc | apply Kd.S_drewN | apply Kd.S_drew)); exact Kd.S_mono (Kd.S_far (p := ⟨gb464, 3, none⟩) (Kd.S_far (p := ⟨gb464, 2, none⟩) (Kd.S_far (p := ⟨gb464, 1, none⟩) (Kd.S_far (p := ⟨gb464, 0, none⟩) (Kd.S_types HO_479000.out BK464.out (by decide)) (fun _ hk => hk.2) (.slice Ao127 x479000_4.length co127)) (fun _ hk => hk.2) (.slice Ao128 x479001_2.length co128)) (fun _ hk => hk.2) (.slice Ao129 x479002_3.length co129)) (fun _ hk => hk.2) (.int .i64 t475)) (fun _ hk => trivial), by (with_reducible repeat (first | apply Kd.R_alloc | apply Kd.R_drewN | apply Kd.R_drew)); exact Kd.R_mono (Kd.R_far (p := ⟨gb464, 3, none⟩) (Kd.R_far (p := ⟨gb464, 2, none⟩) (Kd.R_far (p := ⟨gb464, 1, none⟩) (Kd.R_far (p := ⟨gb464, 0, none⟩) (Kd.R_types HO_479001.out BK464.out (by decide)) (fun _ hk => hk.2) (.slice Ao127 x479000_4.length co127)) (fun _ hk => hk.2) (.slice Ao128 x479001_2.length co128)) (fun _ hk => hk.2) (.slice Ao129 x479002_3.length co129)) (fun _ hk => hk.2) (.int .i64 t475)) (fun _ hk => trivial), by (with_reducible repeat (first | apply Kd.R_alloc | apply Kd.R_drewN | apply Kd.R_drew)); exact Kd.R_mono (Kd.R_far (p := ⟨gb464, 3, none⟩) (Kd.R_far (p := ⟨gb464, 2, none⟩) (Kd.R_far (p := ⟨gb464, 1, none⟩) (Kd.R_far (p := ⟨gb464, 0, none⟩) (Kd.R_types HO_479002.out BK464.out (by decide)) (fun _ hk => hk.2) (.slice Ao127 x479000_4.length co127)) (fun _ hk => hk.2) (.slice Ao128 x479001_2.length co128)) (fun _ hk => hk.2) (.slice Ao129 x479002_3.length co129)) (fun _ hk => hk.2) (.int .i64 t475)) (fun _ hk => trivial), by repeat (first | (with_reducible first | exact HB.out | apply bA | apply bN | apply bD | refine bS ?_ (I6.ge HI465.out) | refine bS ?_ GE464.out | refine bS ?_ GE478.out) | exact HB.out)⟩
          replace c123 := Bool.eq_false_iff.mpr c123
          subst c123
          have H1 : (some (([] : List (S40)), ([] : List Int), ([] : List ByteArray), 0, 31)) = some (r1, r2, r3, r4, r5) := by rw [if_neg (show ¬ (false = true) by decide)] at H; exact H
          clear H
          have H := H1
          clear H1
          simp only [Option.some.injEq, Prod.mk.injEq] at H
          obtain ⟨rfl, rfl, rfl, rfl, rfl⟩ := H
          have hnb135 := NB478_464.out
          have hnc135 := NB464_478.out
          have hnb136 := NB478_465.out
          have hnc136 := NB465_478.out
          have hcz137_0 : wr.cell? ⟨gb478, 0, none⟩ = some (u479000) := (kC BK478.out 0).trans rfl
          have hcz137_1 : wr.cell? ⟨gb478, 1, none⟩ = some (u479001) := (kC BK478.out 1).trans rfl
          have hcz137_2 : wr.cell? ⟨gb478, 2, none⟩ = some (u479002) := (kC BK478.out 2).trans rfl
          have hcz137_3 : wr.cell? ⟨gb478, 3, none⟩ = some (.int .i64 t475) := (kC BK478.out 3).trans rfl
          have hfz137_0 := kF BK478.out 0
          have hfz137_1 := kF BK478.out 1
          have hfz137_2 := kF BK478.out 2
          have hfz137_3 := kF BK478.out 3
          obtain ⟨Ao138, co138, eo138⟩ := Kd.S_slice HO_479000.out
          subst eo138
          obtain ⟨Ao139, co139, eo139⟩ := Kd.R_slice HO_479001.out
          subst eo139
          obtain ⟨Ao140, co140, eo140⟩ := Kd.R_slice HO_479002.out
          subst eo140
          go_wp2_with (first | ((with_reducible refine gate_callee (f := 14) rfl ?_); refine goesL_ (some 163) rfl rfl Try.func14 (by kernel_rfl) rfl #[.agg #[.slice Ao138 x479000_4.length co138, .slice Ao139 x479001_2.length co139, .slice Ao140 x479002_3.length co140, .int .i64 t475]] rfl (by (try simp only [List.map_toArray, List.map_cons, List.map_nil]); first | done | rfl | (simp only [List.length_drop, List.length_take]; rfl)) ?_; (with_reducible refine (zM.calls k4 _ _ x479000_4 _ _ x479001_2 _ _ x479002_3 t475 false _ ?side1 ?side2 ?side3 ?side4 ?side5 ?side6 A110.out).mono ?_); (case side1 => repeat (first | exact (Kd.S_reads' HO_479000.out).2.2 | (with_reducible refine Kd.C_alloc ?_ _) | (with_reducible refine Kd.C_drewN ?_ _) | (with_reducible refine Kd.C_drew ?_))); (case side2 => exact (Kd.S_reads' HO_479000.out).2.1); (case side3 => repeat (first | exact (Kd.R_reads' HO_479001.out).2.2 | (with_reducible refine Kd.C_alloc ?_ _) | (with_reducible refine Kd.C_drewN ?_ _) | (with_reducible refine Kd.C_drew ?_))); (case side4 => exact (Kd.R_reads' HO_479001.out).2.1); (case side5 => repeat (first | exact (Kd.R_reads' HO_479002.out).2.2 | (with_reducible refine Kd.C_alloc ?_ _) | (with_reducible refine Kd.C_drewN ?_ _) | (with_reducible refine Kd.C_drew ?_))); (case side6 => exact (Kd.R_reads' HO_479002.out).2.1); rintro e w141 ⟨rfl, hb⟩; refine ⟨_, rfl, ?_⟩; have n0_ := Aside0.mk (Kd.S_below (by (with_reducible repeat (first | apply Kd.S_alloc | apply Kd.S_drewN | apply Kd.S_drew)); exact HO_479000.out) hb); have n1_ := Aside0.mk (Kd.R_below (by (with_reducible repeat (first | apply Kd.R_alloc | apply Kd.R_drewN | apply Kd.R_drew)); exact HO_479001.out) hb); have n2_ := Aside0.mk (Kd.R_below (by (with_reducible repeat (first | apply Kd.R_alloc | apply Kd.R_drewN | apply Kd.R_drew)); exact HO_479002.out) hb); have n3_ := Aside0.mk (kB (g := gb464) (o := .cells #[.slice none 0 0, .slice none 0 0, .slice none 0 0, .int .i64 0] 26 (0, 0)) (by (with_reducible repeat (first | refine kN ?_ _ | refine kD ?_ | refine kA ?_ _)); exact BK464.out) hb); have n4_ := Aside0.mk (kB (g := gb478) (o := .cells #[.slice Ao138 x479000_4.length co138, .slice Ao139 x479001_2.length co139, .slice Ao140 x479002_3.length co140, .int .i64 t475] 26 (0, 0)) (by (with_reducible repeat (first | refine kN ?_ _ | refine kD ?_ | refine kA ?_ _)); exact BK478.out) hb); have n5_ := Aside0.mk (I6.below (by repeat (first | (with_reducible first | exact HI465.out | apply I6.alloc | apply I6.drewN | apply I6.drew | apply I6.set_1 | apply I6.set_2 | refine I6.far ?_ NB465_464.out _ | refine I6.far ?_ NB465_478.out _) | exact HI465.out)) hb); have n6_ := Aside0.mk (bT (by repeat (first | (with_reducible first | exact HB.out | apply bA | apply bN | apply bD | refine bS ?_ (I6.ge HI465.out) | refine bS ?_ GE464.out | refine bS ?_ GE478.out) | exact HB.out)) hb); clear HO_479000; clear HO_479001; clear HO_479002; clear BK464; clear BK478; clear HI465; clear HB; have HO_479000 := n0_; have HO_479001 := n1_; have HO_479002 := n2_; have BK464 := n3_; have BK478 := n4_; have HI465 := n5_; have HB := n6_; clear n0_ n1_ n2_ n3_ n4_ n5_ n6_; (try clear hb); (try clear hb2); (try clear hk); (try clear hi); obtain ⟨ASz142_0, cSz142_0, HGz142, hgz142, HSz142_0⟩ := HI465.out; have hcz142_0 := cellS60_0 HGz142; have hcz142_1 := cellS60_1 HGz142; have hcz142_2 := cellS60_2 HGz142; have hfz142_1 := kF HGz142 1; have hfz142_2 := kF HGz142 2; clear HGz142 hgz142; have hnb143 := NB464_465.out; have hnc143 := NB465_464.out; have hcz144_0 : w141.cell? ⟨gb464, 0, none⟩ = some (.slice none 0 0) := (kC BK464.out 0).trans rfl; have hcz144_1 : w141.cell? ⟨gb464, 1, none⟩ = some (.slice none 0 0) := (kC BK464.out 1).trans rfl; have hcz144_2 : w141.cell? ⟨gb464, 2, none⟩ = some (.slice none 0 0) := (kC BK464.out 2).trans rfl; have hcz144_3 : w141.cell? ⟨gb464, 3, none⟩ = some (.int .i64 0) := (kC BK464.out 3).trans rfl; have hfz144_0 := kF BK464.out 0; have hfz144_1 := kF BK464.out 1; have hfz144_2 := kF BK464.out 2; have hfz144_3 := kF BK464.out 3))
          refine bodyPost_ret (results_ct rfl _ _ gb464 26 #[.slice none 0 0, .slice none 0 0, .slice none 0 0, .int .i64 0] (0, 0) _ rfl (by (with_reducible repeat (first | refine kN ?_ _ | refine kD ?_ | refine kA ?_ _)); refine kP (cs := #[.slice none 0 0, .slice none 0 0, .slice none 0 0, .int .i64 0]) ?_ 3 _ rfl; (with_reducible repeat (first | refine kN ?_ _ | refine kD ?_ | refine kA ?_ _)); refine kP (cs := #[.slice none 0 0, .slice none 0 0, .slice none 0 0, .int .i64 0]) ?_ 2 _ rfl; (with_reducible repeat (first | refine kN ?_ _ | refine kD ?_ | refine kA ?_ _)); refine kP (cs := #[.slice none 0 0, .slice none 0 0, .slice none 0 0, .int .i64 0]) ?_ 1 _ rfl; (with_reducible repeat (first | refine kN ?_ _ | refine kD ?_ | refine kA ?_ _)); refine kP (cs := #[.slice none 0 0, .slice none 0 0, .slice none 0 0, .int .i64 0]) ?_ 0 _ rfl; (with_reducible repeat (first | refine kN ?_ _ | refine kD ?_ | refine kA ?_ _)); exact BK464.out) Try.underlying26 rfl (by kernel_rfl)) rfl ?_
          exact ⟨_, _, _, by first | rfl | (simp [wN, wS] <;> rfl) | (simp [*, wN, wS] <;> rfl), by first | exact Kd.S_nil _ _ _ _ _ | exact Kd.N_nil _ _ _ _ _ | exact Kd.V_nil _ _ _ _ _ | exact Kd.Q_nil _ _ _ _ _ | exact Kd.R_nil _ _ _ _ _, by first | exact Kd.R_nil _ _ _ _ _ | exact Kd.N_nil _ _ _ _ _ | exact Kd.V_nil _ _ _ _ _ | exact Kd.Q_nil _ _ _ _ _ | exact Kd.S_nil _ _ _ _ _, by first | exact Kd.R_nil _ _ _ _ _ | exact Kd.N_nil _ _ _ _ _ | exact Kd.V_nil _ _ _ _ _ | exact Kd.Q_nil _ _ _ _ _ | exact Kd.S_nil _ _ _ _ _, by repeat (first | (with_reducible first | exact HB.out | apply bA | apply bN | apply bD | refine bS ?_ (I6.ge HI465.out) | refine bS ?_ GE464.out | refine bS ?_ GE478.out) | exact HB.out)⟩
         rw [if_neg c122] at H
         have c122b0 : (x466001_4 == (l0.length : Int)) = false := beq_eq_false_iff_ne.mpr c122
         have c122b1 : (x466001_4 != (l0.length : Int)) = true := bne_iff_ne.mpr c122
         simp only [Option.some.injEq, Prod.mk.injEq] at H
         obtain ⟨rfl, rfl, rfl, rfl, rfl⟩ := H
         have hnb145 := NB478_464.out
         have hnc145 := NB464_478.out
         have hnb146 := NB478_465.out
         have hnc146 := NB465_478.out
         have hcz147_0 : wr.cell? ⟨gb478, 0, none⟩ = some (u479000) := (kC BK478.out 0).trans rfl
         have hcz147_1 : wr.cell? ⟨gb478, 1, none⟩ = some (u479001) := (kC BK478.out 1).trans rfl
         have hcz147_2 : wr.cell? ⟨gb478, 2, none⟩ = some (u479002) := (kC BK478.out 2).trans rfl
         have hcz147_3 : wr.cell? ⟨gb478, 3, none⟩ = some (.int .i64 t475) := (kC BK478.out 3).trans rfl
         have hfz147_0 := kF BK478.out 0
         have hfz147_1 := kF BK478.out 1
         have hfz147_2 := kF BK478.out 2
         have hfz147_3 := kF BK478.out 3
         obtain ⟨Ao148, co148, eo148⟩ := Kd.S_slice HO_479000.out
         subst eo148
         obtain ⟨Ao149, co149, eo149⟩ := Kd.R_slice HO_479001.out
         subst eo149
         obtain ⟨Ao150, co150, eo150⟩ := Kd.R_slice HO_479002.out
         subst eo150
         go_wp2_with (first | ((with_reducible refine gate_callee (f := 14) rfl ?_); refine goesL_ (some 163) rfl rfl Try.func14 (by kernel_rfl) rfl #[.agg #[.slice Ao148 x479000_4.length co148, .slice Ao149 x479001_2.length co149, .slice Ao150 x479002_3.length co150, .int .i64 t475]] rfl (by (try simp only [List.map_toArray, List.map_cons, List.map_nil]); first | done | rfl | (simp only [List.length_drop, List.length_take]; rfl)) ?_; (with_reducible refine (zM.calls k4 _ _ x479000_4 _ _ x479001_2 _ _ x479002_3 t475 t512 _ ?side1 ?side2 ?side3 ?side4 ?side5 ?side6 A110.out).mono ?_); (case side1 => repeat (first | exact (Kd.S_reads' HO_479000.out).2.2 | (with_reducible refine Kd.C_alloc ?_ _) | (with_reducible refine Kd.C_drewN ?_ _) | (with_reducible refine Kd.C_drew ?_))); (case side2 => exact (Kd.S_reads' HO_479000.out).2.1); (case side3 => repeat (first | exact (Kd.R_reads' HO_479001.out).2.2 | (with_reducible refine Kd.C_alloc ?_ _) | (with_reducible refine Kd.C_drewN ?_ _) | (with_reducible refine Kd.C_drew ?_))); (case side4 => exact (Kd.R_reads' HO_479001.out).2.1); (case side5 => repeat (first | exact (Kd.R_reads' HO_479002.out).2.2 | (with_reducible refine Kd.C_alloc ?_ _) | (with_reducible refine Kd.C_drewN ?_ _) | (with_reducible refine Kd.C_drew ?_))); (case side6 => exact (Kd.R_reads' HO_479002.out).2.1); rintro e w151 ⟨rfl, hb⟩; refine ⟨_, rfl, ?_⟩; have n0_ := Aside0.mk (Kd.S_below (by (with_reducible repeat (first | apply Kd.S_alloc | apply Kd.S_drewN | apply Kd.S_drew)); exact HO_479000.out) hb); have n1_ := Aside0.mk (Kd.R_below (by (with_reducible repeat (first | apply Kd.R_alloc | apply Kd.R_drewN | apply Kd.R_drew)); exact HO_479001.out) hb); have n2_ := Aside0.mk (Kd.R_below (by (with_reducible repeat (first | apply Kd.R_alloc | apply Kd.R_drewN | apply Kd.R_drew)); exact HO_479002.out) hb); have n3_ := Aside0.mk (kB (g := gb464) (o := .cells #[.slice none 0 0, .slice none 0 0, .slice none 0 0, .int .i64 0] 26 (0, 0)) (by (with_reducible repeat (first | refine kN ?_ _ | refine kD ?_ | refine kA ?_ _)); exact BK464.out) hb); have n4_ := Aside0.mk (kB (g := gb478) (o := .cells #[.slice Ao148 x479000_4.length co148, .slice Ao149 x479001_2.length co149, .slice Ao150 x479002_3.length co150, .int .i64 t475] 26 (0, 0)) (by (with_reducible repeat (first | refine kN ?_ _ | refine kD ?_ | refine kA ?_ _)); exact BK478.out) hb); have n5_ := Aside0.mk (I6.below (by repeat (first | (with_reducible first | exact HI465.out | apply I6.alloc | apply I6.drewN | apply I6.drew | apply I6.set_1 | apply I6.set_2 | refine I6.far ?_ NB465_464.out _ | refine I6.far ?_ NB465_478.out _) | exact HI465.out)) hb); have n6_ := Aside0.mk (bT (by repeat (first | (with_reducible first | exact HB.out | apply bA | apply bN | apply bD | refine bS ?_ (I6.ge HI465.out) | refine bS ?_ GE464.out | refine bS ?_ GE478.out) | exact HB.out)) hb); clear HO_479000; clear HO_479001; clear HO_479002; clear BK464; clear BK478; clear HI465; clear HB; have HO_479000 := n0_; have HO_479001 := n1_; have HO_479002 := n2_; have BK464 := n3_; have BK478 := n4_; have HI465 := n5_; have HB := n6_; clear n0_ n1_ n2_ n3_ n4_ n5_ n6_; (try clear hb); (try clear hb2); (try clear hk); (try clear hi); obtain ⟨ASz152_0, cSz152_0, HGz152, hgz152, HSz152_0⟩ := HI465.out; have hcz152_0 := cellS60_0 HGz152; have hcz152_1 := cellS60_1 HGz152; have hcz152_2 := cellS60_2 HGz152; have hfz152_1 := kF HGz152 1; have hfz152_2 := kF HGz152 2; clear HGz152 hgz152; have hnb153 := NB464_465.out; have hnc153 := NB465_464.out; have hcz154_0 : w151.cell? ⟨gb464, 0, none⟩ = some (.slice none 0 0) := (kC BK464.out 0).trans rfl; have hcz154_1 : w151.cell? ⟨gb464, 1, none⟩ = some (.slice none 0 0) := (kC BK464.out 1).trans rfl; have hcz154_2 : w151.cell? ⟨gb464, 2, none⟩ = some (.slice none 0 0) := (kC BK464.out 2).trans rfl; have hcz154_3 : w151.cell? ⟨gb464, 3, none⟩ = some (.int .i64 0) := (kC BK464.out 3).trans rfl; have hfz154_0 := kF BK464.out 0; have hfz154_1 := kF BK464.out 1; have hfz154_2 := kF BK464.out 2; have hfz154_3 := kF BK464.out 3))
         refine bodyPost_ret (results_ct rfl _ _ gb464 26 #[.slice none 0 0, .slice none 0 0, .slice none 0 0, .int .i64 0] (0, 0) _ rfl (by (with_reducible repeat (first | refine kN ?_ _ | refine kD ?_ | refine kA ?_ _)); refine kP (cs := #[.slice none 0 0, .slice none 0 0, .slice none 0 0, .int .i64 0]) ?_ 3 _ rfl; (with_reducible repeat (first | refine kN ?_ _ | refine kD ?_ | refine kA ?_ _)); refine kP (cs := #[.slice none 0 0, .slice none 0 0, .slice none 0 0, .int .i64 0]) ?_ 2 _ rfl; (with_reducible repeat (first | refine kN ?_ _ | refine kD ?_ | refine kA ?_ _)); refine kP (cs := #[.slice none 0 0, .slice none 0 0, .slice none 0 0, .int .i64 0]) ?_ 1 _ rfl; (with_reducible repeat (first | refine kN ?_ _ | refine kD ?_ | refine kA ?_ _)); refine kP (cs := #[.slice none 0 0, .slice none 0 0, .slice none 0 0, .int .i64 0]) ?_ 0 _ rfl; (with_reducible repeat (first | refine kN ?_ _ | refine kD ?_ | refine kA ?_ _)); exact BK464.out) Try.underlying26 rfl (by kernel_rfl)) rfl ?_
         exact ⟨_, _, _, by first | rfl | (simp [wN, wS] <;> rfl) | (simp [*, wN, wS] <;> rfl), by first | exact Kd.S_nil _ _ _ _ _ | exact Kd.N_nil _ _ _ _ _ | exact Kd.V_nil _ _ _ _ _ | exact Kd.Q_nil _ _ _ _ _ | exact Kd.R_nil _ _ _ _ _, by first | exact Kd.R_nil _ _ _ _ _ | exact Kd.N_nil _ _ _ _ _ | exact Kd.V_nil _ _ _ _ _ | exact Kd.Q_nil _ _ _ _ _ | exact Kd.S_nil _ _ _ _ _, by first | exact Kd.R_nil _ _ _ _ _ | exact Kd.N_nil _ _ _ _ _ | exact Kd.V_nil _ _ _ _ _ | exact Kd.Q_nil _ _ _ _ _ | exact Kd.S_nil _ _ _ _ _, by repeat (first | (with_reducible first | exact HB.out | apply bA | apply bN | apply bD | refine bS ?_ (I6.ge HI465.out) | refine bS ?_ GE464.out | refine bS ?_ GE478.out) | exact HB.out)⟩

end Go.Proofs.Ytadbiogchgglpaa.Q
