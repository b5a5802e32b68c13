-- PRINTED by print.py (a twelfth state) out of the translation. Not trusted: Lean checks it.
import Derived.Test.YtadbiogchgglpaaQx0
import Derived.Test.YtadbiogchgglpaaQx1
namespace Go.Proofs.Ytadbiogchgglpaa.Q
open Go.RowKit Go.Proofs.YtadbiogchgglpaaW.PrintWords Go.Proofs.YtadbiogchgglpaaW.PrintLast Go.Proofs.YtadbiogchgglpaaW.PrintMore
attribute [local go_sem] max2_int min2_int max_two min_two max_three min_three max_four min_four   -- for this text's walks alone
set_option linter.unusedVariables false
set_option linter.unusedSimpArgs false

attribute [local go_sem high] eqA42
/-! ### zS: function 21 -/
mutual
def zS.j0 : Nat → Bool → List (S40) → List Int → List ByteArray → Int → List (S40) → List Int → List ByteArray → Int → Option (Bool)
 | 0, _, _, _, _, _, _, _, _, _ => none
 | k + 1, x42, x542000, x542001, x542002, x542003, x543000, x543001, x543002, x543003 => if x42 = true then (some false) else (zS.l0 k 0 x542000 x542001 x542002 x542003 x543000 x543001 x543002 x543003)
def zS.l0 : Nat → Int → List (S40) → List Int → List ByteArray → Int → List (S40) → List Int → List ByteArray → Int → Option (Bool)
 | 0, _, _, _, _, _, _, _, _, _ => none
 | k + 1, x5, x542000, x542001, x542002, x542003, x543000, x543001, x543002, x543003 => if x5 < (x542001.length : Int) then (if 0 ≤ x5 then (if x5 < (x543001.length : Int) then (if (rd x542001 x5) = (rd x543001 x5) then (zS.l0 k (wrap64 (x5 + 1)) x542000 x542001 x542002 x542003 x543000 x543001 x543002 x543003) else (some false)) else (none)) else (none)) else (zS.l1 k 0 x542000 x542001 x542002 x542003 x543000 x543001 x543002 x543003)
def zS.l1 : Nat → Int → List (S40) → List Int → List ByteArray → Int → List (S40) → List Int → List ByteArray → Int → Option (Bool)
 | 0, _, _, _, _, _, _, _, _, _ => none
 | k + 1, x6, x542000, x542001, x542002, x542003, x543000, x543001, x543002, x543003 => if x6 < (x542002.length : Int) then (if 0 ≤ x6 then (if x6 < (x543002.length : Int) then (if (rdOf ByteArray.empty x542002 x6).toList = (rdOf ByteArray.empty x543002 x6).toList then (zS.l1 k (wrap64 (x6 + 1)) x542000 x542001 x542002 x542003 x543000 x543001 x543002 x543003) else (some false)) else (none)) else (none)) else (zS.l2 k 0 x542000 x542001 x542002 x542003 x543000 x543001 x543002 x543003)
def zS.l2 : Nat → Int → List (S40) → List Int → List ByteArray → Int → List (S40) → List Int → List ByteArray → Int → Option (Bool)
 | 0, _, _, _, _, _, _, _, _, _ => none
 | k + 1, x7, x542000, x542001, x542002, x542003, x543000, x543001, x543002, x543003 => if x7 < (x542000.length : Int) then (if 0 ≤ x7 then (if x7 < (x543000.length : Int) then (if ((r40 x542000 x7).f0) = ((r40 x543000 x7).f0) then (if ((r40 x542000 x7).f1) = ((r40 x543000 x7).f1) then (if ((r40 x542000 x7).f2) = ((r40 x543000 x7).f2) then (zS.j4 k x7 ((((r40 x542000 x7).f3).length : Int) != (((r40 x543000 x7).f3).length : Int)) x542000 x542001 x542002 x542003 x543000 x543001 x543002 x543003 ((r40 x542000 x7).f0) ((r40 x542000 x7).f1) ((r40 x542000 x7).f2) ((r40 x542000 x7).f3) ((r40 x543000 x7).f0) ((r40 x543000 x7).f1) ((r40 x543000 x7).f2) ((r40 x543000 x7).f3)) else (zS.j4 k x7 true x542000 x542001 x542002 x542003 x543000 x543001 x543002 x543003 ((r40 x542000 x7).f0) ((r40 x542000 x7).f1) ((r40 x542000 x7).f2) ((r40 x542000 x7).f3) ((r40 x543000 x7).f0) ((r40 x543000 x7).f1) ((r40 x543000 x7).f2) ((r40 x543000 x7).f3))) else (zS.j4 k x7 true x542000 x542001 x542002 x542003 x543000 x543001 x543002 x543003 ((r40 x542000 x7).f0) ((r40 x542000 x7).f1) ((r40 x542000 x7).f2) ((r40 x542000 x7).f3) ((r40 x543000 x7).f0) ((r40 x543000 x7).f1) ((r40 x543000 x7).f2) ((r40 x543000 x7).f3))) else (zS.j4 k x7 true x542000 x542001 x542002 x542003 x543000 x543001 x543002 x543003 ((r40 x542000 x7).f0) ((r40 x542000 x7).f1) ((r40 x542000 x7).f2) ((r40 x542000 x7).f3) ((r40 x543000 x7).f0) ((r40 x543000 x7).f1) ((r40 x543000 x7).f2) ((r40 x543000 x7).f3))) else (none)) else (none)) else (some true)
def zS.j4 : Nat → Int → Bool → List (S40) → List Int → List ByteArray → Int → List (S40) → List Int → List ByteArray → Int → Int → Int → Int → List (S42) → Int → Int → Int → List (S42) → Option (Bool)
 | 0, _, _, _, _, _, _, _, _, _, _, _, _, _, _, _, _, _, _ => none
 | k + 1, x7, x123, x542000, x542001, x542002, x542003, x543000, x543001, x543002, x543003, x549000, x549001, x549002, x549003, x551000, x551001, x551002, x551003 => if x123 = true then (some false) else (zS.l3 k x7 0 x542000 x542001 x542002 x542003 x543000 x543001 x543002 x543003 x549000 x549001 x549002 x549003 x551000 x551001 x551002 x551003)
def zS.l3 : Nat → Int → Int → List (S40) → List Int → List ByteArray → Int → List (S40) → List Int → List ByteArray → Int → Int → Int → Int → List (S42) → Int → Int → Int → List (S42) → Option (Bool)
 | 0, _, _, _, _, _, _, _, _, _, _, _, _, _, _, _, _, _, _ => none
 | k + 1, x7, x10, x542000, x542001, x542002, x542003, x543000, x543001, x543002, x543003, x549000, x549001, x549002, x549003, x551000, x551001, x551002, x551003 => if x10 < (x549003.length : Int) then (if 0 ≤ x10 then (if x10 < (x551003.length : Int) then (if (!(((r42 x549003 x10).f0) == ((r42 x551003 x10).f0)) || (!(((r42 x549003 x10).f1) == ((r42 x551003 x10).f1)) || (!(((r42 x549003 x10).f2) == ((r42 x551003 x10).f2))))) = true then (some false) else (zS.l3 k x7 (wrap64 (x10 + 1)) x542000 x542001 x542002 x542003 x543000 x543001 x543002 x543003 x549000 x549001 x549002 x549003 x551000 x551001 x551002 x551003)) else (none)) else (none)) else (zS.l2 k (wrap64 (x7 + 1)) x542000 x542001 x542002 x542003 x543000 x543001 x543002 x543003)
end
def zS.f (k : Nat) (l0_0 : List (S40)) (l0_1 : List Int) (l0_2 : List ByteArray) (a0_3 : Int) (l1_0 : List (S40)) (l1_1 : List Int) (l1_2 : List ByteArray) (a1_3 : Int) : Option (Bool) := if (l0_0.length : Int) = (l1_0.length : Int) then (if (l0_1.length : Int) = (l1_1.length : Int) then (if (l0_2.length : Int) = (l1_2.length : Int) then (zS.j0 k (a0_3 != a1_3) l0_0 l0_1 l0_2 a0_3 l1_0 l1_1 l1_2 a1_3) else (zS.j0 k true l0_0 l0_1 l0_2 a0_3 l1_0 l1_1 l1_2 a1_3)) else (zS.j0 k true l0_0 l0_1 l0_2 a0_3 l1_0 l1_1 l1_2 a1_3)) else (zS.j0 k true l0_0 l0_1 l0_2 a0_3 l1_0 l1_1 l1_2 a1_3)
theorem zS.mono_l : ∀ k, (∀ y0 y1 y2 y3 y4 y5 y6 y7 y8, LeO (zS.j0 k y0 y1 y2 y3 y4 y5 y6 y7 y8) (zS.j0 (k + 1) y0 y1 y2 y3 y4 y5 y6 y7 y8)) ∧ (∀ y0 y1 y2 y3 y4 y5 y6 y7 y8, LeO (zS.l0 k y0 y1 y2 y3 y4 y5 y6 y7 y8) (zS.l0 (k + 1) y0 y1 y2 y3 y4 y5 y6 y7 y8)) ∧ (∀ y0 y1 y2 y3 y4 y5 y6 y7 y8, LeO (zS.l1 k y0 y1 y2 y3 y4 y5 y6 y7 y8) (zS.l1 (k + 1) y0 y1 y2 y3 y4 y5 y6 y7 y8)) ∧ (∀ y0 y1 y2 y3 y4 y5 y6 y7 y8, LeO (zS.l2 k y0 y1 y2 y3 y4 y5 y6 y7 y8) (zS.l2 (k + 1) y0 y1 y2 y3 y4 y5 y6 y7 y8)) ∧ (∀ y0 y1 y2 y3 y4 y5 y6 y7 y8 y9 y10 y11 y12 y13 y14 y15 y16 y17, LeO (zS.j4 k y0 y1 y2 y3 y4 y5 y6 y7 y8 y9 y10 y11 y12 y13 y14 y15 y16 y17) (zS.j4 (k + 1) y0 y1 y2 y3 y4 y5 y6 y7 y8 y9 y10 y11 y12 y13 y14 y15 y16 y17)) ∧ (∀ y0 y1 y2 y3 y4 y5 y6 y7 y8 y9 y10 y11 y12 y13 y14 y15 y16 y17, LeO (zS.l3 k y0 y1 y2 y3 y4 y5 y6 y7 y8 y9 y10 y11 y12 y13 y14 y15 y16 y17) (zS.l3 (k + 1) y0 y1 y2 y3 y4 y5 y6 y7 y8 y9 y10 y11 y12 y13 y14 y15 y16 y17))
 | 0 => ⟨fun _ _ _ _ _ _ _ _ _ r h => by simp [zS.j0] at h, fun _ _ _ _ _ _ _ _ _ r h => by simp [zS.l0] at h, fun _ _ _ _ _ _ _ _ _ r h => by simp [zS.l1] at h, fun _ _ _ _ _ _ _ _ _ r h => by simp [zS.l2] at h, fun _ _ _ _ _ _ _ _ _ _ _ _ _ _ _ _ _ _ r h => by simp [zS.j4] at h, fun _ _ _ _ _ _ _ _ _ _ _ _ _ _ _ _ _ _ r h => by simp [zS.l3] at h⟩
 | k + 1 => by
  obtain ⟨ih0, ih1, ih2, ih3, ih4, ih5⟩ := zS.mono_l k
  refine ⟨?_, ?_, ?_, ?_, ?_, ?_⟩
  ·intro y0 y1 y2 y3 y4 y5 y6 y7 y8
   unfold zS.j0
   repeat' first
   | (with_reducible exact ih0 _ _ _ _ _ _ _ _ _)
   | (with_reducible exact ih1 _ _ _ _ _ _ _ _ _)
   | (with_reducible exact ih2 _ _ _ _ _ _ _ _ _)
   | (with_reducible exact ih3 _ _ _ _ _ _ _ _ _)
   | (with_reducible exact ih4 _ _ _ _ _ _ _ _ _ _ _ _ _ _ _ _ _ _)
   | (with_reducible exact ih5 _ _ _ _ _ _ _ _ _ _ _ _ _ _ _ _ _ _)
   | (with_reducible exact LeO.refl _)
   | (with_reducible exact LeO.none _)
   | (with_reducible refine LeO.ite ?_ ?_)
   | (with_reducible refine LeO.bind ?_ (fun _ => ?_))
   | exact ih0 _ _ _ _ _ _ _ _ _
   | exact ih1 _ _ _ _ _ _ _ _ _
   | exact ih2 _ _ _ _ _ _ _ _ _
   | exact ih3 _ _ _ _ _ _ _ _ _
   | exact ih4 _ _ _ _ _ _ _ _ _ _ _ _ _ _ _ _ _ _
   | exact ih5 _ _ _ _ _ _ _ _ _ _ _ _ _ _ _ _ _ _
   | exact LeO.none _
   | refine LeO.ite ?_ ?_
   | refine LeO.bind ?_ (fun _ => ?_)
  ·intro y0 y1 y2 y3 y4 y5 y6 y7 y8
   unfold zS.l0
   repeat' first
   | (with_reducible exact ih0 _ _ _ _ _ _ _ _ _)
   | (with_reducible exact ih1 _ _ _ _ _ _ _ _ _)
   | (with_reducible exact ih2 _ _ _ _ _ _ _ _ _)
   | (with_reducible exact ih3 _ _ _ _ _ _ _ _ _)
   | (with_reducible exact ih4 _ _ _ _ _ _ _ _ _ _ _ _ _ _ _ _ _ _)
   | (with_reducible exact ih5 _ _ _ _ _ _ _ _ _ _ _ _ _ _ _ _ _ _)
   | (with_reducible exact LeO.refl _)
   | (with_reducible exact LeO.none _)
   | (with_reducible refine LeO.ite ?_ ?_)
   | (with_reducible refine LeO.bind ?_ (fun _ => ?_))
   | exact ih0 _ _ _ _ _ _ _ _ _
   | exact ih1 _ _ _ _ _ _ _ _ _
   | exact ih2 _ _ _ _ _ _ _ _ _
   | exact ih3 _ _ _ _ _ _ _ _ _
   | exact ih4 _ _ _ _ _ _ _ _ _ _ _ _ _ _ _ _ _ _
   | exact ih5 _ _ _ _ _ _ _ _ _ _ _ _ _ _ _ _ _ _
   | exact LeO.none _
   | refine LeO.ite ?_ ?_
   | refine LeO.bind ?_ (fun _ => ?_)
  ·intro y0 y1 y2 y3 y4 y5 y6 y7 y8
   unfold zS.l1
   repeat' first
   | (with_reducible exact ih0 _ _ _ _ _ _ _ _ _)
   | (with_reducible exact ih1 _ _ _ _ _ _ _ _ _)
   | (with_reducible exact ih2 _ _ _ _ _ _ _ _ _)
   | (with_reducible exact ih3 _ _ _ _ _ _ _ _ _)
   | (with_reducible exact ih4 _ _ _ _ _ _ _ _ _ _ _ _ _ _ _ _ _ _)
   | (with_reducible exact ih5 _ _ _ _ _ _ _ _ _ _ _ _ _ _ _ _ _ _)
   | (with_reducible exact LeO.refl _)
   | (with_reducible exact LeO.none _)
   | (with_reducible refine LeO.ite ?_ ?_)
   | (with_reducible refine LeO.bind ?_ (fun _ => ?_))
   | exact ih0 _ _ _ _ _ _ _ _ _
   | exact ih1 _ _ _ _ _ _ _ _ _
   | exact ih2 _ _ _ _ _ _ _ _ _
   | exact ih3 _ _ _ _ _ _ _ _ _
   | exact ih4 _ _ _ _ _ _ _ _ _ _ _ _ _ _ _ _ _ _
   | exact ih5 _ _ _ _ _ _ _ _ _ _ _ _ _ _ _ _ _ _
   | exact LeO.none _
   | refine LeO.ite ?_ ?_
   | refine LeO.bind ?_ (fun _ => ?_)
  ·intro y0 y1 y2 y3 y4 y5 y6 y7 y8
   unfold zS.l2
   repeat' first
   | (with_reducible exact ih0 _ _ _ _ _ _ _ _ _)
   | (with_reducible exact ih1 _ _ _ _ _ _ _ _ _)
   | (with_reducible exact ih2 _ _ _ _ _ _ _ _ _)
   | (with_reducible exact ih3 _ _ _ _ _ _ _ _ _)
   | (with_reducible exact ih4 _ _ _ _ _ _ _ _ _ _ _ _ _ _ _ _ _ _)
   | (with_reducible exact ih5 _ _ _ _ _ _ _ _ _ _ _ _ _ _ _ _ _ _)
   | (with_reducible exact LeO.refl _)
   | (with_reducible exact LeO.none _)
   | (with_reducible refine LeO.ite ?_ ?_)
   | (with_reducible refine LeO.bind ?_ (fun _ => ?_))
   | exact ih0 _ _ _ _ _ _ _ _ _
   | exact ih1 _ _ _ _ _ _ _ _ _
   | exact ih2 _ _ _ _ _ _ _ _ _
   | exact ih3 _ _ _ _ _ _ _ _ _
   | exact ih4 _ _ _ _ _ _ _ _ _ _ _ _ _ _ _ _ _ _
   | exact ih5 _ _ _ _ _ _ _ _ _ _ _ _ _ _ _ _ _ _
   | exact LeO.none _
   | refine LeO.ite ?_ ?_
   | refine LeO.bind ?_ (fun _ => ?_)
  ·intro y0 y1 y2 y3 y4 y5 y6 y7 y8 y9 y10 y11 y12 y13 y14 y15 y16 y17
   unfold zS.j4
   repeat' first
   | (with_reducible exact ih0 _ _ _ _ _ _ _ _ _)
   | (with_reducible exact ih1 _ _ _ _ _ _ _ _ _)
   | (with_reducible exact ih2 _ _ _ _ _ _ _ _ _)
   | (with_reducible exact ih3 _ _ _ _ _ _ _ _ _)
   | (with_reducible exact ih4 _ _ _ _ _ _ _ _ _ _ _ _ _ _ _ _ _ _)
   | (with_reducible exact ih5 _ _ _ _ _ _ _ _ _ _ _ _ _ _ _ _ _ _)
   | (with_reducible exact LeO.refl _)
   | (with_reducible exact LeO.none _)
   | (with_reducible refine LeO.ite ?_ ?_)
   | (with_reducible refine LeO.bind ?_ (fun _ => ?_))
   | exact ih0 _ _ _ _ _ _ _ _ _
   | exact ih1 _ _ _ _ _ _ _ _ _
   | exact ih2 _ _ _ _ _ _ _ _ _
   | exact ih3 _ _ _ _ _ _ _ _ _
   | exact ih4 _ _ _ _ _ _ _ _ _ _ _ _ _ _ _ _ _ _
   | exact ih5 _ _ _ _ _ _ _ _ _ _ _ _ _ _ _ _ _ _
   | exact LeO.none _
   | refine LeO.ite ?_ ?_
   | refine LeO.bind ?_ (fun _ => ?_)
  intro y0 y1 y2 y3 y4 y5 y6 y7 y8 y9 y10 y11 y12 y13 y14 y15 y16 y17
  unfold zS.l3
  repeat' first
  | (with_reducible exact ih0 _ _ _ _ _ _ _ _ _)
  | (with_reducible exact ih1 _ _ _ _ _ _ _ _ _)
  | (with_reducible exact ih2 _ _ _ _ _ _ _ _ _)
  | (with_reducible exact ih3 _ _ _ _ _ _ _ _ _)
  | (with_reducible exact ih4 _ _ _ _ _ _ _ _ _ _ _ _ _ _ _ _ _ _)
  | (with_reducible exact ih5 _ _ _ _ _ _ _ _ _ _ _ _ _ _ _ _ _ _)
  | (with_reducible exact LeO.refl _)
  | (with_reducible exact LeO.none _)
  | (with_reducible refine LeO.ite ?_ ?_)
  | (with_reducible refine LeO.bind ?_ (fun _ => ?_))
  | exact ih0 _ _ _ _ _ _ _ _ _
  | exact ih1 _ _ _ _ _ _ _ _ _
  | exact ih2 _ _ _ _ _ _ _ _ _
  | exact ih3 _ _ _ _ _ _ _ _ _
  | exact ih4 _ _ _ _ _ _ _ _ _ _ _ _ _ _ _ _ _ _
  | exact ih5 _ _ _ _ _ _ _ _ _ _ _ _ _ _ _ _ _ _
  | exact LeO.none _
  | refine LeO.ite ?_ ?_
  | refine LeO.bind ?_ (fun _ => ?_)
theorem zS.mono : ∀ a0 a1 a2 a3 a4 a5 a6 a7 k, LeO (zS.f k a0 a1 a2 a3 a4 a5 a6 a7) (zS.f (k + 1) a0 a1 a2 a3 a4 a5 a6 a7) := by
 intro a0 a1 a2 a3 a4 a5 a6 a7 k
 obtain ⟨ih0, ih1, ih2, ih3, ih4, ih5⟩ := zS.mono_l k
 unfold zS.f
 repeat' first
   | (with_reducible exact ih0 _ _ _ _ _ _ _ _ _)
   | (with_reducible exact ih1 _ _ _ _ _ _ _ _ _)
   | (with_reducible exact ih2 _ _ _ _ _ _ _ _ _)
   | (with_reducible exact ih3 _ _ _ _ _ _ _ _ _)
   | (with_reducible exact ih4 _ _ _ _ _ _ _ _ _ _ _ _ _ _ _ _ _ _)
   | (with_reducible exact ih5 _ _ _ _ _ _ _ _ _ _ _ _ _ _ _ _ _ _)
   | (with_reducible exact LeO.refl _)
   | (with_reducible exact LeO.none _)
   | (with_reducible refine LeO.ite ?_ ?_)
   | (with_reducible refine LeO.bind ?_ (fun _ => ?_))
   | exact ih0 _ _ _ _ _ _ _ _ _
   | exact ih1 _ _ _ _ _ _ _ _ _
   | exact ih2 _ _ _ _ _ _ _ _ _
   | exact ih3 _ _ _ _ _ _ _ _ _
   | exact ih4 _ _ _ _ _ _ _ _ _ _ _ _ _ _ _ _ _ _
   | exact ih5 _ _ _ _ _ _ _ _ _ _ _ _ _ _ _ _ _ _
   | exact LeO.none _
   | refine LeO.ite ?_ ?_
   | refine LeO.bind ?_ (fun _ => ?_)
theorem zS.j0_true {k : Nat} {r : Bool} {a : List S40} {b : List Int} {c : List ByteArray} {d : Int} {a1 : List S40} {b1 : List Int} {c1 : List ByteArray} {d1 : Int} (h : zS.j0 k true a b c d a1 b1 c1 d1 = some r) (hr : r = true) : False := by
 subst hr
 cases k <;> simp [zS.j0] at h
theorem zS.j4_true {k : Nat} {r : Bool} {x : Int} {a : List S40} {b : List Int} {c : List ByteArray} {d : Int} {a1 : List S40} {b1 : List Int} {c1 : List ByteArray} {d1 e0 e1 e2 : Int} {e3 : List S42} {f0 f1 f2 : Int} {f3 : List S42} (h : zS.j4 k x true a b c d a1 b1 c1 d1 e0 e1 e2 e3 f0 f1 f2 f3 = some r) (hr : r = true) : False := by
 subst hr
 cases k <;> simp [zS.j4] at h
set_option maxHeartbeats 8000000 in
set_option maxRecDepth 100000 in
theorem zS.calls (k : Nat) (A0_0 : Option Addr) (c0_0 : Nat) (l0_0 : List (S40)) (A0_1 : Option Addr) (c0_1 : Nat) (l0_1 : List Int) (A0_2 : Option Addr) (c0_2 : Nat) (l0_2 : List ByteArray) (a0_3 : Int) (A1_0 : Option Addr) (c1_0 : Nat) (l1_0 : List (S40)) (A1_1 : Option Addr) (c1_1 : Nat) (l1_1 : List Int) (A1_2 : Option Addr) (c1_2 : Nat) (l1_2 : List ByteArray) (a1_3 : Int) (r : Bool) (w : World) (hr0_0 : Kd.C k40 w A0_0 l0_0.length l0_0) (hc0_0 : l0_0.length ≤ c0_0) (hr0_1 : Kd.C (Kd.int .i64) w A0_1 l0_1.length l0_1) (hc0_1 : l0_1.length ≤ c0_1) (hr0_2 : Kd.C Kd.string w A0_2 l0_2.length l0_2) (hc0_2 : l0_2.length ≤ c0_2) (hr1_0 : Kd.C k40 w A1_0 l1_0.length l1_0) (hc1_0 : l1_0.length ≤ c1_0) (hr1_1 : Kd.C (Kd.int .i64) w A1_1 l1_1.length l1_1) (hc1_1 : l1_1.length ≤ c1_1) (hr1_2 : Kd.C Kd.string w A1_2 l1_2.length l1_2) (hc1_2 : l1_2.length ≤ c1_2) (h : zS.f k l0_0 l0_1 l0_2 a0_3 l1_0 l1_1 l1_2 a1_3 = some r) (hr : r = true) :
  Calls Try.prog 21 #[.agg #[.slice A0_0 l0_0.length c0_0, .slice A0_1 l0_1.length c0_1, .slice A0_2 l0_2.length c0_2, .int .i64 a0_3], .agg #[.slice A1_0 l1_0.length c1_0, .slice A1_1 l1_1.length c1_1, .slice A1_2 l1_2.length c1_2, .int .i64 a1_3]] w fun e w' => e = .returned (.bool r) ∧ Below w.heap.size w w' := by
 have hu26 := Try.underlying26
 have hu40 := Try.underlying40
 have hu42 := Try.underlying42
 have HR0_0 := Aside0.mk hr0_0
 have HC0_0 := Aside0.mk hc0_0
 clear hr0_0 hc0_0
 have HR0_1 := Aside0.mk hr0_1
 have HC0_1 := Aside0.mk hc0_1
 clear hr0_1 hc0_1
 have HR0_2 := Aside0.mk hr0_2
 have HC0_2 := Aside0.mk hc0_2
 clear hr0_2 hc0_2
 have HR1_0 := Aside0.mk hr1_0
 have HC1_0 := Aside0.mk hc1_0
 clear hr1_0 hc1_0
 have HR1_1 := Aside0.mk hr1_1
 have HC1_1 := Aside0.mk hc1_1
 clear hr1_1 hc1_1
 have HR1_2 := Aside0.mk hr1_2
 have HC1_2 := Aside0.mk hc1_2
 clear hr1_2 hc1_2
 have HB := Aside0.mk (Below.refl w.heap.size w)
 have H : (if (l0_0.length : Int) = (l1_0.length : Int) then (if (l0_1.length : Int) = (l1_1.length : Int) then (if (l0_2.length : Int) = (l1_2.length : Int) then (zS.j0 k (a0_3 != a1_3) l0_0 l0_1 l0_2 a0_3 l1_0 l1_1 l1_2 a1_3) else (zS.j0 k true l0_0 l0_1 l0_2 a0_3 l1_0 l1_1 l1_2 a1_3)) else (zS.j0 k true l0_0 l0_1 l0_2 a0_3 l1_0 l1_1 l1_2 a1_3)) else (zS.j0 k true l0_0 l0_1 l0_2 a0_3 l1_0 l1_1 l1_2 a1_3)) = some r := h
 clear h
 have HC3 := Aside0.mk H
 clear H
 go_enter Try.func21, Try.ntmps21
 go_upto_region 1 with (first | ((with_reducible refine gate_dst (N := 2) rfl ?_); (try (refine gate_guard (by rfl) ?_; dsimp only)); refine box_event ?hg (N := 2) ?hd (cs := #[.slice A0_0 l0_0.length c0_0, .slice A0_1 l0_1.length c0_1, .slice A0_2 l0_2.length c0_2, .int .i64 a0_3]) (t := 26) ?hr ?_; (case hd => rfl); (case hg => rfl); (case hr => first | (go_simp; done) | (go_simp; rfl)); intro gb541 hg w4 hbox hb; have n0_ := Aside0.mk (bT (by repeat (first | (with_reducible first | exact HB.out | apply bA | apply bN | apply bD) | exact HB.out)) hb); have n1_ := Aside0.mk (hbox); have n2_ := Aside0.mk ((by rw [hg]; exact (bZ (by repeat (first | (with_reducible first | exact HB.out | apply bA | apply bN | apply bD) | exact HB.out))) : w.heap.size ≤ gb541)); have n3_ := Aside0.mk ((by rw [hg]; exact (bZ (by repeat (first | (with_reducible first | exact HB.out | apply bA | apply bN | apply bD) | exact HB.out))) : w.heap.size ≤ gb541)); clear HB; have HB := n0_; have BK541 := n1_; have GW541 := n2_; have GE541 := n3_; clear n0_ n1_ n2_ n3_; clear hb hbox hg) | ((with_reducible refine gate_dst (N := 3) rfl ?_); (try (refine gate_guard (by rfl) ?_; dsimp only)); refine box_event ?hg (N := 3) ?hd (cs := #[.slice A1_0 l1_0.length c1_0, .slice A1_1 l1_1.length c1_1, .slice A1_2 l1_2.length c1_2, .int .i64 a1_3]) (t := 26) ?hr ?_; (case hd => rfl); (case hg => rfl); (case hr => first | (go_simp; done) | (go_simp; rfl)); intro gb542 hg w5 hbox hb; have n0_ := Aside0.mk (kB (g := gb541) (o := .cells #[.slice A0_0 l0_0.length c0_0, .slice A0_1 l0_1.length c0_1, .slice A0_2 l0_2.length c0_2, .int .i64 a0_3] 26 (0, 0)) (by (with_reducible repeat (first | refine kN ?_ _ | refine kD ?_ | refine kA ?_ _)); exact BK541.out) hb); have n1_ := Aside0.mk (bT (by repeat (first | (with_reducible first | exact HB.out | apply bA | apply bN | apply bD | refine bS ?_ GE541.out) | exact HB.out)) hb); have n2_ := Aside0.mk (hbox); have n3_ := Aside0.mk ((by rw [hg]; exact (bZ (by repeat (first | (with_reducible first | exact HB.out | apply bA | apply bN | apply bD | refine bS ?_ GE541.out) | exact HB.out))) : w.heap.size ≤ gb542)); have n4_ := Aside0.mk ((by rw [hg]; exact (bZ (by repeat (first | (with_reducible first | exact HB.out | apply bA | apply bN | apply bD | refine bS ?_ GE541.out) | exact HB.out))) : w.heap.size ≤ gb542)); have n5_ := Aside0.mk ((by rw [hg]; exact Nat.ne_of_lt (blk_lt (g := gb541) (o := .cells #[.slice A0_0 l0_0.length c0_0, .slice A0_1 l0_1.length c0_1, .slice A0_2 l0_2.length c0_2, .int .i64 a0_3] 26 (0, 0)) (by (with_reducible repeat (first | refine kN ?_ _ | refine kD ?_ | refine kA ?_ _)); exact BK541.out)) : gb541 ≠ gb542)); have n6_ := Aside0.mk ((by rw [hg]; exact Nat.ne_of_gt (blk_lt (g := gb541) (o := .cells #[.slice A0_0 l0_0.length c0_0, .slice A0_1 l0_1.length c0_1, .slice A0_2 l0_2.length c0_2, .int .i64 a0_3] 26 (0, 0)) (by (with_reducible repeat (first | refine kN ?_ _ | refine kD ?_ | refine kA ?_ _)); exact BK541.out)) : gb542 ≠ gb541)); clear BK541; clear HB; have BK541 := n0_; have HB := n1_; have BK542 := n2_; have GW542 := n3_; have GE542 := n4_; have NB541_542 := n5_; have NB542_541 := n6_; clear n0_ n1_ n2_ n3_ n4_ n5_ n6_; clear hb hbox hg))
 repeat (go_quiet (fail); go_upto_region 1 with (fail))
 (try simp only [Act.put, List.setIfInBounds_toArray, List.set_cons_zero, List.set_cons_succ])
 go_cut [42] (fun v42 wc => ∃ (kq : Nat) (x42_2 : Bool), v42 = .bool x42_2 ∧ Aside0 (zS.j0 kq x42_2 l0_0 l0_1 l0_2 a0_3 l1_0 l1_1 l1_2 a1_3 = some r) ∧ Aside0 (kq ≤ k) ∧ Aside0 (wc.heap[gb541]? = some (.cells #[(.slice A0_0 l0_0.length c0_0), (.slice A0_1 l0_1.length c0_1), (.slice A0_2 l0_2.length c0_2), .int .i64 a0_3] 26 (0, 0))) ∧ Aside0 (wc.heap[gb542]? = some (.cells #[(.slice A1_0 l1_0.length c1_0), (.slice A1_1 l1_1.length c1_1), (.slice A1_2 l1_2.length c1_2), .int .i64 a1_3] 26 (0, 0))) ∧ Aside0 (Below w.heap.size w wc))
 case first =>
  have H := HC3.out
  clear HC3
  by_cases c6 : (l0_0.length : Int) = (l1_0.length : Int)
  ·rw [if_pos c6] at H
   have c6b0 : ((l0_0.length : Int) == (l1_0.length : Int)) = true := beq_iff_eq.mpr c6
   have c6b1 : ((l0_0.length : Int) != (l1_0.length : Int)) = false := bne_eq_false_iff_eq.mpr c6
   have c6b2 : (l0_0.length == l1_0.length) = true := by first | simpa using c6 | (simp at c6 ⊢; omega)
   clear c6
   (first | rw [c6b0] | (simp only [i64_w, i32_w]; rw [c6b0]) | skip)
   by_cases c7 : (l0_1.length : Int) = (l1_1.length : Int)
   ·rw [if_pos c7] at H
    have c7b0 : ((l0_1.length : Int) == (l1_1.length : Int)) = true := beq_iff_eq.mpr c7
    have c7b1 : ((l0_1.length : Int) != (l1_1.length : Int)) = false := bne_eq_false_iff_eq.mpr c7
    have c7b2 : (l0_1.length == l1_1.length) = true := by first | simpa using c7 | (simp at c7 ⊢; omega)
    clear c7
    by_cases c8 : (l0_2.length : Int) = (l1_2.length : Int)
    ·rw [if_pos c8] at H
     have c8b0 : ((l0_2.length : Int) == (l1_2.length : Int)) = true := beq_iff_eq.mpr c8
     have c8b1 : ((l0_2.length : Int) != (l1_2.length : Int)) = false := bne_eq_false_iff_eq.mpr c8
     have c8b2 : (l0_2.length == l1_2.length) = true := by first | simpa using c8 | (simp at c8 ⊢; omega)
     clear c8
     have H' := Aside0.mk H
     clear H
     have hnb9 := NB541_542.out
     have hnc9 := NB542_541.out
     have hcz10_0 : w5.cell? ⟨gb541, 0, none⟩ = some (.slice A0_0 l0_0.length c0_0) := (kC BK541.out 0).trans rfl
     have hcz10_1 : w5.cell? ⟨gb541, 1, none⟩ = some (.slice A0_1 l0_1.length c0_1) := (kC BK541.out 1).trans rfl
     have hcz10_2 : w5.cell? ⟨gb541, 2, none⟩ = some (.slice A0_2 l0_2.length c0_2) := (kC BK541.out 2).trans rfl
     have hcz10_3 : w5.cell? ⟨gb541, 3, none⟩ = some (.int .i64 a0_3) := (kC BK541.out 3).trans rfl
     have hfz10_0 := kF BK541.out 0
     have hfz10_1 := kF BK541.out 1
     have hfz10_2 := kF BK541.out 2
     have hfz10_3 := kF BK541.out 3
     have hcz11_0 : w5.cell? ⟨gb542, 0, none⟩ = some (.slice A1_0 l1_0.length c1_0) := (kC BK542.out 0).trans rfl
     have hcz11_1 : w5.cell? ⟨gb542, 1, none⟩ = some (.slice A1_1 l1_1.length c1_1) := (kC BK542.out 1).trans rfl
     have hcz11_2 : w5.cell? ⟨gb542, 2, none⟩ = some (.slice A1_2 l1_2.length c1_2) := (kC BK542.out 2).trans rfl
     have hcz11_3 : w5.cell? ⟨gb542, 3, none⟩ = some (.int .i64 a1_3) := (kC BK542.out 3).trans rfl
     have hfz11_0 := kF BK542.out 0
     have hfz11_1 := kF BK542.out 1
     have hfz11_2 := kF BK542.out 2
     have hfz11_3 := kF BK542.out 3
     go_wp2
     repeat (go_quiet (fail); try go_wp2)
     go_meet
     case rel => exact ⟨_, ((a0_3 != a1_3)), (by first | rfl | (simp; done) | (simp [*]; done)), H', ⟨by first | omega | exact Nat.le_refl _⟩, ⟨by (with_reducible repeat (first | refine kN ?_ _ | refine kD ?_ | refine kA ?_ _)); exact BK541.out⟩, ⟨by (with_reducible repeat (first | refine kN ?_ _ | refine kD ?_ | refine kA ?_ _)); exact BK542.out⟩, ⟨by repeat (first | (with_reducible first | exact HB.out | apply bA | apply bN | apply bD | refine bS ?_ GE541.out | refine bS ?_ GE542.out) | exact HB.out)⟩⟩
    rw [if_neg c8] at H
    exact absurd hr fun hr => (by first | exact zS.j0_true H hr | exact zS.j4_true H hr)
   rw [if_neg c7] at H
   exact absurd hr fun hr => (by first | exact zS.j0_true H hr | exact zS.j4_true H hr)
  rw [if_neg c6] at H
  exact absurd hr fun hr => (by first | exact zS.j0_true H hr | exact zS.j4_true H hr)
 case rest =>
  clear HC3
  obtain ⟨kq, x42_2, rfl, HA, HJ2, BK541, BK542, HB⟩ := hcut
  cases kq with
  | zero => exact absurd HA.out (by simp [zS.j0])
  | succ kj2 =>
   have H := HA.out
   clear HA
   simp only [zS.j0] at H
   by_cases c21 : x42_2 = true
   ·subst c21
    have H1 : (some false) = some r := by rw [if_pos rfl] at H; exact H
    exact absurd (Option.some.inj H1) (by rw [hr]; decide)
   replace c21 := Bool.eq_false_iff.mpr c21
   subst c21
   have H1 : (zS.l0 kj2 0 l0_0 l0_1 l0_2 a0_3 l1_0 l1_1 l1_2 a1_3) = some r := by rw [if_neg (show ¬ (false = true) by decide)] at H; exact H
   clear H
   have H := H1
   clear H1
   have H' := Aside0.mk H
   clear H
   go_wp2
   repeat (go_quiet (fail); try go_wp2)
   go_loopg [5] kj2 (fun kq v5 w' => ∃ (x5_2 : Int), v5 = .int .i64 x5_2 ∧ Aside0 (zS.l0 kq x5_2 l0_0 l0_1 l0_2 a0_3 l1_0 l1_1 l1_2 a1_3 = some r) ∧ Aside0 (kq ≤ kj2) ∧ Aside0 (w'.heap[gb541]? = some (.cells #[(.slice A0_0 l0_0.length c0_0), (.slice A0_1 l0_1.length c0_1), (.slice A0_2 l0_2.length c0_2), .int .i64 a0_3] 26 (0, 0))) ∧ Aside0 (w'.heap[gb542]? = some (.cells #[(.slice A1_0 l1_0.length c1_0), (.slice A1_1 l1_1.length c1_1), (.slice A1_2 l1_2.length c1_2), .int .i64 a1_3] 26 (0, 0))) ∧ Aside0 (Below w.heap.size w w'))
   case atStart => exact ⟨(0), (by first | rfl | (simp; done) | (simp [*]; done)), H', ⟨Nat.le_refl _⟩, ⟨by (with_reducible repeat (first | refine kN ?_ _ | refine kD ?_ | refine kA ?_ _)); exact BK541.out⟩, ⟨by (with_reducible repeat (first | refine kN ?_ _ | refine kD ?_ | refine kA ?_ _)); exact BK542.out⟩, ⟨by repeat (first | (with_reducible first | exact HB.out | apply bA | apply bN | apply bD | refine bS ?_ GE541.out | refine bS ?_ GE542.out) | exact HB.out)⟩⟩
   case round =>
    clear H'
    obtain ⟨x5_2, rfl, HA, HK2, BK541, BK542, HB⟩ := hrel
    cases gk with
    | zero => exact absurd HA.out (by simp [zS.l0])
    | succ k2 =>
     have H := HA.out
     clear HA
     simp only [zS.l0] at H
     by_cases c22 : x5_2 < (l0_1.length : Int)
     ·rw [if_pos c22] at H
      have c22b0 : decide (x5_2 < (l0_1.length : Int)) = true := decide_eq_true c22
      clear c22
      by_cases c23 : 0 ≤ x5_2
      ·rw [if_pos c23] at H
       have c23b0 : decide (0 ≤ x5_2) = true := decide_eq_true c23
       clear c23
       by_cases c24 : x5_2 < (l1_1.length : Int)
       ·rw [if_pos c24] at H
        have c24b0 : decide (x5_2 < (l1_1.length : Int)) = true := decide_eq_true c24
        clear c24
        by_cases c25 : (rd l0_1 x5_2) = (rd l1_1 x5_2)
        ·rw [if_pos c25] at H
         have c25b0 : ((rd l0_1 x5_2) == (rd l1_1 x5_2)) = true := beq_iff_eq.mpr c25
         have c25b1 : ((rd l0_1 x5_2) != (rd l1_1 x5_2)) = false := bne_eq_false_iff_eq.mpr c25
         clear c25
         have H' := Aside0.mk H
         clear H
         have hnb26 := NB541_542.out
         have hnc26 := NB542_541.out
         have hcz27_0 : wr.cell? ⟨gb541, 0, none⟩ = some (.slice A0_0 l0_0.length c0_0) := (kC BK541.out 0).trans rfl
         have hcz27_1 : wr.cell? ⟨gb541, 1, none⟩ = some (.slice A0_1 l0_1.length c0_1) := (kC BK541.out 1).trans rfl
         have hcz27_2 : wr.cell? ⟨gb541, 2, none⟩ = some (.slice A0_2 l0_2.length c0_2) := (kC BK541.out 2).trans rfl
         have hcz27_3 : wr.cell? ⟨gb541, 3, none⟩ = some (.int .i64 a0_3) := (kC BK541.out 3).trans rfl
         have hfz27_0 := kF BK541.out 0
         have hfz27_1 := kF BK541.out 1
         have hfz27_2 := kF BK541.out 2
         have hfz27_3 := kF BK541.out 3
         have p543 : 0 ≤ (x5_2 : Int) := of_decide_eq_true (by first | (with_reducible assumption) | assumption)
         have q543 : x5_2 < (l0_1.length : Int) := of_decide_eq_true (by first | (with_reducible assumption) | assumption)
         obtain ⟨ad543, e543, hx543_0⟩ := Kd.at_int HR0_1.out x5_2 p543 q543
         cases e543
         replace hx543_0 := (HB.out.cell (World.block_lt_of_cell? w _ hx543_0)).trans hx543_0
         replace p543 := eq_true p543
         replace q543 := eq_true q543
         have hcz28_0 : wr.cell? ⟨gb542, 0, none⟩ = some (.slice A1_0 l1_0.length c1_0) := (kC BK542.out 0).trans rfl
         have hcz28_1 : wr.cell? ⟨gb542, 1, none⟩ = some (.slice A1_1 l1_1.length c1_1) := (kC BK542.out 1).trans rfl
         have hcz28_2 : wr.cell? ⟨gb542, 2, none⟩ = some (.slice A1_2 l1_2.length c1_2) := (kC BK542.out 2).trans rfl
         have hcz28_3 : wr.cell? ⟨gb542, 3, none⟩ = some (.int .i64 a1_3) := (kC BK542.out 3).trans rfl
         have hfz28_0 := kF BK542.out 0
         have hfz28_1 := kF BK542.out 1
         have hfz28_2 := kF BK542.out 2
         have hfz28_3 := kF BK542.out 3
         have p544 : 0 ≤ (x5_2 : Int) := of_decide_eq_true (by first | (with_reducible assumption) | assumption)
         have q544 : x5_2 < (l1_1.length : Int) := of_decide_eq_true (by first | (with_reducible assumption) | assumption)
         obtain ⟨ad544, e544, hx544_0⟩ := Kd.at_int HR1_1.out x5_2 p544 q544
         cases e544
         replace hx544_0 := (HB.out.cell (World.block_lt_of_cell? w _ hx544_0)).trans hx544_0
         replace p544 := eq_true p544
         replace q544 := eq_true q544
         go_wp2
         repeat (go_quiet (fail); try go_wp2)
         go_roundg k2
         case measure => have := HJ2.out; have := HK2.out; omega
         case rel => exact ⟨(wrap64 (x5_2 + 1)), (by first | rfl | (simp; done) | (simp [*]; done)), H', ⟨by have := HJ2.out; have := HK2.out; omega⟩, ⟨by (with_reducible repeat (first | refine kN ?_ _ | refine kD ?_ | refine kA ?_ _)); exact BK541.out⟩, ⟨by (with_reducible repeat (first | refine kN ?_ _ | refine kD ?_ | refine kA ?_ _)); exact BK542.out⟩, ⟨by repeat (first | (with_reducible first | exact HB.out | apply bA | apply bN | apply bD | refine bS ?_ GE541.out | refine bS ?_ GE542.out) | exact HB.out)⟩⟩
        rw [if_neg c25] at H
        exact absurd (H.trans (congrArg some hr)) (by decide)
       rw [if_neg c24] at H
       exact absurd H (by simp)
      rw [if_neg c23] at H
      exact absurd H (by simp)
     rw [if_neg c22] at H
     have c22b0 : decide (x5_2 < (l0_1.length : Int)) = false := decide_eq_false c22
     clear c22
     have H' := Aside0.mk H
     clear H
     have hnb32 := NB541_542.out
     have hnc32 := NB542_541.out
     have hcz33_0 : wr.cell? ⟨gb541, 0, none⟩ = some (.slice A0_0 l0_0.length c0_0) := (kC BK541.out 0).trans rfl
     have hcz33_1 : wr.cell? ⟨gb541, 1, none⟩ = some (.slice A0_1 l0_1.length c0_1) := (kC BK541.out 1).trans rfl
     have hcz33_2 : wr.cell? ⟨gb541, 2, none⟩ = some (.slice A0_2 l0_2.length c0_2) := (kC BK541.out 2).trans rfl
     have hcz33_3 : wr.cell? ⟨gb541, 3, none⟩ = some (.int .i64 a0_3) := (kC BK541.out 3).trans rfl
     have hfz33_0 := kF BK541.out 0
     have hfz33_1 := kF BK541.out 1
     have hfz33_2 := kF BK541.out 2
     have hfz33_3 := kF BK541.out 3
     go_wp2
     repeat (go_quiet (fail); try go_wp2)
     go_loopg [6] k2 (fun kq v6 w' => ∃ (x6_3 : Int), v6 = .int .i64 x6_3 ∧ Aside0 (zS.l1 kq x6_3 l0_0 l0_1 l0_2 a0_3 l1_0 l1_1 l1_2 a1_3 = some r) ∧ Aside0 (kq ≤ k2) ∧ Aside0 (w'.heap[gb541]? = some (.cells #[(.slice A0_0 l0_0.length c0_0), (.slice A0_1 l0_1.length c0_1), (.slice A0_2 l0_2.length c0_2), .int .i64 a0_3] 26 (0, 0))) ∧ Aside0 (w'.heap[gb542]? = some (.cells #[(.slice A1_0 l1_0.length c1_0), (.slice A1_1 l1_1.length c1_1), (.slice A1_2 l1_2.length c1_2), .int .i64 a1_3] 26 (0, 0))) ∧ Aside0 (Below w.heap.size w w'))
     case atStart => exact ⟨(0), (by first | rfl | (simp; done) | (simp [*]; done)), H', ⟨Nat.le_refl _⟩, ⟨by (with_reducible repeat (first | refine kN ?_ _ | refine kD ?_ | refine kA ?_ _)); exact BK541.out⟩, ⟨by (with_reducible repeat (first | refine kN ?_ _ | refine kD ?_ | refine kA ?_ _)); exact BK542.out⟩, ⟨by repeat (first | (with_reducible first | exact HB.out | apply bA | apply bN | apply bD | refine bS ?_ GE541.out | refine bS ?_ GE542.out) | exact HB.out)⟩⟩
     case round =>
      clear H'
      try clear c22b0
      try clear hcz33_0
      try clear hcz33_1
      try clear hcz33_2
      try clear hcz33_3
      try clear hfz33_0
      try clear hfz33_1
      try clear hfz33_2
      try clear hfz33_3
      obtain ⟨x6_3, rfl, HA, HK3, BK541, BK542, HB⟩ := hrel
      cases gk with
      | zero => exact absurd HA.out (by simp [zS.l1])
      | succ k3 =>
       have H := HA.out
       clear HA
       simp only [zS.l1] at H
       by_cases c34 : x6_3 < (l0_2.length : Int)
       ·rw [if_pos c34] at H
        have c34b0 : decide (x6_3 < (l0_2.length : Int)) = true := decide_eq_true c34
        clear c34
        by_cases c35 : 0 ≤ x6_3
        ·rw [if_pos c35] at H
         have c35b0 : decide (0 ≤ x6_3) = true := decide_eq_true c35
         clear c35
         by_cases c36 : x6_3 < (l1_2.length : Int)
         ·rw [if_pos c36] at H
          have c36b0 : decide (x6_3 < (l1_2.length : Int)) = true := decide_eq_true c36
          clear c36
          by_cases c37 : (rdOf ByteArray.empty l0_2 x6_3).toList = (rdOf ByteArray.empty l1_2 x6_3).toList
          ·rw [if_pos c37] at H
           have c37b0 : ((rdOf ByteArray.empty l0_2 x6_3).toList == (rdOf ByteArray.empty l1_2 x6_3).toList) = true := beq_iff_eq.mpr c37
           have c37b1 : ((rdOf ByteArray.empty l0_2 x6_3).toList != (rdOf ByteArray.empty l1_2 x6_3).toList) = false := bne_eq_false_iff_eq.mpr c37
           clear c37
           have H' := Aside0.mk H
           clear H
           have hnb38 := NB541_542.out
           have hnc38 := NB542_541.out
           have hcz39_0 : wr.cell? ⟨gb541, 0, none⟩ = some (.slice A0_0 l0_0.length c0_0) := (kC BK541.out 0).trans rfl
           have hcz39_1 : wr.cell? ⟨gb541, 1, none⟩ = some (.slice A0_1 l0_1.length c0_1) := (kC BK541.out 1).trans rfl
           have hcz39_2 : wr.cell? ⟨gb541, 2, none⟩ = some (.slice A0_2 l0_2.length c0_2) := (kC BK541.out 2).trans rfl
           have hcz39_3 : wr.cell? ⟨gb541, 3, none⟩ = some (.int .i64 a0_3) := (kC BK541.out 3).trans rfl
           have hfz39_0 := kF BK541.out 0
           have hfz39_1 := kF BK541.out 1
           have hfz39_2 := kF BK541.out 2
           have hfz39_3 := kF BK541.out 3
           have p545 : 0 ≤ (x6_3 : Int) := of_decide_eq_true (by first | (with_reducible assumption) | assumption)
           have q545 : x6_3 < (l0_2.length : Int) := of_decide_eq_true (by first | (with_reducible assumption) | assumption)
           obtain ⟨ad545, e545, hx545_0⟩ := Kd.at_string HR0_2.out x6_3 p545 q545
           cases e545
           replace hx545_0 := (HB.out.cell (World.block_lt_of_cell? w _ hx545_0)).trans hx545_0
           replace p545 := eq_true p545
           replace q545 := eq_true q545
           have hcz40_0 : wr.cell? ⟨gb542, 0, none⟩ = some (.slice A1_0 l1_0.length c1_0) := (kC BK542.out 0).trans rfl
           have hcz40_1 : wr.cell? ⟨gb542, 1, none⟩ = some (.slice A1_1 l1_1.length c1_1) := (kC BK542.out 1).trans rfl
           have hcz40_2 : wr.cell? ⟨gb542, 2, none⟩ = some (.slice A1_2 l1_2.length c1_2) := (kC BK542.out 2).trans rfl
           have hcz40_3 : wr.cell? ⟨gb542, 3, none⟩ = some (.int .i64 a1_3) := (kC BK542.out 3).trans rfl
           have hfz40_0 := kF BK542.out 0
           have hfz40_1 := kF BK542.out 1
           have hfz40_2 := kF BK542.out 2
           have hfz40_3 := kF BK542.out 3
           have p546 : 0 ≤ (x6_3 : Int) := of_decide_eq_true (by first | (with_reducible assumption) | assumption)
           have q546 : x6_3 < (l1_2.length : Int) := of_decide_eq_true (by first | (with_reducible assumption) | assumption)
           obtain ⟨ad546, e546, hx546_0⟩ := Kd.at_string HR1_2.out x6_3 p546 q546
           cases e546
           replace hx546_0 := (HB.out.cell (World.block_lt_of_cell? w _ hx546_0)).trans hx546_0
           replace p546 := eq_true p546
           replace q546 := eq_true q546
           go_wp2
           repeat (go_quiet (fail); try go_wp2)
           go_roundg k3
           case measure => have := HJ2.out; have := HK2.out; have := HK3.out; omega
           case rel => exact ⟨(wrap64 (x6_3 + 1)), (by first | rfl | (simp; done) | (simp [*]; done)), H', ⟨by have := HJ2.out; have := HK2.out; have := HK3.out; omega⟩, ⟨by (with_reducible repeat (first | refine kN ?_ _ | refine kD ?_ | refine kA ?_ _)); exact BK541.out⟩, ⟨by (with_reducible repeat (first | refine kN ?_ _ | refine kD ?_ | refine kA ?_ _)); exact BK542.out⟩, ⟨by repeat (first | (with_reducible first | exact HB.out | apply bA | apply bN | apply bD | refine bS ?_ GE541.out | refine bS ?_ GE542.out) | exact HB.out)⟩⟩
          rw [if_neg c37] at H
          exact absurd (H.trans (congrArg some hr)) (by decide)
         rw [if_neg c36] at H
         exact absurd H (by simp)
        rw [if_neg c35] at H
        exact absurd H (by simp)
       rw [if_neg c34] at H
       have c34b0 : decide (x6_3 < (l0_2.length : Int)) = false := decide_eq_false c34
       clear c34
       have H' := Aside0.mk H
       clear H
       have hnb44 := NB541_542.out
       have hnc44 := NB542_541.out
       have hcz45_0 : wr.cell? ⟨gb541, 0, none⟩ = some (.slice A0_0 l0_0.length c0_0) := (kC BK541.out 0).trans rfl
       have hcz45_1 : wr.cell? ⟨gb541, 1, none⟩ = some (.slice A0_1 l0_1.length c0_1) := (kC BK541.out 1).trans rfl
       have hcz45_2 : wr.cell? ⟨gb541, 2, none⟩ = some (.slice A0_2 l0_2.length c0_2) := (kC BK541.out 2).trans rfl
       have hcz45_3 : wr.cell? ⟨gb541, 3, none⟩ = some (.int .i64 a0_3) := (kC BK541.out 3).trans rfl
       have hfz45_0 := kF BK541.out 0
       have hfz45_1 := kF BK541.out 1
       have hfz45_2 := kF BK541.out 2
       have hfz45_3 := kF BK541.out 3
       go_wp2
       repeat (go_quiet (fail); try go_wp2)
       go_loopg [7] k3 (fun kq v7 w' => ∃ (x7_4 : Int), v7 = .int .i64 x7_4 ∧ Aside0 (zS.l2 kq x7_4 l0_0 l0_1 l0_2 a0_3 l1_0 l1_1 l1_2 a1_3 = some r) ∧ Aside0 (kq ≤ k3) ∧ Aside0 (w'.heap[gb541]? = some (.cells #[(.slice A0_0 l0_0.length c0_0), (.slice A0_1 l0_1.length c0_1), (.slice A0_2 l0_2.length c0_2), .int .i64 a0_3] 26 (0, 0))) ∧ Aside0 (w'.heap[gb542]? = some (.cells #[(.slice A1_0 l1_0.length c1_0), (.slice A1_1 l1_1.length c1_1), (.slice A1_2 l1_2.length c1_2), .int .i64 a1_3] 26 (0, 0))) ∧ Aside0 (Below w.heap.size w w'))
       case atStart => exact ⟨(0), (by first | rfl | (simp; done) | (simp [*]; done)), H', ⟨Nat.le_refl _⟩, ⟨by (with_reducible repeat (first | refine kN ?_ _ | refine kD ?_ | refine kA ?_ _)); exact BK541.out⟩, ⟨by (with_reducible repeat (first | refine kN ?_ _ | refine kD ?_ | refine kA ?_ _)); exact BK542.out⟩, ⟨by repeat (first | (with_reducible first | exact HB.out | apply bA | apply bN | apply bD | refine bS ?_ GE541.out | refine bS ?_ GE542.out) | exact HB.out)⟩⟩
       case round =>
        clear H'
        try clear c34b0
        try clear hcz45_0
        try clear hcz45_1
        try clear hcz45_2
        try clear hcz45_3
        try clear hfz45_0
        try clear hfz45_1
        try clear hfz45_2
        try clear hfz45_3
        obtain ⟨x7_4, rfl, HA, HK4, BK541, BK542, HB⟩ := hrel
        cases gk with
        | zero => exact absurd HA.out (by simp [zS.l2])
        | succ k4 =>
         have H := HA.out
         clear HA
         simp only [zS.l2] at H
         by_cases c46 : x7_4 < (l0_0.length : Int)
         ·rw [if_pos c46] at H
          have c46b0 : decide (x7_4 < (l0_0.length : Int)) = true := decide_eq_true c46
          clear c46
          by_cases c47 : 0 ≤ x7_4
          ·rw [if_pos c47] at H
           have c47b0 : decide (0 ≤ x7_4) = true := decide_eq_true c47
           clear c47
           by_cases c48 : x7_4 < (l1_0.length : Int)
           ·rw [if_pos c48] at H
            have c48b0 : decide (x7_4 < (l1_0.length : Int)) = true := decide_eq_true c48
            clear c48
            have HC49 := Aside0.mk H
            clear H
            have hnb50 := NB541_542.out
            have hnc50 := NB542_541.out
            have hcz51_0 : wr.cell? ⟨gb541, 0, none⟩ = some (.slice A0_0 l0_0.length c0_0) := (kC BK541.out 0).trans rfl
            have hcz51_1 : wr.cell? ⟨gb541, 1, none⟩ = some (.slice A0_1 l0_1.length c0_1) := (kC BK541.out 1).trans rfl
            have hcz51_2 : wr.cell? ⟨gb541, 2, none⟩ = some (.slice A0_2 l0_2.length c0_2) := (kC BK541.out 2).trans rfl
            have hcz51_3 : wr.cell? ⟨gb541, 3, none⟩ = some (.int .i64 a0_3) := (kC BK541.out 3).trans rfl
            have hfz51_0 := kF BK541.out 0
            have hfz51_1 := kF BK541.out 1
            have hfz51_2 := kF BK541.out 2
            have hfz51_3 := kF BK541.out 3
            have p547 : 0 ≤ (x7_4 : Int) := of_decide_eq_true (by first | (with_reducible assumption) | assumption)
            have q547 : x7_4 < (l0_0.length : Int) := of_decide_eq_true (by first | (with_reducible assumption) | assumption)
            obtain ⟨ad547, A547_3, c547_3, e547, hx547_0, hx547_1, hx547_2, hx547_3, hl547_3, hi547_3⟩ := at_T40 HR0_0.out x7_4 p547 q547
            cases e547
            replace hx547_0 := (HB.out.cell (World.block_lt_of_cell? w _ hx547_0)).trans hx547_0
            replace hx547_1 := (HB.out.cell (World.block_lt_of_cell? w _ hx547_1)).trans hx547_1
            replace hx547_2 := (HB.out.cell (World.block_lt_of_cell? w _ hx547_2)).trans hx547_2
            replace hx547_3 := (HB.out.cell (World.block_lt_of_cell? w _ hx547_3)).trans hx547_3
            have HR547_3 := Aside0.mk hi547_3
            have HC547_3 := Aside0.mk hl547_3
            clear hi547_3 hl547_3
            replace p547 := eq_true p547
            replace q547 := eq_true q547
            go_upto_region 18 with (first | ((with_reducible refine gate_dst (N := 8) rfl ?_); (try (refine gate_guard (by rfl) ?_; dsimp only)); refine box_event ?hg (N := 8) ?hd (cs := #[.int .i64 0, .int .i64 0, .int .i64 0, .slice none 0 0]) (t := 40) ?hr ?_; (case hd => rfl); (case hg => rfl); (case hr => first | (go_simp; done) | (go_simp; rfl)); intro gb548 hg w52 hbox hb; have n0_ := Aside0.mk (kB (g := gb541) (o := .cells #[.slice (some ad547) l0_0.length c0_0, .slice A0_1 l0_1.length c0_1, .slice A0_2 l0_2.length c0_2, .int .i64 a0_3] 26 (0, 0)) (by (with_reducible repeat (first | refine kN ?_ _ | refine kD ?_ | refine kA ?_ _)); exact BK541.out) hb); have n1_ := Aside0.mk (kB (g := gb542) (o := .cells #[.slice A1_0 l1_0.length c1_0, .slice A1_1 l1_1.length c1_1, .slice A1_2 l1_2.length c1_2, .int .i64 a1_3] 26 (0, 0)) (by (with_reducible repeat (first | refine kN ?_ _ | refine kD ?_ | refine kA ?_ _)); exact BK542.out) hb); have n2_ := Aside0.mk (bT (by repeat (first | (with_reducible first | exact HB.out | apply bA | apply bN | apply bD | refine bS ?_ GE541.out | refine bS ?_ GE542.out) | exact HB.out)) hb); have n3_ := Aside0.mk (hbox); have n4_ := Aside0.mk ((by rw [hg]; exact (bZ (by repeat (first | (with_reducible first | exact HB.out | apply bA | apply bN | apply bD | refine bS ?_ GE541.out | refine bS ?_ GE542.out) | exact HB.out))) : w.heap.size ≤ gb548)); have n5_ := Aside0.mk ((by rw [hg]; exact (bZ (by repeat (first | (with_reducible first | exact HB.out | apply bA | apply bN | apply bD | refine bS ?_ GE541.out | refine bS ?_ GE542.out) | exact HB.out))) : w.heap.size ≤ gb548)); have n6_ := Aside0.mk ((by rw [hg]; exact Nat.ne_of_lt (blk_lt (g := gb541) (o := .cells #[.slice (some ad547) l0_0.length c0_0, .slice A0_1 l0_1.length c0_1, .slice A0_2 l0_2.length c0_2, .int .i64 a0_3] 26 (0, 0)) (by (with_reducible repeat (first | refine kN ?_ _ | refine kD ?_ | refine kA ?_ _)); exact BK541.out)) : gb541 ≠ gb548)); have n7_ := Aside0.mk ((by rw [hg]; exact Nat.ne_of_gt (blk_lt (g := gb541) (o := .cells #[.slice (some ad547) l0_0.length c0_0, .slice A0_1 l0_1.length c0_1, .slice A0_2 l0_2.length c0_2, .int .i64 a0_3] 26 (0, 0)) (by (with_reducible repeat (first | refine kN ?_ _ | refine kD ?_ | refine kA ?_ _)); exact BK541.out)) : gb548 ≠ gb541)); have n8_ := Aside0.mk ((by rw [hg]; exact Nat.ne_of_lt (blk_lt (g := gb542) (o := .cells #[.slice A1_0 l1_0.length c1_0, .slice A1_1 l1_1.length c1_1, .slice A1_2 l1_2.length c1_2, .int .i64 a1_3] 26 (0, 0)) (by (with_reducible repeat (first | refine kN ?_ _ | refine kD ?_ | refine kA ?_ _)); exact BK542.out)) : gb542 ≠ gb548)); have n9_ := Aside0.mk ((by rw [hg]; exact Nat.ne_of_gt (blk_lt (g := gb542) (o := .cells #[.slice A1_0 l1_0.length c1_0, .slice A1_1 l1_1.length c1_1, .slice A1_2 l1_2.length c1_2, .int .i64 a1_3] 26 (0, 0)) (by (with_reducible repeat (first | refine kN ?_ _ | refine kD ?_ | refine kA ?_ _)); exact BK542.out)) : gb548 ≠ gb542)); clear BK541; clear BK542; clear HB; have BK541 := n0_; have BK542 := n1_; have HB := n2_; have BK548 := n3_; have GW548 := n4_; have GE548 := n5_; have NB541_548 := n6_; have NB548_541 := n7_; have NB542_548 := n8_; have NB548_542 := n9_; clear n0_ n1_ n2_ n3_ n4_ n5_ n6_ n7_ n8_ n9_; clear hb hbox hg; have hnb53 := NB548_541.out; have hnc53 := NB541_548.out; have hnb54 := NB548_542.out; have hnc54 := NB542_548.out; have hcz55_0 : w52.cell? ⟨gb548, 0, none⟩ = some (.int .i64 0) := (kC BK548.out 0).trans rfl; have hcz55_1 : w52.cell? ⟨gb548, 1, none⟩ = some (.int .i64 0) := (kC BK548.out 1).trans rfl; have hcz55_2 : w52.cell? ⟨gb548, 2, none⟩ = some (.int .i64 0) := (kC BK548.out 2).trans rfl; have hcz55_3 : w52.cell? ⟨gb548, 3, none⟩ = some (.slice none 0 0) := (kC BK548.out 3).trans rfl; have hfz55_0 := kF BK548.out 0; have hfz55_1 := kF BK548.out 1; have hfz55_2 := kF BK548.out 2; have hfz55_3 := kF BK548.out 3; have hcz56_0 : w52.cell? ⟨gb542, 0, none⟩ = some (.slice A1_0 l1_0.length c1_0) := (kC BK542.out 0).trans rfl; have hcz56_1 : w52.cell? ⟨gb542, 1, none⟩ = some (.slice A1_1 l1_1.length c1_1) := (kC BK542.out 1).trans rfl; have hcz56_2 : w52.cell? ⟨gb542, 2, none⟩ = some (.slice A1_2 l1_2.length c1_2) := (kC BK542.out 2).trans rfl; have hcz56_3 : w52.cell? ⟨gb542, 3, none⟩ = some (.int .i64 a1_3) := (kC BK542.out 3).trans rfl; have hfz56_0 := kF BK542.out 0; have hfz56_1 := kF BK542.out 1; have hfz56_2 := kF BK542.out 2; have hfz56_3 := kF BK542.out 3; have p549 : 0 ≤ (x7_4 : Int) := of_decide_eq_true (by first | (with_reducible assumption) | assumption); have q549 : x7_4 < (l1_0.length : Int) := of_decide_eq_true (by first | (with_reducible assumption) | assumption); obtain ⟨ad549, A549_3, c549_3, e549, hx549_0, hx549_1, hx549_2, hx549_3, hl549_3, hi549_3⟩ := at_T40 HR1_0.out x7_4 p549 q549; cases e549; have hn549_0 : ad549.block ≠ gb548 := Nat.ne_of_lt (Nat.lt_of_lt_of_le (by have := World.block_lt_of_cell? _ _ hx549_0; first | rwa [add_block] at this | exact this) GW548.out); have hn549_1 : ad549.block ≠ gb548 := Nat.ne_of_lt (Nat.lt_of_lt_of_le (by have := World.block_lt_of_cell? _ _ hx549_0; first | rwa [add_block] at this | exact this) GW548.out); have hn549_2 : ad549.block ≠ gb548 := Nat.ne_of_lt (Nat.lt_of_lt_of_le (by have := World.block_lt_of_cell? _ _ hx549_0; first | rwa [add_block] at this | exact this) GW548.out); have hn549_3 : ad549.block ≠ gb548 := Nat.ne_of_lt (Nat.lt_of_lt_of_le (by have := World.block_lt_of_cell? _ _ hx549_0; first | rwa [add_block] at this | exact this) GW548.out); replace hx549_0 := (HB.out.cell (World.block_lt_of_cell? w _ hx549_0)).trans hx549_0; replace hx549_1 := (HB.out.cell (World.block_lt_of_cell? w _ hx549_1)).trans hx549_1; replace hx549_2 := (HB.out.cell (World.block_lt_of_cell? w _ hx549_2)).trans hx549_2; replace hx549_3 := (HB.out.cell (World.block_lt_of_cell? w _ hx549_3)).trans hx549_3; have HR549_3 := Aside0.mk hi549_3; have HC549_3 := Aside0.mk hl549_3; clear hi549_3 hl549_3; replace hx549_0 := (cell_far (p := ⟨gb548, 0, none⟩) (by first | (rw [add_block]; exact hn549_0) | (show (Addr.add _ _).block ≠ _; rw [add_block]; exact hn549_0) | exact hn549_0) (.int .i64 ((r40 l0_0 x7_4).f0))).trans hx549_0; replace hx549_1 := (cell_far (p := ⟨gb548, 0, none⟩) (by first | (rw [add_block]; exact hn549_0) | (show (Addr.add _ _).block ≠ _; rw [add_block]; exact hn549_0) | exact hn549_0) (.int .i64 ((r40 l0_0 x7_4).f0))).trans hx549_1; replace hx549_2 := (cell_far (p := ⟨gb548, 0, none⟩) (by first | (rw [add_block]; exact hn549_0) | (show (Addr.add _ _).block ≠ _; rw [add_block]; exact hn549_0) | exact hn549_0) (.int .i64 ((r40 l0_0 x7_4).f0))).trans hx549_2; replace hx549_3 := (cell_far (p := ⟨gb548, 0, none⟩) (by first | (rw [add_block]; exact hn549_0) | (show (Addr.add _ _).block ≠ _; rw [add_block]; exact hn549_0) | exact hn549_0) (.int .i64 ((r40 l0_0 x7_4).f0))).trans hx549_3; replace hx549_0 := (cell_far (p := ⟨gb548, 1, none⟩) (by first | (rw [add_block]; exact hn549_1) | (show (Addr.add _ _).block ≠ _; rw [add_block]; exact hn549_1) | exact hn549_1) (.int .i64 ((r40 l0_0 x7_4).f1))).trans hx549_0; replace hx549_1 := (cell_far (p := ⟨gb548, 1, none⟩) (by first | (rw [add_block]; exact hn549_1) | (show (Addr.add _ _).block ≠ _; rw [add_block]; exact hn549_1) | exact hn549_1) (.int .i64 ((r40 l0_0 x7_4).f1))).trans hx549_1; replace hx549_2 := (cell_far (p := ⟨gb548, 1, none⟩) (by first | (rw [add_block]; exact hn549_1) | (show (Addr.add _ _).block ≠ _; rw [add_block]; exact hn549_1) | exact hn549_1) (.int .i64 ((r40 l0_0 x7_4).f1))).trans hx549_2; replace hx549_3 := (cell_far (p := ⟨gb548, 1, none⟩) (by first | (rw [add_block]; exact hn549_1) | (show (Addr.add _ _).block ≠ _; rw [add_block]; exact hn549_1) | exact hn549_1) (.int .i64 ((r40 l0_0 x7_4).f1))).trans hx549_3; replace hx549_0 := (cell_far (p := ⟨gb548, 2, none⟩) (by first | (rw [add_block]; exact hn549_2) | (show (Addr.add _ _).block ≠ _; rw [add_block]; exact hn549_2) | exact hn549_2) (.int .i64 ((r40 l0_0 x7_4).f2))).trans hx549_0; replace hx549_1 := (cell_far (p := ⟨gb548, 2, none⟩) (by first | (rw [add_block]; exact hn549_2) | (show (Addr.add _ _).block ≠ _; rw [add_block]; exact hn549_2) | exact hn549_2) (.int .i64 ((r40 l0_0 x7_4).f2))).trans hx549_1; replace hx549_2 := (cell_far (p := ⟨gb548, 2, none⟩) (by first | (rw [add_block]; exact hn549_2) | (show (Addr.add _ _).block ≠ _; rw [add_block]; exact hn549_2) | exact hn549_2) (.int .i64 ((r40 l0_0 x7_4).f2))).trans hx549_2; replace hx549_3 := (cell_far (p := ⟨gb548, 2, none⟩) (by first | (rw [add_block]; exact hn549_2) | (show (Addr.add _ _).block ≠ _; rw [add_block]; exact hn549_2) | exact hn549_2) (.int .i64 ((r40 l0_0 x7_4).f2))).trans hx549_3; replace hx549_0 := (cell_far (p := ⟨gb548, 3, none⟩) (by first | (rw [add_block]; exact hn549_3) | (show (Addr.add _ _).block ≠ _; rw [add_block]; exact hn549_3) | exact hn549_3) (.slice A547_3 ((r40 l0_0 x7_4).f3).length c547_3)).trans hx549_0; replace hx549_1 := (cell_far (p := ⟨gb548, 3, none⟩) (by first | (rw [add_block]; exact hn549_3) | (show (Addr.add _ _).block ≠ _; rw [add_block]; exact hn549_3) | exact hn549_3) (.slice A547_3 ((r40 l0_0 x7_4).f3).length c547_3)).trans hx549_1; replace hx549_2 := (cell_far (p := ⟨gb548, 3, none⟩) (by first | (rw [add_block]; exact hn549_3) | (show (Addr.add _ _).block ≠ _; rw [add_block]; exact hn549_3) | exact hn549_3) (.slice A547_3 ((r40 l0_0 x7_4).f3).length c547_3)).trans hx549_2; replace hx549_3 := (cell_far (p := ⟨gb548, 3, none⟩) (by first | (rw [add_block]; exact hn549_3) | (show (Addr.add _ _).block ≠ _; rw [add_block]; exact hn549_3) | exact hn549_3) (.slice A547_3 ((r40 l0_0 x7_4).f3).length c547_3)).trans hx549_3; (try have hy549_0 := fun (n_ : Nat) => (show ((((((w52.drewN n_).setCell ⟨gb548, 0, none⟩ (.int .i64 ((r40 l0_0 x7_4).f0))).setCell ⟨gb548, 1, none⟩ (.int .i64 ((r40 l0_0 x7_4).f1))).setCell ⟨gb548, 2, none⟩ (.int .i64 ((r40 l0_0 x7_4).f2))).setCell ⟨gb548, 3, none⟩ (.slice A547_3 ((r40 l0_0 x7_4).f3).length c547_3))).cell? _ = some _ from hx549_0)); (try have hy549_1 := fun (n_ : Nat) => (show ((((((w52.drewN n_).setCell ⟨gb548, 0, none⟩ (.int .i64 ((r40 l0_0 x7_4).f0))).setCell ⟨gb548, 1, none⟩ (.int .i64 ((r40 l0_0 x7_4).f1))).setCell ⟨gb548, 2, none⟩ (.int .i64 ((r40 l0_0 x7_4).f2))).setCell ⟨gb548, 3, none⟩ (.slice A547_3 ((r40 l0_0 x7_4).f3).length c547_3))).cell? _ = some _ from hx549_1)); (try have hy549_2 := fun (n_ : Nat) => (show ((((((w52.drewN n_).setCell ⟨gb548, 0, none⟩ (.int .i64 ((r40 l0_0 x7_4).f0))).setCell ⟨gb548, 1, none⟩ (.int .i64 ((r40 l0_0 x7_4).f1))).setCell ⟨gb548, 2, none⟩ (.int .i64 ((r40 l0_0 x7_4).f2))).setCell ⟨gb548, 3, none⟩ (.slice A547_3 ((r40 l0_0 x7_4).f3).length c547_3))).cell? _ = some _ from hx549_2)); (try have hy549_3 := fun (n_ : Nat) => (show ((((((w52.drewN n_).setCell ⟨gb548, 0, none⟩ (.int .i64 ((r40 l0_0 x7_4).f0))).setCell ⟨gb548, 1, none⟩ (.int .i64 ((r40 l0_0 x7_4).f1))).setCell ⟨gb548, 2, none⟩ (.int .i64 ((r40 l0_0 x7_4).f2))).setCell ⟨gb548, 3, none⟩ (.slice A547_3 ((r40 l0_0 x7_4).f3).length c547_3))).cell? _ = some _ from hx549_3)); clear hn549_0; clear hn549_1; clear hn549_2; clear hn549_3; replace p549 := eq_true p549; replace q549 := eq_true q549) | ((with_reducible refine gate_dst (N := 9) rfl ?_); (try (refine gate_guard (by rfl) ?_; dsimp only)); refine box_event ?hg (N := 9) ?hd (cs := #[.int .i64 0, .int .i64 0, .int .i64 0, .slice none 0 0]) (t := 40) ?hr ?_; (case hd => rfl); (case hg => rfl); (case hr => first | (go_simp; done) | (go_simp; rfl)); intro gb550 hg w57 hbox hb; have n0_ := Aside0.mk (kB (g := gb541) (o := .cells #[.slice (some ad547) l0_0.length c0_0, .slice A0_1 l0_1.length c0_1, .slice A0_2 l0_2.length c0_2, .int .i64 a0_3] 26 (0, 0)) (by (with_reducible repeat (first | refine kN ?_ _ | refine kD ?_ | refine kA ?_ _)); refine blk_far ?_ NB541_548.out _; (with_reducible repeat (first | refine kN ?_ _ | refine kD ?_ | refine kA ?_ _)); refine blk_far ?_ NB541_548.out _; (with_reducible repeat (first | refine kN ?_ _ | refine kD ?_ | refine kA ?_ _)); refine blk_far ?_ NB541_548.out _; (with_reducible repeat (first | refine kN ?_ _ | refine kD ?_ | refine kA ?_ _)); refine blk_far ?_ NB541_548.out _; (with_reducible repeat (first | refine kN ?_ _ | refine kD ?_ | refine kA ?_ _)); exact BK541.out) hb); have n1_ := Aside0.mk (kB (g := gb542) (o := .cells #[.slice (some ad549) l1_0.length c1_0, .slice A1_1 l1_1.length c1_1, .slice A1_2 l1_2.length c1_2, .int .i64 a1_3] 26 (0, 0)) (by (with_reducible repeat (first | refine kN ?_ _ | refine kD ?_ | refine kA ?_ _)); refine blk_far ?_ NB542_548.out _; (with_reducible repeat (first | refine kN ?_ _ | refine kD ?_ | refine kA ?_ _)); refine blk_far ?_ NB542_548.out _; (with_reducible repeat (first | refine kN ?_ _ | refine kD ?_ | refine kA ?_ _)); refine blk_far ?_ NB542_548.out _; (with_reducible repeat (first | refine kN ?_ _ | refine kD ?_ | refine kA ?_ _)); refine blk_far ?_ NB542_548.out _; (with_reducible repeat (first | refine kN ?_ _ | refine kD ?_ | refine kA ?_ _)); exact BK542.out) hb); have n2_ := Aside0.mk (kB (g := gb548) (o := .cells #[.int .i64 ((r40 l0_0 x7_4).f0), .int .i64 ((r40 l0_0 x7_4).f1), .int .i64 ((r40 l0_0 x7_4).f2), .slice A547_3 ((r40 l0_0 x7_4).f3).length c547_3] 40 (0, 0)) (by (with_reducible repeat (first | refine kN ?_ _ | refine kD ?_ | refine kA ?_ _)); refine kP (cs := #[.int .i64 ((r40 l0_0 x7_4).f0), .int .i64 ((r40 l0_0 x7_4).f1), .int .i64 ((r40 l0_0 x7_4).f2), .slice none 0 0]) ?_ 3 _ rfl; (with_reducible repeat (first | refine kN ?_ _ | refine kD ?_ | refine kA ?_ _)); refine kP (cs := #[.int .i64 ((r40 l0_0 x7_4).f0), .int .i64 ((r40 l0_0 x7_4).f1), .int .i64 0, .slice none 0 0]) ?_ 2 _ rfl; (with_reducible repeat (first | refine kN ?_ _ | refine kD ?_ | refine kA ?_ _)); refine kP (cs := #[.int .i64 ((r40 l0_0 x7_4).f0), .int .i64 0, .int .i64 0, .slice none 0 0]) ?_ 1 _ rfl; (with_reducible repeat (first | refine kN ?_ _ | refine kD ?_ | refine kA ?_ _)); refine kP (cs := #[.int .i64 0, .int .i64 0, .int .i64 0, .slice none 0 0]) ?_ 0 _ rfl; (with_reducible repeat (first | refine kN ?_ _ | refine kD ?_ | refine kA ?_ _)); exact BK548.out) hb); have n3_ := Aside0.mk (bT (by repeat (first | (with_reducible first | exact HB.out | apply bA | apply bN | apply bD | refine bS ?_ GE541.out | refine bS ?_ GE542.out | refine bS ?_ GE548.out) | exact HB.out)) hb); have n4_ := Aside0.mk (hbox); have n5_ := Aside0.mk ((by rw [hg]; exact (bZ (by repeat (first | (with_reducible first | exact HB.out | apply bA | apply bN | apply bD | refine bS ?_ GE541.out | refine bS ?_ GE542.out | refine bS ?_ GE548.out) | exact HB.out))) : w.heap.size ≤ gb550)); have n6_ := Aside0.mk ((by rw [hg]; exact (bZ (by repeat (first | (with_reducible first | exact HB.out | apply bA | apply bN | apply bD | refine bS ?_ GE541.out | refine bS ?_ GE542.out | refine bS ?_ GE548.out) | exact HB.out))) : w.heap.size ≤ gb550)); have n7_ := Aside0.mk ((by rw [hg]; exact Nat.ne_of_lt (blk_lt (g := gb541) (o := .cells #[.slice (some ad547) l0_0.length c0_0, .slice A0_1 l0_1.length c0_1, .slice A0_2 l0_2.length c0_2, .int .i64 a0_3] 26 (0, 0)) (by (with_reducible repeat (first | refine kN ?_ _ | refine kD ?_ | refine kA ?_ _)); refine blk_far ?_ NB541_548.out _; (with_reducible repeat (first | refine kN ?_ _ | refine kD ?_ | refine kA ?_ _)); refine blk_far ?_ NB541_548.out _; (with_reducible repeat (first | refine kN ?_ _ | refine kD ?_ | refine kA ?_ _)); refine blk_far ?_ NB541_548.out _; (with_reducible repeat (first | refine kN ?_ _ | refine kD ?_ | refine kA ?_ _)); refine blk_far ?_ NB541_548.out _; (with_reducible repeat (first | refine kN ?_ _ | refine kD ?_ | refine kA ?_ _)); exact BK541.out)) : gb541 ≠ gb550)); have n8_ := Aside0.mk ((by rw [hg]; exact Nat.ne_of_gt (blk_lt (g := gb541) (o := .cells #[.slice (some ad547) l0_0.length c0_0, .slice A0_1 l0_1.length c0_1, .slice A0_2 l0_2.length c0_2, .int .i64 a0_3] 26 (0, 0)) (by (with_reducible repeat (first | refine kN ?_ _ | refine kD ?_ | refine kA ?_ _)); refine blk_far ?_ NB541_548.out _; (with_reducible repeat (first | refine kN ?_ _ | refine kD ?_ | refine kA ?_ _)); refine blk_far ?_ NB541_548.out _; (with_reducible repeat (first | refine kN ?_ _ | refine kD ?_ | refine kA ?_ _)); refine blk_far ?_ NB541_548.out _; (with_reducible repeat (first | refine kN ?_ _ | refine kD ?_ | refine kA ?_ _)); refine blk_far ?_ NB541_548.out _; (with_reducible repeat (first | refine kN ?_ _ | refine kD ?_ | refine kA ?_ _)); exact BK541.out)) : gb550 ≠ gb541)); have n9_ := Aside0.mk ((by rw [hg]; exact Nat.ne_of_lt (blk_lt (g := gb542) (o := .cells #[.slice (some ad549) l1_0.length c1_0, .slice A1_1 l1_1.length c1_1, .slice A1_2 l1_2.length c1_2, .int .i64 a1_3] 26 (0, 0)) (by (with_reducible repeat (first | refine kN ?_ _ | refine kD ?_ | refine kA ?_ _)); refine blk_far ?_ NB542_548.out _; (with_reducible repeat (first | refine kN ?_ _ | refine kD ?_ | refine kA ?_ _)); refine blk_far ?_ NB542_548.out _; (with_reducible repeat (first | refine kN ?_ _ | refine kD ?_ | refine kA ?_ _)); refine blk_far ?_ NB542_548.out _; (with_reducible repeat (first | refine kN ?_ _ | refine kD ?_ | refine kA ?_ _)); refine blk_far ?_ NB542_548.out _; (with_reducible repeat (first | refine kN ?_ _ | refine kD ?_ | refine kA ?_ _)); exact BK542.out)) : gb542 ≠ gb550)); have n10_ := Aside0.mk ((by rw [hg]; exact Nat.ne_of_gt (blk_lt (g := gb542) (o := .cells #[.slice (some ad549) l1_0.length c1_0, .slice A1_1 l1_1.length c1_1, .slice A1_2 l1_2.length c1_2, .int .i64 a1_3] 26 (0, 0)) (by (with_reducible repeat (first | refine kN ?_ _ | refine kD ?_ | refine kA ?_ _)); refine blk_far ?_ NB542_548.out _; (with_reducible repeat (first | refine kN ?_ _ | refine kD ?_ | refine kA ?_ _)); refine blk_far ?_ NB542_548.out _; (with_reducible repeat (first | refine kN ?_ _ | refine kD ?_ | refine kA ?_ _)); refine blk_far ?_ NB542_548.out _; (with_reducible repeat (first | refine kN ?_ _ | refine kD ?_ | refine kA ?_ _)); refine blk_far ?_ NB542_548.out _; (with_reducible repeat (first | refine kN ?_ _ | refine kD ?_ | refine kA ?_ _)); exact BK542.out)) : gb550 ≠ gb542)); have n11_ := Aside0.mk ((by rw [hg]; exact Nat.ne_of_lt (blk_lt (g := gb548) (o := .cells #[.int .i64 ((r40 l0_0 x7_4).f0), .int .i64 ((r40 l0_0 x7_4).f1), .int .i64 ((r40 l0_0 x7_4).f2), .slice A547_3 ((r40 l0_0 x7_4).f3).length c547_3] 40 (0, 0)) (by (with_reducible repeat (first | refine kN ?_ _ | refine kD ?_ | refine kA ?_ _)); refine kP (cs := #[.int .i64 ((r40 l0_0 x7_4).f0), .int .i64 ((r40 l0_0 x7_4).f1), .int .i64 ((r40 l0_0 x7_4).f2), .slice none 0 0]) ?_ 3 _ rfl; (with_reducible repeat (first | refine kN ?_ _ | refine kD ?_ | refine kA ?_ _)); refine kP (cs := #[.int .i64 ((r40 l0_0 x7_4).f0), .int .i64 ((r40 l0_0 x7_4).f1), .int .i64 0, .slice none 0 0]) ?_ 2 _ rfl; (with_reducible repeat (first | refine kN ?_ _ | refine kD ?_ | refine kA ?_ _)); refine kP (cs := #[.int .i64 ((r40 l0_0 x7_4).f0), .int .i64 0, .int .i64 0, .slice none 0 0]) ?_ 1 _ rfl; (with_reducible repeat (first | refine kN ?_ _ | refine kD ?_ | refine kA ?_ _)); refine kP (cs := #[.int .i64 0, .int .i64 0, .int .i64 0, .slice none 0 0]) ?_ 0 _ rfl; (with_reducible repeat (first | refine kN ?_ _ | refine kD ?_ | refine kA ?_ _)); exact BK548.out)) : gb548 ≠ gb550)); have n12_ := Aside0.mk ((by rw [hg]; exact Nat.ne_of_gt (blk_lt (g := gb548) (o := .cells #[.int .i64 ((r40 l0_0 x7_4).f0), .int .i64 ((r40 l0_0 x7_4).f1), .int .i64 ((r40 l0_0 x7_4).f2), .slice A547_3 ((r40 l0_0 x7_4).f3).length c547_3] 40 (0, 0)) (by (with_reducible repeat (first | refine kN ?_ _ | refine kD ?_ | refine kA ?_ _)); refine kP (cs := #[.int .i64 ((r40 l0_0 x7_4).f0), .int .i64 ((r40 l0_0 x7_4).f1), .int .i64 ((r40 l0_0 x7_4).f2), .slice none 0 0]) ?_ 3 _ rfl; (with_reducible repeat (first | refine kN ?_ _ | refine kD ?_ | refine kA ?_ _)); refine kP (cs := #[.int .i64 ((r40 l0_0 x7_4).f0), .int .i64 ((r40 l0_0 x7_4).f1), .int .i64 0, .slice none 0 0]) ?_ 2 _ rfl; (with_reducible repeat (first | refine kN ?_ _ | refine kD ?_ | refine kA ?_ _)); refine kP (cs := #[.int .i64 ((r40 l0_0 x7_4).f0), .int .i64 0, .int .i64 0, .slice none 0 0]) ?_ 1 _ rfl; (with_reducible repeat (first | refine kN ?_ _ | refine kD ?_ | refine kA ?_ _)); refine kP (cs := #[.int .i64 0, .int .i64 0, .int .i64 0, .slice none 0 0]) ?_ 0 _ rfl; (with_reducible repeat (first | refine kN ?_ _ | refine kD ?_ | refine kA ?_ _)); exact BK548.out)) : gb550 ≠ gb548)); clear BK541; clear BK542; clear BK548; clear HB; have BK541 := n0_; have BK542 := n1_; have BK548 := n2_; have HB := n3_; have BK550 := n4_; have GW550 := n5_; have GE550 := n6_; have NB541_550 := n7_; have NB550_541 := n8_; have NB542_550 := n9_; have NB550_542 := n10_; have NB548_550 := n11_; have NB550_548 := n12_; clear n0_ n1_ n2_ n3_ n4_ n5_ n6_ n7_ n8_ n9_ n10_ n11_ n12_; clear hb hbox hg; have hnb58 := NB550_541.out; have hnc58 := NB541_550.out; have hnb59 := NB550_542.out; have hnc59 := NB542_550.out; have hnb60 := NB550_548.out; have hnc60 := NB548_550.out; have hcz61_0 : w57.cell? ⟨gb550, 0, none⟩ = some (.int .i64 0) := (kC BK550.out 0).trans rfl; have hcz61_1 : w57.cell? ⟨gb550, 1, none⟩ = some (.int .i64 0) := (kC BK550.out 1).trans rfl; have hcz61_2 : w57.cell? ⟨gb550, 2, none⟩ = some (.int .i64 0) := (kC BK550.out 2).trans rfl; have hcz61_3 : w57.cell? ⟨gb550, 3, none⟩ = some (.slice none 0 0) := (kC BK550.out 3).trans rfl; have hfz61_0 := kF BK550.out 0; have hfz61_1 := kF BK550.out 1; have hfz61_2 := kF BK550.out 2; have hfz61_3 := kF BK550.out 3))
            repeat (go_quiet (fail); go_upto_region 18 with (fail))
            (try simp only [Act.put, List.setIfInBounds_toArray, List.set_cons_zero, List.set_cons_succ])
            go_cut [123] (fun v123 wc => ∃ (kq : Nat) (x123_48 : Bool), v123 = .bool x123_48 ∧ Aside0 (zS.j4 kq x7_4 x123_48 l0_0 l0_1 l0_2 a0_3 l1_0 l1_1 l1_2 a1_3 ((r40 l0_0 x7_4).f0) ((r40 l0_0 x7_4).f1) ((r40 l0_0 x7_4).f2) ((r40 l0_0 x7_4).f3) ((r40 l1_0 x7_4).f0) ((r40 l1_0 x7_4).f1) ((r40 l1_0 x7_4).f2) ((r40 l1_0 x7_4).f3) = some r) ∧ Aside0 (kq ≤ k4) ∧ Aside0 (wc.heap[gb541]? = some (.cells #[(.slice (some ad547) l0_0.length c0_0), (.slice A0_1 l0_1.length c0_1), (.slice A0_2 l0_2.length c0_2), .int .i64 a0_3] 26 (0, 0))) ∧ Aside0 (wc.heap[gb542]? = some (.cells #[(.slice (some ad549) l1_0.length c1_0), (.slice A1_1 l1_1.length c1_1), (.slice A1_2 l1_2.length c1_2), .int .i64 a1_3] 26 (0, 0))) ∧ Aside0 (wc.heap[gb548]? = some (.cells #[.int .i64 ((r40 l0_0 x7_4).f0), .int .i64 ((r40 l0_0 x7_4).f1), .int .i64 ((r40 l0_0 x7_4).f2), (.slice A547_3 ((r40 l0_0 x7_4).f3).length c547_3)] 40 (0, 0))) ∧ Aside0 (wc.heap[gb550]? = some (.cells #[.int .i64 ((r40 l1_0 x7_4).f0), .int .i64 ((r40 l1_0 x7_4).f1), .int .i64 ((r40 l1_0 x7_4).f2), (.slice A549_3 ((r40 l1_0 x7_4).f3).length c549_3)] 40 (0, 0))) ∧ Aside0 (Below w.heap.size w wc))
            case first =>
             have H := HC49.out
             clear HC49
             by_cases c62 : ((r40 l0_0 x7_4).f0) = ((r40 l1_0 x7_4).f0)
             ·rw [if_pos c62] at H
              have c62b0 : (((r40 l0_0 x7_4).f0) == ((r40 l1_0 x7_4).f0)) = true := beq_iff_eq.mpr c62
              have c62b1 : (((r40 l0_0 x7_4).f0) != ((r40 l1_0 x7_4).f0)) = false := bne_eq_false_iff_eq.mpr c62
              clear c62
              (first | rw [c62b0] | (simp only [i64_w, i32_w]; rw [c62b0]) | skip)
              by_cases c63 : ((r40 l0_0 x7_4).f1) = ((r40 l1_0 x7_4).f1)
              ·rw [if_pos c63] at H
               have c63b0 : (((r40 l0_0 x7_4).f1) == ((r40 l1_0 x7_4).f1)) = true := beq_iff_eq.mpr c63
               have c63b1 : (((r40 l0_0 x7_4).f1) != ((r40 l1_0 x7_4).f1)) = false := bne_eq_false_iff_eq.mpr c63
               clear c63
               by_cases c64 : ((r40 l0_0 x7_4).f2) = ((r40 l1_0 x7_4).f2)
               ·rw [if_pos c64] at H
                have c64b0 : (((r40 l0_0 x7_4).f2) == ((r40 l1_0 x7_4).f2)) = true := beq_iff_eq.mpr c64
                have c64b1 : (((r40 l0_0 x7_4).f2) != ((r40 l1_0 x7_4).f2)) = false := bne_eq_false_iff_eq.mpr c64
                clear c64
                have H' := Aside0.mk H
                clear H
                have hnb65 := NB548_541.out
                have hnc65 := NB541_548.out
                have hnb66 := NB548_542.out
                have hnc66 := NB542_548.out
                have hnb67 := NB548_550.out
                have hnc67 := NB550_548.out
                have hcz68_0 : w57.cell? ⟨gb548, 0, none⟩ = some (.int .i64 ((r40 l0_0 x7_4).f0)) := (kC BK548.out 0).trans rfl
                have hcz68_1 : w57.cell? ⟨gb548, 1, none⟩ = some (.int .i64 ((r40 l0_0 x7_4).f1)) := (kC BK548.out 1).trans rfl
                have hcz68_2 : w57.cell? ⟨gb548, 2, none⟩ = some (.int .i64 ((r40 l0_0 x7_4).f2)) := (kC BK548.out 2).trans rfl
                have hcz68_3 : w57.cell? ⟨gb548, 3, none⟩ = some (.slice A547_3 ((r40 l0_0 x7_4).f3).length c547_3) := (kC BK548.out 3).trans rfl
                have hfz68_0 := kF BK548.out 0
                have hfz68_1 := kF BK548.out 1
                have hfz68_2 := kF BK548.out 2
                have hfz68_3 := kF BK548.out 3
                have hnb69 := NB550_541.out
                have hnc69 := NB541_550.out
                have hnb70 := NB550_542.out
                have hnc70 := NB542_550.out
                have hcz71_0 : w57.cell? ⟨gb550, 0, none⟩ = some (.int .i64 0) := (kC BK550.out 0).trans rfl
                have hcz71_1 : w57.cell? ⟨gb550, 1, none⟩ = some (.int .i64 0) := (kC BK550.out 1).trans rfl
                have hcz71_2 : w57.cell? ⟨gb550, 2, none⟩ = some (.int .i64 0) := (kC BK550.out 2).trans rfl
                have hcz71_3 : w57.cell? ⟨gb550, 3, none⟩ = some (.slice none 0 0) := (kC BK550.out 3).trans rfl
                have hfz71_0 := kF BK550.out 0
                have hfz71_1 := kF BK550.out 1
                have hfz71_2 := kF BK550.out 2
                have hfz71_3 := kF BK550.out 3
                go_wp2
                repeat (go_quiet (fail); try go_wp2)
                go_meet
                case rel => exact ⟨_, (((((r40 l0_0 x7_4).f3).length : Int) != (((r40 l1_0 x7_4).f3).length : Int))), (by first | rfl | (simp; done) | (simp [*]; done)), H', ⟨by have := HJ2.out; have := HK2.out; have := HK3.out; have := HK4.out; first | omega | exact Nat.le_refl _⟩, ⟨by (with_reducible repeat (first | refine kN ?_ _ | refine kD ?_ | refine kA ?_ _)); refine blk_far ?_ NB541_550.out _; (with_reducible repeat (first | refine kN ?_ _ | refine kD ?_ | refine kA ?_ _)); refine blk_far ?_ NB541_550.out _; (with_reducible repeat (first | refine kN ?_ _ | refine kD ?_ | refine kA ?_ _)); refine blk_far ?_ NB541_550.out _; (with_reducible repeat (first | refine kN ?_ _ | refine kD ?_ | refine kA ?_ _)); refine blk_far ?_ NB541_550.out _; (with_reducible repeat (first | refine kN ?_ _ | refine kD ?_ | refine kA ?_ _)); exact BK541.out⟩, ⟨by (with_reducible repeat (first | refine kN ?_ _ | refine kD ?_ | refine kA ?_ _)); refine blk_far ?_ NB542_550.out _; (with_reducible repeat (first | refine kN ?_ _ | refine kD ?_ | refine kA ?_ _)); refine blk_far ?_ NB542_550.out _; (with_reducible repeat (first | refine kN ?_ _ | refine kD ?_ | refine kA ?_ _)); refine blk_far ?_ NB542_550.out _; (with_reducible repeat (first | refine kN ?_ _ | refine kD ?_ | refine kA ?_ _)); refine blk_far ?_ NB542_550.out _; (with_reducible repeat (first | refine kN ?_ _ | refine kD ?_ | refine kA ?_ _)); exact BK542.out⟩, ⟨by (with_reducible repeat (first | refine kN ?_ _ | refine kD ?_ | refine kA ?_ _)); refine blk_far ?_ NB548_550.out _; (with_reducible repeat (first | refine kN ?_ _ | refine kD ?_ | refine kA ?_ _)); refine blk_far ?_ NB548_550.out _; (with_reducible repeat (first | refine kN ?_ _ | refine kD ?_ | refine kA ?_ _)); refine blk_far ?_ NB548_550.out _; (with_reducible repeat (first | refine kN ?_ _ | refine kD ?_ | refine kA ?_ _)); refine blk_far ?_ NB548_550.out _; (with_reducible repeat (first | refine kN ?_ _ | refine kD ?_ | refine kA ?_ _)); exact BK548.out⟩, ⟨by (with_reducible repeat (first | refine kN ?_ _ | refine kD ?_ | refine kA ?_ _)); refine kP (cs := #[.int .i64 ((r40 l1_0 x7_4).f0), .int .i64 ((r40 l1_0 x7_4).f1), .int .i64 ((r40 l1_0 x7_4).f2), .slice none 0 0]) ?_ 3 _ rfl; (with_reducible repeat (first | refine kN ?_ _ | refine kD ?_ | refine kA ?_ _)); refine kP (cs := #[.int .i64 ((r40 l1_0 x7_4).f0), .int .i64 ((r40 l1_0 x7_4).f1), .int .i64 0, .slice none 0 0]) ?_ 2 _ rfl; (with_reducible repeat (first | refine kN ?_ _ | refine kD ?_ | refine kA ?_ _)); refine kP (cs := #[.int .i64 ((r40 l1_0 x7_4).f0), .int .i64 0, .int .i64 0, .slice none 0 0]) ?_ 1 _ rfl; (with_reducible repeat (first | refine kN ?_ _ | refine kD ?_ | refine kA ?_ _)); refine kP (cs := #[.int .i64 0, .int .i64 0, .int .i64 0, .slice none 0 0]) ?_ 0 _ rfl; (with_reducible repeat (first | refine kN ?_ _ | refine kD ?_ | refine kA ?_ _)); exact BK550.out⟩, ⟨by repeat (first | (with_reducible first | exact HB.out | apply bA | apply bN | apply bD | refine bS ?_ GE541.out | refine bS ?_ GE542.out | refine bS ?_ GE548.out | refine bS ?_ GE550.out) | exact HB.out)⟩⟩
               rw [if_neg c64] at H
               exact absurd hr fun hr => (by first | exact zS.j0_true H hr | exact zS.j4_true H hr)
              rw [if_neg c63] at H
              exact absurd hr fun hr => (by first | exact zS.j0_true H hr | exact zS.j4_true H hr)
             rw [if_neg c62] at H
             exact absurd hr fun hr => (by first | exact zS.j0_true H hr | exact zS.j4_true H hr)
            case rest =>
             clear HC49
             try clear c46b0
             try clear c47b0
             try clear c48b0
             try clear hcz51_0
             try clear hcz51_1
             try clear hcz51_2
             try clear hcz51_3
             try clear hcz55_0
             try clear hcz55_1
             try clear hcz55_2
             try clear hcz55_3
             try clear hcz56_0
             try clear hcz56_1
             try clear hcz56_2
             try clear hcz56_3
             try clear hcz61_0
             try clear hcz61_1
             try clear hcz61_2
             try clear hcz61_3
             try clear hfz51_0
             try clear hfz51_1
             try clear hfz51_2
             try clear hfz51_3
             try clear hfz55_0
             try clear hfz55_1
             try clear hfz55_2
             try clear hfz55_3
             try clear hfz56_0
             try clear hfz56_1
             try clear hfz56_2
             try clear hfz56_3
             try clear hfz61_0
             try clear hfz61_1
             try clear hfz61_2
             try clear hfz61_3
             try clear hx547_0
             try clear hx547_1
             try clear hx547_2
             try clear hx547_3
             try clear hx549_0
             try clear hx549_1
             try clear hx549_2
             try clear hx549_3
             try clear p547
             try clear p549
             try clear q547
             try clear q549
             obtain ⟨kq, x123_48, rfl, HA, HJ48, BK541, BK542, BK548, BK550, HB⟩ := hcut
             cases kq with
             | zero => exact absurd HA.out (by simp [zS.j4])
             | succ kj48 =>
              have H := HA.out
              clear HA
              simp only [zS.j4] at H
              by_cases c93 : x123_48 = true
              ·subst c93
               have H1 : (some false) = some r := by rw [if_pos rfl] at H; exact H
               exact absurd (Option.some.inj H1) (by rw [hr]; decide)
              replace c93 := Bool.eq_false_iff.mpr c93
              subst c93
              have H1 : (zS.l3 kj48 x7_4 0 l0_0 l0_1 l0_2 a0_3 l1_0 l1_1 l1_2 a1_3 ((r40 l0_0 x7_4).f0) ((r40 l0_0 x7_4).f1) ((r40 l0_0 x7_4).f2) ((r40 l0_0 x7_4).f3) ((r40 l1_0 x7_4).f0) ((r40 l1_0 x7_4).f1) ((r40 l1_0 x7_4).f2) ((r40 l1_0 x7_4).f3)) = some r := by rw [if_neg (show ¬ (false = true) by decide)] at H; exact H
              clear H
              have H := H1
              clear H1
              have H' := Aside0.mk H
              clear H
              go_wp2
              repeat (go_quiet (fail); try go_wp2)
              go_loopg [10] kj48 (fun kq v10 w' => ∃ (x10_6 : Int), v10 = .int .i64 x10_6 ∧ Aside0 (zS.l3 kq x7_4 x10_6 l0_0 l0_1 l0_2 a0_3 l1_0 l1_1 l1_2 a1_3 ((r40 l0_0 x7_4).f0) ((r40 l0_0 x7_4).f1) ((r40 l0_0 x7_4).f2) ((r40 l0_0 x7_4).f3) ((r40 l1_0 x7_4).f0) ((r40 l1_0 x7_4).f1) ((r40 l1_0 x7_4).f2) ((r40 l1_0 x7_4).f3) = some r) ∧ Aside0 (kq ≤ kj48) ∧ Aside0 (w'.heap[gb541]? = some (.cells #[(.slice (some ad547) l0_0.length c0_0), (.slice A0_1 l0_1.length c0_1), (.slice A0_2 l0_2.length c0_2), .int .i64 a0_3] 26 (0, 0))) ∧ Aside0 (w'.heap[gb542]? = some (.cells #[(.slice (some ad549) l1_0.length c1_0), (.slice A1_1 l1_1.length c1_1), (.slice A1_2 l1_2.length c1_2), .int .i64 a1_3] 26 (0, 0))) ∧ Aside0 (w'.heap[gb548]? = some (.cells #[.int .i64 ((r40 l0_0 x7_4).f0), .int .i64 ((r40 l0_0 x7_4).f1), .int .i64 ((r40 l0_0 x7_4).f2), (.slice A547_3 ((r40 l0_0 x7_4).f3).length c547_3)] 40 (0, 0))) ∧ Aside0 (w'.heap[gb550]? = some (.cells #[.int .i64 ((r40 l1_0 x7_4).f0), .int .i64 ((r40 l1_0 x7_4).f1), .int .i64 ((r40 l1_0 x7_4).f2), (.slice A549_3 ((r40 l1_0 x7_4).f3).length c549_3)] 40 (0, 0))) ∧ Aside0 (Below w.heap.size w w'))
              case atStart => exact ⟨(0), (by first | rfl | (simp; done) | (simp [*]; done)), H', ⟨Nat.le_refl _⟩, ⟨by (with_reducible repeat (first | refine kN ?_ _ | refine kD ?_ | refine kA ?_ _)); exact BK541.out⟩, ⟨by (with_reducible repeat (first | refine kN ?_ _ | refine kD ?_ | refine kA ?_ _)); exact BK542.out⟩, ⟨by (with_reducible repeat (first | refine kN ?_ _ | refine kD ?_ | refine kA ?_ _)); exact BK548.out⟩, ⟨by (with_reducible repeat (first | refine kN ?_ _ | refine kD ?_ | refine kA ?_ _)); exact BK550.out⟩, ⟨by repeat (first | (with_reducible first | exact HB.out | apply bA | apply bN | apply bD | refine bS ?_ GE541.out | refine bS ?_ GE542.out | refine bS ?_ GE548.out | refine bS ?_ GE550.out) | exact HB.out)⟩⟩
              case round =>
               clear H'
               obtain ⟨x10_6, rfl, HA, HK6, BK541, BK542, BK548, BK550, HB⟩ := hrel
               cases gk with
               | zero => exact absurd HA.out (by simp [zS.l3])
               | succ k6 =>
                have H := HA.out
                clear HA
                simp only [zS.l3] at H
                by_cases c94 : x10_6 < (((r40 l0_0 x7_4).f3).length : Int)
                ·rw [if_pos c94] at H
                 have c94b0 : decide (x10_6 < (((r40 l0_0 x7_4).f3).length : Int)) = true := decide_eq_true c94
                 clear c94
                 by_cases c95 : 0 ≤ x10_6
                 ·rw [if_pos c95] at H
                  have c95b0 : decide (0 ≤ x10_6) = true := decide_eq_true c95
                  clear c95
                  by_cases c96 : x10_6 < (((r40 l1_0 x7_4).f3).length : Int)
                  ·rw [if_pos c96] at H
                   have c96b0 : decide (x10_6 < (((r40 l1_0 x7_4).f3).length : Int)) = true := decide_eq_true c96
                   clear c96
                   by_cases c97 : (!(((r42 ((r40 l0_0 x7_4).f3) x10_6).f0) == ((r42 ((r40 l1_0 x7_4).f3) x10_6).f0)) || (!(((r42 ((r40 l0_0 x7_4).f3) x10_6).f1) == ((r42 ((r40 l1_0 x7_4).f3) x10_6).f1)) || (!(((r42 ((r40 l0_0 x7_4).f3) x10_6).f2) == ((r42 ((r40 l1_0 x7_4).f3) x10_6).f2))))) = true
                   ·rw [if_pos c97] at H
                    exact absurd (H.trans (congrArg some hr)) (by decide)
                   rw [if_neg c97] at H
                   have c97b0 : (!(((r42 ((r40 l0_0 x7_4).f3) x10_6).f0) == ((r42 ((r40 l1_0 x7_4).f3) x10_6).f0)) || (!(((r42 ((r40 l0_0 x7_4).f3) x10_6).f1) == ((r42 ((r40 l1_0 x7_4).f3) x10_6).f1)) || (!(((r42 ((r40 l0_0 x7_4).f3) x10_6).f2) == ((r42 ((r40 l1_0 x7_4).f3) x10_6).f2))))) = false := by simpa using c97
                   clear c97
                   have H' := Aside0.mk H
                   clear H
                   have hnb105 := NB548_541.out
                   have hnc105 := NB541_548.out
                   have hnb106 := NB548_542.out
                   have hnc106 := NB542_548.out
                   have hnb107 := NB548_550.out
                   have hnc107 := NB550_548.out
                   have hcz108_0 : wr.cell? ⟨gb548, 0, none⟩ = some (.int .i64 ((r40 l0_0 x7_4).f0)) := (kC BK548.out 0).trans rfl
                   have hcz108_1 : wr.cell? ⟨gb548, 1, none⟩ = some (.int .i64 ((r40 l0_0 x7_4).f1)) := (kC BK548.out 1).trans rfl
                   have hcz108_2 : wr.cell? ⟨gb548, 2, none⟩ = some (.int .i64 ((r40 l0_0 x7_4).f2)) := (kC BK548.out 2).trans rfl
                   have hcz108_3 : wr.cell? ⟨gb548, 3, none⟩ = some (.slice A547_3 ((r40 l0_0 x7_4).f3).length c547_3) := (kC BK548.out 3).trans rfl
                   have hfz108_0 := kF BK548.out 0
                   have hfz108_1 := kF BK548.out 1
                   have hfz108_2 := kF BK548.out 2
                   have hfz108_3 := kF BK548.out 3
                   have p551 : 0 ≤ (x10_6 : Int) := of_decide_eq_true (by first | (with_reducible assumption) | assumption)
                   have q551 : x10_6 < (((r40 l0_0 x7_4).f3).length : Int) := of_decide_eq_true (by first | (with_reducible assumption) | assumption)
                   obtain ⟨ad551, e551, hx551_0, hx551_1, hx551_2⟩ := at_T42 HR547_3.out x10_6 p551 q551
                   cases e551
                   replace hx551_0 := (HB.out.cell (World.block_lt_of_cell? w _ hx551_0)).trans hx551_0
                   replace hx551_1 := (HB.out.cell (World.block_lt_of_cell? w _ hx551_1)).trans hx551_1
                   replace hx551_2 := (HB.out.cell (World.block_lt_of_cell? w _ hx551_2)).trans hx551_2
                   replace p551 := eq_true p551
                   replace q551 := eq_true q551
                   have hnb109 := NB550_541.out
                   have hnc109 := NB541_550.out
                   have hnb110 := NB550_542.out
                   have hnc110 := NB542_550.out
                   have hcz111_0 : wr.cell? ⟨gb550, 0, none⟩ = some (.int .i64 ((r40 l1_0 x7_4).f0)) := (kC BK550.out 0).trans rfl
                   have hcz111_1 : wr.cell? ⟨gb550, 1, none⟩ = some (.int .i64 ((r40 l1_0 x7_4).f1)) := (kC BK550.out 1).trans rfl
                   have hcz111_2 : wr.cell? ⟨gb550, 2, none⟩ = some (.int .i64 ((r40 l1_0 x7_4).f2)) := (kC BK550.out 2).trans rfl
                   have hcz111_3 : wr.cell? ⟨gb550, 3, none⟩ = some (.slice A549_3 ((r40 l1_0 x7_4).f3).length c549_3) := (kC BK550.out 3).trans rfl
                   have hfz111_0 := kF BK550.out 0
                   have hfz111_1 := kF BK550.out 1
                   have hfz111_2 := kF BK550.out 2
                   have hfz111_3 := kF BK550.out 3
                   have p552 : 0 ≤ (x10_6 : Int) := of_decide_eq_true (by first | (with_reducible assumption) | assumption)
                   have q552 : x10_6 < (((r40 l1_0 x7_4).f3).length : Int) := of_decide_eq_true (by first | (with_reducible assumption) | assumption)
                   obtain ⟨ad552, e552, hx552_0, hx552_1, hx552_2⟩ := at_T42 HR549_3.out x10_6 p552 q552
                   cases e552
                   replace hx552_0 := (HB.out.cell (World.block_lt_of_cell? w _ hx552_0)).trans hx552_0
                   replace hx552_1 := (HB.out.cell (World.block_lt_of_cell? w _ hx552_1)).trans hx552_1
                   replace hx552_2 := (HB.out.cell (World.block_lt_of_cell? w _ hx552_2)).trans hx552_2
                   replace p552 := eq_true p552
                   replace q552 := eq_true q552
                   go_wp2
                   repeat (go_quiet (fail); try go_wp2)
                   go_roundg k6
                   case measure => have := HJ2.out; have := HK2.out; have := HK3.out; have := HK4.out; have := HJ48.out; have := HK6.out; omega
                   case rel => exact ⟨(wrap64 (x10_6 + 1)), (by first | rfl | (simp; done) | (simp [*]; done)), H', ⟨by have := HJ2.out; have := HK2.out; have := HK3.out; have := HK4.out; have := HJ48.out; have := HK6.out; omega⟩, ⟨by (with_reducible repeat (first | refine kN ?_ _ | refine kD ?_ | refine kA ?_ _)); exact BK541.out⟩, ⟨by (with_reducible repeat (first | refine kN ?_ _ | refine kD ?_ | refine kA ?_ _)); exact BK542.out⟩, ⟨by (with_reducible repeat (first | refine kN ?_ _ | refine kD ?_ | refine kA ?_ _)); exact BK548.out⟩, ⟨by (with_reducible repeat (first | refine kN ?_ _ | refine kD ?_ | refine kA ?_ _)); exact BK550.out⟩, ⟨by repeat (first | (with_reducible first | exact HB.out | apply bA | apply bN | apply bD | refine bS ?_ GE541.out | refine bS ?_ GE542.out | refine bS ?_ GE548.out | refine bS ?_ GE550.out) | exact HB.out)⟩⟩
                  rw [if_neg c96] at H
                  exact absurd H (by simp)
                 rw [if_neg c95] at H
                 exact absurd H (by simp)
                rw [if_neg c94] at H
                have c94b0 : decide (x10_6 < (((r40 l0_0 x7_4).f3).length : Int)) = false := decide_eq_false c94
                clear c94
                have H' := Aside0.mk H
                clear H
                have hnb112 := NB548_541.out
                have hnc112 := NB541_548.out
                have hnb113 := NB548_542.out
                have hnc113 := NB542_548.out
                have hnb114 := NB548_550.out
                have hnc114 := NB550_548.out
                have hcz115_0 : wr.cell? ⟨gb548, 0, none⟩ = some (.int .i64 ((r40 l0_0 x7_4).f0)) := (kC BK548.out 0).trans rfl
                have hcz115_1 : wr.cell? ⟨gb548, 1, none⟩ = some (.int .i64 ((r40 l0_0 x7_4).f1)) := (kC BK548.out 1).trans rfl
                have hcz115_2 : wr.cell? ⟨gb548, 2, none⟩ = some (.int .i64 ((r40 l0_0 x7_4).f2)) := (kC BK548.out 2).trans rfl
                have hcz115_3 : wr.cell? ⟨gb548, 3, none⟩ = some (.slice A547_3 ((r40 l0_0 x7_4).f3).length c547_3) := (kC BK548.out 3).trans rfl
                have hfz115_0 := kF BK548.out 0
                have hfz115_1 := kF BK548.out 1
                have hfz115_2 := kF BK548.out 2
                have hfz115_3 := kF BK548.out 3
                go_wp2
                repeat (go_quiet (fail); try go_wp2)
                go_roundg k6
                case measure => have := HJ2.out; have := HK2.out; have := HK3.out; have := HK4.out; have := HJ48.out; have := HK6.out; omega
                case rel => exact ⟨(wrap64 (x7_4 + 1)), (by first | rfl | (simp; done) | (simp [*]; done)), H', ⟨by have := HJ2.out; have := HK2.out; have := HK3.out; have := HK4.out; have := HJ48.out; have := HK6.out; omega⟩, ⟨by (with_reducible repeat (first | refine kN ?_ _ | refine kD ?_ | refine kA ?_ _)); exact BK541.out⟩, ⟨by (with_reducible repeat (first | refine kN ?_ _ | refine kD ?_ | refine kA ?_ _)); exact BK542.out⟩, ⟨by repeat (first | (with_reducible first | exact HB.out | apply bA | apply bN | apply bD | refine bS ?_ GE541.out | refine bS ?_ GE542.out | refine bS ?_ GE548.out | refine bS ?_ GE550.out) | exact HB.out)⟩⟩
           rw [if_neg c48] at H
           exact absurd H (by simp)
          rw [if_neg c47] at H
          exact absurd H (by simp)
         rw [if_neg c46] at H
         have c46b0 : decide (x7_4 < (l0_0.length : Int)) = false := decide_eq_false c46
         clear c46
         obtain rfl := Option.some.inj H
         have hnb116 := NB541_542.out
         have hnc116 := NB542_541.out
         have hcz117_0 : wr.cell? ⟨gb541, 0, none⟩ = some (.slice A0_0 l0_0.length c0_0) := (kC BK541.out 0).trans rfl
         have hcz117_1 : wr.cell? ⟨gb541, 1, none⟩ = some (.slice A0_1 l0_1.length c0_1) := (kC BK541.out 1).trans rfl
         have hcz117_2 : wr.cell? ⟨gb541, 2, none⟩ = some (.slice A0_2 l0_2.length c0_2) := (kC BK541.out 2).trans rfl
         have hcz117_3 : wr.cell? ⟨gb541, 3, none⟩ = some (.int .i64 a0_3) := (kC BK541.out 3).trans rfl
         have hfz117_0 := kF BK541.out 0
         have hfz117_1 := kF BK541.out 1
         have hfz117_2 := kF BK541.out 2
         have hfz117_3 := kF BK541.out 3
         go_wp2
         repeat (go_quiet (fail); try go_wp2)
         go_ret
         exact ⟨by first | rfl | (simp [wN, wS] <;> rfl) | (simp [*, wN, wS] <;> rfl), by repeat (first | (with_reducible first | exact HB.out | apply bA | apply bN | apply bD | refine bS ?_ GE541.out | refine bS ?_ GE542.out) | exact HB.out)⟩

end Go.Proofs.Ytadbiogchgglpaa.Q
