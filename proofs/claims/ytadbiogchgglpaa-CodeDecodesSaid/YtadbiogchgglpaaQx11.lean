-- PRINTED by print.py (a twelfth state) out of the translation. Not trusted: Lean checks it.
import Derived.Test.YtadbiogchgglpaaQx0
import Derived.Test.YtadbiogchgglpaaQx9
import Derived.Test.YtadbiogchgglpaaQx10
import Derived.Test.YtadbiogchgglpaaHput
namespace Go.Proofs.Ytadbiogchgglpaa.Q
open Go.RowKit Go.Proofs.YtadbiogchgglpaaW.PrintWords Go.Proofs.YtadbiogchgglpaaW.PrintLast Go.Proofs.YtadbiogchgglpaaW.PrintMore
attribute [local go_sem] max2_int min2_int max_two min_two max_three min_three max_four min_four   -- for this text's walks alone
set_option linter.unusedVariables false
set_option linter.unusedSimpArgs false

/-! ### cE: function 10 -/
mutual
def cE.l0 : Nat → List Int → List ByteArray → Int → Int → List (S40) → List Int → List ByteArray → Int → Option (List Int × Int)
 | 0, _, _, _, _, _, _, _, _ => none
 | k + 1, x4, x34, x35, x36, x165000, x165001, x165002, x165003 => if x36 < x35 then (if 0 ≤ x36 then (if x36 < (x34.length : Int) then ((code_put.f k x4 1 (([((rdOf ByteArray.empty x34 x36).size : Int)] : List Int))).bind fun t188 => (if t188.length + (rdOf ByteArray.empty x34 x36).size < 140737488355328 then (cE.l0 k (t188 ++ bytesOf (rdOf ByteArray.empty x34 x36)) x34 x35 (wrap64 (x36 + 1)) x165000 x165001 x165002 x165003) else (none))) else (none)) else (none)) else ((code_put.f k x4 1 (([(x165000.length : Int)] : List Int))).bind fun t197 => (cE.l1 k t197 x165000 (x165000.length : Int) 0))
def cE.l1 : Nat → List Int → List (S40) → Int → Int → Option (List Int × Int)
 | 0, _, _, _, _ => none
 | k + 1, x4, x55, x56, x57 => if x57 < x56 then (if 0 ≤ x57 then (if x57 < (x55.length : Int) then ((code_put.f k x4 1 (([(r40 x55 x57).f0, (r40 x55 x57).f1, (r40 x55 x57).f2] : List Int))).bind fun t205 => ((code_put.f k t205 2 (([(((r40 x55 x57).f3).length : Int)] : List Int))).bind fun t211 => (cE.l2 k t211 x55 x56 x57 ((r40 x55 x57).f3) (((r40 x55 x57).f3).length : Int) 0))) else (none)) else (none)) else (some (x4, 0))
def cE.l2 : Nat → List Int → List (S40) → Int → Int → List (S42) → Int → Int → Option (List Int × Int)
 | 0, _, _, _, _, _, _, _ => none
 | k + 1, x4, x55, x56, x57, x77, x78, x79 => if x79 < x78 then (if 0 ≤ x79 then (if x79 < (x77.length : Int) then ((code_put.f k x4 1 (([(r42 x77 x79).f0] : List Int))).bind fun t219 => ((code_put.f k t219 2 (([(r42 x77 x79).f1, (r42 x77 x79).f2] : List Int))).bind fun t225 => (cE.l2 k t225 x55 x56 x57 x77 x78 (wrap64 (x79 + 1))))) else (none)) else (none)) else (cE.l1 k x4 x55 x56 (wrap64 (x57 + 1)))
end
def cE.f (k : Nat) (l0_0 : List (S40)) (l0_1 : List Int) (l0_2 : List ByteArray) (a0_3 : Int) : Option (List Int × Int) := (code_May.f k l0_0 l0_1 l0_2 a0_3).bind fun t165 => (if t165 = true then ((code_put.f k (([83, 77, 49] : List Int)) 1 (([a0_3, (l0_1.length : Int)] : List Int))).bind fun t172 => ((code_put.f k t172 8 l0_1).bind fun t175 => ((code_put.f k t175 1 (([(l0_2.length : Int)] : List Int))).bind fun t181 => (cE.l0 k t181 l0_2 (l0_2.length : Int) 0 l0_0 l0_1 l0_2 a0_3)))) else (some (([] : List Int), 1)))
theorem cE.mono_l : ∀ k, (∀ y0 y1 y2 y3 y4 y5 y6 y7, LeO (cE.l0 k y0 y1 y2 y3 y4 y5 y6 y7) (cE.l0 (k + 1) y0 y1 y2 y3 y4 y5 y6 y7)) ∧ (∀ y0 y1 y2 y3, LeO (cE.l1 k y0 y1 y2 y3) (cE.l1 (k + 1) y0 y1 y2 y3)) ∧ (∀ y0 y1 y2 y3 y4 y5 y6, LeO (cE.l2 k y0 y1 y2 y3 y4 y5 y6) (cE.l2 (k + 1) y0 y1 y2 y3 y4 y5 y6))
 | 0 => ⟨fun _ _ _ _ _ _ _ _ r h => by simp [cE.l0] at h, fun _ _ _ _ r h => by simp [cE.l1] at h, fun _ _ _ _ _ _ _ r h => by simp [cE.l2] at h⟩
 | k + 1 => by
  obtain ⟨ih0, ih1, ih2⟩ := cE.mono_l k
  refine ⟨?_, ?_, ?_⟩
  ·intro y0 y1 y2 y3 y4 y5 y6 y7
   unfold cE.l0
   repeat' first
   | (with_reducible exact ih0 _ _ _ _ _ _ _ _)
   | (with_reducible exact ih1 _ _ _ _)
   | (with_reducible exact ih2 _ _ _ _ _ _ _)
   | (with_reducible exact code_May.mono _ _ _ _ _)
   | (with_reducible exact code_put.mono _ _ _ _)
   | (with_reducible exact LeO.refl _)
   | (with_reducible exact LeO.none _)
   | (with_reducible refine LeO.ite ?_ ?_)
   | (with_reducible refine LeO.bind ?_ (fun _ => ?_))
   | exact ih0 _ _ _ _ _ _ _ _
   | exact ih1 _ _ _ _
   | exact ih2 _ _ _ _ _ _ _
   | exact code_May.mono _ _ _ _ _
   | exact code_put.mono _ _ _ _
   | exact LeO.none _
   | refine LeO.ite ?_ ?_
   | refine LeO.bind ?_ (fun _ => ?_)
  ·intro y0 y1 y2 y3
   unfold cE.l1
   repeat' first
   | (with_reducible exact ih0 _ _ _ _ _ _ _ _)
   | (with_reducible exact ih1 _ _ _ _)
   | (with_reducible exact ih2 _ _ _ _ _ _ _)
   | (with_reducible exact code_May.mono _ _ _ _ _)
   | (with_reducible exact code_put.mono _ _ _ _)
   | (with_reducible exact LeO.refl _)
   | (with_reducible exact LeO.none _)
   | (with_reducible refine LeO.ite ?_ ?_)
   | (with_reducible refine LeO.bind ?_ (fun _ => ?_))
   | exact ih0 _ _ _ _ _ _ _ _
   | exact ih1 _ _ _ _
   | exact ih2 _ _ _ _ _ _ _
   | exact code_May.mono _ _ _ _ _
   | exact code_put.mono _ _ _ _
   | exact LeO.none _
   | refine LeO.ite ?_ ?_
   | refine LeO.bind ?_ (fun _ => ?_)
  intro y0 y1 y2 y3 y4 y5 y6
  unfold cE.l2
  repeat' first
  | (with_reducible exact ih0 _ _ _ _ _ _ _ _)
  | (with_reducible exact ih1 _ _ _ _)
  | (with_reducible exact ih2 _ _ _ _ _ _ _)
  | (with_reducible exact code_May.mono _ _ _ _ _)
  | (with_reducible exact code_put.mono _ _ _ _)
  | (with_reducible exact LeO.refl _)
  | (with_reducible exact LeO.none _)
  | (with_reducible refine LeO.ite ?_ ?_)
  | (with_reducible refine LeO.bind ?_ (fun _ => ?_))
  | exact ih0 _ _ _ _ _ _ _ _
  | exact ih1 _ _ _ _
  | exact ih2 _ _ _ _ _ _ _
  | exact code_May.mono _ _ _ _ _
  | exact code_put.mono _ _ _ _
  | exact LeO.none _
  | refine LeO.ite ?_ ?_
  | refine LeO.bind ?_ (fun _ => ?_)
theorem cE.mono : ∀ a0 a1 a2 a3 k, LeO (cE.f k a0 a1 a2 a3) (cE.f (k + 1) a0 a1 a2 a3) := by
 intro a0 a1 a2 a3 k
 obtain ⟨ih0, ih1, ih2⟩ := cE.mono_l k
 unfold cE.f
 repeat' first
   | (with_reducible exact ih0 _ _ _ _ _ _ _ _)
   | (with_reducible exact ih1 _ _ _ _)
   | (with_reducible exact ih2 _ _ _ _ _ _ _)
   | (with_reducible exact code_May.mono _ _ _ _ _)
   | (with_reducible exact code_put.mono _ _ _ _)
   | (with_reducible exact LeO.refl _)
   | (with_reducible exact LeO.none _)
   | (with_reducible refine LeO.ite ?_ ?_)
   | (with_reducible refine LeO.bind ?_ (fun _ => ?_))
   | exact ih0 _ _ _ _ _ _ _ _
   | exact ih1 _ _ _ _
   | exact ih2 _ _ _ _ _ _ _
   | exact code_May.mono _ _ _ _ _
   | exact code_put.mono _ _ _ _
   | exact LeO.none _
   | refine LeO.ite ?_ ?_
   | refine LeO.bind ?_ (fun _ => ?_)
theorem code_put.grow : ∀ k, (∀ x0 x1 x10 x11 x12 r, code_put.l0 k x0 x1 x10 x11 x12 = some r → x0.length ≤ r.length) ∧ (∀ x0 x1 x8 x10 x11 x12 x16 x17 r, code_put.l1 k x0 x1 x8 x10 x11 x12 x16 x17 = some r → x0.length ≤ r.length)
 | 0 => ⟨fun _ _ _ _ _ _ h => by simp [code_put.l0] at h, fun _ _ _ _ _ _ _ _ _ h => by simp [code_put.l1] at h⟩
 | k + 1 => by
  obtain ⟨i0, i1⟩ := code_put.grow k
  constructor
  ·intro x0 x1 x10 x11 x12 r h
   unfold code_put.l0 at h
   split at h
   ·split at h
    ·split at h
     ·exact i1 _ _ _ _ _ _ _ _ _ h
     simp at h
    simp at h
   have := Option.some.inj h; subst this; exact Nat.le_refl _
  intro x0 x1 x8 x10 x11 x12 x16 x17 r h
  unfold code_put.l1 at h
  split at h
  ·split at h
   ·split at h
    ·have := i1 _ _ _ _ _ _ _ _ _ h; simp at this; omega
    simp at h
   simp at h
  exact i0 _ _ _ _ _ _ h
theorem put_two {k : Nat} {x y : List Int} {a b : Int} {r : List Int} (h : code_put.f k x 1 y = some r) (hy : y = [a, b]) : r.length ≠ x.length := by
 subst hy
 unfold code_put.f at h
 match k with
 | 0 => simp [code_put.l0] at h
 | 1 => simp [code_put.l0, code_put.l1] at h
 | k + 2 =>
  unfold code_put.l0 at h
  rw [if_pos (by simp), if_pos (by omega), if_pos (by simp)] at h
  unfold code_put.l1 at h
  rw [if_pos (by decide)] at h
  split at h
  ·split at h
   ·have := (code_put.grow k).2 _ _ _ _ _ _ _ _ _ h
    simp at this
    omega
   simp at h
  simp at h
def cE.T20 : Bool × List (List Nat × List Nat) := (true, [([], []), ([], []), ([1], [1]), ([2], [2]), ([0, 3], [0, 3]), ([], []), ([5], [5]), ([], []), ([7], [7]), ([6, 8], [6, 8]), ([4, 9, 4], [4, 9]), ([10, 10, 0, 1, 2, 3, 4, 5, 6, 7, 8, 9, 10], [0, 10])])
def cE.B20 : List Nat := [0, 0, 2, 6, 15, 0, 32, 0, 128, 480, 1023, 2047]
theorem cE.tab20 : rtab .any (opsOf Try.f10 20) = cE.T20 := by kernel_rfl
theorem cE.bits20 : waitsOk cE.T20.2 cE.B20 = true := by kernel_rfl
set_option maxHeartbeats 8000000 in
set_option maxRecDepth 100000 in
theorem cE.calls (k : Nat) (A0_0 : Option Addr) (c0_0 : Nat) (l0_0 : List (S40)) (A0_1 : Option Addr) (c0_1 : Nat) (l0_1 : List Int) (A0_2 : Option Addr) (c0_2 : Nat) (l0_2 : List ByteArray) (a0_3 : Int) (r1 : List Int) (r2 : Int) (w : World) (hr0_0 : Kd.C k40 w A0_0 l0_0.length l0_0) (hc0_0 : l0_0.length ≤ c0_0) (hr0_1 : Kd.C (Kd.int .i64) w A0_1 l0_1.length l0_1) (hc0_1 : l0_1.length ≤ c0_1) (hr0_2 : Kd.C Kd.string w A0_2 l0_2.length l0_2) (hc0_2 : l0_2.length ≤ c0_2) (h : cE.f k l0_0 l0_1 l0_2 a0_3 = some (r1, r2)) :
  Calls Try.prog 10 #[.agg #[.slice A0_0 l0_0.length c0_0, .slice A0_1 l0_1.length c0_1, .slice A0_2 l0_2.length c0_2, .int .i64 a0_3]] w fun e w' => ∃ v0_ : Value, e = .returned (.tuple #[v0_, .int .i64 r2]) ∧ Kd.R (Kd.int .u8) 5 w' w.heap.size (fun _ => True) v0_ r1 ∧ Below w.heap.size w w' := by
 have hu26 := Try.underlying26
 have hu40 := Try.underlying40
 have hu42 := Try.underlying42
 have HR0_0 := Aside0.mk hr0_0
 have HC0_0 := Aside0.mk hc0_0
 clear hr0_0 hc0_0
 have HR0_1 := Aside0.mk hr0_1
 have HC0_1 := Aside0.mk hc0_1
 clear hr0_1 hc0_1
 have HR0_2 := Aside0.mk hr0_2
 have HC0_2 := Aside0.mk hc0_2
 clear hr0_2 hc0_2
 have HB := Aside0.mk (Below.refl w.heap.size w)
 have H : ((code_May.f k l0_0 l0_1 l0_2 a0_3).bind fun t165 => (if t165 = true then ((code_put.f k (([83, 77, 49] : List Int)) 1 (([a0_3, (l0_1.length : Int)] : List Int))).bind fun t172 => ((code_put.f k t172 8 l0_1).bind fun t175 => ((code_put.f k t175 1 (([(l0_2.length : Int)] : List Int))).bind fun t181 => (cE.l0 k t181 l0_2 (l0_2.length : Int) 0 l0_0 l0_1 l0_2 a0_3)))) else (some (([] : List Int), 1)))) = some (r1, r2) := h
 clear h
 replace H := Option.bind_eq_some_iff.mp H
 obtain ⟨t165, A20, H⟩ := H
 replace H : (if t165 = true then ((code_put.f k (([83, 77, 49] : List Int)) 1 (([a0_3, (l0_1.length : Int)] : List Int))).bind fun t172 => ((code_put.f k t172 8 l0_1).bind fun t175 => ((code_put.f k t175 1 (([(l0_2.length : Int)] : List Int))).bind fun t181 => (cE.l0 k t181 l0_2 (l0_2.length : Int) 0 l0_0 l0_1 l0_2 a0_3)))) else (some (([] : List Int), 1))) = some (r1, r2) := H
 have A2 := Aside0.mk A20
 clear A20
 by_cases c3 : t165 = true
 ·subst c3
  have H1 : ((code_put.f k (([83, 77, 49] : List Int)) 1 (([a0_3, (l0_1.length : Int)] : List Int))).bind fun t172 => ((code_put.f k t172 8 l0_1).bind fun t175 => ((code_put.f k t175 1 (([(l0_2.length : Int)] : List Int))).bind fun t181 => (cE.l0 k t181 l0_2 (l0_2.length : Int) 0 l0_0 l0_1 l0_2 a0_3)))) = some (r1, r2) := by rw [if_pos rfl] at H; exact H
  clear H
  have H := H1
  clear H1
  obtain ⟨y166, hy166⟩ : ∃ y_ : List Int, y_ = (([83, 77, 49] : List Int)) := ⟨_, rfl⟩
  replace H : ((code_put.f k y166 1 (([a0_3, (l0_1.length : Int)] : List Int))).bind fun t172 => ((code_put.f k t172 8 l0_1).bind fun t175 => ((code_put.f k t175 1 (([(l0_2.length : Int)] : List Int))).bind fun t181 => (cE.l0 k t181 l0_2 (l0_2.length : Int) 0 l0_0 l0_1 l0_2 a0_3)))) = some (r1, r2) := by first | (rw [hy166]; with_reducible exact H) | (have H2_ := (Option.bind_some _ _).symm.trans H; rw [hy166]; with_reducible exact H2_) | (have H2_ := (Option.bind_some _ _).symm.trans H; with_reducible exact H2_) | with_reducible exact H | (rw [hy166]; exact H) | exact H
  have Ny166 := Aside0.mk hy166
  clear hy166
  obtain ⟨y169, hy169⟩ : ∃ y_ : List Int, y_ = (([a0_3, (l0_1.length : Int)] : List Int)) := ⟨_, rfl⟩
  replace H : ((code_put.f k y166 1 y169).bind fun t172 => ((code_put.f k t172 8 l0_1).bind fun t175 => ((code_put.f k t175 1 (([(l0_2.length : Int)] : List Int))).bind fun t181 => (cE.l0 k t181 l0_2 (l0_2.length : Int) 0 l0_0 l0_1 l0_2 a0_3)))) = some (r1, r2) := by first | (rw [hy169]; with_reducible exact H) | (have H2_ := (Option.bind_some _ _).symm.trans H; rw [hy169]; with_reducible exact H2_) | (have H2_ := (Option.bind_some _ _).symm.trans H; with_reducible exact H2_) | with_reducible exact H | (rw [hy169]; exact H) | exact H
  have Ny169 := Aside0.mk hy169
  clear hy169
  replace H := Option.bind_eq_some_iff.mp H
  obtain ⟨t172, A40, H⟩ := H
  replace H : ((code_put.f k t172 8 l0_1).bind fun t175 => ((code_put.f k t175 1 (([(l0_2.length : Int)] : List Int))).bind fun t181 => (cE.l0 k t181 l0_2 (l0_2.length : Int) 0 l0_0 l0_1 l0_2 a0_3))) = some (r1, r2) := H
  have A4 := Aside0.mk A40
  clear A40
  replace H := Option.bind_eq_some_iff.mp H
  obtain ⟨t175, A50, H⟩ := H
  replace H : ((code_put.f k t175 1 (([(l0_2.length : Int)] : List Int))).bind fun t181 => (cE.l0 k t181 l0_2 (l0_2.length : Int) 0 l0_0 l0_1 l0_2 a0_3)) = some (r1, r2) := H
  have A5 := Aside0.mk A50
  clear A50
  obtain ⟨y178, hy178⟩ : ∃ y_ : List Int, y_ = (([(l0_2.length : Int)] : List Int)) := ⟨_, rfl⟩
  replace H : ((code_put.f k t175 1 y178).bind fun t181 => (cE.l0 k t181 l0_2 (l0_2.length : Int) 0 l0_0 l0_1 l0_2 a0_3)) = some (r1, r2) := by first | (rw [hy178]; with_reducible exact H) | (have H2_ := (Option.bind_some _ _).symm.trans H; rw [hy178]; with_reducible exact H2_) | (have H2_ := (Option.bind_some _ _).symm.trans H; with_reducible exact H2_) | with_reducible exact H | (rw [hy178]; exact H) | exact H
  have Ny178 := Aside0.mk hy178
  clear hy178
  replace H := Option.bind_eq_some_iff.mp H
  obtain ⟨t181, A60, H⟩ := H
  replace H : (cE.l0 k t181 l0_2 (l0_2.length : Int) 0 l0_0 l0_1 l0_2 a0_3) = some (r1, r2) := H
  have A6 := Aside0.mk A60
  clear A60
  have H' := Aside0.mk H
  clear H
  go_enter Try.func10, Try.ntmps10
  go_wp2_with (first | ((with_reducible refine gate_dst (N := 1) rfl ?_); refine box_event ?hg (N := 1) ?hd (cs := #[.slice A0_0 l0_0.length c0_0, .slice A0_1 l0_1.length c0_1, .slice A0_2 l0_2.length c0_2, .int .i64 a0_3]) (t := 26) ?hr ?_; (case hd => rfl); (case hg => rfl); (case hr => first | (go_simp; done) | (go_simp; rfl)); intro gb164 hg w7 hbox hb; have n0_ := Aside0.mk (bT (by repeat (first | (with_reducible first | exact HB.out | apply bA | apply bN | apply bD) | exact HB.out)) hb); have n1_ := Aside0.mk (hbox); have n2_ := Aside0.mk ((by rw [hg]; exact (bZ (by repeat (first | (with_reducible first | exact HB.out | apply bA | apply bN | apply bD) | exact HB.out))) : w.heap.size ≤ gb164)); have n3_ := Aside0.mk ((by rw [hg]; exact (bZ (by repeat (first | (with_reducible first | exact HB.out | apply bA | apply bN | apply bD) | exact HB.out))) : w.heap.size ≤ gb164)); clear HB; have HB := n0_; have BK164 := n1_; have GW164 := n2_; have GE164 := n3_; clear n0_ n1_ n2_ n3_; clear hb hbox hg; have hcz8_0 : w7.cell? ⟨gb164, 0, none⟩ = some (.slice A0_0 l0_0.length c0_0) := (kC BK164.out 0).trans rfl; have hcz8_1 : w7.cell? ⟨gb164, 1, none⟩ = some (.slice A0_1 l0_1.length c0_1) := (kC BK164.out 1).trans rfl; have hcz8_2 : w7.cell? ⟨gb164, 2, none⟩ = some (.slice A0_2 l0_2.length c0_2) := (kC BK164.out 2).trans rfl; have hcz8_3 : w7.cell? ⟨gb164, 3, none⟩ = some (.int .i64 a0_3) := (kC BK164.out 3).trans rfl; have hfz8_0 := kF BK164.out 0; have hfz8_1 := kF BK164.out 1; have hfz8_2 := kF BK164.out 2; have hfz8_3 := kF BK164.out 3) | ((with_reducible refine gate_callee (f := 13) rfl ?_); refine goesL_ (some 12) rfl rfl Try.func13 (by kernel_rfl) rfl #[.agg #[.slice A0_0 l0_0.length c0_0, .slice A0_1 l0_1.length c0_1, .slice A0_2 l0_2.length c0_2, .int .i64 a0_3]] rfl (by (try simp only [List.map_toArray, List.map_cons, List.map_nil]); first | done | rfl | (simp only [List.length_drop, List.length_take]; rfl)) ?_; (with_reducible refine (code_May.calls k _ _ l0_0 _ _ l0_1 _ _ l0_2 a0_3 true _ ?side1 ?side2 ?side3 ?side4 ?side5 ?side6 A2.out).mono ?_); (case side1 => repeat (first | exact (Kd.C_below HR0_0.out HB.out) | (with_reducible refine Kd.C_alloc ?_ _) | (with_reducible refine Kd.C_drewN ?_ _) | (with_reducible refine Kd.C_drew ?_))); (case side2 => exact HC0_0.out); (case side3 => repeat (first | exact (Kd.C_below HR0_1.out HB.out) | (with_reducible refine Kd.C_alloc ?_ _) | (with_reducible refine Kd.C_drewN ?_ _) | (with_reducible refine Kd.C_drew ?_))); (case side4 => exact HC0_1.out); (case side5 => repeat (first | exact (Kd.C_below HR0_2.out HB.out) | (with_reducible refine Kd.C_alloc ?_ _) | (with_reducible refine Kd.C_drewN ?_ _) | (with_reducible refine Kd.C_drew ?_))); (case side6 => exact HC0_2.out); rintro e w9 ⟨rfl, hb⟩; refine ⟨_, rfl, ?_⟩; have n0_ := Aside0.mk (kB (g := gb164) (o := .cells #[.slice A0_0 l0_0.length c0_0, .slice A0_1 l0_1.length c0_1, .slice A0_2 l0_2.length c0_2, .int .i64 a0_3] 26 (0, 0)) (by (with_reducible repeat (first | refine kN ?_ _ | refine kD ?_ | refine kA ?_ _)); exact BK164.out) hb); have n1_ := Aside0.mk (bT (by repeat (first | (with_reducible first | exact HB.out | apply bA | apply bN | apply bD | refine bS ?_ GE164.out) | exact HB.out)) hb); clear BK164; clear HB; have BK164 := n0_; have HB := n1_; clear n0_ n1_; (try clear hb); (try clear hb2); (try clear hk); (try clear hi)) | ((with_reducible refine gate_dst (N := 15) rfl ?_); refine conv_lit rfl rfl rfl ?_; intro gM w10 hM hb; have n0_ := Aside0.mk hM; have n1_ := Aside0.mk (kB (g := gb164) (o := .cells #[.slice A0_0 l0_0.length c0_0, .slice A0_1 l0_1.length c0_1, .slice A0_2 l0_2.length c0_2, .int .i64 a0_3] 26 (0, 0)) (by (with_reducible repeat (first | refine kN ?_ _ | refine kD ?_ | refine kA ?_ _)); exact BK164.out) hb); have n2_ := Aside0.mk (bT (by repeat (first | (with_reducible first | exact HB.out | apply bA | apply bN | apply bD | refine bS ?_ GE164.out) | exact HB.out)) hb); clear BK164; clear HB; have HM168 := n0_; have BK164 := n1_; have HB := n2_; clear n0_ n1_ n2_; clear hb hM; have hcz12_0 : w10.cell? ⟨gb164, 0, none⟩ = some (.slice A0_0 l0_0.length c0_0) := (kC BK164.out 0).trans rfl; have hcz12_1 : w10.cell? ⟨gb164, 1, none⟩ = some (.slice A0_1 l0_1.length c0_1) := (kC BK164.out 1).trans rfl; have hcz12_2 : w10.cell? ⟨gb164, 2, none⟩ = some (.slice A0_2 l0_2.length c0_2) := (kC BK164.out 2).trans rfl; have hcz12_3 : w10.cell? ⟨gb164, 3, none⟩ = some (.int .i64 a0_3) := (kC BK164.out 3).trans rfl; have hfz12_0 := kF BK164.out 0; have hfz12_1 := kF BK164.out 1; have hfz12_2 := kF BK164.out 2; have hfz12_3 := kF BK164.out 3) | ((with_reducible refine gate_dst (N := 21) rfl ?_); refine Kd.R_lit (Kd.int .i64) _ 3 ?hg (N := 21) ?hd (xs := ([a0_3, (l0_1.length : Int)] : List Int)) (inner := [.int .i64 a0_3, .int .i64 (l0_1.length : Int)]) (ok := fun _ => True) (okp := fun _ => True) ?hr ?hp (fun _ hk => hk) trivial (Below.refl _ _) (Nat.le_refl _) (by simp) ?_; (case hd => rfl); (case hg => rfl); (case hr => first | (go_simp; done) | (go_simp; rfl)); (case hp => exact (Reps.one (show Kd.M (Kd.int .i64) _ _ _ a0_3 [.int .i64 a0_3] from rfl) (Reps.one (show Kd.M (Kd.int .i64) _ _ _ (l0_1.length : Int) [.int .i64 (l0_1.length : Int)] from rfl) (Reps.none _ _)))); intro v170 w13 ho14 hb hg_ hnew_; clear hg_ hnew_; (first | rw [← Ny169.out] at ho14 | (simp only [Int.reduceToNat] at ho14; rw [← Ny169.out] at ho14)); have n0_ := Aside0.mk (HM168.out.below hb); have n1_ := Aside0.mk (Kd.R_lower ho14 (bZ (by repeat (first | (with_reducible first | exact HB.out | apply bA | apply bN | apply bD | refine bS ?_ GE164.out) | exact HB.out)))); have n2_ := Aside0.mk (kB (g := gb164) (o := .cells #[.slice A0_0 l0_0.length c0_0, .slice A0_1 l0_1.length c0_1, .slice A0_2 l0_2.length c0_2, .int .i64 a0_3] 26 (0, 0)) (by (with_reducible repeat (first | refine kN ?_ _ | refine kD ?_ | refine kA ?_ _)); exact BK164.out) hb); have n3_ := Aside0.mk (bT (by repeat (first | (with_reducible first | exact HB.out | apply bA | apply bN | apply bD | refine bS ?_ GE164.out) | exact HB.out)) hb); clear HM168; clear BK164; clear HB; have HM168 := n0_; have HO171 := n1_; have BK164 := n2_; have HB := n3_; clear n0_ n1_ n2_ n3_; clear hb ho14; obtain ⟨Ao16, co16, eo16⟩ := Kd.R_slice HO171.out; subst eo16) | ((with_reducible refine gate_callee (f := 22) rfl ?_); refine goesL_ (some 22) rfl rfl Try.func22 (by kernel_rfl) rfl #[.slice (some ⟨gM, 0, none⟩) 3 3, .int .i64 1, .slice Ao16 y169.length co16] rfl (by (try simp only [List.map_toArray, List.map_cons, List.map_nil]); first | done | rfl | (simp only [List.length_drop, List.length_take]; rfl)) ?_; (refine (code_put.callsM k gM [83, 77, 49] 1 Ao16 co16 y169 t172 w _ ?side1 ?side2 ?side3 ?side4 ?side5 (by have := A4.out; rw [Ny166.out] at this; exact this)).mono ?_); (case side1 => repeat (first | (with_reducible first | exact HB.out | apply bA | apply bN | apply bD | refine bS ?_ GE164.out) | exact HB.out)); (case side2 => (with_reducible repeat (first | apply Mark.alloc | apply Mark.drewN | apply Mark.drew)); exact HM168.out); (case side3 => exact (Kd.R_reads' (by (with_reducible repeat (first | apply Kd.R_alloc | apply Kd.R_drewN | apply Kd.R_drew)); exact HO171.out)).2.2); (case side4 => exact (Kd.R_reads' HO171.out).2.1); (case side5 => have hl := put_two A4.out Ny169.out; rw [Ny166.out] at hl; exact hl); rintro e w17 ⟨v173, rfl, ho0, hb, hkp⟩; refine ⟨_, rfl, ?_⟩; have n0_ := Aside0.mk (kB (g := gb164) (o := .cells #[.slice A0_0 l0_0.length c0_0, .slice A0_1 l0_1.length c0_1, .slice A0_2 l0_2.length c0_2, .int .i64 a0_3] 26 (0, 0)) (by (with_reducible repeat (first | refine kN ?_ _ | refine kD ?_ | refine kA ?_ _)); exact BK164.out) hkp); have n1_ := Aside0.mk (Kd.R_below (by (with_reducible repeat (first | apply Kd.R_alloc | apply Kd.R_drewN | apply Kd.R_drew)); exact HO171.out) hkp); have n2_ := Aside0.mk ho0; have n3_ := Aside0.mk hb; clear BK164; clear HO171; clear HB; clear HM168; have BK164 := n0_; have HO171 := n1_; have HO174 := n2_; have HB := n3_; clear n0_ n1_ n2_ n3_; (try clear hb); (try clear hkp); (try clear ho0); have hcz18_0 : w17.cell? ⟨gb164, 0, none⟩ = some (.slice A0_0 l0_0.length c0_0) := (kC BK164.out 0).trans rfl; have hcz18_1 : w17.cell? ⟨gb164, 1, none⟩ = some (.slice A0_1 l0_1.length c0_1) := (kC BK164.out 1).trans rfl; have hcz18_2 : w17.cell? ⟨gb164, 2, none⟩ = some (.slice A0_2 l0_2.length c0_2) := (kC BK164.out 2).trans rfl; have hcz18_3 : w17.cell? ⟨gb164, 3, none⟩ = some (.int .i64 a0_3) := (kC BK164.out 3).trans rfl; have hfz18_0 := kF BK164.out 0; have hfz18_1 := kF BK164.out 1; have hfz18_2 := kF BK164.out 2; have hfz18_3 := kF BK164.out 3; obtain ⟨Ao19, co19, eo19⟩ := Kd.R_slice HO174.out; subst eo19) | ((with_reducible refine gate_callee (f := 22) rfl ?_); refine goesL_ (some 26) rfl rfl Try.func22 (by kernel_rfl) rfl #[.slice Ao19 t172.length co19, .int .i64 8, .slice A0_1 l0_1.length c0_1] rfl (by (try simp only [List.map_toArray, List.map_cons, List.map_nil]); first | done | rfl | (simp only [List.length_drop, List.length_take]; rfl)) ?_; (with_reducible refine (code_put.calls k (fun k_ => some k_ = (.slice Ao19 t172.length co19 : Value).ownBlock) (.slice Ao19 t172.length co19) t172 8 _ _ l0_1 t175 w _ ?side1 ?side2 ?side3 ?side4 A5.out).mono ?_); (case side1 => repeat (first | (with_reducible first | exact HB.out | apply bA | apply bN | apply bD | refine bS ?_ GE164.out) | exact HB.out)); (case side2 => exact Kd.R_tight rfl HO174.out); (case side3 => exact Kd.C_kept_came (Kd.heap_int .i64) HR0_1.out (by repeat (first | (with_reducible first | exact HB.out | apply bA | apply bN | apply bD | refine bS ?_ GE164.out) | exact HB.out)) (fun k_ hs_ => (fun e_ => Kd.R_base HO174.out k_ e_.symm) hs_)); (case side4 => exact HC0_1.out); rintro e w20 ⟨v176, rfl, ho0, hb, hkp⟩; refine ⟨_, rfl, ?_⟩; have n0_ := Aside0.mk (blk_kept (by (with_reducible repeat (first | refine kN ?_ _ | refine kD ?_ | refine kA ?_ _)); exact BK164.out) hkp (fun hs_ => (fun e_ => (Kd.R_ne HO174.out BK164.out (by decide)) e_) hs_)); have n1_ := Aside0.mk (Kd.R_mono (ok' := fun k_ => True) (Kd.R_keptB ((Kd.R_apart' HO171.out (Kd.R_typed HO174.out) (by decide))) hkp (fun k_ hk_ hs_ => (hk_.2) hs_)) (fun k_ hk_ => trivial)); have n2_ := Aside0.mk (Kd.R_mono (ok' := fun k_ => True) ho0 (fun k_ hk_ => trivial)); have n3_ := Aside0.mk (hb); clear BK164; clear HO171; clear HB; clear HO174; have BK164 := n0_; have HO171 := n1_; have HO177 := n2_; have HB := n3_; clear n0_ n1_ n2_ n3_; (try clear hb); (try clear hkp); (try clear ho0); have hcz21_0 : w20.cell? ⟨gb164, 0, none⟩ = some (.slice A0_0 l0_0.length c0_0) := (kC BK164.out 0).trans rfl; have hcz21_1 : w20.cell? ⟨gb164, 1, none⟩ = some (.slice A0_1 l0_1.length c0_1) := (kC BK164.out 1).trans rfl; have hcz21_2 : w20.cell? ⟨gb164, 2, none⟩ = some (.slice A0_2 l0_2.length c0_2) := (kC BK164.out 2).trans rfl; have hcz21_3 : w20.cell? ⟨gb164, 3, none⟩ = some (.int .i64 a0_3) := (kC BK164.out 3).trans rfl; have hfz21_0 := kF BK164.out 0; have hfz21_1 := kF BK164.out 1; have hfz21_2 := kF BK164.out 2; have hfz21_3 := kF BK164.out 3) | ((with_reducible refine gate_dst (N := 31) rfl ?_); refine Kd.R_lit (Kd.int .i64) _ 3 ?hg (N := 31) ?hd (xs := ([(l0_2.length : Int)] : List Int)) (inner := [.int .i64 (l0_2.length : Int)]) (ok := fun _ => True) (okp := fun _ => True) ?hr ?hp (fun _ hk => hk) trivial (Below.refl _ _) (Nat.le_refl _) (by simp) ?_; (case hd => rfl); (case hg => rfl); (case hr => first | (go_simp; done) | (go_simp; rfl)); (case hp => exact (Reps.one (show Kd.M (Kd.int .i64) _ _ _ (l0_2.length : Int) [.int .i64 (l0_2.length : Int)] from rfl) (Reps.none _ _))); intro v179 w22 ho23 hb hg_ hnew_; clear hg_ hnew_; (first | rw [← Ny178.out] at ho23 | (simp only [Int.reduceToNat] at ho23; rw [← Ny178.out] at ho23)); have n0_ := Aside0.mk (Kd.R_elder' (by (with_reducible repeat (first | apply Kd.R_alloc | apply Kd.R_drewN | apply Kd.R_drew)); exact HO171.out) (Kd.R_base ho23) hb); have n1_ := Aside0.mk (Kd.R_below (by (with_reducible repeat (first | apply Kd.R_alloc | apply Kd.R_drewN | apply Kd.R_drew)); exact HO177.out) hb); have n2_ := Aside0.mk (Kd.R_lower (Kd.R_new' ho23 (Kd.R_lt (by (with_reducible repeat (first | apply Kd.R_alloc | apply Kd.R_drewN | apply Kd.R_drew)); exact HO171.out))) (bZ (by repeat (first | (with_reducible first | exact HB.out | apply bA | apply bN | apply bD | refine bS ?_ GE164.out) | exact HB.out)))); have n3_ := Aside0.mk (kB (g := gb164) (o := .cells #[.slice A0_0 l0_0.length c0_0, .slice A0_1 l0_1.length c0_1, .slice A0_2 l0_2.length c0_2, .int .i64 a0_3] 26 (0, 0)) (by (with_reducible repeat (first | refine kN ?_ _ | refine kD ?_ | refine kA ?_ _)); exact BK164.out) hb); have n4_ := Aside0.mk (bT (by repeat (first | (with_reducible first | exact HB.out | apply bA | apply bN | apply bD | refine bS ?_ GE164.out) | exact HB.out)) hb); clear HO171; clear HO177; clear BK164; clear HB; have HO171 := n0_; have HO177 := n1_; have HO180 := n2_; have BK164 := n3_; have HB := n4_; clear n0_ n1_ n2_ n3_ n4_; clear hb ho23; obtain ⟨Ao24, co24, eo24⟩ := Kd.R_slice HO177.out; subst eo24; obtain ⟨Ao25, co25, eo25⟩ := Kd.R_slice HO180.out; subst eo25) | ((with_reducible refine gate_callee (f := 22) rfl ?_); refine goesL_ (some 32) rfl rfl Try.func22 (by kernel_rfl) rfl #[.slice Ao24 t175.length co24, .int .i64 1, .slice Ao25 y178.length co25] rfl (by (try simp only [List.map_toArray, List.map_cons, List.map_nil]); first | done | rfl | (simp only [List.length_drop, List.length_take]; rfl)) ?_; (with_reducible refine (code_put.calls k (fun k_ => some k_ = (.slice Ao24 t175.length co24 : Value).ownBlock) (.slice Ao24 t175.length co24) t175 1 _ _ y178 t181 w _ ?side1 ?side2 ?side3 ?side4 A6.out).mono ?_); (case side1 => repeat (first | (with_reducible first | exact HB.out | apply bA | apply bN | apply bD | refine bS ?_ GE164.out) | exact HB.out)); (case side2 => exact Kd.R_tight rfl HO177.out); (case side3 => exact Kd.C_kept_own ((Kd.R_apart' HO180.out (Kd.R_typed HO177.out) (by decide))) (fun k_ hk_ hs_ => (hk_.2) hs_)); (case side4 => exact (Kd.R_reads' HO180.out).2.1); rintro e w26 ⟨v182, rfl, ho0, hb, hkp⟩; refine ⟨_, rfl, ?_⟩; have n0_ := Aside0.mk (blk_kept (by (with_reducible repeat (first | refine kN ?_ _ | refine kD ?_ | refine kA ?_ _)); exact BK164.out) hkp (fun hs_ => (fun e_ => (Kd.R_ne HO177.out BK164.out (by decide)) e_) hs_)); have n1_ := Aside0.mk (Kd.R_mono (ok' := fun k_ => some k_ ≠ (.slice Ao25 y178.length co25 : Value).ownBlock) (Kd.R_keptB ((Kd.R_apart' HO171.out (Kd.R_typed HO177.out) (by decide))) hkp (fun k_ hk_ hs_ => (hk_.2) hs_)) (fun k_ hk_ => hk_.1.1.2)); have n2_ := Aside0.mk (Kd.R_mono (ok' := fun k_ => some k_ ≠ (.slice Ao16 y169.length co16 : Value).ownBlock) (Kd.R_keptB ((Kd.R_apart' HO180.out (Kd.R_typed HO177.out) (by decide))) hkp (fun k_ hk_ hs_ => (hk_.2) hs_)) (fun k_ hk_ => hk_.1.1.2)); have n3_ := Aside0.mk (Kd.R_mono (ok' := fun k_ => True) ho0 (fun k_ hk_ => trivial)); have n4_ := Aside0.mk (hb); clear BK164; clear HO171; clear HO180; clear HB; clear HO177; have BK164 := n0_; have HO171 := n1_; have HO180 := n2_; have HO183 := n3_; have HB := n4_; clear n0_ n1_ n2_ n3_ n4_; (try clear hb); (try clear hkp); (try clear ho0); have hcz27_0 : w26.cell? ⟨gb164, 0, none⟩ = some (.slice A0_0 l0_0.length c0_0) := (kC BK164.out 0).trans rfl; have hcz27_1 : w26.cell? ⟨gb164, 1, none⟩ = some (.slice A0_1 l0_1.length c0_1) := (kC BK164.out 1).trans rfl; have hcz27_2 : w26.cell? ⟨gb164, 2, none⟩ = some (.slice A0_2 l0_2.length c0_2) := (kC BK164.out 2).trans rfl; have hcz27_3 : w26.cell? ⟨gb164, 3, none⟩ = some (.int .i64 a0_3) := (kC BK164.out 3).trans rfl; have hfz27_0 := kF BK164.out 0; have hfz27_1 := kF BK164.out 1; have hfz27_2 := kF BK164.out 2; have hfz27_3 := kF BK164.out 3))
  go_loopg [4, 36] k (fun kq v4 v36 w' => ∃ (x4_1 : List Int) (x36_1 : Int), v36 = .int .i64 x36_1 ∧ Aside0 (cE.l0 kq x4_1 l0_2 (l0_2.length : Int) x36_1 l0_0 l0_1 l0_2 a0_3 = some (r1, r2)) ∧ Aside0 (kq ≤ k) ∧ Aside0 (Kd.R (Kd.int .u8) 5 w' w.heap.size (fun _ => True) v4 x4_1) ∧ Aside0 (w'.heap[gb164]? = some (.cells #[(.slice A0_0 l0_0.length c0_0), (.slice A0_1 l0_1.length c0_1), (.slice A0_2 l0_2.length c0_2), .int .i64 a0_3] 26 (0, 0))) ∧ Aside0 (Below w.heap.size w w'))
  case atStart => exact ⟨(t181), (0), (by first | rfl | (simp; done) | (simp [*]; done)), H', ⟨Nat.le_refl _⟩, ⟨by (with_reducible repeat (first | apply Kd.R_alloc | apply Kd.R_drewN | apply Kd.R_drew)); exact HO183.out⟩, ⟨by (with_reducible repeat (first | refine kN ?_ _ | refine kD ?_ | refine kA ?_ _)); exact BK164.out⟩, ⟨by repeat (first | (with_reducible first | exact HB.out | apply bA | apply bN | apply bD | refine bS ?_ GE164.out) | exact HB.out)⟩⟩
  case round =>
   clear H'
   try clear hcz12_0
   try clear hcz12_1
   try clear hcz12_2
   try clear hcz12_3
   try clear hcz18_0
   try clear hcz18_1
   try clear hcz18_2
   try clear hcz18_3
   try clear hcz21_0
   try clear hcz21_1
   try clear hcz21_2
   try clear hcz21_3
   try clear hcz27_0
   try clear hcz27_1
   try clear hcz27_2
   try clear hcz27_3
   try clear hcz8_0
   try clear hcz8_1
   try clear hcz8_2
   try clear hcz8_3
   try clear hfz12_0
   try clear hfz12_1
   try clear hfz12_2
   try clear hfz12_3
   try clear hfz18_0
   try clear hfz18_1
   try clear hfz18_2
   try clear hfz18_3
   try clear hfz21_0
   try clear hfz21_1
   try clear hfz21_2
   try clear hfz21_3
   try clear hfz27_0
   try clear hfz27_1
   try clear hfz27_2
   try clear hfz27_3
   try clear hfz8_0
   try clear hfz8_1
   try clear hfz8_2
   try clear hfz8_3
   obtain ⟨x4_1, x36_1, rfl, HA, HK1, HO_4, BK164, HB⟩ := hrel
   cases gk with
   | zero => exact absurd HA.out (by simp [cE.l0])
   | succ k1 =>
    have H := HA.out
    clear HA
    simp only [cE.l0] at H
    by_cases c28 : x36_1 < (l0_2.length : Int)
    ·rw [if_pos c28] at H
     have c28b0 : decide (x36_1 < (l0_2.length : Int)) = true := decide_eq_true c28
     clear c28
     by_cases c29 : 0 ≤ x36_1
     ·rw [if_pos c29] at H
      have c29b0 : decide (0 ≤ x36_1) = true := decide_eq_true c29
      clear c29
      by_cases c30 : x36_1 < (l0_2.length : Int)
      ·rw [if_pos c30] at H
       have c30b0 : decide (x36_1 < (l0_2.length : Int)) = true := decide_eq_true c30
       clear c30
       obtain ⟨y185, hy185⟩ : ∃ y_ : List Int, y_ = (([((rdOf ByteArray.empty l0_2 x36_1).size : Int)] : List Int)) := ⟨_, rfl⟩
       replace H : ((code_put.f k1 x4_1 1 y185).bind fun t188 => (if t188.length + (rdOf ByteArray.empty l0_2 x36_1).size < 140737488355328 then (cE.l0 k1 (t188 ++ bytesOf (rdOf ByteArray.empty l0_2 x36_1)) l0_2 (l0_2.length : Int) (wrap64 (x36_1 + 1)) l0_0 l0_1 l0_2 a0_3) else (none))) = some (r1, r2) := by first | (rw [hy185]; with_reducible exact H) | (have H2_ := (Option.bind_some _ _).symm.trans H; rw [hy185]; with_reducible exact H2_) | (have H2_ := (Option.bind_some _ _).symm.trans H; with_reducible exact H2_) | with_reducible exact H | (rw [hy185]; exact H) | exact H
       have Ny185 := Aside0.mk hy185
       clear hy185
       replace H := Option.bind_eq_some_iff.mp H
       obtain ⟨t188, A310, H⟩ := H
       replace H : (if t188.length + (rdOf ByteArray.empty l0_2 x36_1).size < 140737488355328 then (cE.l0 k1 (t188 ++ bytesOf (rdOf ByteArray.empty l0_2 x36_1)) l0_2 (l0_2.length : Int) (wrap64 (x36_1 + 1)) l0_0 l0_1 l0_2 a0_3) else (none)) = some (r1, r2) := H
       have A31 := Aside0.mk A310
       clear A310
       by_cases c32 : t188.length + (rdOf ByteArray.empty l0_2 x36_1).size < 140737488355328
       ·rw [if_pos c32] at H
        have LMc32 := Aside0.mk c32
        clear c32
        obtain ⟨y191, hy191⟩ : ∃ y_ : List Int, y_ = (t188 ++ bytesOf (rdOf ByteArray.empty l0_2 x36_1)) := ⟨_, rfl⟩
        replace H : (cE.l0 k1 y191 l0_2 (l0_2.length : Int) (wrap64 (x36_1 + 1)) l0_0 l0_1 l0_2 a0_3) = some (r1, r2) := by first | (rw [hy191]; with_reducible exact H) | (have H2_ := (Option.bind_some _ _).symm.trans H; rw [hy191]; with_reducible exact H2_) | (have H2_ := (Option.bind_some _ _).symm.trans H; with_reducible exact H2_) | with_reducible exact H | (rw [hy191]; exact H) | exact H
        have Ny191 := Aside0.mk hy191
        clear hy191
        have H' := Aside0.mk H
        clear H
        have p184 : 0 ≤ (x36_1 : Int) := of_decide_eq_true (by first | (with_reducible assumption) | assumption)
        have q184 : x36_1 < (l0_2.length : Int) := of_decide_eq_true (by first | (with_reducible assumption) | assumption)
        obtain ⟨ad184, e184, hx184_0⟩ := Kd.at_string HR0_2.out x36_1 p184 q184
        cases e184
        replace hx184_0 := (HB.out.cell (World.block_lt_of_cell? w _ hx184_0)).trans hx184_0
        replace p184 := eq_true p184
        replace q184 := eq_true q184
        go_wp2_with (first | ((with_reducible refine gate_dst (N := 43) rfl ?_); refine Kd.R_lit (Kd.int .i64) _ 3 ?hg (N := 43) ?hd (xs := ([((rdOf ByteArray.empty l0_2 x36_1).size : Int)] : List Int)) (inner := [.int .i64 ((rdOf ByteArray.empty l0_2 x36_1).size : Int)]) (ok := fun _ => True) (okp := fun _ => True) ?hr ?hp (fun _ hk => hk) trivial (Below.refl _ _) (Nat.le_refl _) (by simp) ?_; (case hd => rfl); (case hg => rfl); (case hr => first | (go_simp; done) | (go_simp; rfl)); (case hp => exact (Reps.one (show Kd.M (Kd.int .i64) _ _ _ ((rdOf ByteArray.empty l0_2 x36_1).size : Int) [.int .i64 ((rdOf ByteArray.empty l0_2 x36_1).size : Int)] from rfl) (Reps.none _ _))); intro v186 w33 ho34 hb hg_ hnew_; clear hg_ hnew_; (first | rw [← Ny185.out] at ho34 | (simp only [Int.reduceToNat] at ho34; rw [← Ny185.out] at ho34)); have n0_ := Aside0.mk (Kd.R_below (by (with_reducible repeat (first | apply Kd.R_alloc | apply Kd.R_drewN | apply Kd.R_drew)); exact HO_4.out) hb); have n1_ := Aside0.mk (Kd.R_lower ho34 (bZ (by repeat (first | (with_reducible first | exact HB.out | apply bA | apply bN | apply bD | refine bS ?_ GE164.out) | exact HB.out)))); have n2_ := Aside0.mk (kB (g := gb164) (o := .cells #[.slice A0_0 l0_0.length c0_0, .slice A0_1 l0_1.length c0_1, .slice (some ad184) l0_2.length c0_2, .int .i64 a0_3] 26 (0, 0)) (by (with_reducible repeat (first | refine kN ?_ _ | refine kD ?_ | refine kA ?_ _)); exact BK164.out) hb); have n3_ := Aside0.mk (bT (by repeat (first | (with_reducible first | exact HB.out | apply bA | apply bN | apply bD | refine bS ?_ GE164.out) | exact HB.out)) hb); clear HO_4; clear BK164; clear HB; have HO_4 := n0_; have HO187 := n1_; have BK164 := n2_; have HB := n3_; clear n0_ n1_ n2_ n3_; clear hb ho34; obtain ⟨Ao35, co35, eo35⟩ := Kd.R_slice HO_4.out; subst eo35; obtain ⟨Ao36, co36, eo36⟩ := Kd.R_slice HO187.out; subst eo36) | ((with_reducible refine gate_callee (f := 22) rfl ?_); refine goesL_ (some 44) rfl rfl Try.func22 (by kernel_rfl) rfl #[.slice Ao35 x4_1.length co35, .int .i64 1, .slice Ao36 y185.length co36] rfl (by (try simp only [List.map_toArray, List.map_cons, List.map_nil]); first | done | rfl | (simp only [List.length_drop, List.length_take]; rfl)) ?_; (with_reducible refine (code_put.calls k1 (fun k_ => some k_ = (.slice Ao35 x4_1.length co35 : Value).ownBlock) (.slice Ao35 x4_1.length co35) x4_1 1 _ _ y185 t188 w _ ?side1 ?side2 ?side3 ?side4 A31.out).mono ?_); (case side1 => repeat (first | (with_reducible first | exact HB.out | apply bA | apply bN | apply bD | refine bS ?_ GE164.out) | exact HB.out)); (case side2 => exact Kd.R_tight rfl HO_4.out); (case side3 => exact Kd.C_kept_own ((Kd.R_apart' HO187.out (Kd.R_typed HO_4.out) (by decide))) (fun k_ hk_ hs_ => (hk_.2) hs_)); (case side4 => exact (Kd.R_reads' HO187.out).2.1); rintro e w37 ⟨v189, rfl, ho0, hb, hkp⟩; refine ⟨_, rfl, ?_⟩; have n0_ := Aside0.mk (blk_kept (by (with_reducible repeat (first | refine kN ?_ _ | refine kD ?_ | refine kA ?_ _)); exact BK164.out) hkp (fun hs_ => (fun e_ => (Kd.R_ne HO_4.out BK164.out (by decide)) e_) hs_)); have n1_ := Aside0.mk (Kd.R_mono (ok' := fun k_ => True) (Kd.R_keptB ((Kd.R_apart' HO187.out (Kd.R_typed HO_4.out) (by decide))) hkp (fun k_ hk_ hs_ => (hk_.2) hs_)) (fun k_ hk_ => trivial)); have n2_ := Aside0.mk (Kd.R_mono (ok' := fun k_ => True) ho0 (fun k_ hk_ => trivial)); have n3_ := Aside0.mk (hb); clear BK164; clear HO187; clear HB; clear HO_4; have BK164 := n0_; have HO187 := n1_; have HO190 := n2_; have HB := n3_; clear n0_ n1_ n2_ n3_; (try clear hb); (try clear hkp); (try clear ho0)) | (at_builtin; refine print_append_str (w0 := w) w.heap.size rfl (.tmp 44) _ 28 9 5 rfl Try.underlying28 Try.underlying9 info5 v189 t188 (rdOf ByteArray.empty l0_2 x36_1) rfl rfl ?aO ?aB ?aS ?aL ?_; (case aB => exact (by repeat (first | (with_reducible first | exact HB.out | apply bA | apply bN | apply bD | refine bS ?_ GE164.out) | exact HB.out))); (case aO => exact (Kd.own_of_R (by (with_reducible repeat (first | apply Kd.R_alloc | apply Kd.R_drewN | apply Kd.R_drew)); exact HO190.out))); (case aS => exact (bZ (by repeat (first | (with_reducible first | exact HB.out | apply bA | apply bN | apply bD | refine bS ?_ GE164.out) | exact HB.out)))); (case aL => have := LMc32.out; omega); intro v192 w38 ho0 hb hg; have ho := Kd.R_of_own (h1 := fun _ => rfl) (ok := fun _ => True) ho0 (fun _ _ => trivial); clear ho0; have hat := True.intro; rw [← Ny191.out] at ho; change Kd.R (Kd.int .u8) 5 w38 w.heap.size (fun _ => True) v192 y191 at ho; have n0_ := Aside0.mk (blk_grown (g := gb164) (o := .cells #[.slice A0_0 l0_0.length c0_0, .slice A0_1 l0_1.length c0_1, .slice (some ad184) l0_2.length c0_2, .int .i64 a0_3] 26 (0, 0)) (by (with_reducible repeat (first | refine kN ?_ _ | refine kD ?_ | refine kA ?_ _)); exact BK164.out) hg (Kd.R_ne HO190.out BK164.out (by decide))); have n1_ := Aside0.mk (Kd.R_over' (by (with_reducible repeat (first | apply Kd.R_alloc | apply Kd.R_drewN | apply Kd.R_drew)); exact HO187.out) (Kd.R_typed (by (with_reducible repeat (first | apply Kd.R_alloc | apply Kd.R_drewN | apply Kd.R_drew)); exact HO190.out)) (by decide) hg); have n2_ := Aside0.mk (hb); have n3_ := Aside0.mk (ho); clear BK164; clear HO187; clear HB; clear HO190; have BK164 := n0_; have HO187 := n1_; have HB := n2_; have HO193 := n3_; clear n0_ n1_ n2_ n3_; clear ho hb hg hat))
        go_roundg k1
        case measure => have := HK1.out; omega
        case rel => exact ⟨(y191), (wrap64 (x36_1 + 1)), (by first | rfl | (simp; done) | (simp [*]; done)), H', ⟨by have := HK1.out; omega⟩, ⟨by (with_reducible repeat (first | apply Kd.R_alloc | apply Kd.R_drewN | apply Kd.R_drew)); exact HO193.out⟩, ⟨by (with_reducible repeat (first | refine kN ?_ _ | refine kD ?_ | refine kA ?_ _)); exact BK164.out⟩, ⟨by repeat (first | (with_reducible first | exact HB.out | apply bA | apply bN | apply bD | refine bS ?_ GE164.out) | exact HB.out)⟩⟩
       rw [if_neg c32] at H
       exact absurd H (by simp)
      rw [if_neg c30] at H
      exact absurd H (by simp)
     rw [if_neg c29] at H
     exact absurd H (by simp)
    rw [if_neg c28] at H
    have c28b0 : decide (x36_1 < (l0_2.length : Int)) = false := decide_eq_false c28
    clear c28
    obtain ⟨y194, hy194⟩ : ∃ y_ : List Int, y_ = (([(l0_0.length : Int)] : List Int)) := ⟨_, rfl⟩
    replace H : ((code_put.f k1 x4_1 1 y194).bind fun t197 => (cE.l1 k1 t197 l0_0 (l0_0.length : Int) 0)) = some (r1, r2) := by first | (rw [hy194]; with_reducible exact H) | (have H2_ := (Option.bind_some _ _).symm.trans H; rw [hy194]; with_reducible exact H2_) | (have H2_ := (Option.bind_some _ _).symm.trans H; with_reducible exact H2_) | with_reducible exact H | (rw [hy194]; exact H) | exact H
    have Ny194 := Aside0.mk hy194
    clear hy194
    replace H := Option.bind_eq_some_iff.mp H
    obtain ⟨t197, A390, H⟩ := H
    replace H : (cE.l1 k1 t197 l0_0 (l0_0.length : Int) 0) = some (r1, r2) := H
    have A39 := Aside0.mk A390
    clear A390
    have H' := Aside0.mk H
    clear H
    have hcz40_0 : wr.cell? ⟨gb164, 0, none⟩ = some (.slice A0_0 l0_0.length c0_0) := (kC BK164.out 0).trans rfl
    have hcz40_1 : wr.cell? ⟨gb164, 1, none⟩ = some (.slice A0_1 l0_1.length c0_1) := (kC BK164.out 1).trans rfl
    have hcz40_2 : wr.cell? ⟨gb164, 2, none⟩ = some (.slice A0_2 l0_2.length c0_2) := (kC BK164.out 2).trans rfl
    have hcz40_3 : wr.cell? ⟨gb164, 3, none⟩ = some (.int .i64 a0_3) := (kC BK164.out 3).trans rfl
    have hfz40_0 := kF BK164.out 0
    have hfz40_1 := kF BK164.out 1
    have hfz40_2 := kF BK164.out 2
    have hfz40_3 := kF BK164.out 3
    go_wp2_with (first | ((with_reducible refine gate_dst (N := 52) rfl ?_); refine Kd.R_lit (Kd.int .i64) _ 3 ?hg (N := 52) ?hd (xs := ([(l0_0.length : Int)] : List Int)) (inner := [.int .i64 (l0_0.length : Int)]) (ok := fun _ => True) (okp := fun _ => True) ?hr ?hp (fun _ hk => hk) trivial (Below.refl _ _) (Nat.le_refl _) (by simp) ?_; (case hd => rfl); (case hg => rfl); (case hr => first | (go_simp; done) | (go_simp; rfl)); (case hp => exact (Reps.one (show Kd.M (Kd.int .i64) _ _ _ (l0_0.length : Int) [.int .i64 (l0_0.length : Int)] from rfl) (Reps.none _ _))); intro v195 w41 ho42 hb hg_ hnew_; clear hg_ hnew_; (first | rw [← Ny194.out] at ho42 | (simp only [Int.reduceToNat] at ho42; rw [← Ny194.out] at ho42)); have n0_ := Aside0.mk (Kd.R_below (by (with_reducible repeat (first | apply Kd.R_alloc | apply Kd.R_drewN | apply Kd.R_drew)); exact HO_4.out) hb); have n1_ := Aside0.mk (Kd.R_lower ho42 (bZ (by repeat (first | (with_reducible first | exact HB.out | apply bA | apply bN | apply bD | refine bS ?_ GE164.out) | exact HB.out)))); have n2_ := Aside0.mk (kB (g := gb164) (o := .cells #[.slice A0_0 l0_0.length c0_0, .slice A0_1 l0_1.length c0_1, .slice A0_2 l0_2.length c0_2, .int .i64 a0_3] 26 (0, 0)) (by (with_reducible repeat (first | refine kN ?_ _ | refine kD ?_ | refine kA ?_ _)); exact BK164.out) hb); have n3_ := Aside0.mk (bT (by repeat (first | (with_reducible first | exact HB.out | apply bA | apply bN | apply bD | refine bS ?_ GE164.out) | exact HB.out)) hb); clear HO_4; clear BK164; clear HB; have HO_4 := n0_; have HO196 := n1_; have BK164 := n2_; have HB := n3_; clear n0_ n1_ n2_ n3_; clear hb ho42; obtain ⟨Ao43, co43, eo43⟩ := Kd.R_slice HO_4.out; subst eo43; obtain ⟨Ao44, co44, eo44⟩ := Kd.R_slice HO196.out; subst eo44) | ((with_reducible refine gate_callee (f := 22) rfl ?_); refine goesL_ (some 53) rfl rfl Try.func22 (by kernel_rfl) rfl #[.slice Ao43 x4_1.length co43, .int .i64 1, .slice Ao44 y194.length co44] rfl (by (try simp only [List.map_toArray, List.map_cons, List.map_nil]); first | done | rfl | (simp only [List.length_drop, List.length_take]; rfl)) ?_; (with_reducible refine (code_put.calls k1 (fun k_ => some k_ = (.slice Ao43 x4_1.length co43 : Value).ownBlock) (.slice Ao43 x4_1.length co43) x4_1 1 _ _ y194 t197 w _ ?side1 ?side2 ?side3 ?side4 A39.out).mono ?_); (case side1 => repeat (first | (with_reducible first | exact HB.out | apply bA | apply bN | apply bD | refine bS ?_ GE164.out) | exact HB.out)); (case side2 => exact Kd.R_tight rfl HO_4.out); (case side3 => exact Kd.C_kept_own ((Kd.R_apart' HO196.out (Kd.R_typed HO_4.out) (by decide))) (fun k_ hk_ hs_ => (hk_.2) hs_)); (case side4 => exact (Kd.R_reads' HO196.out).2.1); rintro e w45 ⟨v198, rfl, ho0, hb, hkp⟩; refine ⟨_, rfl, ?_⟩; have n0_ := Aside0.mk (blk_kept (by (with_reducible repeat (first | refine kN ?_ _ | refine kD ?_ | refine kA ?_ _)); exact BK164.out) hkp (fun hs_ => (fun e_ => (Kd.R_ne HO_4.out BK164.out (by decide)) e_) hs_)); have n1_ := Aside0.mk (Kd.R_mono (ok' := fun k_ => True) (Kd.R_keptB ((Kd.R_apart' HO196.out (Kd.R_typed HO_4.out) (by decide))) hkp (fun k_ hk_ hs_ => (hk_.2) hs_)) (fun k_ hk_ => trivial)); have n2_ := Aside0.mk (Kd.R_mono (ok' := fun k_ => True) ho0 (fun k_ hk_ => trivial)); have n3_ := Aside0.mk (hb); clear BK164; clear HO196; clear HB; clear HO_4; have BK164 := n0_; have HO196 := n1_; have HO199 := n2_; have HB := n3_; clear n0_ n1_ n2_ n3_; (try clear hb); (try clear hkp); (try clear ho0); have hcz46_0 : w45.cell? ⟨gb164, 0, none⟩ = some (.slice A0_0 l0_0.length c0_0) := (kC BK164.out 0).trans rfl; have hcz46_1 : w45.cell? ⟨gb164, 1, none⟩ = some (.slice A0_1 l0_1.length c0_1) := (kC BK164.out 1).trans rfl; have hcz46_2 : w45.cell? ⟨gb164, 2, none⟩ = some (.slice A0_2 l0_2.length c0_2) := (kC BK164.out 2).trans rfl; have hcz46_3 : w45.cell? ⟨gb164, 3, none⟩ = some (.int .i64 a0_3) := (kC BK164.out 3).trans rfl; have hfz46_0 := kF BK164.out 0; have hfz46_1 := kF BK164.out 1; have hfz46_2 := kF BK164.out 2; have hfz46_3 := kF BK164.out 3))
    go_loopg [4, 57] k1 (fun kq v4 v57 w' => ∃ (x4_2 : List Int) (x57_2 : Int), v57 = .int .i64 x57_2 ∧ Aside0 (cE.l1 kq x4_2 l0_0 (l0_0.length : Int) x57_2 = some (r1, r2)) ∧ Aside0 (kq ≤ k1) ∧ Aside0 (Kd.R (Kd.int .u8) 5 w' w.heap.size (fun _ => True) v4 x4_2) ∧ Aside0 (w'.heap[gb164]? = some (.cells #[(.slice A0_0 l0_0.length c0_0), (.slice A0_1 l0_1.length c0_1), (.slice A0_2 l0_2.length c0_2), .int .i64 a0_3] 26 (0, 0))) ∧ Aside0 (Below w.heap.size w w'))
    case atStart => exact ⟨(t197), (0), (by first | rfl | (simp; done) | (simp [*]; done)), H', ⟨Nat.le_refl _⟩, ⟨by (with_reducible repeat (first | apply Kd.R_alloc | apply Kd.R_drewN | apply Kd.R_drew)); exact HO199.out⟩, ⟨by (with_reducible repeat (first | refine kN ?_ _ | refine kD ?_ | refine kA ?_ _)); exact BK164.out⟩, ⟨by repeat (first | (with_reducible first | exact HB.out | apply bA | apply bN | apply bD | refine bS ?_ GE164.out) | exact HB.out)⟩⟩
    case round =>
     clear H'
     try clear c28b0
     try clear hcz40_0
     try clear hcz40_1
     try clear hcz40_2
     try clear hcz40_3
     try clear hcz46_0
     try clear hcz46_1
     try clear hcz46_2
     try clear hcz46_3
     try clear hfz40_0
     try clear hfz40_1
     try clear hfz40_2
     try clear hfz40_3
     try clear hfz46_0
     try clear hfz46_1
     try clear hfz46_2
     try clear hfz46_3
     obtain ⟨x4_2, x57_2, rfl, HA, HK2, HO_4, BK164, HB⟩ := hrel
     cases gk with
     | zero => exact absurd HA.out (by simp [cE.l1])
     | succ k2 =>
      have H := HA.out
      clear HA
      simp only [cE.l1] at H
      by_cases c47 : x57_2 < (l0_0.length : Int)
      ·rw [if_pos c47] at H
       have c47b0 : decide (x57_2 < (l0_0.length : Int)) = true := decide_eq_true c47
       clear c47
       by_cases c48 : 0 ≤ x57_2
       ·rw [if_pos c48] at H
        have c48b0 : decide (0 ≤ x57_2) = true := decide_eq_true c48
        clear c48
        by_cases c49 : x57_2 < (l0_0.length : Int)
        ·rw [if_pos c49] at H
         have c49b0 : decide (x57_2 < (l0_0.length : Int)) = true := decide_eq_true c49
         clear c49
         obtain ⟨y202, hy202⟩ : ∃ y_ : List Int, y_ = (([(r40 l0_0 x57_2).f0, (r40 l0_0 x57_2).f1, (r40 l0_0 x57_2).f2] : List Int)) := ⟨_, rfl⟩
         replace H : ((code_put.f k2 x4_2 1 y202).bind fun t205 => ((code_put.f k2 t205 2 (([(((r40 l0_0 x57_2).f3).length : Int)] : List Int))).bind fun t211 => (cE.l2 k2 t211 l0_0 (l0_0.length : Int) x57_2 ((r40 l0_0 x57_2).f3) (((r40 l0_0 x57_2).f3).length : Int) 0))) = some (r1, r2) := by first | (rw [hy202]; with_reducible exact H) | (have H2_ := (Option.bind_some _ _).symm.trans H; rw [hy202]; with_reducible exact H2_) | (have H2_ := (Option.bind_some _ _).symm.trans H; with_reducible exact H2_) | with_reducible exact H | (rw [hy202]; exact H) | exact H
         have Ny202 := Aside0.mk hy202
         clear hy202
         replace H := Option.bind_eq_some_iff.mp H
         obtain ⟨t205, A500, H⟩ := H
         replace H : ((code_put.f k2 t205 2 (([(((r40 l0_0 x57_2).f3).length : Int)] : List Int))).bind fun t211 => (cE.l2 k2 t211 l0_0 (l0_0.length : Int) x57_2 ((r40 l0_0 x57_2).f3) (((r40 l0_0 x57_2).f3).length : Int) 0)) = some (r1, r2) := H
         have A50 := Aside0.mk A500
         clear A500
         obtain ⟨y208, hy208⟩ : ∃ y_ : List Int, y_ = (([(((r40 l0_0 x57_2).f3).length : Int)] : List Int)) := ⟨_, rfl⟩
         replace H : ((code_put.f k2 t205 2 y208).bind fun t211 => (cE.l2 k2 t211 l0_0 (l0_0.length : Int) x57_2 ((r40 l0_0 x57_2).f3) (((r40 l0_0 x57_2).f3).length : Int) 0)) = some (r1, r2) := by first | (rw [hy208]; with_reducible exact H) | (have H2_ := (Option.bind_some _ _).symm.trans H; rw [hy208]; with_reducible exact H2_) | (have H2_ := (Option.bind_some _ _).symm.trans H; with_reducible exact H2_) | with_reducible exact H | (rw [hy208]; exact H) | exact H
         have Ny208 := Aside0.mk hy208
         clear hy208
         replace H := Option.bind_eq_some_iff.mp H
         obtain ⟨t211, A510, H⟩ := H
         replace H : (cE.l2 k2 t211 l0_0 (l0_0.length : Int) x57_2 ((r40 l0_0 x57_2).f3) (((r40 l0_0 x57_2).f3).length : Int) 0) = some (r1, r2) := H
         have A51 := Aside0.mk A510
         clear A510
         have H' := Aside0.mk H
         clear H
         have p200 : 0 ≤ (x57_2 : Int) := of_decide_eq_true (by first | (with_reducible assumption) | assumption)
         have q200 : x57_2 < (l0_0.length : Int) := of_decide_eq_true (by first | (with_reducible assumption) | assumption)
         obtain ⟨ad200, A200_3, c200_3, e200, hx200_0, hx200_1, hx200_2, hx200_3, hl200_3, hi200_3⟩ := at_T40 HR0_0.out x57_2 p200 q200
         cases e200
         replace hx200_0 := (HB.out.cell (World.block_lt_of_cell? w _ hx200_0)).trans hx200_0
         replace hx200_1 := (HB.out.cell (World.block_lt_of_cell? w _ hx200_1)).trans hx200_1
         replace hx200_2 := (HB.out.cell (World.block_lt_of_cell? w _ hx200_2)).trans hx200_2
         replace hx200_3 := (HB.out.cell (World.block_lt_of_cell? w _ hx200_3)).trans hx200_3
         have HR200_3 := Aside0.mk hi200_3
         have HC200_3 := Aside0.mk hl200_3
         clear hi200_3 hl200_3
         replace p200 := eq_true p200
         replace q200 := eq_true q200
         go_wp2_with (first | ((with_reducible refine gate_dst (N := 8) rfl ?_); refine box_event ?hg (N := 8) ?hd (cs := #[.int .i64 0, .int .i64 0, .int .i64 0, .slice none 0 0]) (t := 40) ?hr ?_; (case hd => rfl); (case hg => rfl); (case hr => first | (go_simp; done) | (go_simp; rfl)); intro gb201 hg w52 hbox hb; have n0_ := Aside0.mk (Kd.R_below (by (with_reducible repeat (first | apply Kd.R_alloc | apply Kd.R_drewN | apply Kd.R_drew)); exact HO_4.out) hb); have n1_ := Aside0.mk (kB (g := gb164) (o := .cells #[.slice (some ad200) l0_0.length c0_0, .slice A0_1 l0_1.length c0_1, .slice A0_2 l0_2.length c0_2, .int .i64 a0_3] 26 (0, 0)) (by (with_reducible repeat (first | refine kN ?_ _ | refine kD ?_ | refine kA ?_ _)); exact BK164.out) hb); have n2_ := Aside0.mk (bT (by repeat (first | (with_reducible first | exact HB.out | apply bA | apply bN | apply bD | refine bS ?_ GE164.out) | exact HB.out)) hb); have n3_ := Aside0.mk (hbox); have n4_ := Aside0.mk ((by rw [hg]; exact (bZ (by repeat (first | (with_reducible first | exact HB.out | apply bA | apply bN | apply bD | refine bS ?_ GE164.out) | exact HB.out))) : w.heap.size ≤ gb201)); have n5_ := Aside0.mk ((by rw [hg]; exact (bZ (by repeat (first | (with_reducible first | exact HB.out | apply bA | apply bN | apply bD | refine bS ?_ GE164.out) | exact HB.out))) : w.heap.size ≤ gb201)); have n6_ := Aside0.mk ((by rw [hg]; exact Nat.ne_of_lt (blk_lt (g := gb164) (o := .cells #[.slice (some ad200) l0_0.length c0_0, .slice A0_1 l0_1.length c0_1, .slice A0_2 l0_2.length c0_2, .int .i64 a0_3] 26 (0, 0)) (by (with_reducible repeat (first | refine kN ?_ _ | refine kD ?_ | refine kA ?_ _)); exact BK164.out)) : gb164 ≠ gb201)); have n7_ := Aside0.mk ((by rw [hg]; exact Nat.ne_of_gt (blk_lt (g := gb164) (o := .cells #[.slice (some ad200) l0_0.length c0_0, .slice A0_1 l0_1.length c0_1, .slice A0_2 l0_2.length c0_2, .int .i64 a0_3] 26 (0, 0)) (by (with_reducible repeat (first | refine kN ?_ _ | refine kD ?_ | refine kA ?_ _)); exact BK164.out)) : gb201 ≠ gb164)); clear HO_4; clear BK164; clear HB; have HO_4 := n0_; have BK164 := n1_; have HB := n2_; have BK201 := n3_; have GW201 := n4_; have GE201 := n5_; have NB164_201 := n6_; have NB201_164 := n7_; clear n0_ n1_ n2_ n3_ n4_ n5_ n6_ n7_; clear hb hbox hg; have hnb53 := NB201_164.out; have hnc53 := NB164_201.out; have hcz54_0 : w52.cell? ⟨gb201, 0, none⟩ = some (.int .i64 0) := (kC BK201.out 0).trans rfl; have hcz54_1 : w52.cell? ⟨gb201, 1, none⟩ = some (.int .i64 0) := (kC BK201.out 1).trans rfl; have hcz54_2 : w52.cell? ⟨gb201, 2, none⟩ = some (.int .i64 0) := (kC BK201.out 2).trans rfl; have hcz54_3 : w52.cell? ⟨gb201, 3, none⟩ = some (.slice none 0 0) := (kC BK201.out 3).trans rfl; have hfz54_0 := kF BK201.out 0; have hfz54_1 := kF BK201.out 1; have hfz54_2 := kF BK201.out 2; have hfz54_3 := kF BK201.out 3) | ((with_reducible refine gate_dst (N := 68) rfl ?_); refine Kd.R_lit (Kd.int .i64) _ 3 ?hg (N := 68) ?hd (xs := ([(r40 l0_0 x57_2).f0, (r40 l0_0 x57_2).f1, (r40 l0_0 x57_2).f2] : List Int)) (inner := [.int .i64 ((r40 l0_0 x57_2).f0), .int .i64 ((r40 l0_0 x57_2).f1), .int .i64 ((r40 l0_0 x57_2).f2)]) (ok := fun _ => True) (okp := fun _ => True) ?hr ?hp (fun _ hk => hk) trivial (Below.refl _ _) (Nat.le_refl _) (by simp) ?_; (case hd => rfl); (case hg => rfl); (case hr => first | (go_simp; done) | (go_simp; rfl)); (case hp => exact (Reps.one (show Kd.M (Kd.int .i64) _ _ _ ((r40 l0_0 x57_2).f0) [.int .i64 ((r40 l0_0 x57_2).f0)] from rfl) (Reps.one (show Kd.M (Kd.int .i64) _ _ _ ((r40 l0_0 x57_2).f1) [.int .i64 ((r40 l0_0 x57_2).f1)] from rfl) (Reps.one (show Kd.M (Kd.int .i64) _ _ _ ((r40 l0_0 x57_2).f2) [.int .i64 ((r40 l0_0 x57_2).f2)] from rfl) (Reps.none _ _))))); intro v203 w55 ho56 hb hg_ hnew_; clear hg_ hnew_; (first | rw [← Ny202.out] at ho56 | (simp only [Int.reduceToNat] at ho56; rw [← Ny202.out] at ho56)); have n0_ := Aside0.mk (Kd.R_below (by (with_reducible repeat (first | apply Kd.R_alloc | apply Kd.R_drewN | apply Kd.R_drew)); exact (Kd.R_mono (Kd.R_far (p := ⟨gb201, 3, none⟩) (Kd.R_far (p := ⟨gb201, 2, none⟩) (Kd.R_far (p := ⟨gb201, 1, none⟩) (Kd.R_far (p := ⟨gb201, 0, none⟩) (Kd.R_types HO_4.out BK201.out (by decide)) (fun _ hk => hk.2) (.int .i64 ((r40 l0_0 x57_2).f0))) (fun _ hk => hk.2) (.int .i64 ((r40 l0_0 x57_2).f1))) (fun _ hk => hk.2) (.int .i64 ((r40 l0_0 x57_2).f2))) (fun _ hk => hk.2) (.slice A200_3 ((r40 l0_0 x57_2).f3).length c200_3)) (fun _ h_ => h_.1))) hb); have n1_ := Aside0.mk (Kd.R_lower ho56 (bZ (by repeat (first | (with_reducible first | exact HB.out | apply bA | apply bN | apply bD | refine bS ?_ GE164.out | refine bS ?_ GE201.out) | exact HB.out)))); have n2_ := Aside0.mk (kB (g := gb164) (o := .cells #[.slice (some ad200) l0_0.length c0_0, .slice A0_1 l0_1.length c0_1, .slice A0_2 l0_2.length c0_2, .int .i64 a0_3] 26 (0, 0)) (by (with_reducible repeat (first | refine kN ?_ _ | refine kD ?_ | refine kA ?_ _)); refine blk_far ?_ NB164_201.out _; (with_reducible repeat (first | refine kN ?_ _ | refine kD ?_ | refine kA ?_ _)); refine blk_far ?_ NB164_201.out _; (with_reducible repeat (first | refine kN ?_ _ | refine kD ?_ | refine kA ?_ _)); refine blk_far ?_ NB164_201.out _; (with_reducible repeat (first | refine kN ?_ _ | refine kD ?_ | refine kA ?_ _)); refine blk_far ?_ NB164_201.out _; (with_reducible repeat (first | refine kN ?_ _ | refine kD ?_ | refine kA ?_ _)); exact BK164.out) hb); have n3_ := Aside0.mk (kB (g := gb201) (o := .cells #[.int .i64 ((r40 l0_0 x57_2).f0), .int .i64 ((r40 l0_0 x57_2).f1), .int .i64 ((r40 l0_0 x57_2).f2), .slice A200_3 ((r40 l0_0 x57_2).f3).length c200_3] 40 (0, 0)) (by (with_reducible repeat (first | refine kN ?_ _ | refine kD ?_ | refine kA ?_ _)); refine kP (cs := #[.int .i64 ((r40 l0_0 x57_2).f0), .int .i64 ((r40 l0_0 x57_2).f1), .int .i64 ((r40 l0_0 x57_2).f2), .slice none 0 0]) ?_ 3 _ rfl; (with_reducible repeat (first | refine kN ?_ _ | refine kD ?_ | refine kA ?_ _)); refine kP (cs := #[.int .i64 ((r40 l0_0 x57_2).f0), .int .i64 ((r40 l0_0 x57_2).f1), .int .i64 0, .slice none 0 0]) ?_ 2 _ rfl; (with_reducible repeat (first | refine kN ?_ _ | refine kD ?_ | refine kA ?_ _)); refine kP (cs := #[.int .i64 ((r40 l0_0 x57_2).f0), .int .i64 0, .int .i64 0, .slice none 0 0]) ?_ 1 _ rfl; (with_reducible repeat (first | refine kN ?_ _ | refine kD ?_ | refine kA ?_ _)); refine kP (cs := #[.int .i64 0, .int .i64 0, .int .i64 0, .slice none 0 0]) ?_ 0 _ rfl; (with_reducible repeat (first | refine kN ?_ _ | refine kD ?_ | refine kA ?_ _)); exact BK201.out) hb); have n4_ := Aside0.mk (bT (by repeat (first | (with_reducible first | exact HB.out | apply bA | apply bN | apply bD | refine bS ?_ GE164.out | refine bS ?_ GE201.out) | exact HB.out)) hb); clear HO_4; clear BK164; clear BK201; clear HB; have HO_4 := n0_; have HO204 := n1_; have BK164 := n2_; have BK201 := n3_; have HB := n4_; clear n0_ n1_ n2_ n3_ n4_; clear hb ho56; obtain ⟨Ao57, co57, eo57⟩ := Kd.R_slice HO_4.out; subst eo57; obtain ⟨Ao58, co58, eo58⟩ := Kd.R_slice HO204.out; subst eo58) | ((with_reducible refine gate_callee (f := 22) rfl ?_); refine goesL_ (some 69) rfl rfl Try.func22 (by kernel_rfl) rfl #[.slice Ao57 x4_2.length co57, .int .i64 1, .slice Ao58 y202.length co58] rfl (by (try simp only [List.map_toArray, List.map_cons, List.map_nil]); first | done | rfl | (simp only [List.length_drop, List.length_take]; rfl)) ?_; (with_reducible refine (code_put.calls k2 (fun k_ => some k_ = (.slice Ao57 x4_2.length co57 : Value).ownBlock) (.slice Ao57 x4_2.length co57) x4_2 1 _ _ y202 t205 w _ ?side1 ?side2 ?side3 ?side4 A50.out).mono ?_); (case side1 => repeat (first | (with_reducible first | exact HB.out | apply bA | apply bN | apply bD | refine bS ?_ GE164.out | refine bS ?_ GE201.out) | exact HB.out)); (case side2 => exact Kd.R_tight rfl HO_4.out); (case side3 => exact Kd.C_kept_own ((Kd.R_apart' HO204.out (Kd.R_typed HO_4.out) (by decide))) (fun k_ hk_ hs_ => (hk_.2) hs_)); (case side4 => exact (Kd.R_reads' HO204.out).2.1); rintro e w59 ⟨v206, rfl, ho0, hb, hkp⟩; refine ⟨_, rfl, ?_⟩; have n0_ := Aside0.mk (blk_kept (by (with_reducible repeat (first | refine kN ?_ _ | refine kD ?_ | refine kA ?_ _)); exact BK164.out) hkp (fun hs_ => (fun e_ => (Kd.R_ne HO_4.out BK164.out (by decide)) e_) hs_)); have n1_ := Aside0.mk (blk_kept (by (with_reducible repeat (first | refine kN ?_ _ | refine kD ?_ | refine kA ?_ _)); exact BK201.out) hkp (fun hs_ => (fun e_ => (Kd.R_ne HO_4.out BK201.out (by decide)) e_) hs_)); have n2_ := Aside0.mk (Kd.R_mono (ok' := fun k_ => True) (Kd.R_keptB ((Kd.R_apart' HO204.out (Kd.R_typed HO_4.out) (by decide))) hkp (fun k_ hk_ hs_ => (hk_.2) hs_)) (fun k_ hk_ => trivial)); have n3_ := Aside0.mk (Kd.R_mono (ok' := fun k_ => True) ho0 (fun k_ hk_ => trivial)); have n4_ := Aside0.mk (hb); clear BK164; clear BK201; clear HO204; clear HB; clear HO_4; have BK164 := n0_; have BK201 := n1_; have HO204 := n2_; have HO207 := n3_; have HB := n4_; clear n0_ n1_ n2_ n3_ n4_; (try clear hb); (try clear hkp); (try clear ho0); have hcz60_0 : w59.cell? ⟨gb201, 0, none⟩ = some (.int .i64 ((r40 l0_0 x57_2).f0)) := (kC BK201.out 0).trans rfl; have hcz60_1 : w59.cell? ⟨gb201, 1, none⟩ = some (.int .i64 ((r40 l0_0 x57_2).f1)) := (kC BK201.out 1).trans rfl; have hcz60_2 : w59.cell? ⟨gb201, 2, none⟩ = some (.int .i64 ((r40 l0_0 x57_2).f2)) := (kC BK201.out 2).trans rfl; have hcz60_3 : w59.cell? ⟨gb201, 3, none⟩ = some (.slice A200_3 ((r40 l0_0 x57_2).f3).length c200_3) := (kC BK201.out 3).trans rfl; have hfz60_0 := kF BK201.out 0; have hfz60_1 := kF BK201.out 1; have hfz60_2 := kF BK201.out 2; have hfz60_3 := kF BK201.out 3) | ((with_reducible refine gate_dst (N := 74) rfl ?_); refine Kd.R_lit (Kd.int .i64) _ 3 ?hg (N := 74) ?hd (xs := ([(((r40 l0_0 x57_2).f3).length : Int)] : List Int)) (inner := [.int .i64 (((r40 l0_0 x57_2).f3).length : Int)]) (ok := fun _ => True) (okp := fun _ => True) ?hr ?hp (fun _ hk => hk) trivial (Below.refl _ _) (Nat.le_refl _) (by simp) ?_; (case hd => rfl); (case hg => rfl); (case hr => first | (go_simp; done) | (go_simp; rfl)); (case hp => exact (Reps.one (show Kd.M (Kd.int .i64) _ _ _ (((r40 l0_0 x57_2).f3).length : Int) [.int .i64 (((r40 l0_0 x57_2).f3).length : Int)] from rfl) (Reps.none _ _))); intro v209 w61 ho62 hb hg_ hnew_; clear hg_ hnew_; (first | rw [← Ny208.out] at ho62 | (simp only [Int.reduceToNat] at ho62; rw [← Ny208.out] at ho62)); have n0_ := Aside0.mk (Kd.R_elder' (by (with_reducible repeat (first | apply Kd.R_alloc | apply Kd.R_drewN | apply Kd.R_drew)); exact HO204.out) (Kd.R_base ho62) hb); have n1_ := Aside0.mk (Kd.R_below (by (with_reducible repeat (first | apply Kd.R_alloc | apply Kd.R_drewN | apply Kd.R_drew)); exact HO207.out) hb); have n2_ := Aside0.mk (Kd.R_lower (Kd.R_new' ho62 (Kd.R_lt (by (with_reducible repeat (first | apply Kd.R_alloc | apply Kd.R_drewN | apply Kd.R_drew)); exact HO204.out))) (bZ (by repeat (first | (with_reducible first | exact HB.out | apply bA | apply bN | apply bD | refine bS ?_ GE164.out | refine bS ?_ GE201.out) | exact HB.out)))); have n3_ := Aside0.mk (kB (g := gb164) (o := .cells #[.slice (some ad200) l0_0.length c0_0, .slice A0_1 l0_1.length c0_1, .slice A0_2 l0_2.length c0_2, .int .i64 a0_3] 26 (0, 0)) (by (with_reducible repeat (first | refine kN ?_ _ | refine kD ?_ | refine kA ?_ _)); exact BK164.out) hb); have n4_ := Aside0.mk (kB (g := gb201) (o := .cells #[.int .i64 ((r40 l0_0 x57_2).f0), .int .i64 ((r40 l0_0 x57_2).f1), .int .i64 ((r40 l0_0 x57_2).f2), .slice A200_3 ((r40 l0_0 x57_2).f3).length c200_3] 40 (0, 0)) (by (with_reducible repeat (first | refine kN ?_ _ | refine kD ?_ | refine kA ?_ _)); exact BK201.out) hb); have n5_ := Aside0.mk (bT (by repeat (first | (with_reducible first | exact HB.out | apply bA | apply bN | apply bD | refine bS ?_ GE164.out | refine bS ?_ GE201.out) | exact HB.out)) hb); clear HO204; clear HO207; clear BK164; clear BK201; clear HB; have HO204 := n0_; have HO207 := n1_; have HO210 := n2_; have BK164 := n3_; have BK201 := n4_; have HB := n5_; clear n0_ n1_ n2_ n3_ n4_ n5_; clear hb ho62; obtain ⟨Ao63, co63, eo63⟩ := Kd.R_slice HO207.out; subst eo63; obtain ⟨Ao64, co64, eo64⟩ := Kd.R_slice HO210.out; subst eo64) | ((with_reducible refine gate_callee (f := 22) rfl ?_); refine goesL_ (some 75) rfl rfl Try.func22 (by kernel_rfl) rfl #[.slice Ao63 t205.length co63, .int .i64 2, .slice Ao64 y208.length co64] rfl (by (try simp only [List.map_toArray, List.map_cons, List.map_nil]); first | done | rfl | (simp only [List.length_drop, List.length_take]; rfl)) ?_; (with_reducible refine (code_put.calls k2 (fun k_ => some k_ = (.slice Ao63 t205.length co63 : Value).ownBlock) (.slice Ao63 t205.length co63) t205 2 _ _ y208 t211 w _ ?side1 ?side2 ?side3 ?side4 A51.out).mono ?_); (case side1 => repeat (first | (with_reducible first | exact HB.out | apply bA | apply bN | apply bD | refine bS ?_ GE164.out | refine bS ?_ GE201.out) | exact HB.out)); (case side2 => exact Kd.R_tight rfl HO207.out); (case side3 => exact Kd.C_kept_own ((Kd.R_apart' HO210.out (Kd.R_typed HO207.out) (by decide))) (fun k_ hk_ hs_ => (hk_.2) hs_)); (case side4 => exact (Kd.R_reads' HO210.out).2.1); rintro e w65 ⟨v212, rfl, ho0, hb, hkp⟩; refine ⟨_, rfl, ?_⟩; have n0_ := Aside0.mk (blk_kept (by (with_reducible repeat (first | refine kN ?_ _ | refine kD ?_ | refine kA ?_ _)); exact BK164.out) hkp (fun hs_ => (fun e_ => (Kd.R_ne HO207.out BK164.out (by decide)) e_) hs_)); have n1_ := Aside0.mk (blk_kept (by (with_reducible repeat (first | refine kN ?_ _ | refine kD ?_ | refine kA ?_ _)); exact BK201.out) hkp (fun hs_ => (fun e_ => (Kd.R_ne HO207.out BK201.out (by decide)) e_) hs_)); have n2_ := Aside0.mk (Kd.R_mono (ok' := fun k_ => some k_ ≠ (.slice Ao64 y208.length co64 : Value).ownBlock) (Kd.R_keptB ((Kd.R_apart' HO204.out (Kd.R_typed HO207.out) (by decide))) hkp (fun k_ hk_ hs_ => (hk_.2) hs_)) (fun k_ hk_ => hk_.1.1.2)); have n3_ := Aside0.mk (Kd.R_mono (ok' := fun k_ => some k_ ≠ (.slice Ao58 y202.length co58 : Value).ownBlock) (Kd.R_keptB ((Kd.R_apart' HO210.out (Kd.R_typed HO207.out) (by decide))) hkp (fun k_ hk_ hs_ => (hk_.2) hs_)) (fun k_ hk_ => hk_.1.1.2)); have n4_ := Aside0.mk (Kd.R_mono (ok' := fun k_ => True) ho0 (fun k_ hk_ => trivial)); have n5_ := Aside0.mk (hb); clear BK164; clear BK201; clear HO204; clear HO210; clear HB; clear HO207; have BK164 := n0_; have BK201 := n1_; have HO204 := n2_; have HO210 := n3_; have HO213 := n4_; have HB := n5_; clear n0_ n1_ n2_ n3_ n4_ n5_; (try clear hb); (try clear hkp); (try clear ho0); have hcz66_0 : w65.cell? ⟨gb201, 0, none⟩ = some (.int .i64 ((r40 l0_0 x57_2).f0)) := (kC BK201.out 0).trans rfl; have hcz66_1 : w65.cell? ⟨gb201, 1, none⟩ = some (.int .i64 ((r40 l0_0 x57_2).f1)) := (kC BK201.out 1).trans rfl; have hcz66_2 : w65.cell? ⟨gb201, 2, none⟩ = some (.int .i64 ((r40 l0_0 x57_2).f2)) := (kC BK201.out 2).trans rfl; have hcz66_3 : w65.cell? ⟨gb201, 3, none⟩ = some (.slice A200_3 ((r40 l0_0 x57_2).f3).length c200_3) := (kC BK201.out 3).trans rfl; have hfz66_0 := kF BK201.out 0; have hfz66_1 := kF BK201.out 1; have hfz66_2 := kF BK201.out 2; have hfz66_3 := kF BK201.out 3))
         go_loopg [4, 79] k2 (fun kq v4 v79 w' => ∃ (x4_3 : List Int) (x79_3 : Int), v79 = .int .i64 x79_3 ∧ Aside0 (cE.l2 kq x4_3 l0_0 (l0_0.length : Int) x57_2 ((r40 l0_0 x57_2).f3) (((r40 l0_0 x57_2).f3).length : Int) x79_3 = some (r1, r2)) ∧ Aside0 (kq ≤ k2) ∧ Aside0 (Kd.R (Kd.int .u8) 5 w' w.heap.size (fun _ => True) v4 x4_3) ∧ Aside0 (w'.heap[gb164]? = some (.cells #[(.slice (some ad200) l0_0.length c0_0), (.slice A0_1 l0_1.length c0_1), (.slice A0_2 l0_2.length c0_2), .int .i64 a0_3] 26 (0, 0))) ∧ Aside0 (w'.heap[gb201]? = some (.cells #[.int .i64 ((r40 l0_0 x57_2).f0), .int .i64 ((r40 l0_0 x57_2).f1), .int .i64 ((r40 l0_0 x57_2).f2), (.slice A200_3 ((r40 l0_0 x57_2).f3).length c200_3)] 40 (0, 0))) ∧ Aside0 (Below w.heap.size w w'))
         case atStart => exact ⟨(t211), (0), (by first | rfl | (simp; done) | (simp [*]; done)), H', ⟨Nat.le_refl _⟩, ⟨by (with_reducible repeat (first | apply Kd.R_alloc | apply Kd.R_drewN | apply Kd.R_drew)); exact HO213.out⟩, ⟨by (with_reducible repeat (first | refine kN ?_ _ | refine kD ?_ | refine kA ?_ _)); exact BK164.out⟩, ⟨by (with_reducible repeat (first | refine kN ?_ _ | refine kD ?_ | refine kA ?_ _)); exact BK201.out⟩, ⟨by repeat (first | (with_reducible first | exact HB.out | apply bA | apply bN | apply bD | refine bS ?_ GE164.out | refine bS ?_ GE201.out) | exact HB.out)⟩⟩
         case round =>
          clear H'
          try clear c47b0
          try clear c48b0
          try clear c49b0
          try clear hcz54_0
          try clear hcz54_1
          try clear hcz54_2
          try clear hcz54_3
          try clear hcz60_0
          try clear hcz60_1
          try clear hcz60_2
          try clear hcz60_3
          try clear hcz66_0
          try clear hcz66_1
          try clear hcz66_2
          try clear hcz66_3
          try clear hfz54_0
          try clear hfz54_1
          try clear hfz54_2
          try clear hfz54_3
          try clear hfz60_0
          try clear hfz60_1
          try clear hfz60_2
          try clear hfz60_3
          try clear hfz66_0
          try clear hfz66_1
          try clear hfz66_2
          try clear hfz66_3
          try clear hx200_0
          try clear hx200_1
          try clear hx200_2
          try clear hx200_3
          try clear p200
          try clear q200
          obtain ⟨x4_3, x79_3, rfl, HA, HK3, HO_4, BK164, BK201, HB⟩ := hrel
          cases gk with
          | zero => exact absurd HA.out (by simp [cE.l2])
          | succ k3 =>
           have H := HA.out
           clear HA
           simp only [cE.l2] at H
           by_cases c67 : x79_3 < (((r40 l0_0 x57_2).f3).length : Int)
           ·rw [if_pos c67] at H
            have c67b0 : decide (x79_3 < (((r40 l0_0 x57_2).f3).length : Int)) = true := decide_eq_true c67
            clear c67
            by_cases c68 : 0 ≤ x79_3
            ·rw [if_pos c68] at H
             have c68b0 : decide (0 ≤ x79_3) = true := decide_eq_true c68
             clear c68
             by_cases c69 : x79_3 < (((r40 l0_0 x57_2).f3).length : Int)
             ·rw [if_pos c69] at H
              have c69b0 : decide (x79_3 < (((r40 l0_0 x57_2).f3).length : Int)) = true := decide_eq_true c69
              clear c69
              obtain ⟨y216, hy216⟩ : ∃ y_ : List Int, y_ = (([(r42 ((r40 l0_0 x57_2).f3) x79_3).f0] : List Int)) := ⟨_, rfl⟩
              replace H : ((code_put.f k3 x4_3 1 y216).bind fun t219 => ((code_put.f k3 t219 2 (([(r42 ((r40 l0_0 x57_2).f3) x79_3).f1, (r42 ((r40 l0_0 x57_2).f3) x79_3).f2] : List Int))).bind fun t225 => (cE.l2 k3 t225 l0_0 (l0_0.length : Int) x57_2 ((r40 l0_0 x57_2).f3) (((r40 l0_0 x57_2).f3).length : Int) (wrap64 (x79_3 + 1))))) = some (r1, r2) := by first | (rw [hy216]; with_reducible exact H) | (have H2_ := (Option.bind_some _ _).symm.trans H; rw [hy216]; with_reducible exact H2_) | (have H2_ := (Option.bind_some _ _).symm.trans H; with_reducible exact H2_) | with_reducible exact H | (rw [hy216]; exact H) | exact H
              have Ny216 := Aside0.mk hy216
              clear hy216
              replace H := Option.bind_eq_some_iff.mp H
              obtain ⟨t219, A700, H⟩ := H
              replace H : ((code_put.f k3 t219 2 (([(r42 ((r40 l0_0 x57_2).f3) x79_3).f1, (r42 ((r40 l0_0 x57_2).f3) x79_3).f2] : List Int))).bind fun t225 => (cE.l2 k3 t225 l0_0 (l0_0.length : Int) x57_2 ((r40 l0_0 x57_2).f3) (((r40 l0_0 x57_2).f3).length : Int) (wrap64 (x79_3 + 1)))) = some (r1, r2) := H
              have A70 := Aside0.mk A700
              clear A700
              obtain ⟨y222, hy222⟩ : ∃ y_ : List Int, y_ = (([(r42 ((r40 l0_0 x57_2).f3) x79_3).f1, (r42 ((r40 l0_0 x57_2).f3) x79_3).f2] : List Int)) := ⟨_, rfl⟩
              replace H : ((code_put.f k3 t219 2 y222).bind fun t225 => (cE.l2 k3 t225 l0_0 (l0_0.length : Int) x57_2 ((r40 l0_0 x57_2).f3) (((r40 l0_0 x57_2).f3).length : Int) (wrap64 (x79_3 + 1)))) = some (r1, r2) := by first | (rw [hy222]; with_reducible exact H) | (have H2_ := (Option.bind_some _ _).symm.trans H; rw [hy222]; with_reducible exact H2_) | (have H2_ := (Option.bind_some _ _).symm.trans H; with_reducible exact H2_) | with_reducible exact H | (rw [hy222]; exact H) | exact H
              have Ny222 := Aside0.mk hy222
              clear hy222
              replace H := Option.bind_eq_some_iff.mp H
              obtain ⟨t225, A710, H⟩ := H
              replace H : (cE.l2 k3 t225 l0_0 (l0_0.length : Int) x57_2 ((r40 l0_0 x57_2).f3) (((r40 l0_0 x57_2).f3).length : Int) (wrap64 (x79_3 + 1))) = some (r1, r2) := H
              have A71 := Aside0.mk A710
              clear A710
              have H' := Aside0.mk H
              clear H
              have p214 : 0 ≤ (x79_3 : Int) := of_decide_eq_true (by first | (with_reducible assumption) | assumption)
              have q214 : x79_3 < (((r40 l0_0 x57_2).f3).length : Int) := of_decide_eq_true (by first | (with_reducible assumption) | assumption)
              obtain ⟨ad214, e214, hx214_0, hx214_1, hx214_2⟩ := at_T42 HR200_3.out x79_3 p214 q214
              cases e214
              replace hx214_0 := (HB.out.cell (World.block_lt_of_cell? w _ hx214_0)).trans hx214_0
              replace hx214_1 := (HB.out.cell (World.block_lt_of_cell? w _ hx214_1)).trans hx214_1
              replace hx214_2 := (HB.out.cell (World.block_lt_of_cell? w _ hx214_2)).trans hx214_2
              replace p214 := eq_true p214
              replace q214 := eq_true q214
              try go_wp2_with (first | ((with_reducible refine gate_dst (N := 10) rfl ?_); refine box_event ?hg (N := 10) ?hd (cs := #[.int .i64 0, .int .i64 0, .int .i64 0]) (t := 42) ?hr ?_; (case hd => rfl); (case hg => rfl); (case hr => first | (go_simp; done) | (go_simp; rfl)); intro gb215 hg w72 hbox hb; have n0_ := Aside0.mk (Kd.R_below (by (with_reducible repeat (first | apply Kd.R_alloc | apply Kd.R_drewN | apply Kd.R_drew)); exact HO_4.out) hb); have n1_ := Aside0.mk (kB (g := gb164) (o := .cells #[.slice (some ad200) l0_0.length c0_0, .slice A0_1 l0_1.length c0_1, .slice A0_2 l0_2.length c0_2, .int .i64 a0_3] 26 (0, 0)) (by (with_reducible repeat (first | refine kN ?_ _ | refine kD ?_ | refine kA ?_ _)); exact BK164.out) hb); have n2_ := Aside0.mk (kB (g := gb201) (o := .cells #[.int .i64 ((r40 l0_0 x57_2).f0), .int .i64 ((r40 l0_0 x57_2).f1), .int .i64 ((r40 l0_0 x57_2).f2), .slice (some ad214) ((r40 l0_0 x57_2).f3).length c200_3] 40 (0, 0)) (by (with_reducible repeat (first | refine kN ?_ _ | refine kD ?_ | refine kA ?_ _)); exact BK201.out) hb); have n3_ := Aside0.mk (bT (by repeat (first | (with_reducible first | exact HB.out | apply bA | apply bN | apply bD | refine bS ?_ GE164.out | refine bS ?_ GE201.out) | exact HB.out)) hb); have n4_ := Aside0.mk (hbox); have n5_ := Aside0.mk ((by rw [hg]; exact (bZ (by repeat (first | (with_reducible first | exact HB.out | apply bA | apply bN | apply bD | refine bS ?_ GE164.out | refine bS ?_ GE201.out) | exact HB.out))) : w.heap.size ≤ gb215)); have n6_ := Aside0.mk ((by rw [hg]; exact (bZ (by repeat (first | (with_reducible first | exact HB.out | apply bA | apply bN | apply bD | refine bS ?_ GE164.out | refine bS ?_ GE201.out) | exact HB.out))) : w.heap.size ≤ gb215)); have n7_ := Aside0.mk ((by rw [hg]; exact Nat.ne_of_lt (blk_lt (g := gb164) (o := .cells #[.slice (some ad200) l0_0.length c0_0, .slice A0_1 l0_1.length c0_1, .slice A0_2 l0_2.length c0_2, .int .i64 a0_3] 26 (0, 0)) (by (with_reducible repeat (first | refine kN ?_ _ | refine kD ?_ | refine kA ?_ _)); exact BK164.out)) : gb164 ≠ gb215)); have n8_ := Aside0.mk ((by rw [hg]; exact Nat.ne_of_gt (blk_lt (g := gb164) (o := .cells #[.slice (some ad200) l0_0.length c0_0, .slice A0_1 l0_1.length c0_1, .slice A0_2 l0_2.length c0_2, .int .i64 a0_3] 26 (0, 0)) (by (with_reducible repeat (first | refine kN ?_ _ | refine kD ?_ | refine kA ?_ _)); exact BK164.out)) : gb215 ≠ gb164)); have n9_ := Aside0.mk ((by rw [hg]; exact Nat.ne_of_lt (blk_lt (g := gb201) (o := .cells #[.int .i64 ((r40 l0_0 x57_2).f0), .int .i64 ((r40 l0_0 x57_2).f1), .int .i64 ((r40 l0_0 x57_2).f2), .slice (some ad214) ((r40 l0_0 x57_2).f3).length c200_3] 40 (0, 0)) (by (with_reducible repeat (first | refine kN ?_ _ | refine kD ?_ | refine kA ?_ _)); exact BK201.out)) : gb201 ≠ gb215)); have n10_ := Aside0.mk ((by rw [hg]; exact Nat.ne_of_gt (blk_lt (g := gb201) (o := .cells #[.int .i64 ((r40 l0_0 x57_2).f0), .int .i64 ((r40 l0_0 x57_2).f1), .int .i64 ((r40 l0_0 x57_2).f2), .slice (some ad214) ((r40 l0_0 x57_2).f3).length c200_3] 40 (0, 0)) (by (with_reducible repeat (first | refine kN ?_ _ | refine kD ?_ | refine kA ?_ _)); exact BK201.out)) : gb215 ≠ gb201)); clear HO_4; clear BK164; clear BK201; clear HB; have HO_4 := n0_; have BK164 := n1_; have BK201 := n2_; have HB := n3_; have BK215 := n4_; have GW215 := n5_; have GE215 := n6_; have NB164_215 := n7_; have NB215_164 := n8_; have NB201_215 := n9_; have NB215_201 := n10_; clear n0_ n1_ n2_ n3_ n4_ n5_ n6_ n7_ n8_ n9_ n10_; clear hb hbox hg; have hnb73 := NB215_164.out; have hnc73 := NB164_215.out; have hnb74 := NB215_201.out; have hnc74 := NB201_215.out; have hcz75_0 : w72.cell? ⟨gb215, 0, none⟩ = some (.int .i64 0) := (kC BK215.out 0).trans rfl; have hcz75_1 : w72.cell? ⟨gb215, 1, none⟩ = some (.int .i64 0) := (kC BK215.out 1).trans rfl; have hcz75_2 : w72.cell? ⟨gb215, 2, none⟩ = some (.int .i64 0) := (kC BK215.out 2).trans rfl; have hfz75_0 := kF BK215.out 0; have hfz75_1 := kF BK215.out 1; have hfz75_2 := kF BK215.out 2; obtain ⟨Ao76, co76, eo76⟩ := Kd.R_slice HO_4.out; subst eo76))
              have n0_ : Aside0 (Kd.R (Kd.int .u8) 5 (((w72.setCell ⟨gb215, 0, none⟩ (.int .i64 ((r42 ((r40 l0_0 x57_2).f3) x79_3).f0))).setCell ⟨gb215, 1, none⟩ (.int .i64 ((r42 ((r40 l0_0 x57_2).f3) x79_3).f1))).setCell ⟨gb215, 2, none⟩ (.int .i64 ((r42 ((r40 l0_0 x57_2).f3) x79_3).f2))) w.heap.size (fun _ => True) (.slice Ao76 x4_3.length co76) x4_3) := ⟨by (with_reducible repeat (first | apply Kd.R_alloc | apply Kd.R_drewN | apply Kd.R_drew)); exact Kd.R_mono (Kd.R_far (p := ⟨gb215, 2, none⟩) (Kd.R_far (p := ⟨gb215, 1, none⟩) (Kd.R_far (p := ⟨gb215, 0, none⟩) (Kd.R_types HO_4.out BK215.out (by decide)) (fun _ hk => hk.2) (.int .i64 ((r42 ((r40 l0_0 x57_2).f3) x79_3).f0))) (fun _ hk => hk.2) (.int .i64 ((r42 ((r40 l0_0 x57_2).f3) x79_3).f1))) (fun _ hk => hk.2) (.int .i64 ((r42 ((r40 l0_0 x57_2).f3) x79_3).f2))) (fun _ hk => trivial)⟩
              have n1_ : Aside0 ((((w72.setCell ⟨gb215, 0, none⟩ (.int .i64 ((r42 ((r40 l0_0 x57_2).f3) x79_3).f0))).setCell ⟨gb215, 1, none⟩ (.int .i64 ((r42 ((r40 l0_0 x57_2).f3) x79_3).f1))).setCell ⟨gb215, 2, none⟩ (.int .i64 ((r42 ((r40 l0_0 x57_2).f3) x79_3).f2))).heap[gb164]? = some (.cells #[.slice (some ad200) l0_0.length c0_0, .slice A0_1 l0_1.length c0_1, .slice A0_2 l0_2.length c0_2, .int .i64 a0_3] 26 (0, 0))) := ⟨by (with_reducible repeat (first | refine kN ?_ _ | refine kD ?_ | refine kA ?_ _)); refine blk_far ?_ NB164_215.out _; (with_reducible repeat (first | refine kN ?_ _ | refine kD ?_ | refine kA ?_ _)); refine blk_far ?_ NB164_215.out _; (with_reducible repeat (first | refine kN ?_ _ | refine kD ?_ | refine kA ?_ _)); refine blk_far ?_ NB164_215.out _; (with_reducible repeat (first | refine kN ?_ _ | refine kD ?_ | refine kA ?_ _)); exact BK164.out⟩
              have n2_ : Aside0 ((((w72.setCell ⟨gb215, 0, none⟩ (.int .i64 ((r42 ((r40 l0_0 x57_2).f3) x79_3).f0))).setCell ⟨gb215, 1, none⟩ (.int .i64 ((r42 ((r40 l0_0 x57_2).f3) x79_3).f1))).setCell ⟨gb215, 2, none⟩ (.int .i64 ((r42 ((r40 l0_0 x57_2).f3) x79_3).f2))).heap[gb201]? = some (.cells #[.int .i64 ((r40 l0_0 x57_2).f0), .int .i64 ((r40 l0_0 x57_2).f1), .int .i64 ((r40 l0_0 x57_2).f2), .slice (some ad214) ((r40 l0_0 x57_2).f3).length c200_3] 40 (0, 0))) := ⟨by (with_reducible repeat (first | refine kN ?_ _ | refine kD ?_ | refine kA ?_ _)); refine blk_far ?_ NB201_215.out _; (with_reducible repeat (first | refine kN ?_ _ | refine kD ?_ | refine kA ?_ _)); refine blk_far ?_ NB201_215.out _; (with_reducible repeat (first | refine kN ?_ _ | refine kD ?_ | refine kA ?_ _)); refine blk_far ?_ NB201_215.out _; (with_reducible repeat (first | refine kN ?_ _ | refine kD ?_ | refine kA ?_ _)); exact BK201.out⟩
              have n3_ : Aside0 ((((w72.setCell ⟨gb215, 0, none⟩ (.int .i64 ((r42 ((r40 l0_0 x57_2).f3) x79_3).f0))).setCell ⟨gb215, 1, none⟩ (.int .i64 ((r42 ((r40 l0_0 x57_2).f3) x79_3).f1))).setCell ⟨gb215, 2, none⟩ (.int .i64 ((r42 ((r40 l0_0 x57_2).f3) x79_3).f2))).heap[gb215]? = some (.cells #[.int .i64 ((r42 ((r40 l0_0 x57_2).f3) x79_3).f0), .int .i64 ((r42 ((r40 l0_0 x57_2).f3) x79_3).f1), .int .i64 ((r42 ((r40 l0_0 x57_2).f3) x79_3).f2)] 42 (0, 0))) := ⟨by (with_reducible repeat (first | refine kN ?_ _ | refine kD ?_ | refine kA ?_ _)); refine kP (cs := #[.int .i64 ((r42 ((r40 l0_0 x57_2).f3) x79_3).f0), .int .i64 ((r42 ((r40 l0_0 x57_2).f3) x79_3).f1), .int .i64 0]) ?_ 2 _ rfl; (with_reducible repeat (first | refine kN ?_ _ | refine kD ?_ | refine kA ?_ _)); refine kP (cs := #[.int .i64 ((r42 ((r40 l0_0 x57_2).f3) x79_3).f0), .int .i64 0, .int .i64 0]) ?_ 1 _ rfl; (with_reducible repeat (first | refine kN ?_ _ | refine kD ?_ | refine kA ?_ _)); refine kP (cs := #[.int .i64 0, .int .i64 0, .int .i64 0]) ?_ 0 _ rfl; (with_reducible repeat (first | refine kN ?_ _ | refine kD ?_ | refine kA ?_ _)); exact BK215.out⟩
              have n4_ : Aside0 (Below w.heap.size w (((w72.setCell ⟨gb215, 0, none⟩ (.int .i64 ((r42 ((r40 l0_0 x57_2).f3) x79_3).f0))).setCell ⟨gb215, 1, none⟩ (.int .i64 ((r42 ((r40 l0_0 x57_2).f3) x79_3).f1))).setCell ⟨gb215, 2, none⟩ (.int .i64 ((r42 ((r40 l0_0 x57_2).f3) x79_3).f2)))) := ⟨by repeat (first | (with_reducible first | exact HB.out | apply bA | apply bN | apply bD | refine bS ?_ GE164.out | refine bS ?_ GE201.out | refine bS ?_ GE215.out) | exact HB.out)⟩
              (try clear HO_4)
              (try clear BK164)
              (try clear BK201)
              (try clear BK215)
              (try clear HB)
              generalize (((w72.setCell ⟨gb215, 0, none⟩ (.int .i64 ((r42 ((r40 l0_0 x57_2).f3) x79_3).f0))).setCell ⟨gb215, 1, none⟩ (.int .i64 ((r42 ((r40 l0_0 x57_2).f3) x79_3).f1))).setCell ⟨gb215, 2, none⟩ (.int .i64 ((r42 ((r40 l0_0 x57_2).f3) x79_3).f2))) = w77 at n0_ n1_ n2_ n3_ n4_ ⊢
              have HO_4 := n0_
              have BK164 := n1_
              have BK201 := n2_
              have BK215 := n3_
              have HB := n4_
              clear n0_ n1_ n2_ n3_ n4_
              have n0_ := Aside0.mk (Kd.R_drew HO_4.out)
              have n1_ := Aside0.mk (kD BK164.out)
              have n2_ := Aside0.mk (kD BK201.out)
              have n3_ := Aside0.mk (kD BK215.out)
              have n4_ := Aside0.mk (bD HB.out)
              clear HO_4
              clear BK164
              clear BK201
              clear BK215
              clear HB
              have HO_4 := n0_
              have BK164 := n1_
              have BK201 := n2_
              have BK215 := n3_
              have HB := n4_
              clear n0_ n1_ n2_ n3_ n4_
              refine start_ (n := 12) (S := fun w' => w'.cell? ⟨gb215, 0, none⟩ = some (.int .i64 ((r42 ((r40 l0_0 x57_2).f3) x79_3).f0)) ∧ w'.cell? ⟨gb215, 1, none⟩ = some (.int .i64 ((r42 ((r40 l0_0 x57_2).f3) x79_3).f1)) ∧ w'.cell? ⟨gb215, 2, none⟩ = some (.int .i64 ((r42 ((r40 l0_0 x57_2).f3) x79_3).f2))) (ds := []) #[false, false, false, false, false, false, false, false, false, false, false, false] (by kernel_rfl) rfl rfl ⟨(kC BK215.out 0).trans rfl, (kC BK215.out 1).trans rfl, (kC BK215.out 2).trans rfl⟩ (fun hHeld => ?_); refine with_tabW cE.tab20 cE.bits20 (fun HT_ HW_ => ?_)
              generalize w77.drew = w78 at HO_4 BK164 BK201 BK215 HB hHeld ⊢
              refine pure_ (i := 0) (N := some 83) (v := ?_) (a' := ?_) #[true, false, false, false, false, false, false, false, false, false, false, false] rfl rfl (any_of HT_.out (by kernel_rfl)) (fun _ _ _ h => h) (Or.inl ⟨by rfl, ?_⟩) ?_ ?_
              rotate_left
              ·intro w'
               go_simp
               with_reducible rfl
              rotate_left
              ·simp only [Act.put, List.setIfInBounds_toArray, List.set_cons_zero, List.set_cons_succ, i64_w, i32_w]
               rfl
              refine pure_ (i := 1) (N := some 84) (v := ?_) (a' := ?_) #[true, true, false, false, false, false, false, false, false, false, false, false] rfl rfl (any_of HT_.out (by kernel_rfl)) (fun _ _ _ h => h) (Or.inl ⟨by rfl, ?_⟩) ?_ ?_
              rotate_left
              ·intro w'
               go_simp
               with_reducible rfl
              rotate_left
              ·simp only [Act.put, List.setIfInBounds_toArray, List.set_cons_zero, List.set_cons_succ, i64_w, i32_w]
               rfl
              refine pure_ (i := 5) (N := some 88) (v := ?_) (a' := ?_) #[true, true, false, false, false, true, false, false, false, false, false, false] rfl rfl (any_of HT_.out (by kernel_rfl)) (fun _ _ _ h => h) (Or.inl ⟨by rfl, ?_⟩) ?_ ?_
              rotate_left
              ·intro w'
               go_simp
               with_reducible rfl
              rotate_left
              ·simp only [Act.put, List.setIfInBounds_toArray, List.set_cons_zero, List.set_cons_succ, i64_w, i32_w]
               rfl
              refine pure_ (i := 7) (N := some 90) (v := ?_) (a' := ?_) #[true, true, false, false, false, true, false, true, false, false, false, false] rfl rfl (any_of HT_.out (by kernel_rfl)) (fun _ _ _ h => h) (Or.inl ⟨by rfl, ?_⟩) ?_ ?_
              rotate_left
              ·intro w'
               go_simp
               with_reducible rfl
              rotate_left
              ·simp only [Act.put, List.setIfInBounds_toArray, List.set_cons_zero, List.set_cons_succ, i64_w, i32_w]
               rfl
              refine take_ (i := 2) (N := some 85) (v := ?_) (a' := ?_) #[true, true, true, false, false, true, false, true, false, false, false, false] rfl rfl (take_ofW HT_.out HW_.out (by kernel_rfl)) (fun _ _ _ h => h) (Or.inl ⟨by rfl, ?_⟩) hHeld ?_ ?_
              rotate_left
              ·rintro w' ⟨s0, s1, s2⟩
               go_simp
               with_reducible rfl
              rotate_left
              ·simp only [Act.put, List.setIfInBounds_toArray, List.set_cons_zero, List.set_cons_succ, i64_w, i32_w]
               rfl
              refine take_ (i := 6) (N := some 89) (v := ?_) (a' := ?_) #[true, true, true, false, false, true, true, true, false, false, false, false] rfl rfl (take_ofW HT_.out HW_.out (by kernel_rfl)) (fun _ _ _ h => h) (Or.inl ⟨by rfl, ?_⟩) hHeld ?_ ?_
              rotate_left
              ·rintro w' ⟨s0, s1, s2⟩
               go_simp
               with_reducible rfl
              rotate_left
              ·simp only [Act.put, List.setIfInBounds_toArray, List.set_cons_zero, List.set_cons_succ, i64_w, i32_w]
               rfl
              refine take_ (i := 8) (N := some 91) (v := ?_) (a' := ?_) #[true, true, true, false, false, true, true, true, true, false, false, false] rfl rfl (take_ofW HT_.out HW_.out (by kernel_rfl)) (fun _ _ _ h => h) (Or.inl ⟨by rfl, ?_⟩) hHeld ?_ ?_
              rotate_left
              ·rintro w' ⟨s0, s1, s2⟩
               go_simp
               with_reducible rfl
              rotate_left
              ·simp only [Act.put, List.setIfInBounds_toArray, List.set_cons_zero, List.set_cons_succ, i64_w, i32_w]
               rfl
              refine join_ (σ := Value × Value × Value) 2 #[true, true, true, true, true, true, true, true, true, true, false, false] (fun s_ => [(86, s_.1), (87, s_.2.1), (92, s_.2.2)]) (fun s_ w' => (w'.cell? ⟨gb215, 0, none⟩ = some (.int .i64 ((r42 ((r40 l0_0 x57_2).f3) x79_3).f0)) ∧ w'.cell? ⟨gb215, 1, none⟩ = some (.int .i64 ((r42 ((r40 l0_0 x57_2).f3) x79_3).f1)) ∧ w'.cell? ⟨gb215, 2, none⟩ = some (.int .i64 ((r42 ((r40 l0_0 x57_2).f3) x79_3).f2))) ∧ (Kd.R (Kd.int .i64) 3 w' w.heap.size (fun k_ => some k_ ≠ (s_.2.2 : Value).ownBlock) s_.1 y216) ∧ (Kd.R (Kd.int .u8) 5 w' w.heap.size (fun _ => True) s_.2.1 t219) ∧ (Kd.R (Kd.int .i64) 3 w' w.heap.size (fun k_ => some k_ ≠ (s_.1 : Value).ownBlock) s_.2.2 y222) ∧ (w'.heap[gb164]? = some (.cells #[.slice (some ad200) l0_0.length c0_0, .slice A0_1 l0_1.length c0_1, .slice A0_2 l0_2.length c0_2, .int .i64 a0_3] 26 (0, 0))) ∧ (w'.heap[gb201]? = some (.cells #[.int .i64 ((r40 l0_0 x57_2).f0), .int .i64 ((r40 l0_0 x57_2).f1), .int .i64 ((r40 l0_0 x57_2).f2), .slice (some ad214) ((r40 l0_0 x57_2).f3).length c200_3] 40 (0, 0))) ∧ (w'.heap[gb215]? = some (.cells #[.int .i64 ((r42 ((r40 l0_0 x57_2).f3) x79_3).f0), .int .i64 ((r42 ((r40 l0_0 x57_2).f3) x79_3).f1), .int .i64 ((r42 ((r40 l0_0 x57_2).f3) x79_3).f2)] 42 (0, 0))) ∧ (Below w.heap.size w w')) ?_ ?_
              rotate_left
              ·intro hCont
               refine two_ (i := 3) (j := 9) (Ni := some 86) (Nj := some 92) #[true, true, true, true, false, true, true, true, true, false, false, false] #[true, true, true, false, false, true, true, true, true, true, false, false] rfl rfl rfl rfl (two_of HT_.out (by kernel_rfl)) (by decide) (by decide) (fun K hK => ?_) (fun K hK => ?_)
               ·skip
                refine Kd.R_lit_step (Kd.int .i64) _ 3 ?hg (N := 86) ?hd (xs := ([(r42 ((r40 l0_0 x57_2).f3) x79_3).f0] : List Int)) (inner := [.int .i64 ((r42 ((r40 l0_0 x57_2).f3) x79_3).f0)]) (ok := fun _ => True) (okp := fun _ => True) ?hr ?hp (fun _ hk => hk) trivial (Below.refl _ _) (Nat.le_refl _) (by simp) ?_; (case hd => rfl); (case hg => rfl); (case hr => first | (go_simp; done) | (go_simp; rfl)); (case hp => exact (Reps.one (show Kd.M (Kd.int .i64) _ _ _ ((r42 ((r40 l0_0 x57_2).f3) x79_3).f0) [.int .i64 ((r42 ((r40 l0_0 x57_2).f3) x79_3).f0)] from rfl) (Reps.none _ _)))
                intro v217 w79 ho80 hb hg_ hnew_
                clear hg_ hnew_
                (first | rw [← Ny216.out] at ho80 | (simp only [Int.reduceToNat] at ho80; rw [← Ny216.out] at ho80))
                have n0_ := Aside0.mk (Kd.R_below (by (with_reducible repeat (first | apply Kd.R_alloc | apply Kd.R_drewN | apply Kd.R_drew)); exact HO_4.out) hb)
                have n1_ := Aside0.mk (Kd.R_lower ho80 (bZ (by repeat (first | (with_reducible first | exact HB.out | apply bA | apply bN | apply bD | refine bS ?_ GE164.out | refine bS ?_ GE201.out | refine bS ?_ GE215.out) | exact HB.out))))
                have n2_ := Aside0.mk (kB (g := gb164) (o := .cells #[.slice (some ad200) l0_0.length c0_0, .slice A0_1 l0_1.length c0_1, .slice A0_2 l0_2.length c0_2, .int .i64 a0_3] 26 (0, 0)) (by (with_reducible repeat (first | refine kN ?_ _ | refine kD ?_ | refine kA ?_ _)); exact BK164.out) hb)
                have n3_ := Aside0.mk (kB (g := gb201) (o := .cells #[.int .i64 ((r40 l0_0 x57_2).f0), .int .i64 ((r40 l0_0 x57_2).f1), .int .i64 ((r40 l0_0 x57_2).f2), .slice (some ad214) ((r40 l0_0 x57_2).f3).length c200_3] 40 (0, 0)) (by (with_reducible repeat (first | refine kN ?_ _ | refine kD ?_ | refine kA ?_ _)); exact BK201.out) hb)
                have n4_ := Aside0.mk (kB (g := gb215) (o := .cells #[.int .i64 ((r42 ((r40 l0_0 x57_2).f3) x79_3).f0), .int .i64 ((r42 ((r40 l0_0 x57_2).f3) x79_3).f1), .int .i64 ((r42 ((r40 l0_0 x57_2).f3) x79_3).f2)] 42 (0, 0)) (by (with_reducible repeat (first | refine kN ?_ _ | refine kD ?_ | refine kA ?_ _)); exact BK215.out) hb)
                have n5_ := Aside0.mk (bT (by repeat (first | (with_reducible first | exact HB.out | apply bA | apply bN | apply bD | refine bS ?_ GE164.out | refine bS ?_ GE201.out | refine bS ?_ GE215.out) | exact HB.out)) hb)
                clear HO_4
                clear BK164
                clear BK201
                clear BK215
                clear HB
                have HO_4 := n0_
                have HO218 := n1_
                have BK164 := n2_
                have BK201 := n3_
                have BK215 := n4_
                have HB := n5_
                clear n0_ n1_ n2_ n3_ n4_ n5_
                clear hb ho80
                obtain ⟨Ao81, co81, eo81⟩ := Kd.R_slice HO218.out
                (first | subst eo81 | (injection eo81 with f1_ f2_ f3_; have f4_ := f1_.symm; have f5_ := f3_.symm; clear f1_ f2_ f3_; subst f4_; subst f5_))
                refine hK.out _ _ ⟨(kC BK215.out 0).trans rfl, (kC BK215.out 1).trans rfl, (kC BK215.out 2).trans rfl⟩ (fun hHeld => ?_)
                clear hK K
                refine norm_ (a' := ?_) ?_ ?_
                rotate_left
                ·show Act.put _ (some 86) _ = _
                 simp only [Act.put, List.setIfInBounds_toArray, List.set_cons_zero, List.set_cons_succ, i64_w, i32_w]
                 rfl
                refine two_ (i := 4) (j := 9) (Ni := some 87) (Nj := some 92) #[true, true, true, true, true, true, true, true, true, false, false, false] #[true, true, true, true, false, true, true, true, true, true, false, false] rfl rfl rfl rfl (two_of HT_.out (by kernel_rfl)) (by decide) (by decide) (fun K hK => ?_) (fun K hK => ?_)
                ·skip
                 refine goes_ Try.func22 (by kernel_rfl) rfl #[.slice Ao76 x4_3.length co76, .int .i64 1, .slice Ao81 y216.length co81] (by rfl) rfl rfl (by (try simp only [List.map_toArray, List.map_cons, List.map_nil]); first | done | rfl | (simp only [List.length_drop, List.length_take]; rfl)) ?_
                 with_reducible refine (code_put.calls k3 (fun k_ => some k_ = (.slice Ao76 x4_3.length co76 : Value).ownBlock) (.slice Ao76 x4_3.length co76) x4_3 1 _ _ y216 t219 w _ ?side1 ?side2 ?side3 ?side4 A70.out).mono ?_
                 (case side1 => repeat (first | (with_reducible first | exact HB.out | apply bA | apply bN | apply bD | refine bS ?_ GE164.out | refine bS ?_ GE201.out | refine bS ?_ GE215.out) | exact HB.out))
                 (case side2 => exact Kd.R_tight rfl HO_4.out)
                 (case side3 => exact Kd.C_kept_own ((Kd.R_apart' HO218.out (Kd.R_typed HO_4.out) (by decide))) (fun k_ hk_ hs_ => (hk_.2) hs_))
                 (case side4 => exact (Kd.R_reads' HO218.out).2.1)
                 rintro e w82 ⟨v220, rfl, ho0, hb, hkp⟩
                 refine ⟨_, rfl, ?_⟩
                 have n0_ := Aside0.mk (blk_kept (by (with_reducible repeat (first | refine kN ?_ _ | refine kD ?_ | refine kA ?_ _)); exact BK164.out) hkp (fun hs_ => (fun e_ => (Kd.R_ne HO_4.out BK164.out (by decide)) e_) hs_))
                 have n1_ := Aside0.mk (blk_kept (by (with_reducible repeat (first | refine kN ?_ _ | refine kD ?_ | refine kA ?_ _)); exact BK201.out) hkp (fun hs_ => (fun e_ => (Kd.R_ne HO_4.out BK201.out (by decide)) e_) hs_))
                 have n2_ := Aside0.mk (blk_kept (by (with_reducible repeat (first | refine kN ?_ _ | refine kD ?_ | refine kA ?_ _)); exact BK215.out) hkp (fun hs_ => (fun e_ => (Kd.R_ne HO_4.out BK215.out (by decide)) e_) hs_))
                 have n3_ := Aside0.mk (Kd.R_mono (ok' := fun k_ => True) (Kd.R_keptB ((Kd.R_apart' HO218.out (Kd.R_typed HO_4.out) (by decide))) hkp (fun k_ hk_ hs_ => (hk_.2) hs_)) (fun k_ hk_ => trivial))
                 have n4_ := Aside0.mk (Kd.R_mono (ok' := fun k_ => True) ho0 (fun k_ hk_ => trivial))
                 have n5_ := Aside0.mk (hb)
                 clear BK164
                 clear BK201
                 clear BK215
                 clear HO218
                 clear HB
                 clear HO_4
                 have BK164 := n0_
                 have BK201 := n1_
                 have BK215 := n2_
                 have HO218 := n3_
                 have HO221 := n4_
                 have HB := n5_
                 clear n0_ n1_ n2_ n3_ n4_ n5_
                 (try clear hb)
                 (try clear hkp)
                 (try clear ho0)
                 refine hK.out _ _ ⟨(kC BK215.out 0).trans rfl, (kC BK215.out 1).trans rfl, (kC BK215.out 2).trans rfl⟩ (fun hHeld => ?_)
                 clear hK K
                 refine norm_ (a' := ?_) ?_ ?_
                 rotate_left
                 ·show Act.put _ (some 87) _ = _
                  simp only [Act.put, List.setIfInBounds_toArray, List.set_cons_zero, List.set_cons_succ, i64_w, i32_w]
                  rfl
                 refine one_ (i := 9) (N := some 92) #[true, true, true, true, true, true, true, true, true, true, false, false] rfl rfl (one_of HT_.out (by kernel_rfl)) (by decide) (fun K hK => ?_)
                 refine Kd.R_lit_step (Kd.int .i64) _ 3 ?hg (N := 92) ?hd (xs := ([(r42 ((r40 l0_0 x57_2).f3) x79_3).f1, (r42 ((r40 l0_0 x57_2).f3) x79_3).f2] : List Int)) (inner := [.int .i64 ((r42 ((r40 l0_0 x57_2).f3) x79_3).f1), .int .i64 ((r42 ((r40 l0_0 x57_2).f3) x79_3).f2)]) (ok := fun _ => True) (okp := fun _ => True) ?hr ?hp (fun _ hk => hk) trivial (Below.refl _ _) (Nat.le_refl _) (by simp) ?_; (case hd => rfl); (case hg => rfl); (case hr => first | (go_simp; done) | (go_simp; rfl)); (case hp => exact (Reps.one (show Kd.M (Kd.int .i64) _ _ _ ((r42 ((r40 l0_0 x57_2).f3) x79_3).f1) [.int .i64 ((r42 ((r40 l0_0 x57_2).f3) x79_3).f1)] from rfl) (Reps.one (show Kd.M (Kd.int .i64) _ _ _ ((r42 ((r40 l0_0 x57_2).f3) x79_3).f2) [.int .i64 ((r42 ((r40 l0_0 x57_2).f3) x79_3).f2)] from rfl) (Reps.none _ _))))
                 intro v223 w83 ho84 hb hg_ hnew_
                 clear hg_ hnew_
                 (first | rw [← Ny222.out] at ho84 | (simp only [Int.reduceToNat] at ho84; rw [← Ny222.out] at ho84))
                 have n0_ := Aside0.mk (Kd.R_elder' (by (with_reducible repeat (first | apply Kd.R_alloc | apply Kd.R_drewN | apply Kd.R_drew)); exact HO218.out) (Kd.R_base ho84) hb)
                 have n1_ := Aside0.mk (Kd.R_below (by (with_reducible repeat (first | apply Kd.R_alloc | apply Kd.R_drewN | apply Kd.R_drew)); exact HO221.out) hb)
                 have n2_ := Aside0.mk (Kd.R_lower (Kd.R_new' ho84 (Kd.R_lt (by (with_reducible repeat (first | apply Kd.R_alloc | apply Kd.R_drewN | apply Kd.R_drew)); exact HO218.out))) (bZ (by repeat (first | (with_reducible first | exact HB.out | apply bA | apply bN | apply bD | refine bS ?_ GE164.out | refine bS ?_ GE201.out | refine bS ?_ GE215.out) | exact HB.out))))
                 have n3_ := Aside0.mk (kB (g := gb164) (o := .cells #[.slice (some ad200) l0_0.length c0_0, .slice A0_1 l0_1.length c0_1, .slice A0_2 l0_2.length c0_2, .int .i64 a0_3] 26 (0, 0)) (by (with_reducible repeat (first | refine kN ?_ _ | refine kD ?_ | refine kA ?_ _)); exact BK164.out) hb)
                 have n4_ := Aside0.mk (kB (g := gb201) (o := .cells #[.int .i64 ((r40 l0_0 x57_2).f0), .int .i64 ((r40 l0_0 x57_2).f1), .int .i64 ((r40 l0_0 x57_2).f2), .slice (some ad214) ((r40 l0_0 x57_2).f3).length c200_3] 40 (0, 0)) (by (with_reducible repeat (first | refine kN ?_ _ | refine kD ?_ | refine kA ?_ _)); exact BK201.out) hb)
                 have n5_ := Aside0.mk (kB (g := gb215) (o := .cells #[.int .i64 ((r42 ((r40 l0_0 x57_2).f3) x79_3).f0), .int .i64 ((r42 ((r40 l0_0 x57_2).f3) x79_3).f1), .int .i64 ((r42 ((r40 l0_0 x57_2).f3) x79_3).f2)] 42 (0, 0)) (by (with_reducible repeat (first | refine kN ?_ _ | refine kD ?_ | refine kA ?_ _)); exact BK215.out) hb)
                 have n6_ := Aside0.mk (bT (by repeat (first | (with_reducible first | exact HB.out | apply bA | apply bN | apply bD | refine bS ?_ GE164.out | refine bS ?_ GE201.out | refine bS ?_ GE215.out) | exact HB.out)) hb)
                 clear HO218
                 clear HO221
                 clear BK164
                 clear BK201
                 clear BK215
                 clear HB
                 have HO218 := n0_
                 have HO221 := n1_
                 have HO224 := n2_
                 have BK164 := n3_
                 have BK201 := n4_
                 have BK215 := n5_
                 have HB := n6_
                 clear n0_ n1_ n2_ n3_ n4_ n5_ n6_
                 clear hb ho84
                 refine hK.out _ _ ⟨(kC BK215.out 0).trans rfl, (kC BK215.out 1).trans rfl, (kC BK215.out 2).trans rfl⟩ (fun hHeld => ?_)
                 clear hK K
                 refine norm_ (a' := ?_) ?_ ?_
                 rotate_left
                 ·show Act.put _ (some 92) _ = _
                  simp only [Act.put, List.setIfInBounds_toArray, List.set_cons_zero, List.set_cons_succ, i64_w, i32_w]
                  rfl
                 exact norm_ (by simp only [putAll, Act.put, List.setIfInBounds_toArray, List.set_cons_zero, List.set_cons_succ]) (hCont (.slice Ao81 y216.length co81, v220, v223) _ ⟨hHeld, (by (with_reducible repeat (first | apply Kd.R_alloc | apply Kd.R_drewN | apply Kd.R_drew)); exact Kd.R_mono HO218.out (fun _ hk => hk.2)), (by (with_reducible repeat (first | apply Kd.R_alloc | apply Kd.R_drewN | apply Kd.R_drew)); exact HO221.out), (by (with_reducible repeat (first | apply Kd.R_alloc | apply Kd.R_drewN | apply Kd.R_drew)); exact Kd.R_mono HO224.out (fun _ hk => hk.2)), (by (with_reducible repeat (first | refine kN ?_ _ | refine kD ?_ | refine kA ?_ _)); exact BK164.out), (by (with_reducible repeat (first | refine kN ?_ _ | refine kD ?_ | refine kA ?_ _)); exact BK201.out), (by (with_reducible repeat (first | refine kN ?_ _ | refine kD ?_ | refine kA ?_ _)); exact BK215.out), (by repeat (first | (with_reducible first | exact HB.out | apply bA | apply bN | apply bD | refine bS ?_ GE164.out | refine bS ?_ GE201.out | refine bS ?_ GE215.out) | exact HB.out))⟩)
                skip
                refine Kd.R_lit_step (Kd.int .i64) _ 3 ?hg (N := 92) ?hd (xs := ([(r42 ((r40 l0_0 x57_2).f3) x79_3).f1, (r42 ((r40 l0_0 x57_2).f3) x79_3).f2] : List Int)) (inner := [.int .i64 ((r42 ((r40 l0_0 x57_2).f3) x79_3).f1), .int .i64 ((r42 ((r40 l0_0 x57_2).f3) x79_3).f2)]) (ok := fun _ => True) (okp := fun _ => True) ?hr ?hp (fun _ hk => hk) trivial (Below.refl _ _) (Nat.le_refl _) (by simp) ?_; (case hd => rfl); (case hg => rfl); (case hr => first | (go_simp; done) | (go_simp; rfl)); (case hp => exact (Reps.one (show Kd.M (Kd.int .i64) _ _ _ ((r42 ((r40 l0_0 x57_2).f3) x79_3).f1) [.int .i64 ((r42 ((r40 l0_0 x57_2).f3) x79_3).f1)] from rfl) (Reps.one (show Kd.M (Kd.int .i64) _ _ _ ((r42 ((r40 l0_0 x57_2).f3) x79_3).f2) [.int .i64 ((r42 ((r40 l0_0 x57_2).f3) x79_3).f2)] from rfl) (Reps.none _ _))))
                intro v223 w81 ho82 hb hg_ hnew_
                clear hg_ hnew_
                (first | rw [← Ny222.out] at ho82 | (simp only [Int.reduceToNat] at ho82; rw [← Ny222.out] at ho82))
                have n0_ := Aside0.mk (Kd.R_below (by (with_reducible repeat (first | apply Kd.R_alloc | apply Kd.R_drewN | apply Kd.R_drew)); exact HO_4.out) hb)
                have n1_ := Aside0.mk (Kd.R_elder' (by (with_reducible repeat (first | apply Kd.R_alloc | apply Kd.R_drewN | apply Kd.R_drew)); exact HO218.out) (Kd.R_base ho82) hb)
                have n2_ := Aside0.mk (Kd.R_lower (Kd.R_new' ho82 (Kd.R_lt (by (with_reducible repeat (first | apply Kd.R_alloc | apply Kd.R_drewN | apply Kd.R_drew)); exact HO218.out))) (bZ (by repeat (first | (with_reducible first | exact HB.out | apply bA | apply bN | apply bD | refine bS ?_ GE164.out | refine bS ?_ GE201.out | refine bS ?_ GE215.out) | exact HB.out))))
                have n3_ := Aside0.mk (kB (g := gb164) (o := .cells #[.slice (some ad200) l0_0.length c0_0, .slice A0_1 l0_1.length c0_1, .slice A0_2 l0_2.length c0_2, .int .i64 a0_3] 26 (0, 0)) (by (with_reducible repeat (first | refine kN ?_ _ | refine kD ?_ | refine kA ?_ _)); exact BK164.out) hb)
                have n4_ := Aside0.mk (kB (g := gb201) (o := .cells #[.int .i64 ((r40 l0_0 x57_2).f0), .int .i64 ((r40 l0_0 x57_2).f1), .int .i64 ((r40 l0_0 x57_2).f2), .slice (some ad214) ((r40 l0_0 x57_2).f3).length c200_3] 40 (0, 0)) (by (with_reducible repeat (first | refine kN ?_ _ | refine kD ?_ | refine kA ?_ _)); exact BK201.out) hb)
                have n5_ := Aside0.mk (kB (g := gb215) (o := .cells #[.int .i64 ((r42 ((r40 l0_0 x57_2).f3) x79_3).f0), .int .i64 ((r42 ((r40 l0_0 x57_2).f3) x79_3).f1), .int .i64 ((r42 ((r40 l0_0 x57_2).f3) x79_3).f2)] 42 (0, 0)) (by (with_reducible repeat (first | refine kN ?_ _ | refine kD ?_ | refine kA ?_ _)); exact BK215.out) hb)
                have n6_ := Aside0.mk (bT (by repeat (first | (with_reducible first | exact HB.out | apply bA | apply bN | apply bD | refine bS ?_ GE164.out | refine bS ?_ GE201.out | refine bS ?_ GE215.out) | exact HB.out)) hb)
                clear HO_4
                clear HO218
                clear BK164
                clear BK201
                clear BK215
                clear HB
                have HO_4 := n0_
                have HO218 := n1_
                have HO224 := n2_
                have BK164 := n3_
                have BK201 := n4_
                have BK215 := n5_
                have HB := n6_
                clear n0_ n1_ n2_ n3_ n4_ n5_ n6_
                clear hb ho82
                obtain ⟨Ao83, co83, eo83⟩ := Kd.R_slice HO218.out
                (first | subst eo83 | (injection eo83 with f1_ f2_ f3_; have f4_ := f1_.symm; have f5_ := f3_.symm; clear f1_ f2_ f3_; subst f4_; subst f5_))
                refine hK.out _ _ ⟨(kC BK215.out 0).trans rfl, (kC BK215.out 1).trans rfl, (kC BK215.out 2).trans rfl⟩ (fun hHeld => ?_)
                clear hK K
                refine norm_ (a' := ?_) ?_ ?_
                rotate_left
                ·show Act.put _ (some 92) _ = _
                 simp only [Act.put, List.setIfInBounds_toArray, List.set_cons_zero, List.set_cons_succ, i64_w, i32_w]
                 rfl
                refine one_ (i := 4) (N := some 87) #[true, true, true, true, true, true, true, true, true, true, false, false] rfl rfl (one_of HT_.out (by kernel_rfl)) (by decide) (fun K hK => ?_)
                refine goes_ Try.func22 (by kernel_rfl) rfl #[.slice Ao76 x4_3.length co76, .int .i64 1, .slice Ao83 y216.length co83] (by rfl) rfl rfl (by (try simp only [List.map_toArray, List.map_cons, List.map_nil]); first | done | rfl | (simp only [List.length_drop, List.length_take]; rfl)) ?_
                with_reducible refine (code_put.calls k3 (fun k_ => some k_ = (.slice Ao76 x4_3.length co76 : Value).ownBlock) (.slice Ao76 x4_3.length co76) x4_3 1 _ _ y216 t219 w _ ?side1 ?side2 ?side3 ?side4 A70.out).mono ?_
                (case side1 => repeat (first | (with_reducible first | exact HB.out | apply bA | apply bN | apply bD | refine bS ?_ GE164.out | refine bS ?_ GE201.out | refine bS ?_ GE215.out) | exact HB.out))
                (case side2 => exact Kd.R_tight rfl HO_4.out)
                (case side3 => exact Kd.C_kept_own ((Kd.R_apart' HO218.out (Kd.R_typed HO_4.out) (by decide))) (fun k_ hk_ hs_ => (hk_.2) hs_))
                (case side4 => exact (Kd.R_reads' HO218.out).2.1)
                rintro e w84 ⟨v220, rfl, ho0, hb, hkp⟩
                refine ⟨_, rfl, ?_⟩
                have n0_ := Aside0.mk (blk_kept (by (with_reducible repeat (first | refine kN ?_ _ | refine kD ?_ | refine kA ?_ _)); exact BK164.out) hkp (fun hs_ => (fun e_ => (Kd.R_ne HO_4.out BK164.out (by decide)) e_) hs_))
                have n1_ := Aside0.mk (blk_kept (by (with_reducible repeat (first | refine kN ?_ _ | refine kD ?_ | refine kA ?_ _)); exact BK201.out) hkp (fun hs_ => (fun e_ => (Kd.R_ne HO_4.out BK201.out (by decide)) e_) hs_))
                have n2_ := Aside0.mk (blk_kept (by (with_reducible repeat (first | refine kN ?_ _ | refine kD ?_ | refine kA ?_ _)); exact BK215.out) hkp (fun hs_ => (fun e_ => (Kd.R_ne HO_4.out BK215.out (by decide)) e_) hs_))
                have n3_ := Aside0.mk (Kd.R_mono (ok' := fun k_ => some k_ ≠ (v223 : Value).ownBlock) (Kd.R_keptB ((Kd.R_apart' HO218.out (Kd.R_typed HO_4.out) (by decide))) hkp (fun k_ hk_ hs_ => (hk_.2) hs_)) (fun k_ hk_ => hk_.1.1.2))
                have n4_ := Aside0.mk (Kd.R_mono (ok' := fun k_ => some k_ ≠ (.slice Ao83 y216.length co83 : Value).ownBlock) (Kd.R_keptB ((Kd.R_apart' HO224.out (Kd.R_typed HO_4.out) (by decide))) hkp (fun k_ hk_ hs_ => (hk_.2) hs_)) (fun k_ hk_ => hk_.1.1.2))
                have n5_ := Aside0.mk (Kd.R_mono (ok' := fun k_ => True) ho0 (fun k_ hk_ => trivial))
                have n6_ := Aside0.mk (hb)
                clear BK164
                clear BK201
                clear BK215
                clear HO218
                clear HO224
                clear HB
                clear HO_4
                have BK164 := n0_
                have BK201 := n1_
                have BK215 := n2_
                have HO218 := n3_
                have HO224 := n4_
                have HO221 := n5_
                have HB := n6_
                clear n0_ n1_ n2_ n3_ n4_ n5_ n6_
                (try clear hb)
                (try clear hkp)
                (try clear ho0)
                refine hK.out _ _ ⟨(kC BK215.out 0).trans rfl, (kC BK215.out 1).trans rfl, (kC BK215.out 2).trans rfl⟩ (fun hHeld => ?_)
                clear hK K
                refine norm_ (a' := ?_) ?_ ?_
                rotate_left
                ·show Act.put _ (some 87) _ = _
                 simp only [Act.put, List.setIfInBounds_toArray, List.set_cons_zero, List.set_cons_succ, i64_w, i32_w]
                 rfl
                exact norm_ (by simp only [putAll, Act.put, List.setIfInBounds_toArray, List.set_cons_zero, List.set_cons_succ]) (hCont (.slice Ao83 y216.length co83, v220, v223) _ ⟨hHeld, (by (with_reducible repeat (first | apply Kd.R_alloc | apply Kd.R_drewN | apply Kd.R_drew)); exact HO218.out), (by (with_reducible repeat (first | apply Kd.R_alloc | apply Kd.R_drewN | apply Kd.R_drew)); exact HO221.out), (by (with_reducible repeat (first | apply Kd.R_alloc | apply Kd.R_drewN | apply Kd.R_drew)); exact HO224.out), (by (with_reducible repeat (first | refine kN ?_ _ | refine kD ?_ | refine kA ?_ _)); exact BK164.out), (by (with_reducible repeat (first | refine kN ?_ _ | refine kD ?_ | refine kA ?_ _)); exact BK201.out), (by (with_reducible repeat (first | refine kN ?_ _ | refine kD ?_ | refine kA ?_ _)); exact BK215.out), (by repeat (first | (with_reducible first | exact HB.out | apply bA | apply bN | apply bD | refine bS ?_ GE164.out | refine bS ?_ GE201.out | refine bS ?_ GE215.out) | exact HB.out))⟩)
               skip
               refine Kd.R_lit_step (Kd.int .i64) _ 3 ?hg (N := 92) ?hd (xs := ([(r42 ((r40 l0_0 x57_2).f3) x79_3).f1, (r42 ((r40 l0_0 x57_2).f3) x79_3).f2] : List Int)) (inner := [.int .i64 ((r42 ((r40 l0_0 x57_2).f3) x79_3).f1), .int .i64 ((r42 ((r40 l0_0 x57_2).f3) x79_3).f2)]) (ok := fun _ => True) (okp := fun _ => True) ?hr ?hp (fun _ hk => hk) trivial (Below.refl _ _) (Nat.le_refl _) (by simp) ?_; (case hd => rfl); (case hg => rfl); (case hr => first | (go_simp; done) | (go_simp; rfl)); (case hp => exact (Reps.one (show Kd.M (Kd.int .i64) _ _ _ ((r42 ((r40 l0_0 x57_2).f3) x79_3).f1) [.int .i64 ((r42 ((r40 l0_0 x57_2).f3) x79_3).f1)] from rfl) (Reps.one (show Kd.M (Kd.int .i64) _ _ _ ((r42 ((r40 l0_0 x57_2).f3) x79_3).f2) [.int .i64 ((r42 ((r40 l0_0 x57_2).f3) x79_3).f2)] from rfl) (Reps.none _ _))))
               intro v223 w79 ho80 hb hg_ hnew_
               clear hg_ hnew_
               (first | rw [← Ny222.out] at ho80 | (simp only [Int.reduceToNat] at ho80; rw [← Ny222.out] at ho80))
               have n0_ := Aside0.mk (Kd.R_below (by (with_reducible repeat (first | apply Kd.R_alloc | apply Kd.R_drewN | apply Kd.R_drew)); exact HO_4.out) hb)
               have n1_ := Aside0.mk (Kd.R_lower ho80 (bZ (by repeat (first | (with_reducible first | exact HB.out | apply bA | apply bN | apply bD | refine bS ?_ GE164.out | refine bS ?_ GE201.out | refine bS ?_ GE215.out) | exact HB.out))))
               have n2_ := Aside0.mk (kB (g := gb164) (o := .cells #[.slice (some ad200) l0_0.length c0_0, .slice A0_1 l0_1.length c0_1, .slice A0_2 l0_2.length c0_2, .int .i64 a0_3] 26 (0, 0)) (by (with_reducible repeat (first | refine kN ?_ _ | refine kD ?_ | refine kA ?_ _)); exact BK164.out) hb)
               have n3_ := Aside0.mk (kB (g := gb201) (o := .cells #[.int .i64 ((r40 l0_0 x57_2).f0), .int .i64 ((r40 l0_0 x57_2).f1), .int .i64 ((r40 l0_0 x57_2).f2), .slice (some ad214) ((r40 l0_0 x57_2).f3).length c200_3] 40 (0, 0)) (by (with_reducible repeat (first | refine kN ?_ _ | refine kD ?_ | refine kA ?_ _)); exact BK201.out) hb)
               have n4_ := Aside0.mk (kB (g := gb215) (o := .cells #[.int .i64 ((r42 ((r40 l0_0 x57_2).f3) x79_3).f0), .int .i64 ((r42 ((r40 l0_0 x57_2).f3) x79_3).f1), .int .i64 ((r42 ((r40 l0_0 x57_2).f3) x79_3).f2)] 42 (0, 0)) (by (with_reducible repeat (first | refine kN ?_ _ | refine kD ?_ | refine kA ?_ _)); exact BK215.out) hb)
               have n5_ := Aside0.mk (bT (by repeat (first | (with_reducible first | exact HB.out | apply bA | apply bN | apply bD | refine bS ?_ GE164.out | refine bS ?_ GE201.out | refine bS ?_ GE215.out) | exact HB.out)) hb)
               clear HO_4
               clear BK164
               clear BK201
               clear BK215
               clear HB
               have HO_4 := n0_
               have HO224 := n1_
               have BK164 := n2_
               have BK201 := n3_
               have BK215 := n4_
               have HB := n5_
               clear n0_ n1_ n2_ n3_ n4_ n5_
               clear hb ho80
               refine hK.out _ _ ⟨(kC BK215.out 0).trans rfl, (kC BK215.out 1).trans rfl, (kC BK215.out 2).trans rfl⟩ (fun hHeld => ?_)
               clear hK K
               refine norm_ (a' := ?_) ?_ ?_
               rotate_left
               ·show Act.put _ (some 92) _ = _
                simp only [Act.put, List.setIfInBounds_toArray, List.set_cons_zero, List.set_cons_succ, i64_w, i32_w]
                rfl
               refine one_ (i := 3) (N := some 86) #[true, true, true, true, false, true, true, true, true, true, false, false] rfl rfl (one_of HT_.out (by kernel_rfl)) (by decide) (fun K hK => ?_)
               refine Kd.R_lit_step (Kd.int .i64) _ 3 ?hg (N := 86) ?hd (xs := ([(r42 ((r40 l0_0 x57_2).f3) x79_3).f0] : List Int)) (inner := [.int .i64 ((r42 ((r40 l0_0 x57_2).f3) x79_3).f0)]) (ok := fun _ => True) (okp := fun _ => True) ?hr ?hp (fun _ hk => hk) trivial (Below.refl _ _) (Nat.le_refl _) (by simp) ?_; (case hd => rfl); (case hg => rfl); (case hr => first | (go_simp; done) | (go_simp; rfl)); (case hp => exact (Reps.one (show Kd.M (Kd.int .i64) _ _ _ ((r42 ((r40 l0_0 x57_2).f3) x79_3).f0) [.int .i64 ((r42 ((r40 l0_0 x57_2).f3) x79_3).f0)] from rfl) (Reps.none _ _)))
               intro v217 w81 ho82 hb hg_ hnew_
               clear hg_ hnew_
               (first | rw [← Ny216.out] at ho82 | (simp only [Int.reduceToNat] at ho82; rw [← Ny216.out] at ho82))
               have n0_ := Aside0.mk (Kd.R_below (by (with_reducible repeat (first | apply Kd.R_alloc | apply Kd.R_drewN | apply Kd.R_drew)); exact HO_4.out) hb)
               have n1_ := Aside0.mk (Kd.R_elder' (by (with_reducible repeat (first | apply Kd.R_alloc | apply Kd.R_drewN | apply Kd.R_drew)); exact HO224.out) (Kd.R_base ho82) hb)
               have n2_ := Aside0.mk (Kd.R_lower (Kd.R_new' ho82 (Kd.R_lt (by (with_reducible repeat (first | apply Kd.R_alloc | apply Kd.R_drewN | apply Kd.R_drew)); exact HO224.out))) (bZ (by repeat (first | (with_reducible first | exact HB.out | apply bA | apply bN | apply bD | refine bS ?_ GE164.out | refine bS ?_ GE201.out | refine bS ?_ GE215.out) | exact HB.out))))
               have n3_ := Aside0.mk (kB (g := gb164) (o := .cells #[.slice (some ad200) l0_0.length c0_0, .slice A0_1 l0_1.length c0_1, .slice A0_2 l0_2.length c0_2, .int .i64 a0_3] 26 (0, 0)) (by (with_reducible repeat (first | refine kN ?_ _ | refine kD ?_ | refine kA ?_ _)); exact BK164.out) hb)
               have n4_ := Aside0.mk (kB (g := gb201) (o := .cells #[.int .i64 ((r40 l0_0 x57_2).f0), .int .i64 ((r40 l0_0 x57_2).f1), .int .i64 ((r40 l0_0 x57_2).f2), .slice (some ad214) ((r40 l0_0 x57_2).f3).length c200_3] 40 (0, 0)) (by (with_reducible repeat (first | refine kN ?_ _ | refine kD ?_ | refine kA ?_ _)); exact BK201.out) hb)
               have n5_ := Aside0.mk (kB (g := gb215) (o := .cells #[.int .i64 ((r42 ((r40 l0_0 x57_2).f3) x79_3).f0), .int .i64 ((r42 ((r40 l0_0 x57_2).f3) x79_3).f1), .int .i64 ((r42 ((r40 l0_0 x57_2).f3) x79_3).f2)] 42 (0, 0)) (by (with_reducible repeat (first | refine kN ?_ _ | refine kD ?_ | refine kA ?_ _)); exact BK215.out) hb)
               have n6_ := Aside0.mk (bT (by repeat (first | (with_reducible first | exact HB.out | apply bA | apply bN | apply bD | refine bS ?_ GE164.out | refine bS ?_ GE201.out | refine bS ?_ GE215.out) | exact HB.out)) hb)
               clear HO_4
               clear HO224
               clear BK164
               clear BK201
               clear BK215
               clear HB
               have HO_4 := n0_
               have HO224 := n1_
               have HO218 := n2_
               have BK164 := n3_
               have BK201 := n4_
               have BK215 := n5_
               have HB := n6_
               clear n0_ n1_ n2_ n3_ n4_ n5_ n6_
               clear hb ho82
               obtain ⟨Ao83, co83, eo83⟩ := Kd.R_slice HO218.out
               (first | subst eo83 | (injection eo83 with f1_ f2_ f3_; have f4_ := f1_.symm; have f5_ := f3_.symm; clear f1_ f2_ f3_; subst f4_; subst f5_))
               refine hK.out _ _ ⟨(kC BK215.out 0).trans rfl, (kC BK215.out 1).trans rfl, (kC BK215.out 2).trans rfl⟩ (fun hHeld => ?_)
               clear hK K
               refine norm_ (a' := ?_) ?_ ?_
               rotate_left
               ·show Act.put _ (some 86) _ = _
                simp only [Act.put, List.setIfInBounds_toArray, List.set_cons_zero, List.set_cons_succ, i64_w, i32_w]
                rfl
               refine one_ (i := 4) (N := some 87) #[true, true, true, true, true, true, true, true, true, true, false, false] rfl rfl (one_of HT_.out (by kernel_rfl)) (by decide) (fun K hK => ?_)
               refine goes_ Try.func22 (by kernel_rfl) rfl #[.slice Ao76 x4_3.length co76, .int .i64 1, .slice Ao83 y216.length co83] (by rfl) rfl rfl (by (try simp only [List.map_toArray, List.map_cons, List.map_nil]); first | done | rfl | (simp only [List.length_drop, List.length_take]; rfl)) ?_
               with_reducible refine (code_put.calls k3 (fun k_ => some k_ = (.slice Ao76 x4_3.length co76 : Value).ownBlock) (.slice Ao76 x4_3.length co76) x4_3 1 _ _ y216 t219 w _ ?side1 ?side2 ?side3 ?side4 A70.out).mono ?_
               (case side1 => repeat (first | (with_reducible first | exact HB.out | apply bA | apply bN | apply bD | refine bS ?_ GE164.out | refine bS ?_ GE201.out | refine bS ?_ GE215.out) | exact HB.out))
               (case side2 => exact Kd.R_tight rfl HO_4.out)
               (case side3 => exact Kd.C_kept_own ((Kd.R_apart' HO218.out (Kd.R_typed HO_4.out) (by decide))) (fun k_ hk_ hs_ => (hk_.2) hs_))
               (case side4 => exact (Kd.R_reads' HO218.out).2.1)
               rintro e w84 ⟨v220, rfl, ho0, hb, hkp⟩
               refine ⟨_, rfl, ?_⟩
               have n0_ := Aside0.mk (blk_kept (by (with_reducible repeat (first | refine kN ?_ _ | refine kD ?_ | refine kA ?_ _)); exact BK164.out) hkp (fun hs_ => (fun e_ => (Kd.R_ne HO_4.out BK164.out (by decide)) e_) hs_))
               have n1_ := Aside0.mk (blk_kept (by (with_reducible repeat (first | refine kN ?_ _ | refine kD ?_ | refine kA ?_ _)); exact BK201.out) hkp (fun hs_ => (fun e_ => (Kd.R_ne HO_4.out BK201.out (by decide)) e_) hs_))
               have n2_ := Aside0.mk (blk_kept (by (with_reducible repeat (first | refine kN ?_ _ | refine kD ?_ | refine kA ?_ _)); exact BK215.out) hkp (fun hs_ => (fun e_ => (Kd.R_ne HO_4.out BK215.out (by decide)) e_) hs_))
               have n3_ := Aside0.mk (Kd.R_mono (ok' := fun k_ => some k_ ≠ (.slice Ao83 y216.length co83 : Value).ownBlock) (Kd.R_keptB ((Kd.R_apart' HO224.out (Kd.R_typed HO_4.out) (by decide))) hkp (fun k_ hk_ hs_ => (hk_.2) hs_)) (fun k_ hk_ => hk_.1.1.2))
               have n4_ := Aside0.mk (Kd.R_mono (ok' := fun k_ => some k_ ≠ (v223 : Value).ownBlock) (Kd.R_keptB ((Kd.R_apart' HO218.out (Kd.R_typed HO_4.out) (by decide))) hkp (fun k_ hk_ hs_ => (hk_.2) hs_)) (fun k_ hk_ => hk_.1.1.2))
               have n5_ := Aside0.mk (Kd.R_mono (ok' := fun k_ => True) ho0 (fun k_ hk_ => trivial))
               have n6_ := Aside0.mk (hb)
               clear BK164
               clear BK201
               clear BK215
               clear HO224
               clear HO218
               clear HB
               clear HO_4
               have BK164 := n0_
               have BK201 := n1_
               have BK215 := n2_
               have HO224 := n3_
               have HO218 := n4_
               have HO221 := n5_
               have HB := n6_
               clear n0_ n1_ n2_ n3_ n4_ n5_ n6_
               (try clear hb)
               (try clear hkp)
               (try clear ho0)
               refine hK.out _ _ ⟨(kC BK215.out 0).trans rfl, (kC BK215.out 1).trans rfl, (kC BK215.out 2).trans rfl⟩ (fun hHeld => ?_)
               clear hK K
               refine norm_ (a' := ?_) ?_ ?_
               rotate_left
               ·show Act.put _ (some 87) _ = _
                simp only [Act.put, List.setIfInBounds_toArray, List.set_cons_zero, List.set_cons_succ, i64_w, i32_w]
                rfl
               exact norm_ (by simp only [putAll, Act.put, List.setIfInBounds_toArray, List.set_cons_zero, List.set_cons_succ]) (hCont (.slice Ao83 y216.length co83, v220, v223) _ ⟨hHeld, (by (with_reducible repeat (first | apply Kd.R_alloc | apply Kd.R_drewN | apply Kd.R_drew)); exact HO218.out), (by (with_reducible repeat (first | apply Kd.R_alloc | apply Kd.R_drewN | apply Kd.R_drew)); exact HO221.out), (by (with_reducible repeat (first | apply Kd.R_alloc | apply Kd.R_drewN | apply Kd.R_drew)); exact HO224.out), (by (with_reducible repeat (first | refine kN ?_ _ | refine kD ?_ | refine kA ?_ _)); exact BK164.out), (by (with_reducible repeat (first | refine kN ?_ _ | refine kD ?_ | refine kA ?_ _)); exact BK201.out), (by (with_reducible repeat (first | refine kN ?_ _ | refine kD ?_ | refine kA ?_ _)); exact BK215.out), (by repeat (first | (with_reducible first | exact HB.out | apply bA | apply bN | apply bD | refine bS ?_ GE164.out | refine bS ?_ GE201.out | refine bS ?_ GE215.out) | exact HB.out))⟩)
              rintro ⟨v217, v220, v223⟩ w85 ⟨hS_, h0_, h1_, h2_, h3_, h4_, h5_, h6_⟩
              have n0_ : Aside0 (Kd.R (Kd.int .i64) 3 w85 w.heap.size (fun k_ => some k_ ≠ (v223 : Value).ownBlock) v217 y216) := ⟨h0_⟩
              have n1_ : Aside0 (Kd.R (Kd.int .u8) 5 w85 w.heap.size (fun _ => True) v220 t219) := ⟨h1_⟩
              have n2_ : Aside0 (Kd.R (Kd.int .i64) 3 w85 w.heap.size (fun k_ => some k_ ≠ (v217 : Value).ownBlock) v223 y222) := ⟨h2_⟩
              have n3_ : Aside0 (w85.heap[gb164]? = some (.cells #[.slice (some ad200) l0_0.length c0_0, .slice A0_1 l0_1.length c0_1, .slice A0_2 l0_2.length c0_2, .int .i64 a0_3] 26 (0, 0))) := ⟨h3_⟩
              have n4_ : Aside0 (w85.heap[gb201]? = some (.cells #[.int .i64 ((r40 l0_0 x57_2).f0), .int .i64 ((r40 l0_0 x57_2).f1), .int .i64 ((r40 l0_0 x57_2).f2), .slice (some ad214) ((r40 l0_0 x57_2).f3).length c200_3] 40 (0, 0))) := ⟨h4_⟩
              have n5_ : Aside0 (w85.heap[gb215]? = some (.cells #[.int .i64 ((r42 ((r40 l0_0 x57_2).f3) x79_3).f0), .int .i64 ((r42 ((r40 l0_0 x57_2).f3) x79_3).f1), .int .i64 ((r42 ((r40 l0_0 x57_2).f3) x79_3).f2)] 42 (0, 0))) := ⟨h5_⟩
              have n6_ : Aside0 (Below w.heap.size w w85) := ⟨h6_⟩
              clear HO_4
              clear BK164
              clear BK201
              clear BK215
              clear HB
              clear h0_ h1_ h2_ h3_ h4_ h5_ h6_
              have HO218 := n0_
              have HO221 := n1_
              have HO224 := n2_
              have BK164 := n3_
              have BK201 := n4_
              have BK215 := n5_
              have HB := n6_
              clear n0_ n1_ n2_ n3_ n4_ n5_ n6_
              have hHeld : w85.cell? ⟨gb215, 0, none⟩ = some (.int .i64 ((r42 ((r40 l0_0 x57_2).f3) x79_3).f0)) ∧ w85.cell? ⟨gb215, 1, none⟩ = some (.int .i64 ((r42 ((r40 l0_0 x57_2).f3) x79_3).f1)) ∧ w85.cell? ⟨gb215, 2, none⟩ = some (.int .i64 ((r42 ((r40 l0_0 x57_2).f3) x79_3).f2)) := hS_
              obtain ⟨Ao86, co86, eo86⟩ := Kd.R_slice HO221.out
              (first | subst eo86 | (injection eo86 with f1_ f2_ f3_; have f4_ := f1_.symm; have f5_ := f3_.symm; clear f1_ f2_ f3_; subst f4_; subst f5_))
              obtain ⟨Ao87, co87, eo87⟩ := Kd.R_slice HO224.out
              (first | subst eo87 | (injection eo87 with f1_ f2_ f3_; have f4_ := f1_.symm; have f5_ := f3_.symm; clear f1_ f2_ f3_; subst f4_; subst f5_))
              refine norm_ (a' := ?_) ?_ ?_
              rotate_left
              ·simp only [putAll, Act.put, List.setIfInBounds_toArray, List.set_cons_zero, List.set_cons_succ]
               rfl
              refine one_ (i := 10) (N := some 93) #[true, true, true, true, true, true, true, true, true, true, true, false] rfl rfl (one_of HT_.out (by kernel_rfl)) (by decide) (fun K hK => ?_)
              refine goes_ Try.func22 (by kernel_rfl) rfl #[.slice Ao86 t219.length co86, .int .i64 2, .slice Ao87 y222.length co87] (by rfl) rfl rfl (by (try simp only [List.map_toArray, List.map_cons, List.map_nil]); first | done | rfl | (simp only [List.length_drop, List.length_take]; rfl)) ?_
              with_reducible refine (code_put.calls k3 (fun k_ => some k_ = (.slice Ao86 t219.length co86 : Value).ownBlock) (.slice Ao86 t219.length co86) t219 2 _ _ y222 t225 w _ ?side1 ?side2 ?side3 ?side4 A71.out).mono ?_
              (case side1 => repeat (first | (with_reducible first | exact HB.out | apply bA | apply bN | apply bD | refine bS ?_ GE164.out | refine bS ?_ GE201.out | refine bS ?_ GE215.out) | exact HB.out))
              (case side2 => exact Kd.R_tight rfl HO221.out)
              (case side3 => exact Kd.C_kept_own ((Kd.R_apart' HO224.out (Kd.R_typed HO221.out) (by decide))) (fun k_ hk_ hs_ => (hk_.2) hs_))
              (case side4 => exact (Kd.R_reads' HO224.out).2.1)
              rintro e w88 ⟨v226, rfl, ho0, hb, hkp⟩
              refine ⟨_, rfl, ?_⟩
              have n0_ := Aside0.mk (blk_kept (by (with_reducible repeat (first | refine kN ?_ _ | refine kD ?_ | refine kA ?_ _)); exact BK164.out) hkp (fun hs_ => (fun e_ => (Kd.R_ne HO221.out BK164.out (by decide)) e_) hs_))
              have n1_ := Aside0.mk (blk_kept (by (with_reducible repeat (first | refine kN ?_ _ | refine kD ?_ | refine kA ?_ _)); exact BK201.out) hkp (fun hs_ => (fun e_ => (Kd.R_ne HO221.out BK201.out (by decide)) e_) hs_))
              have n2_ := Aside0.mk (blk_kept (by (with_reducible repeat (first | refine kN ?_ _ | refine kD ?_ | refine kA ?_ _)); exact BK215.out) hkp (fun hs_ => (fun e_ => (Kd.R_ne HO221.out BK215.out (by decide)) e_) hs_))
              have n3_ := Aside0.mk (Kd.R_mono (ok' := fun k_ => some k_ ≠ (.slice Ao87 y222.length co87 : Value).ownBlock) (Kd.R_keptB ((Kd.R_apart' HO218.out (Kd.R_typed HO221.out) (by decide))) hkp (fun k_ hk_ hs_ => (hk_.2) hs_)) (fun k_ hk_ => hk_.1.1))
              have n4_ := Aside0.mk (Kd.R_mono (ok' := fun k_ => some k_ ≠ (v217 : Value).ownBlock) (Kd.R_keptB ((Kd.R_apart' HO224.out (Kd.R_typed HO221.out) (by decide))) hkp (fun k_ hk_ hs_ => (hk_.2) hs_)) (fun k_ hk_ => hk_.1.1))
              have n5_ := Aside0.mk (Kd.R_mono (ok' := fun k_ => True) ho0 (fun k_ hk_ => trivial))
              have n6_ := Aside0.mk (hb)
              clear BK164
              clear BK201
              clear BK215
              clear HO218
              clear HO224
              clear HB
              clear HO221
              have BK164 := n0_
              have BK201 := n1_
              have BK215 := n2_
              have HO218 := n3_
              have HO224 := n4_
              have HO227 := n5_
              have HB := n6_
              clear n0_ n1_ n2_ n3_ n4_ n5_ n6_
              (try clear hb)
              (try clear hkp)
              (try clear ho0)
              refine hK.out _ _ ⟨(kC BK215.out 0).trans rfl, (kC BK215.out 1).trans rfl, (kC BK215.out 2).trans rfl⟩ (fun hHeld => ?_)
              clear hK K
              refine norm_ (a' := ?_) ?_ ?_
              rotate_left
              ·show Act.put _ (some 93) _ = _
               simp only [Act.put, List.setIfInBounds_toArray, List.set_cons_zero, List.set_cons_succ, i64_w, i32_w]
               rfl
              refine pure_ (i := 11) (N := some 4) (v := ?_) (a' := ?_) #[true, true, true, true, true, true, true, true, true, true, true, true] rfl rfl (any_of HT_.out (by kernel_rfl)) (fun _ _ _ h => h) (Or.inl ⟨by rfl, ?_⟩) ?_ ?_
              rotate_left
              ·intro w'
               go_simp
               with_reducible rfl
              rotate_left
              ·simp only [Act.put, List.setIfInBounds_toArray, List.set_cons_zero, List.set_cons_succ, i64_w, i32_w]
               rfl
              refine done_ (done_of HT_.out (by kernel_rfl)) ?_
              try go_wp2
              go_roundg k3
              case measure => have := HK1.out; have := HK2.out; have := HK3.out; omega
              case rel => exact ⟨(t225), (wrap64 (x79_3 + 1)), (by first | rfl | (simp; done) | (simp [*]; done)), H', ⟨by have := HK1.out; have := HK2.out; have := HK3.out; omega⟩, ⟨by (with_reducible repeat (first | apply Kd.R_alloc | apply Kd.R_drewN | apply Kd.R_drew)); exact HO227.out⟩, ⟨by (with_reducible repeat (first | refine kN ?_ _ | refine kD ?_ | refine kA ?_ _)); exact BK164.out⟩, ⟨by (with_reducible repeat (first | refine kN ?_ _ | refine kD ?_ | refine kA ?_ _)); exact BK201.out⟩, ⟨by repeat (first | (with_reducible first | exact HB.out | apply bA | apply bN | apply bD | refine bS ?_ GE164.out | refine bS ?_ GE201.out | refine bS ?_ GE215.out) | exact HB.out)⟩⟩
             rw [if_neg c69] at H
             exact absurd H (by simp)
            rw [if_neg c68] at H
            exact absurd H (by simp)
           rw [if_neg c67] at H
           have c67b0 : decide (x79_3 < (((r40 l0_0 x57_2).f3).length : Int)) = false := decide_eq_false c67
           clear c67
           have H' := Aside0.mk H
           clear H
           go_wp2
           go_roundg k3
           case measure => have := HK1.out; have := HK2.out; have := HK3.out; omega
           case rel => exact ⟨(x4_3), (wrap64 (x57_2 + 1)), (by first | rfl | (simp; done) | (simp [*]; done)), H', ⟨by have := HK1.out; have := HK2.out; have := HK3.out; omega⟩, ⟨by (with_reducible repeat (first | apply Kd.R_alloc | apply Kd.R_drewN | apply Kd.R_drew)); exact HO_4.out⟩, ⟨by (with_reducible repeat (first | refine kN ?_ _ | refine kD ?_ | refine kA ?_ _)); exact BK164.out⟩, ⟨by repeat (first | (with_reducible first | exact HB.out | apply bA | apply bN | apply bD | refine bS ?_ GE164.out | refine bS ?_ GE201.out) | exact HB.out)⟩⟩
        rw [if_neg c49] at H
        exact absurd H (by simp)
       rw [if_neg c48] at H
       exact absurd H (by simp)
      rw [if_neg c47] at H
      have c47b0 : decide (x57_2 < (l0_0.length : Int)) = false := decide_eq_false c47
      clear c47
      simp only [Option.some.injEq, Prod.mk.injEq] at H
      obtain ⟨rfl, rfl⟩ := H
      go_wp2
      go_ret2
      exact ⟨_, by first | rfl | (simp [wN, wS] <;> rfl) | (simp [*, wN, wS] <;> rfl), by (with_reducible repeat (first | apply Kd.R_alloc | apply Kd.R_drewN | apply Kd.R_drew)); exact HO_4.out, by repeat (first | (with_reducible first | exact HB.out | apply bA | apply bN | apply bD | refine bS ?_ GE164.out) | exact HB.out)⟩
 replace c3 := Bool.eq_false_iff.mpr c3
 subst c3
 have H1 : (some (([] : List Int), 1)) = some (r1, r2) := by rw [if_neg (show ¬ (false = true) by decide)] at H; exact H
 clear H
 have H := H1
 clear H1
 simp only [Option.some.injEq, Prod.mk.injEq] at H
 obtain ⟨rfl, rfl⟩ := H
 go_enter Try.func10, Try.ntmps10
 go_wp2_with (first | ((with_reducible refine gate_dst (N := 1) rfl ?_); refine box_event ?hg (N := 1) ?hd (cs := #[.slice A0_0 l0_0.length c0_0, .slice A0_1 l0_1.length c0_1, .slice A0_2 l0_2.length c0_2, .int .i64 a0_3]) (t := 26) ?hr ?_; (case hd => rfl); (case hg => rfl); (case hr => first | (go_simp; done) | (go_simp; rfl)); intro gb164 hg w89 hbox hb; have n0_ := Aside0.mk (bT (by repeat (first | (with_reducible first | exact HB.out | apply bA | apply bN | apply bD) | exact HB.out)) hb); have n1_ := Aside0.mk (hbox); have n2_ := Aside0.mk ((by rw [hg]; exact (bZ (by repeat (first | (with_reducible first | exact HB.out | apply bA | apply bN | apply bD) | exact HB.out))) : w.heap.size ≤ gb164)); have n3_ := Aside0.mk ((by rw [hg]; exact (bZ (by repeat (first | (with_reducible first | exact HB.out | apply bA | apply bN | apply bD) | exact HB.out))) : w.heap.size ≤ gb164)); clear HB; have HB := n0_; have BK164 := n1_; have GW164 := n2_; have GE164 := n3_; clear n0_ n1_ n2_ n3_; clear hb hbox hg; have hcz90_0 : w89.cell? ⟨gb164, 0, none⟩ = some (.slice A0_0 l0_0.length c0_0) := (kC BK164.out 0).trans rfl; have hcz90_1 : w89.cell? ⟨gb164, 1, none⟩ = some (.slice A0_1 l0_1.length c0_1) := (kC BK164.out 1).trans rfl; have hcz90_2 : w89.cell? ⟨gb164, 2, none⟩ = some (.slice A0_2 l0_2.length c0_2) := (kC BK164.out 2).trans rfl; have hcz90_3 : w89.cell? ⟨gb164, 3, none⟩ = some (.int .i64 a0_3) := (kC BK164.out 3).trans rfl; have hfz90_0 := kF BK164.out 0; have hfz90_1 := kF BK164.out 1; have hfz90_2 := kF BK164.out 2; have hfz90_3 := kF BK164.out 3) | ((with_reducible refine gate_callee (f := 13) rfl ?_); refine goesL_ (some 12) rfl rfl Try.func13 (by kernel_rfl) rfl #[.agg #[.slice A0_0 l0_0.length c0_0, .slice A0_1 l0_1.length c0_1, .slice A0_2 l0_2.length c0_2, .int .i64 a0_3]] rfl (by (try simp only [List.map_toArray, List.map_cons, List.map_nil]); first | done | rfl | (simp only [List.length_drop, List.length_take]; rfl)) ?_; (with_reducible refine (code_May.calls k _ _ l0_0 _ _ l0_1 _ _ l0_2 a0_3 false _ ?side1 ?side2 ?side3 ?side4 ?side5 ?side6 A2.out).mono ?_); (case side1 => repeat (first | exact (Kd.C_below HR0_0.out HB.out) | (with_reducible refine Kd.C_alloc ?_ _) | (with_reducible refine Kd.C_drewN ?_ _) | (with_reducible refine Kd.C_drew ?_))); (case side2 => exact HC0_0.out); (case side3 => repeat (first | exact (Kd.C_below HR0_1.out HB.out) | (with_reducible refine Kd.C_alloc ?_ _) | (with_reducible refine Kd.C_drewN ?_ _) | (with_reducible refine Kd.C_drew ?_))); (case side4 => exact HC0_1.out); (case side5 => repeat (first | exact (Kd.C_below HR0_2.out HB.out) | (with_reducible refine Kd.C_alloc ?_ _) | (with_reducible refine Kd.C_drewN ?_ _) | (with_reducible refine Kd.C_drew ?_))); (case side6 => exact HC0_2.out); rintro e w91 ⟨rfl, hb⟩; refine ⟨_, rfl, ?_⟩; have n0_ := Aside0.mk (kB (g := gb164) (o := .cells #[.slice A0_0 l0_0.length c0_0, .slice A0_1 l0_1.length c0_1, .slice A0_2 l0_2.length c0_2, .int .i64 a0_3] 26 (0, 0)) (by (with_reducible repeat (first | refine kN ?_ _ | refine kD ?_ | refine kA ?_ _)); exact BK164.out) hb); have n1_ := Aside0.mk (bT (by repeat (first | (with_reducible first | exact HB.out | apply bA | apply bN | apply bD | refine bS ?_ GE164.out) | exact HB.out)) hb); clear BK164; clear HB; have BK164 := n0_; have HB := n1_; clear n0_ n1_; (try clear hb); (try clear hb2); (try clear hk); (try clear hi)))
 go_ret2
 exact ⟨_, by first | rfl | (simp [wN, wS] <;> rfl) | (simp [*, wN, wS] <;> rfl), by first | exact Kd.R_nil _ _ _ _ _ | exact Kd.N_nil _ _ _ _ _ | exact Kd.V_nil _ _ _ _ _ | exact Kd.Q_nil _ _ _ _ _ | exact Kd.S_nil _ _ _ _ _, by repeat (first | (with_reducible first | exact HB.out | apply bA | apply bN | apply bD | refine bS ?_ GE164.out) | exact HB.out)⟩

end Go.Proofs.Ytadbiogchgglpaa.Q
