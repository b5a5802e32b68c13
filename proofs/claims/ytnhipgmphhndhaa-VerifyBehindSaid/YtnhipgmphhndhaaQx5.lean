-- PRINTED by print.py (a twelfth state) out of the translation. Not trusted: Lean checks it.
import Derived.Test.YtnhipgmphhndhaaQx0
namespace Go.Proofs.Ytnhipgmphhndhaa.Q
open Go.RowKit Go.Proofs.YtnhipgmphhndhaaW.PrintWords Go.Proofs.YtnhipgmphhndhaaW.PrintLast Go.Proofs.YtnhipgmphhndhaaW.PrintMore
attribute [local go_sem] max2_int min2_int max_two min_two max_three min_three max_four min_four   -- for this text's walks alone
set_option linter.unusedVariables false
set_option linter.unusedSimpArgs false

/-! ### code_Uses: function 49 -/
mutual
def code_Uses.j0 : Nat → Int → Int → Bool → Option (Int)
 | 0, _, _, _ => none
 | k + 1, x0, x3, x4 => if x4 = true then (some 2) else (if x3 = 1 then (code_Uses.j1 k x0 (x3 == 1)) else (if x3 = 2 then (code_Uses.j1 k x0 (x3 == 2)) else (if x3 = 3 then (code_Uses.j1 k x0 (x3 == 3)) else (if x3 = 4 then (code_Uses.j1 k x0 (x3 == 4)) else (if x3 = 6 then (code_Uses.j1 k x0 (x3 == 6)) else (if x3 = 7 then (code_Uses.j1 k x0 (x3 == 7)) else (if x3 = 8 then (code_Uses.j1 k x0 (x3 == 8)) else (if x3 = 12 then (code_Uses.j1 k x0 (x3 == 12)) else (if x3 = 16 then (code_Uses.j1 k x0 (x3 == 16)) else (if x3 = 17 then (code_Uses.j1 k x0 (x3 == 17)) else (if x3 = 19 then (code_Uses.j1 k x0 (x3 == 19)) else (if x3 = 21 then (code_Uses.j1 k x0 (x3 == 21)) else (code_Uses.j1 k x0 (x3 == 28))))))))))))))
def code_Uses.j1 : Nat → Int → Bool → Option (Int)
 | 0, _, _ => none
 | k + 1, x0, x8 => if x8 = true then (some 1) else (if x0 < 1 then (some (-1)) else (if x0 > 33 then (some (-1)) else (some 0)))
end
def code_Uses.f (k : Nat) (a0 : Int) : Option (Int) := if a0 = 10 then (code_Uses.j0 k a0 a0 (a0 == 10)) else (if a0 = 11 then (code_Uses.j0 k a0 a0 (a0 == 11)) else (code_Uses.j0 k a0 a0 (a0 == 18)))
theorem code_Uses.mono_l : ∀ k, (∀ y0 y1 y2, LeO (code_Uses.j0 k y0 y1 y2) (code_Uses.j0 (k + 1) y0 y1 y2)) ∧ (∀ y0 y1, LeO (code_Uses.j1 k y0 y1) (code_Uses.j1 (k + 1) y0 y1))
 | 0 => ⟨fun _ _ _ r h => by simp [code_Uses.j0] at h, fun _ _ r h => by simp [code_Uses.j1] at h⟩
 | k + 1 => by
  obtain ⟨ih0, ih1⟩ := code_Uses.mono_l k
  refine ⟨?_, ?_⟩
  ·intro y0 y1 y2
   unfold code_Uses.j0
   repeat' first
   | (with_reducible exact ih0 _ _ _)
   | (with_reducible exact ih1 _ _)
   | (with_reducible exact LeO.refl _)
   | (with_reducible exact LeO.none _)
   | (with_reducible refine LeO.ite ?_ ?_)
   | (with_reducible refine LeO.bind ?_ (fun _ => ?_))
   | exact ih0 _ _ _
   | exact ih1 _ _
   | exact LeO.none _
   | refine LeO.ite ?_ ?_
   | refine LeO.bind ?_ (fun _ => ?_)
  intro y0 y1
  unfold code_Uses.j1
  repeat' first
  | (with_reducible exact ih0 _ _ _)
  | (with_reducible exact ih1 _ _)
  | (with_reducible exact LeO.refl _)
  | (with_reducible exact LeO.none _)
  | (with_reducible refine LeO.ite ?_ ?_)
  | (with_reducible refine LeO.bind ?_ (fun _ => ?_))
  | exact ih0 _ _ _
  | exact ih1 _ _
  | exact LeO.none _
  | refine LeO.ite ?_ ?_
  | refine LeO.bind ?_ (fun _ => ?_)
theorem code_Uses.mono : ∀ a0 k, LeO (code_Uses.f k a0) (code_Uses.f (k + 1) a0) := by
 intro a0 k
 obtain ⟨ih0, ih1⟩ := code_Uses.mono_l k
 unfold code_Uses.f
 repeat' first
   | (with_reducible exact ih0 _ _ _)
   | (with_reducible exact ih1 _ _)
   | (with_reducible exact LeO.refl _)
   | (with_reducible exact LeO.none _)
   | (with_reducible refine LeO.ite ?_ ?_)
   | (with_reducible refine LeO.bind ?_ (fun _ => ?_))
   | exact ih0 _ _ _
   | exact ih1 _ _
   | exact LeO.none _
   | refine LeO.ite ?_ ?_
   | refine LeO.bind ?_ (fun _ => ?_)
set_option maxHeartbeats 8000000 in
set_option maxRecDepth 100000 in
theorem code_Uses.calls (k : Nat) (a0 : Int) (r : Int) (w : World) (h : code_Uses.f k a0 = some r) :
  Calls Try.prog 49 #[.int .i64 a0] w fun e w' => e = .returned (.int .i64 r) ∧ Drawn0 w w' := by
 have H : (if a0 = 10 then (code_Uses.j0 k a0 a0 (a0 == 10)) else (if a0 = 11 then (code_Uses.j0 k a0 a0 (a0 == 11)) else (code_Uses.j0 k a0 a0 (a0 == 18)))) = some r := h
 clear h
 have HC2 := Aside0.mk H
 clear H
 go_enter Try.func49, Try.ntmps49
 go_upto_if 4 with (fail)
 go_cut [4] (fun v4 wc => ∃ (kq : Nat) (x4_1 : Bool), v4 = .bool x4_1 ∧ Aside0 (code_Uses.j0 kq a0 a0 x4_1 = some r) ∧ Aside0 (kq ≤ k) ∧ Drawn0 w wc)
 case first =>
  have H := HC2.out
  clear HC2
  by_cases c3 : a0 = 10
  ·rw [if_pos c3] at H
   have c3b0 : (a0 == 10) = true := beq_iff_eq.mpr c3
   have c3b1 : (a0 != 10) = false := bne_eq_false_iff_eq.mpr c3
   clear c3
   (first | rw [c3b0] | (simp only [i64_w, i32_w]; rw [c3b0]) | skip)
   have H' := Aside0.mk H
   clear H
   go_wp2
   go_meet
   case rel => exact ⟨_, ((a0 == 10)), (by first | rfl | (simp; done) | (simp [*]; done)), H', ⟨by first | omega | exact Nat.le_refl _⟩, by repeat (first | exact Drawn0.refl _ | apply Drawn0.step)⟩
  rw [if_neg c3] at H
  have c3b0 : (a0 == 10) = false := beq_eq_false_iff_ne.mpr c3
  have c3b1 : (a0 != 10) = true := bne_iff_ne.mpr c3
  (first | rw [c3b0] | (simp only [i64_w, i32_w]; rw [c3b0]) | skip)
  by_cases c4 : a0 = 11
  ·rw [if_pos c4] at H
   have c4b0 : (a0 == 11) = true := beq_iff_eq.mpr c4
   have c4b1 : (a0 != 11) = false := bne_eq_false_iff_eq.mpr c4
   clear c4
   have H' := Aside0.mk H
   clear H
   go_wp2
   go_meet
   case rel => exact ⟨_, ((a0 == 11)), (by first | rfl | (simp; done) | (simp [*]; done)), H', ⟨by first | omega | exact Nat.le_refl _⟩, by repeat (first | exact Drawn0.refl _ | apply Drawn0.step)⟩
  rw [if_neg c4] at H
  have c4b0 : (a0 == 11) = false := beq_eq_false_iff_ne.mpr c4
  have c4b1 : (a0 != 11) = true := bne_iff_ne.mpr c4
  have H' := Aside0.mk H
  clear H
  go_wp2
  go_meet
  case rel => exact ⟨_, ((a0 == 18)), (by first | rfl | (simp; done) | (simp [*]; done)), H', ⟨by first | omega | exact Nat.le_refl _⟩, by repeat (first | exact Drawn0.refl _ | apply Drawn0.step)⟩
 case rest =>
  clear HC2
  try clear p2
  try clear c3
  try clear c3b0
  try clear c3b1
  try clear c4
  try clear c4b0
  try clear c4b1
  obtain ⟨kq, x4_1, rfl, HA, HJ1, ⟨mc1, rfl⟩⟩ := hcut
  cases kq with
  | zero => exact absurd HA.out (by simp [code_Uses.j0])
  | succ kj1 =>
   have H := HA.out
   clear HA
   simp only [code_Uses.j0] at H
   by_cases c5 : x4_1 = true
   ·subst c5
    have H1 : (some 2) = some r := by rw [if_pos rfl] at H; exact H
    clear H
    have H := H1
    clear H1
    obtain rfl := Option.some.inj H
    go_wp2
    go_ret
    exact ⟨by first | rfl | (simp; done) | (simp [*]; done), by repeat (first | exact Drawn0.refl _ | apply Drawn0.step)⟩
   replace c5 := Bool.eq_false_iff.mpr c5
   subst c5
   have H1 : (if a0 = 1 then (code_Uses.j1 kj1 a0 (a0 == 1)) else (if a0 = 2 then (code_Uses.j1 kj1 a0 (a0 == 2)) else (if a0 = 3 then (code_Uses.j1 kj1 a0 (a0 == 3)) else (if a0 = 4 then (code_Uses.j1 kj1 a0 (a0 == 4)) else (if a0 = 6 then (code_Uses.j1 kj1 a0 (a0 == 6)) else (if a0 = 7 then (code_Uses.j1 kj1 a0 (a0 == 7)) else (if a0 = 8 then (code_Uses.j1 kj1 a0 (a0 == 8)) else (if a0 = 12 then (code_Uses.j1 kj1 a0 (a0 == 12)) else (if a0 = 16 then (code_Uses.j1 kj1 a0 (a0 == 16)) else (if a0 = 17 then (code_Uses.j1 kj1 a0 (a0 == 17)) else (if a0 = 19 then (code_Uses.j1 kj1 a0 (a0 == 19)) else (if a0 = 21 then (code_Uses.j1 kj1 a0 (a0 == 21)) else (code_Uses.j1 kj1 a0 (a0 == 28)))))))))))))) = some r := by rw [if_neg (show ¬ (false = true) by decide)] at H; exact H
   clear H
   have H := H1
   clear H1
   have HC6 := Aside0.mk H
   clear H
   go_upto_if 8 with (fail)
   go_cut [8] (fun v8 wc => ∃ (kq : Nat) (x8_5 : Bool), v8 = .bool x8_5 ∧ Aside0 (code_Uses.j1 kq a0 x8_5 = some r) ∧ Aside0 (kq ≤ kj1) ∧ Drawn0 w wc)
   case first =>
    have H := HC6.out
    clear HC6
    by_cases c7 : a0 = 1
    ·rw [if_pos c7] at H
     have c7b0 : (a0 == 1) = true := beq_iff_eq.mpr c7
     have c7b1 : (a0 != 1) = false := bne_eq_false_iff_eq.mpr c7
     clear c7
     (first | rw [c7b0] | (simp only [i64_w, i32_w]; rw [c7b0]) | skip)
     have H' := Aside0.mk H
     clear H
     go_wp2
     go_meet
     case rel => exact ⟨_, ((a0 == 1)), (by first | rfl | (simp; done) | (simp [*]; done)), H', ⟨by have := HJ1.out; first | omega | exact Nat.le_refl _⟩, by repeat (first | exact Drawn0.refl _ | apply Drawn0.step)⟩
    rw [if_neg c7] at H
    have c7b0 : (a0 == 1) = false := beq_eq_false_iff_ne.mpr c7
    have c7b1 : (a0 != 1) = true := bne_iff_ne.mpr c7
    (first | rw [c7b0] | (simp only [i64_w, i32_w]; rw [c7b0]) | skip)
    by_cases c8 : a0 = 2
    ·rw [if_pos c8] at H
     have c8b0 : (a0 == 2) = true := beq_iff_eq.mpr c8
     have c8b1 : (a0 != 2) = false := bne_eq_false_iff_eq.mpr c8
     clear c8
     have H' := Aside0.mk H
     clear H
     go_wp2
     go_meet
     case rel => exact ⟨_, ((a0 == 2)), (by first | rfl | (simp; done) | (simp [*]; done)), H', ⟨by have := HJ1.out; first | omega | exact Nat.le_refl _⟩, by repeat (first | exact Drawn0.refl _ | apply Drawn0.step)⟩
    rw [if_neg c8] at H
    have c8b0 : (a0 == 2) = false := beq_eq_false_iff_ne.mpr c8
    have c8b1 : (a0 != 2) = true := bne_iff_ne.mpr c8
    by_cases c9 : a0 = 3
    ·rw [if_pos c9] at H
     have c9b0 : (a0 == 3) = true := beq_iff_eq.mpr c9
     have c9b1 : (a0 != 3) = false := bne_eq_false_iff_eq.mpr c9
     clear c9
     have H' := Aside0.mk H
     clear H
     go_wp2
     go_meet
     case rel => exact ⟨_, ((a0 == 3)), (by first | rfl | (simp; done) | (simp [*]; done)), H', ⟨by have := HJ1.out; first | omega | exact Nat.le_refl _⟩, by repeat (first | exact Drawn0.refl _ | apply Drawn0.step)⟩
    rw [if_neg c9] at H
    have c9b0 : (a0 == 3) = false := beq_eq_false_iff_ne.mpr c9
    have c9b1 : (a0 != 3) = true := bne_iff_ne.mpr c9
    by_cases c10 : a0 = 4
    ·rw [if_pos c10] at H
     have c10b0 : (a0 == 4) = true := beq_iff_eq.mpr c10
     have c10b1 : (a0 != 4) = false := bne_eq_false_iff_eq.mpr c10
     clear c10
     have H' := Aside0.mk H
     clear H
     go_wp2
     go_meet
     case rel => exact ⟨_, ((a0 == 4)), (by first | rfl | (simp; done) | (simp [*]; done)), H', ⟨by have := HJ1.out; first | omega | exact Nat.le_refl _⟩, by repeat (first | exact Drawn0.refl _ | apply Drawn0.step)⟩
    rw [if_neg c10] at H
    have c10b0 : (a0 == 4) = false := beq_eq_false_iff_ne.mpr c10
    have c10b1 : (a0 != 4) = true := bne_iff_ne.mpr c10
    by_cases c11 : a0 = 6
    ·rw [if_pos c11] at H
     have c11b0 : (a0 == 6) = true := beq_iff_eq.mpr c11
     have c11b1 : (a0 != 6) = false := bne_eq_false_iff_eq.mpr c11
     clear c11
     have H' := Aside0.mk H
     clear H
     go_wp2
     go_meet
     case rel => exact ⟨_, ((a0 == 6)), (by first | rfl | (simp; done) | (simp [*]; done)), H', ⟨by have := HJ1.out; first | omega | exact Nat.le_refl _⟩, by repeat (first | exact Drawn0.refl _ | apply Drawn0.step)⟩
    rw [if_neg c11] at H
    have c11b0 : (a0 == 6) = false := beq_eq_false_iff_ne.mpr c11
    have c11b1 : (a0 != 6) = true := bne_iff_ne.mpr c11
    by_cases c12 : a0 = 7
    ·rw [if_pos c12] at H
     have c12b0 : (a0 == 7) = true := beq_iff_eq.mpr c12
     have c12b1 : (a0 != 7) = false := bne_eq_false_iff_eq.mpr c12
     clear c12
     have H' := Aside0.mk H
     clear H
     go_wp2
     go_meet
     case rel => exact ⟨_, ((a0 == 7)), (by first | rfl | (simp; done) | (simp [*]; done)), H', ⟨by have := HJ1.out; first | omega | exact Nat.le_refl _⟩, by repeat (first | exact Drawn0.refl _ | apply Drawn0.step)⟩
    rw [if_neg c12] at H
    have c12b0 : (a0 == 7) = false := beq_eq_false_iff_ne.mpr c12
    have c12b1 : (a0 != 7) = true := bne_iff_ne.mpr c12
    by_cases c13 : a0 = 8
    ·rw [if_pos c13] at H
     have c13b0 : (a0 == 8) = true := beq_iff_eq.mpr c13
     have c13b1 : (a0 != 8) = false := bne_eq_false_iff_eq.mpr c13
     clear c13
     have H' := Aside0.mk H
     clear H
     go_wp2
     go_meet
     case rel => exact ⟨_, ((a0 == 8)), (by first | rfl | (simp; done) | (simp [*]; done)), H', ⟨by have := HJ1.out; first | omega | exact Nat.le_refl _⟩, by repeat (first | exact Drawn0.refl _ | apply Drawn0.step)⟩
    rw [if_neg c13] at H
    have c13b0 : (a0 == 8) = false := beq_eq_false_iff_ne.mpr c13
    have c13b1 : (a0 != 8) = true := bne_iff_ne.mpr c13
    by_cases c14 : a0 = 12
    ·rw [if_pos c14] at H
     have c14b0 : (a0 == 12) = true := beq_iff_eq.mpr c14
     have c14b1 : (a0 != 12) = false := bne_eq_false_iff_eq.mpr c14
     clear c14
     have H' := Aside0.mk H
     clear H
     go_wp2
     go_meet
     case rel => exact ⟨_, ((a0 == 12)), (by first | rfl | (simp; done) | (simp [*]; done)), H', ⟨by have := HJ1.out; first | omega | exact Nat.le_refl _⟩, by repeat (first | exact Drawn0.refl _ | apply Drawn0.step)⟩
    rw [if_neg c14] at H
    have c14b0 : (a0 == 12) = false := beq_eq_false_iff_ne.mpr c14
    have c14b1 : (a0 != 12) = true := bne_iff_ne.mpr c14
    by_cases c15 : a0 = 16
    ·rw [if_pos c15] at H
     have c15b0 : (a0 == 16) = true := beq_iff_eq.mpr c15
     have c15b1 : (a0 != 16) = false := bne_eq_false_iff_eq.mpr c15
     clear c15
     have H' := Aside0.mk H
     clear H
     go_wp2
     go_meet
     case rel => exact ⟨_, ((a0 == 16)), (by first | rfl | (simp; done) | (simp [*]; done)), H', ⟨by have := HJ1.out; first | omega | exact Nat.le_refl _⟩, by repeat (first | exact Drawn0.refl _ | apply Drawn0.step)⟩
    rw [if_neg c15] at H
    have c15b0 : (a0 == 16) = false := beq_eq_false_iff_ne.mpr c15
    have c15b1 : (a0 != 16) = true := bne_iff_ne.mpr c15
    by_cases c16 : a0 = 17
    ·rw [if_pos c16] at H
     have c16b0 : (a0 == 17) = true := beq_iff_eq.mpr c16
     have c16b1 : (a0 != 17) = false := bne_eq_false_iff_eq.mpr c16
     clear c16
     have H' := Aside0.mk H
     clear H
     go_wp2
     go_meet
     case rel => exact ⟨_, ((a0 == 17)), (by first | rfl | (simp; done) | (simp [*]; done)), H', ⟨by have := HJ1.out; first | omega | exact Nat.le_refl _⟩, by repeat (first | exact Drawn0.refl _ | apply Drawn0.step)⟩
    rw [if_neg c16] at H
    have c16b0 : (a0 == 17) = false := beq_eq_false_iff_ne.mpr c16
    have c16b1 : (a0 != 17) = true := bne_iff_ne.mpr c16
    by_cases c17 : a0 = 19
    ·rw [if_pos c17] at H
     have c17b0 : (a0 == 19) = true := beq_iff_eq.mpr c17
     have c17b1 : (a0 != 19) = false := bne_eq_false_iff_eq.mpr c17
     clear c17
     have H' := Aside0.mk H
     clear H
     go_wp2
     go_meet
     case rel => exact ⟨_, ((a0 == 19)), (by first | rfl | (simp; done) | (simp [*]; done)), H', ⟨by have := HJ1.out; first | omega | exact Nat.le_refl _⟩, by repeat (first | exact Drawn0.refl _ | apply Drawn0.step)⟩
    rw [if_neg c17] at H
    have c17b0 : (a0 == 19) = false := beq_eq_false_iff_ne.mpr c17
    have c17b1 : (a0 != 19) = true := bne_iff_ne.mpr c17
    by_cases c18 : a0 = 21
    ·rw [if_pos c18] at H
     have c18b0 : (a0 == 21) = true := beq_iff_eq.mpr c18
     have c18b1 : (a0 != 21) = false := bne_eq_false_iff_eq.mpr c18
     clear c18
     have H' := Aside0.mk H
     clear H
     go_wp2
     go_meet
     case rel => exact ⟨_, ((a0 == 21)), (by first | rfl | (simp; done) | (simp [*]; done)), H', ⟨by have := HJ1.out; first | omega | exact Nat.le_refl _⟩, by repeat (first | exact Drawn0.refl _ | apply Drawn0.step)⟩
    rw [if_neg c18] at H
    have c18b0 : (a0 == 21) = false := beq_eq_false_iff_ne.mpr c18
    have c18b1 : (a0 != 21) = true := bne_iff_ne.mpr c18
    have H' := Aside0.mk H
    clear H
    go_wp2
    go_meet
    case rel => exact ⟨_, ((a0 == 28)), (by first | rfl | (simp; done) | (simp [*]; done)), H', ⟨by have := HJ1.out; first | omega | exact Nat.le_refl _⟩, by repeat (first | exact Drawn0.refl _ | apply Drawn0.step)⟩
   case rest =>
    clear HC6
    try clear c1
    try clear p2
    try clear c3
    try clear c3b0
    try clear c3b1
    try clear c4
    try clear c4b0
    try clear c4b1
    try clear c5
    try clear c7
    try clear c7b0
    try clear c7b1
    try clear c8
    try clear c8b0
    try clear c8b1
    try clear c9
    try clear c9b0
    try clear c9b1
    try clear c10
    try clear c10b0
    try clear c10b1
    try clear c11
    try clear c11b0
    try clear c11b1
    try clear c12
    try clear c12b0
    try clear c12b1
    try clear c13
    try clear c13b0
    try clear c13b1
    try clear c14
    try clear c14b0
    try clear c14b1
    try clear c15
    try clear c15b0
    try clear c15b1
    try clear c16
    try clear c16b0
    try clear c16b1
    try clear c17
    try clear c17b0
    try clear c17b1
    try clear c18
    try clear c18b0
    try clear c18b1
    try clear p2
    obtain ⟨kq, x8_5, rfl, HA, HJ5, ⟨mc5, rfl⟩⟩ := hcut
    cases kq with
    | zero => exact absurd HA.out (by simp [code_Uses.j1])
    | succ kj5 =>
     have H := HA.out
     clear HA
     simp only [code_Uses.j1] at H
     by_cases c19 : x8_5 = true
     ·subst c19
      have H1 : (some 1) = some r := by rw [if_pos rfl] at H; exact H
      clear H
      have H := H1
      clear H1
      obtain rfl := Option.some.inj H
      go_wp2
      go_ret
      exact ⟨by first | rfl | (simp; done) | (simp [*]; done), by repeat (first | exact Drawn0.refl _ | apply Drawn0.step)⟩
     replace c19 := Bool.eq_false_iff.mpr c19
     subst c19
     have H1 : (if a0 < 1 then (some (-1)) else (if a0 > 33 then (some (-1)) else (some 0))) = some r := by rw [if_neg (show ¬ (false = true) by decide)] at H; exact H
     clear H
     have H := H1
     clear H1
     by_cases c20 : a0 < 1
     ·rw [if_pos c20] at H
      have c20b0 : decide (a0 < 1) = true := decide_eq_true c20
      clear c20
      obtain rfl := Option.some.inj H
      go_wp2
      go_ret
      exact ⟨by first | rfl | (simp; done) | (simp [*]; done), by repeat (first | exact Drawn0.refl _ | apply Drawn0.step)⟩
     rw [if_neg c20] at H
     have c20b0 : decide (a0 < 1) = false := decide_eq_false c20
     clear c20
     by_cases c21 : a0 > 33
     ·rw [if_pos c21] at H
      have c21b0 : decide (33 < a0) = true := decide_eq_true c21
      clear c21
      obtain rfl := Option.some.inj H
      go_wp2
      go_ret
      exact ⟨by first | rfl | (simp; done) | (simp [*]; done), by repeat (first | exact Drawn0.refl _ | apply Drawn0.step)⟩
     rw [if_neg c21] at H
     have c21b0 : decide (33 < a0) = false := decide_eq_false c21
     clear c21
     obtain rfl := Option.some.inj H
     go_wp2
     go_ret
     exact ⟨by first | rfl | (simp; done) | (simp [*]; done), by repeat (first | exact Drawn0.refl _ | apply Drawn0.step)⟩

end Go.Proofs.Ytnhipgmphhndhaa.Q
