-- PRINTED by print.py (a twelfth state) out of the translation. Not trusted: Lean checks it.
import Derived.Test.YtobkalblncefbaaQx0
namespace Go.Proofs.Ytobkalblncefbaa.Q
open Go.RowKit Go.Proofs.YtobkalblncefbaaW.PrintWords Go.Proofs.YtobkalblncefbaaW.PrintLast Go.Proofs.YtobkalblncefbaaW.PrintMore
attribute [local go_sem] max2_int min2_int max_two min_two max_three min_three max_four min_four   -- for this text's walks alone
set_option linter.unusedVariables false
set_option linter.unusedSimpArgs false

/-! ### strs_Join: function 21 -/
def strs_Join.f (a0 : ByteArray) (a1 : ByteArray) : Option (ByteArray × Int) := if (a0.size : Int) > 60 then (some ((⟨#[]⟩ : ByteArray), 12)) else (if (a1.size : Int) > (wrap64 (60 - (a0.size : Int))) then (some ((⟨#[]⟩ : ByteArray), 12)) else (if a0.size + a1.size ≤ 9223372036854775807 then (some (a0 ++ a1, 0)) else (none)))
set_option maxHeartbeats 8000000 in
set_option maxRecDepth 100000 in
theorem strs_Join.calls (a0 : ByteArray) (a1 : ByteArray) (r1 : ByteArray) (r2 : Int) (w : World) (h : strs_Join.f a0 a1 = some (r1, r2)) :
    Calls Try.prog 21 #[.string a0, .string a1] w fun e w' => e = .returned (.tuple #[.string r1, .int .i64 r2]) ∧ Drawn0 w w' := by
  have H : (if (a0.size : Int) > 60 then (some ((⟨#[]⟩ : ByteArray), 12)) else (if (a1.size : Int) > (wrap64 (60 - (a0.size : Int))) then (some ((⟨#[]⟩ : ByteArray), 12)) else (if a0.size + a1.size ≤ 9223372036854775807 then (some (a0 ++ a1, 0)) else (none)))) = some (r1, r2) := h
  clear h
  by_cases c3 : (a0.size : Int) > 60
  · rw [if_pos c3] at H
    have c3b0 : decide (60 < (a0.size : Int)) = true := decide_eq_true c3
    have c3b1 : decide (60 < a0.size) = true := decide_eq_true (by omega)
    clear c3
    simp only [Option.some.injEq, Prod.mk.injEq] at H
    obtain ⟨rfl, rfl⟩ := H
    go_enter Try.func21, Try.ntmps21
    go_wp2
    go_ret2
    exact ⟨by first | rfl | (simp; done) | (simp [*]; done), by repeat (first | exact Drawn0.refl _ | apply Drawn0.step)⟩
  · rw [if_neg c3] at H
    have c3b0 : decide (60 < (a0.size : Int)) = false := decide_eq_false c3
    have c3b1 : decide (60 < a0.size) = false := decide_eq_false (by omega)
    clear c3
    by_cases c4 : (a1.size : Int) > (wrap64 (60 - (a0.size : Int)))
    · rw [if_pos c4] at H
      have c4b0 : decide ((wrap64 (60 - (a0.size : Int))) < (a1.size : Int)) = true := decide_eq_true c4
      have hz60 := of_decide_eq_false c3b0
      have hw60 : wrap64 (60 - (a0.size : Int)) = 60 - (a0.size : Int) := (by unfold wrap64; omega)
      rw [hw60] at c4b0
      clear hw60
      clear c4
      simp only [Option.some.injEq, Prod.mk.injEq] at H
      obtain ⟨rfl, rfl⟩ := H
      go_enter Try.func21, Try.ntmps21
      go_wp2
      go_ret2
      exact ⟨by first | rfl | (simp; done) | (simp [*]; done), by repeat (first | exact Drawn0.refl _ | apply Drawn0.step)⟩
    · rw [if_neg c4] at H
      have c4b0 : decide ((wrap64 (60 - (a0.size : Int))) < (a1.size : Int)) = false := decide_eq_false c4
      have hz60 := of_decide_eq_false c3b0
      have hw60 : wrap64 (60 - (a0.size : Int)) = 60 - (a0.size : Int) := (by unfold wrap64; omega)
      rw [hw60] at c4b0
      clear hw60
      clear c4
      by_cases c5 : a0.size + a1.size ≤ 9223372036854775807
      · rw [if_pos c5] at H
        have c5b0 := eq_true c5
        have c5b1 : decide (a0.size + a1.size ≤ 9223372036854775807) = true := decide_eq_true c5
        try have c5b2 : (9223372036854775807 < a0.size + a1.size) = False := eq_false (Nat.not_lt.2 c5)
        simp only [Option.some.injEq, Prod.mk.injEq] at H
        obtain ⟨rfl, rfl⟩ := H
        go_enter Try.func21, Try.ntmps21
        go_wp2
        go_ret2
        exact ⟨by first | rfl | (simp; done) | (simp [*]; done), by repeat (first | exact Drawn0.refl _ | apply Drawn0.step)⟩
      · rw [if_neg c5] at H
        exact absurd H (by simp)

end Go.Proofs.Ytobkalblncefbaa.Q
