import Derived.Test.YtnhipgmphhndhaaQx5
import Derived.Test.YtnhipgmphhndhaaV3
import Derived.Test.YtnhipgmphhndhaaQx14
namespace Go.Proofs.Ytnhipgmphhndhaa.Q
open Go.RowKit Go.Proofs.YtnhipgmphhndhaaW.PrintWords Go.Proofs.YtnhipgmphhndhaaW.PrintLast Go.Proofs.YtnhipgmphhndhaaW.PrintMore
set_option linter.unusedVariables false
set_option linter.unusedSimpArgs false
set_option linter.unusedSectionVars false

/-- How many operands an Op uses. -/
def usesP (n : Int) : Int := if n < 1 ∨ 33 < n then -1 else if n = 10 ∨ n = 11 ∨ n = 18 then 2 else if n ∈ ([5, 9, 13, 14, 15, 20, 22, 23, 24, 25, 26, 27, 29, 30, 31, 32, 33] : List Int) then 0 else 1
theorem usesP_range (n : Int) : -1 ≤ usesP n ∧ usesP n ≤ 2 := by
  unfold usesP; split
  · omega
  · split
    · omega
    · split <;> omega
theorem code_uses_in : ∀ m : Fin 34, 1 ≤ m.val → code_Uses.f 3 (m.val : Int) = some (usesP (m.val : Int)) := by decide +kernel
theorem ref_uses_in : ∀ m : Fin 34, 1 ≤ m.val → selvageref13_Uses.f 40 (m.val : Int) = some (usesP (m.val : Int)) := by decide +kernel
theorem code_uses_k (n : Int) : code_Uses.f 3 n = some (usesP n) := by
  by_cases h : n < 1 ∨ 33 < n
  · have hu : usesP n = -1 := by unfold usesP; rw [if_pos h]
    rw [hu]
    have ne : ∀ c : Int, 1 ≤ c → c ≤ 33 → ¬ n = c := fun c h1 h2 => by omega
    have e18 : (n == 18) = false := by simp; omega
    have e28 : (n == 28) = false := by simp; omega
    unfold code_Uses.f
    rw [if_neg (ne 10 (by omega) (by omega)), if_neg (ne 11 (by omega) (by omega)), e18]
    rw [show (3 : Nat) = 1 + 1 + 1 from rfl, code_Uses.j0, if_neg (by decide)]
    rw [if_neg (ne 1 (by omega) (by omega)), if_neg (ne 2 (by omega) (by omega)), if_neg (ne 3 (by omega) (by omega)), if_neg (ne 4 (by omega) (by omega)), if_neg (ne 6 (by omega) (by omega)), if_neg (ne 7 (by omega) (by omega)), if_neg (ne 8 (by omega) (by omega)), if_neg (ne 12 (by omega) (by omega)), if_neg (ne 16 (by omega) (by omega)), if_neg (ne 17 (by omega) (by omega)), if_neg (ne 19 (by omega) (by omega)), if_neg (ne 21 (by omega) (by omega))]
    rw [e28, code_Uses.j1, if_neg (by decide)]
    rcases h with h | h
    · rw [if_pos h]
    · rw [if_neg (by omega), if_pos h]
  · have := code_uses_in ⟨n.toNat, by omega⟩ (by simp; omega)
    have e : ((n.toNat : Nat) : Int) = n := by omega
    simp only [e] at this
    exact this
theorem ref_uses_k (n : Int) : selvageref13_Uses.f 40 n = some (usesP n) := by
  by_cases h : n < 1 ∨ 33 < n
  · have hu : usesP n = -1 := by unfold usesP; rw [if_pos h]
    rw [hu]
    unfold selvageref13_Uses.f
    rcases h with h | h
    · rw [if_pos h, show (40 : Nat) = 39 + 1 from rfl, selvageref13_Uses.j0, if_pos rfl]
    · rw [if_neg (by omega), show (40 : Nat) = 39 + 1 from rfl, selvageref13_Uses.j0, if_pos (by simpa using h)]
  · have := ref_uses_in ⟨n.toNat, by omega⟩ (by simp; omega)
    have e : ((n.toNat : Nat) : Int) = n := by omega
    simp only [e] at this
    exact this
theorem code_uses_ev (n : Int) : Ev (fun k => code_Uses.f k n) (usesP n) := Ev.of (fun k => code_Uses.mono n k) (code_uses_k n)
theorem ref_uses_ev (n : Int) : Ev (fun k => selvageref13_Uses.f k n) (usesP n) := Ev.of (fun k => selvageref13_Uses.mono n k) (ref_uses_k n)
end Go.Proofs.Ytnhipgmphhndhaa.Q
