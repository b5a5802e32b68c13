import Derived.Test.YtadbiogchgglpaaS8
namespace Go.Proofs.Ytadbiogchgglpaa.Q
open Go.RowKit Go.Proofs.YtadbiogchgglpaaW.PrintWords Go.Proofs.YtadbiogchgglpaaW.PrintLast Go.Proofs.YtadbiogchgglpaaW.PrintMore
set_option linter.unusedVariables false
set_option linter.unusedSimpArgs false
set_option linter.unusedSectionVars false
/-! ### once short, short for ever -/
theorem nx_sticky (B : List Int) (w : Nat) (I : Int) : (nx B w I true).2.2 = true := by
  unfold nx
  split <;> rfl
theorem ints_sticky (B : List Int) : ∀ (n : Nat) (I : Int), (dInts B n I true).2.2 = true
  | 0, _ => rfl
  | n + 1, I => by
    show (dInts B n (nx B 8 I true).2.1 (nx B 8 I true).2.2).2.2 = true
    rw [nx_sticky]
    exact ints_sticky B n _
theorem bytes_sticky (B : List Int) : ∀ (n : Nat) (I : Int), (dBytes B n I true).2.2 = true
  | 0, _ => rfl
  | n + 1, I => by
    show (dBytes B n (nx B 1 I true).2.1 (nx B 1 I true).2.2).2.2 = true
    rw [nx_sticky]
    exact bytes_sticky B n _
theorem text_sticky (B : List Int) (I : Int) : (dText B I true).2.2 = true := by
  show (dBytes B (nx B 1 I true).1.toNat (nx B 1 I true).2.1 (nx B 1 I true).2.2).2.2 = true
  rw [nx_sticky]
  exact bytes_sticky B _ _
theorem texts_sticky (B : List Int) : ∀ (n : Nat) (I : Int), (dTexts B n I true).2.2 = true
  | 0, _ => rfl
  | n + 1, I => by
    show (dTexts B n (dText B I true).2.1 (dText B I true).2.2).2.2 = true
    rw [text_sticky]
    exact texts_sticky B n _
theorem instrs_true (B : List Int) : ∀ (n : Nat) (I : Int), dInstrs B n I true = ([], I, true)
  | 0, _ => rfl
  | n + 1, I => by unfold dInstrs; rw [if_pos rfl]
theorem rinstrs_true (B : List Int) : ∀ (n : Nat) (I : Int), rInstrs B n I true = ([], I, true)
  | 0, _ => rfl
  | n + 1, I => by unfold rInstrs; rw [if_pos rfl]
theorem head_sticky (B : List Int) (I : Int) : (dHead B I true).2.2.2.2.2 = true := by
  unfold dHead
  simp only [nx_sticky]
theorem body_sticky (B : List Int) (I : Int) : (dBody B I true).2.2 = true := by
  show (dInstrs B (dHead B I true).2.2.2.1.toNat (dHead B I true).2.2.2.2.1 (dHead B I true).2.2.2.2.2).2.2 = true
  rw [head_sticky, instrs_true]
theorem bodies_sticky (B : List Int) : ∀ (n : Nat) (I : Int), (dBodies B n I true).2.2 = true
  | 0, _ => rfl
  | n + 1, I => by
    show (dBodies B n (dBody B I true).2.1 (dBody B I true).2.2).2.2 = true
    rw [body_sticky]
    exact bodies_sticky B n _
theorem back {f : Int → Bool → Bool} (h : ∀ I, f I true = true) {I : Int} {S : Bool} (hf : f I S = false) : S = false := by
  cases S
  · rfl
  · rw [h] at hf; cases hf
/-! ### alike -/
def Rel {α : Type} (a b : Rd α) : Prop := a.2 = b.2 ∧ (b.2.2 = false → a.1 = b.1)
section
variable (B : List Int) (hB : Byt B)
include hB
theorem ints_rel : ∀ (n : Nat) {I : Int} (_ : In B I) (S : Bool), Rel (rInts B n I S) (dInts B n I S)
  | 0, _, _, _ => ⟨rfl, fun _ => rfl⟩
  | n + 1, I, h, S => by
    have e := p8_st h S
    have ih := ints_rel n (nx_in h 8 S) (nx B 8 I S).2.2
    unfold rInts dInts
    rw [e]
    refine ⟨ih.1, fun hs => ?_⟩
    have hs8 : (nx B 8 I S).2.2 = false := back (f := fun I S => (dInts B n I S).2.2) (ints_sticky B n) hs
    show (p8 B I S).1 :: _ = (nx B 8 I S).1 :: _
    rw [p8_value hB h S hs8, ih.2 hs]
theorem instr_st {I : Int} (h : In B I) (S : Bool) : (rInstr B I S).2 = (dInstr B I S).2 := by
  have h1 := nx_in h 1 S
  unfold rInstr dInstr
  show (p2 B (p2 B (nx B 1 I S).2.1 (nx B 1 I S).2.2).2.1 (p2 B (nx B 1 I S).2.1 (nx B 1 I S).2.2).2.2).2 = (nx B 2 (nx B 2 (nx B 1 I S).2.1 (nx B 1 I S).2.2).2.1 (nx B 2 (nx B 1 I S).2.1 (nx B 1 I S).2.2).2.2).2
  rw [p2_st h1, p2_st (nx_in h1 2 _)]
theorem instr_val {I : Int} (h : In B I) (S : Bool) (hs : (dInstr B I S).2.2 = false) : (rInstr B I S).1 = (dInstr B I S).1 := by
  have h1 := nx_in h 1 S
  have hs2 : (nx B 2 (nx B 2 (nx B 1 I S).2.1 (nx B 1 I S).2.2).2.1 (nx B 2 (nx B 1 I S).2.1 (nx B 1 I S).2.2).2.2).2.2 = false := hs
  have hs1 : (nx B 2 (nx B 1 I S).2.1 (nx B 1 I S).2.2).2.2 = false := back (f := fun I S => (nx B 2 I S).2.2) (nx_sticky B 2) hs2
  unfold rInstr dInstr
  show (⟨_, _, _⟩ : S42) = ⟨_, _, _⟩
  rw [p2_st h1, p2_value hB h1 _ hs1, p2_value hB (nx_in h1 2 _) _ hs2]
theorem instrs_rel : ∀ (n : Nat) {I : Int} (_ : In B I) (S : Bool), Rel (rInstrs B n I S) (dInstrs B n I S)
  | 0, _, _, _ => ⟨rfl, fun _ => rfl⟩
  | n + 1, I, h, true => by rw [instrs_true, rinstrs_true]; exact ⟨rfl, fun _ => rfl⟩
  | n + 1, I, h, false => by
    have e := instr_st B hB h false
    have hi : In B (dInstr B I false).2.1 := nx_in (nx_in (nx_in h 1 false) 2 _) 2 _
    have ih := instrs_rel n hi (dInstr B I false).2.2
    unfold rInstrs dInstrs
    rw [if_neg (by decide), if_neg (by decide), e]
    refine ⟨ih.1, fun hs => ?_⟩
    have hs8 : (dInstr B I false).2.2 = false := back (f := fun I S => (dInstrs B n I S).2.2) (fun I => by show (dInstrs B n I true).2.2 = true; rw [instrs_true]) hs
    show (rInstr B I false).1 :: _ = (dInstr B I false).1 :: _
    rw [instr_val B hB h false hs8, ih.2 hs]
theorem body_rel {I : Int} (h : In B I) (S : Bool) : Rel (rBody B I S) (dBody B I S) := by
  have h1 := nx_in h 1 S
  have h2 := nx_in h1 1 (nx B 1 I S).2.2
  have h3 := nx_in h2 1 (nx B 1 (nx B 1 I S).2.1 (nx B 1 I S).2.2).2.2
  have e0 : (rHead B I S).1 = (dHead B I S).1 := rfl
  have e1 : (rHead B I S).2.1 = (dHead B I S).2.1 := rfl
  have e2 : (rHead B I S).2.2.1 = (dHead B I S).2.2.1 := rfl
  have e3 : (rHead B I S).2.2.2.2 = (dHead B I S).2.2.2.2 := p2_st h3 _
  have hh : In B (dHead B I S).2.2.2.2.1 := nx_in h3 2 _
  have ev : (dHead B I S).2.2.2.2.2 = false → (rHead B I S).2.2.2.1 = (dHead B I S).2.2.2.1 := fun hs => p2_value hB h3 _ hs
  unfold rBody dBody
  rw [e0, e1, e2, e3]
  generalize (rHead B I S).2.2.2.1 = nr at *
  generalize dHead B I S = q at *
  obtain ⟨q0, q1, q2, q3, q4, q5⟩ := q
  cases q5
  · have en := ev rfl
    change nr = q3 at en
    subst en
    have ir := instrs_rel B hB nr.toNat hh false
    exact ⟨ir.1, fun hs => by show (⟨q0, q1, q2, _⟩ : S40) = ⟨q0, q1, q2, _⟩; rw [ir.2 hs]⟩
  · refine ⟨?_, fun hs => ?_⟩
    · show (rInstrs B nr.toNat q4 true).2 = (dInstrs B q3.toNat q4 true).2
      rw [rinstrs_true, instrs_true]
    · exfalso
      change (dInstrs B q3.toNat q4 true).2.2 = false at hs
      rw [instrs_true] at hs
      cases hs
theorem dInstrs_in : ∀ (n : Nat) {I : Int} (_ : In B I) (S : Bool), In B (dInstrs B n I S).2.1
  | 0, _, h, _ => h
  | n + 1, I, h, S => by
    unfold dInstrs
    split
    · exact h
    · exact dInstrs_in n (nx_in (nx_in (nx_in h 1 S) 2 _) 2 _) _
theorem dBody_in {I : Int} (h : In B I) (S : Bool) : In B (dBody B I S).2.1 := dInstrs_in B hB _ (nx_in (nx_in (nx_in (nx_in h 1 S) 1 _) 1 _) 2 _) _
theorem bodies_rel : ∀ (n : Nat) {I : Int} (_ : In B I) (S : Bool), Rel (rBodies B n I S) (dBodies B n I S)
  | 0, _, _, _ => ⟨rfl, fun _ => rfl⟩
  | n + 1, I, h, S => by
    have e := body_rel B hB h S
    have ih := bodies_rel n (dBody_in B hB h S) (dBody B I S).2.2
    unfold rBodies dBodies
    rw [e.1]
    refine ⟨ih.1, fun hs => ?_⟩
    have hs8 : (dBody B I S).2.2 = false := back (f := fun I S => (dBodies B n I S).2.2) (bodies_sticky B n) hs
    show (rBody B I S).1 :: _ = (dBody B I S).1 :: _
    rw [e.2 hs8, ih.2 hs]
end
end Go.Proofs.Ytadbiogchgglpaa.Q
