import Derived.Test.YtobkalblncefbaaS2
import Derived.Test.YtobkalblncefbaaHd
namespace Go.Proofs.Ytobkalblncefbaa.Q
open Go.RowKit Go.Proofs.YtobkalblncefbaaW.PrintWords Go.Proofs.YtobkalblncefbaaW.PrintLast Go.Proofs.YtobkalblncefbaaW.PrintMore
set_option linter.unusedVariables false
set_option linter.unusedSimpArgs false

theorem bytes_of_str (l : List Int) (h : Bytes l) : bytesOf (strOfNums l) = l := by
  unfold bytesOf strOfNums
  simp only [List.map_map]
  conv => rhs; rw [← List.map_id l]
  apply List.map_congr_left
  intro x hx
  have := h x hx
  simp
  omega
theorem bt_str (l : List Int) (h : Bytes l) (j : Nat) (c : Int) (hj : l[j]? = some c) : bt (strOfNums l) (j : Int) = c := by
  obtain ⟨hlt, _⟩ := List.getElem?_eq_some_iff.1 hj
  have := bytesOf_get (strOfNums l) j (by rw [str_size]; exact hlt)
  rw [bytes_of_str l h, hj] at this
  exact (Option.some.inj this).symm
theorem digl_ok : ∀ i : Fin 16, (48 ≤ digl.getD i.val 0 ∧ digl.getD i.val 0 ≤ 57) ∨ (97 ≤ digl.getD i.val 0 ∧ digl.getD i.val 0 ≤ 102) := by decide
/-- What is put for a byte, case by case. -/
theorem q1_cases (c : Int) (h0 : 0 ≤ c) (h1 : c ≤ 255) :
    (q1 c = [c] ∧ 32 ≤ c ∧ c ≤ 126 ∧ c ≠ 34 ∧ c ≠ 92) ∨ (q1 c = [92, 110] ∧ c = 10) ∨ (q1 c = [92, 34] ∧ c = 34) ∨ (q1 c = [92, 92] ∧ c = 92) ∨
    ∃ i j : Nat, i < 16 ∧ j < 16 ∧ c = 16 * i + j ∧ q1 c = [92, 120, digl.getD i 0, digl.getD j 0] ∧ ¬ (pln c = true) ∧ c ≠ 10 ∧ c ≠ 34 ∧ c ≠ 92 := by
  unfold q1
  by_cases hp : pln c = true
  · rw [if_pos hp]
    unfold pln at hp
    simp at hp
    exact .inl ⟨rfl, hp⟩
  rw [if_neg hp]
  by_cases h10 : c = 10
  · rw [if_pos h10]
    exact .inr (.inl ⟨rfl, h10⟩)
  rw [if_neg h10]
  by_cases h34 : c = 34
  · rw [if_pos (.inl h34), h34]
    exact .inr (.inr (.inl ⟨rfl, rfl⟩))
  by_cases h92 : c = 92
  · rw [if_pos (.inr h92), h92]
    exact .inr (.inr (.inr (.inl ⟨rfl, rfl⟩)))
  rw [if_neg (by omega)]
  exact .inr (.inr (.inr (.inr ⟨(c / 16).toNat, (c % 16).toNat, by omega, by omega, by omega, rfl, hp, h10, h34, h92⟩)))
theorem q1_bytes (c : Int) (h0 : 0 ≤ c) (h1 : c ≤ 255) : Bytes (q1 c) ∧ 1 ≤ (q1 c).length := by
  rcases q1_cases c h0 h1 with ⟨h, _⟩ | ⟨h, _⟩ | ⟨h, _⟩ | ⟨h, _⟩ | ⟨i, j, hi, hj, _, h, _⟩
  · rw [h]; exact ⟨fun x hx => by simp at hx; omega, by simp⟩
  · rw [h]; exact ⟨fun x hx => by simp at hx; omega, by simp⟩
  · rw [h]; exact ⟨fun x hx => by simp at hx; omega, by simp⟩
  · rw [h]; exact ⟨fun x hx => by simp at hx; omega, by simp⟩
  · rw [h]
    have d1 := digl_ok ⟨i, hi⟩
    have d2 := digl_ok ⟨j, hj⟩
    simp only at d1 d2
    generalize digl.getD i 0 = x at *
    generalize digl.getD j 0 = y at *
    exact ⟨fun z hz => by simp at hz; omega, by simp⟩
theorem qs_bytes (a0 : ByteArray) (k : Nat) (h : k ≤ a0.size) : Bytes (qs a0 k) ∧ k + 1 ≤ (qs a0 k).length := by
  induction k with
  | zero => exact ⟨fun x hx => by simp [qs] at hx; omega, by simp [qs]⟩
  | succ k ih =>
    have hb := bt_range a0 (k : Int)
    have hq := q1_bytes (bt a0 (k : Int)) hb.1 hb.2
    have := ih (by omega)
    rw [qs_succ a0 k (by omega)]
    refine ⟨fun x hx => ?_, by rw [List.length_append]; omega⟩
    rcases List.mem_append.1 hx with hx | hx
    · exact this.1 x hx
    · exact hq.1 x hx
theorem qs_prefix (a0 : ByteArray) (m : Nat) (d : Nat) (h : m + d ≤ a0.size) : ∃ r, qs a0 (m + d) = qs a0 m ++ r := by
  induction d with
  | zero => exact ⟨[], by simp⟩
  | succ d ih =>
    obtain ⟨r, hr⟩ := ih (by omega)
    exact ⟨r ++ q1 (bt a0 ((m + d : Nat) : Int)), by rw [← Nat.add_assoc, qs_succ a0 (m + d) (by omega), hr, List.append_assoc]⟩
theorem at_mid (A B C : List Int) (j : Nat) (h : j < B.length) : (A ++ B ++ C)[A.length + j]? = B[j]? := by
  rw [List.append_assoc, List.getElem?_append_right (by omega), Nat.add_sub_cancel_left, List.getElem?_append_left h]
/-- What is written, around byte k. -/
theorem quote_at (a0 : ByteArray) (k : Nat) (hk : k < a0.size) (tail : List Int) : ∃ r, qs a0 a0.size ++ tail = qs a0 k ++ q1 (bt a0 (k : Int)) ++ r ∧ (qs a0 (k + 1)).length + r.length = (qs a0 a0.size).length + tail.length ∧ (r = [] → False ∨ tail = []) ∧ tail.length ≤ r.length := by
  obtain ⟨r, hr⟩ := qs_prefix a0 (k + 1) (a0.size - (k + 1)) (by omega)
  rw [show k + 1 + (a0.size - (k + 1)) = a0.size from by omega] at hr
  refine ⟨r ++ tail, by rw [hr, qs_succ a0 k hk, List.append_assoc], ?_, fun h => by simp at h; exact .inr h.2, by simp⟩
  rw [hr]
  simp
  omega
end Go.Proofs.Ytobkalblncefbaa.Q
