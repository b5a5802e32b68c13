import Derived.Test.YtcndpclnjnbppaaH15
import Derived.Outline
namespace Go.Proofs.Ytcndpclnjnbppaa.Q
open Go.RowKit Go.Proofs.YtcndpclnjnbppaaW.PrintWords Go.Proofs.YtcndpclnjnbppaaW.PrintLast Go.Proofs.YtcndpclnjnbppaaW.PrintMore
set_option linter.unusedVariables false
set_option linter.unusedSimpArgs false
/-! ### what a deed leaves of one thread -/
theorem rd_set (s : List S54) (m : Nat) (x : S54) (n : Int) (h0 : 0 ≤ n) (h1 : n < (s.length : Int)) : rd_T54 (s.set m x) n = if m = n.toNat then x else rd_T54 s n := by
  unfold rd_T54
  rw [List.getD_eq_getElem?_getD, List.getD_eq_getElem?_getD]
  by_cases h : m = n.toNat
  · subst h
    rw [if_pos rfl, List.getElem?_set_self (by omega)]
    rfl
  · rw [if_neg h, List.getElem?_set_ne h]
theorem rd_wake (s : List S54) (v n : Int) (h0 : 0 ≤ n) (h1 : n < (s.length : Int)) : rd_T54 (wakeL s v) n = if waitsFor v (rd_T54 s n) then z54 else rd_T54 s n := by
  have hl : n.toNat < s.length := by omega
  unfold wakeL rd_T54
  rw [List.getD_eq_getElem?_getD, List.getD_eq_getElem?_getD, List.getElem?_map, List.getElem?_eq_getElem hl]
  rfl
theorem rd_add (s : List S54) (n : Int) (h0 : 0 ≤ n) (h1 : n < (s.length : Int)) : rd_T54 (addL s) n = rd_T54 s n := by
  unfold addL
  split
  · unfold rd_T54
    rw [List.getD_eq_getElem?_getD, List.getD_eq_getElem?_getD, List.getElem?_append_left (by omega)]
  · rfl
theorem len_wait (s : List S54) (n : Int) (vs : List Int) : (waitL s n vs).length = s.length := by unfold waitL; split <;> simp
theorem len_end (s : List S54) (n : Int) : (endL s n).length = s.length := by unfold endL; split <;> simp
theorem len_wake (s : List S54) (v : Int) : (wakeL s v).length = s.length := by unfold wakeL; simp
theorem len_add (s : List S54) : s.length ≤ (addL s).length := by unfold addL; split <;> simp
/-- Thread n waits for nothing. -/
def Waits0 (s : List S54) (n : Int) : Prop := 0 ≤ n ∧ n < (s.length : Int) ∧ rd_T54 s n = ⟨1, []⟩
/-- Thread n is over. -/
def Over0 (s : List S54) (n : Int) : Prop := 0 ≤ n ∧ n < (s.length : Int) ∧ (rd_T54 s n).f0 = 2
theorem Waits0.wake {s : List S54} {n : Int} (h : Waits0 s n) (v : Int) : Waits0 (wakeL s v) n := by
  obtain ⟨h0, h1, h2⟩ := h
  refine ⟨h0, by rw [len_wake]; exact h1, ?_⟩
  rw [rd_wake s v n h0 h1, h2]
  rfl
theorem Waits0.is {s : List S54} {n : Int} (h : Waits0 s n) : tIs s n 0 = false := by
  obtain ⟨h0, h1, h2⟩ := h
  rw [tIs_get n 0 h0 h1, h2]
  rfl
theorem Waits0.ready {s : List S54} {n : Int} (h : Waits0 s n) : n ∉ tReady s := by
  intro hm
  have h3 := ((mem_tOf isReady s n).1 hm).2.2
  obtain ⟨h0, h1, h2⟩ := h
  change isReady (rd_T54 s n) = true at h3
  rw [h2] at h3
  cases h3
theorem Waits0.status {s : List S54} {n : Int} (h : Waits0 s n) : statusR s ≠ 1 := by
  obtain ⟨h0, h1, h2⟩ := h
  unfold statusR
  have ha : s.any isWaits = true := by
    rw [List.any_eq_true]
    have hl : n.toNat < s.length := by omega
    refine ⟨s[n.toNat], List.getElem_mem hl, ?_⟩
    have e : rd_T54 s n = s[n.toNat] := by simp [rd_T54, List.getD_eq_getElem?_getD, List.getElem?_eq_getElem hl]
    rw [← e, h2]
    rfl
  rw [ha]
  split <;> decide
theorem waits0_new (s : List S54) (h : s.length < 8) : Waits0 (waitL (s ++ [z54]) (s.length : Int) []) (s.length : Int) ∧ waitR (s ++ [z54]) (s.length : Int) = 0 := by
  have hr : rd_T54 (s ++ [z54]) (s.length : Int) = z54 := by
    unfold rd_T54
    rw [List.getD_eq_getElem?_getD, Int.toNat_natCast, List.getElem?_append_right (Nat.le_refl _)]
    simp
  have hi : tIs (s ++ [z54]) (s.length : Int) 0 = true := by
    rw [tIs_get _ 0 (by omega) (by simp; omega), hr]
    rfl
  unfold waitL waitR
  rw [if_pos hi, if_pos hi]
  refine ⟨⟨by omega, by simp; omega, ?_⟩, rfl⟩
  rw [rd_set _ _ _ _ (by omega) (by simp; omega), if_pos rfl]
theorem Over0.wake {s : List S54} {n : Int} (h : Over0 s n) (v : Int) : Over0 (wakeL s v) n := by
  obtain ⟨h0, h1, h2⟩ := h
  refine ⟨h0, by rw [len_wake]; exact h1, ?_⟩
  rw [rd_wake s v n h0 h1, if_neg (by unfold waitsFor; rw [h2]; simp)]
  exact h2
theorem Over0.is0 {s : List S54} {n : Int} (h : Over0 s n) : tIs s n 0 = false := by
  obtain ⟨h0, h1, h2⟩ := h
  rw [tIs_get n 0 h0 h1, h2]
  rfl
theorem Over0.is1 {s : List S54} {n : Int} (h : Over0 s n) : tIs s n 1 = false := by
  obtain ⟨h0, h1, h2⟩ := h
  rw [tIs_get n 1 h0 h1, h2]
  rfl
theorem Over0.ready {s : List S54} {n : Int} (h : Over0 s n) : n ∉ tReady s := by
  intro hm
  have h3 := ((mem_tOf isReady s n).1 hm).2.2
  obtain ⟨h0, h1, h2⟩ := h
  change isReady (rd_T54 s n) = true at h3
  unfold isReady at h3
  rw [h2] at h3
  cases h3
theorem Over0.woken {s : List S54} {n : Int} (h : Over0 s n) (v : Int) : n ∉ wakeR s v := by
  intro hm
  have h3 := ((mem_tOf (waitsFor v) s n).1 hm).2.2
  obtain ⟨h0, h1, h2⟩ := h
  change waitsFor v (rd_T54 s n) = true at h3
  unfold waitsFor at h3
  rw [h2] at h3
  simp at h3
theorem Over0.add {s : List S54} {n : Int} (h : Over0 s n) : Over0 (addL s) n := by
  obtain ⟨h0, h1, h2⟩ := h
  have := len_add s
  exact ⟨h0, by omega, by rw [rd_add s n h0 h1]; exact h2⟩
theorem Over0.wait {s : List S54} {n : Int} (h : Over0 s n) (m : Int) (vs : List Int) : Over0 (waitL s m vs) n := by
  have hl := len_wait s m vs
  by_cases hm : tIs s m 0 = true
  · have hne : m ≠ n := fun e => by rw [e, h.is0] at hm; cases hm
    have h0m : 0 ≤ m := by
      unfold tIs at hm
      simp at hm
      exact hm.1
    refine ⟨h.1, by rw [hl]; exact h.2.1, ?_⟩
    have h1 := h.1
    unfold waitL
    rw [if_pos hm, rd_set s _ _ n h.1 h.2.1, if_neg (by omega)]
    exact h.2.2
  · unfold waitL
    rw [if_neg hm]
    exact h
theorem Over0.end_ {s : List S54} {n : Int} (h : Over0 s n) (m : Int) : Over0 (endL s m) n := by
  have hl := len_end s m
  refine ⟨h.1, by rw [hl]; exact h.2.1, ?_⟩
  unfold endL
  split
  · rw [rd_set s _ _ n h.1 h.2.1]
    split
    · rfl
    · exact h.2.2
  · exact h.2.2
theorem Over0.does {s : List S54} {n : Int} (h : Over0 s n) (k m : Int) (vs : List Int) : Over0 (doStep s k m vs) n := by
  unfold doStep
  split
  · exact h.add
  split
  · exact h.wait m _
  split
  · exact h.wake m
  split
  · exact h.end_ m
  · exact h
theorem over0_new {s : List S54} (hg : Good s) (n : Int) (h0 : 0 ≤ n) (h1 : n < (s.length : Int)) : Over0 (endL s n) n := by
  refine ⟨h0, by rw [len_end]; exact h1, ?_⟩
  unfold endL
  rw [tIs_get n 0 h0 h1, tIs_get n 1 h0 h1]
  rcases (hg.get n).1 with h | h | h
  · rw [if_pos (by rw [h]; rfl), rd_set s _ _ n h0 h1, if_pos rfl]
  · rw [if_pos (by rw [h]; rfl), rd_set s _ _ n h0 h1, if_pos rfl]
  · rw [if_neg (by rw [h]; decide)]
    exact h
theorem not_rd (R : List Int) (n : Int) (h : n ∉ R) (i : Nat) (hi : i < R.length) : (rd R (i : Int) == n) = false := by
  rw [beq_eq_false_iff_ne]
  intro e
  exact h (e ▸ rd_mem R i hi)
end Go.Proofs.Ytcndpclnjnbppaa.Q
