import Derived.Test.YtobkalblncefbaaS4
import Derived.Test.YtobkalblncefbaaS5
import Derived.Test.YtobkalblncefbaaQx25
namespace Go.Proofs.Ytobkalblncefbaa.Q
open Go.RowKit Go.Proofs.YtobkalblncefbaaW.PrintWords Go.Proofs.YtobkalblncefbaaW.PrintLast Go.Proofs.YtobkalblncefbaaW.PrintMore
set_option linter.unusedVariables false
set_option linter.unusedSimpArgs false

theorem pow_pos (m : Nat) : (0 : Int) < 256 ^ m := Int.pow_pos (by decide)
theorem mod_step (n P : Int) (hP : 0 < P) : n % P + n / P % 256 * P = n % (P * 256) := by
  have h1 := Int.emod_nonneg n (show P ≠ 0 by omega)
  have h2 := Int.emod_lt_of_pos n hP
  have h3 := Int.mul_ediv_add_emod n P
  generalize n / P = q at *
  generalize n % P = r at *
  have h4 : q = 256 * (q / 256) + q % 256 := by omega
  have h5 : 0 ≤ q % 256 ∧ q % 256 ≤ 255 := by omega
  generalize hx : q % 256 = x at *
  generalize hy : q / 256 = y at *
  subst h4
  rw [← h3]
  have e : P * (256 * y + x) + r = (r + x * P) + P * 256 * y := by
    rw [Int.mul_add, ← Int.mul_assoc, Int.mul_comm P x]
    omega
  rw [e, Int.add_mul_emod_self_left]
  have b1 : 0 ≤ x * P := Int.mul_nonneg h5.1 (by omega)
  have b2 : x * P ≤ 255 * P := Int.mul_le_mul_of_nonneg_right h5.2 (by omega)
  rw [Int.emod_eq_of_lt (by omega) (by omega)]

/-- The digits of a number, the lowest first. -/
def digs256 (n : Int) (m : Nat) : List Int := (List.range m).map fun j => n / 256 ^ j % 256
theorem pk_digs (n : Int) (m : Nat) : pk (digs256 n m) = n % 256 ^ m := by
  induction m with
  | zero => simp [digs256, pk]
  | succ m ih =>
    unfold digs256 at *
    rw [List.range_succ, List.map_append, List.map_cons, List.map_nil, pk_snoc, ih, List.length_map, List.length_range, Int.pow_succ]
    exact mod_step n _ (pow_pos m)
theorem pk_digit (l : List Int) (h : Bytes l) : ∀ (j : Nat) (c : Int), l[j]? = some c → pk l / 256 ^ j % 256 = c := by
  induction l with
  | nil => intro j c hj; simp at hj
  | cons b r ih =>
    intro j c hj
    have hb := h b (by simp)
    cases j with
    | zero =>
      simp at hj
      subst hj
      simp [pk]
      omega
    | succ j =>
      have := ih (fun x hx => h x (by simp [hx])) j c (by simpa using hj)
      rw [← this, pk, Int.pow_succ, Int.mul_comm (256 ^ j) 256, ← Int.ediv_ediv_of_nonneg (by decide)]
      congr 2
      omega

/-- The bytes that are read of numbers. -/
def D (l : List Int) (n : Nat) : List Int := (List.range n).map fun b => rd l ((1 + b / 7 : Nat) : Int) / 256 ^ (b % 7) % 256
theorem D_succ (l : List Int) (n : Nat) : D l (n + 1) = D l n ++ [rd l ((1 + n / 7 : Nat) : Int) / 256 ^ (n % 7) % 256] := by
  unfold D
  rw [List.range_succ, List.map_append]
  rfl
theorem D_len (l : List Int) (n : Nat) : (D l n).length = n := by unfold D; simp
theorem D_bytes (l : List Int) (n : Nat) : Bytes (D l n) := by
  intro x hx
  obtain ⟨b, _, rfl⟩ := List.mem_map.1 hx
  omega
theorem D_get (l : List Int) (n b : Nat) (h : b < n) : (D l n)[b]? = some (rd l ((1 + b / 7 : Nat) : Int) / 256 ^ (b % 7) % 256) := by
  unfold D
  rw [List.getElem?_map, List.getElem?_range h]
  rfl
theorem chunk_D (l : List Int) (n i : Nat) : chunk (D l n) i = digs256 (rd l ((1 + i : Nat) : Int)) (min 7 (n - 7 * i)) := by
  apply List.ext_getElem?
  intro j
  by_cases hj : j < min 7 (n - 7 * i)
  · rw [chunk_get _ _ _ (by omega), D_get _ _ _ (by omega), show (7 * i + j) / 7 = i from by omega, show (7 * i + j) % 7 = j from by omega]
    unfold digs256
    rw [List.getElem?_map, List.getElem?_range hj]
    rfl
  · rw [List.getElem?_eq_none (by rw [chunk_len, D_len]; omega), List.getElem?_eq_none (by unfold digs256; simp; omega)]
/-- Is number i one of so many bytes? -/
def okw (l : List Int) (n i : Nat) : Prop := 0 ≤ rd l ((1 + i : Nat) : Int) ∧ rd l ((1 + i : Nat) : Int) < 256 ^ (min 7 (n - 7 * i))
theorem wd_D (l : List Int) (n i : Nat) : wd (D l n) i = rd l ((1 + i : Nat) : Int) % 256 ^ (min 7 (n - 7 * i)) := by
  unfold wd
  rw [chunk_D, pk_digs]
theorem mod_self_iff (x P : Int) (hP : 0 < P) : x % P = x ↔ 0 ≤ x ∧ x < P :=
  ⟨fun h => by have h1 := Int.emod_nonneg x (show P ≠ 0 by omega); have h2 := Int.emod_lt_of_pos x hP; omega, fun h => Int.emod_eq_of_lt h.1 h.2⟩
theorem pack_D (l : List Int) (n : Nat) (hl : l.length = 1 + (n + 6) / 7) (h0 : rd l 0 = (n : Int)) : packL (D l n) = l ↔ ∀ i, i < (n + 6) / 7 → okw l n i := by
  have e : ∀ i, i < (n + 6) / 7 → l[1 + i]? = some (rd l ((1 + i : Nat) : Int)) := by
    intro i hi
    unfold rd
    rw [Int.toNat_natCast, List.getD_eq_getElem?_getD, List.getElem?_eq_getElem (by omega)]
    rfl
  have e0 : l[0]? = some (n : Int) := by
    rw [← h0]
    unfold rd
    rw [show (0 : Int).toNat = 0 from rfl, List.getD_eq_getElem?_getD, List.getElem?_eq_getElem (by omega)]
    rfl
  constructor
  · intro h i hi
    have this : (packL (D l n))[1 + i]? = l[1 + i]? := congrArg (fun l => l[1 + i]?) h
    rw [e i hi] at this
    unfold packL at this
    rw [Nat.add_comm 1 i, List.getElem?_cons_succ, List.getElem?_map, D_len, List.getElem?_range hi] at this
    simp only [Option.map_some, Option.some.injEq] at this
    rw [wd_D, Nat.add_comm 1 i] at this
    unfold okw
    rw [Nat.add_comm 1 i]
    exact (mod_self_iff _ _ (pow_pos _)).1 this
  · intro h
    apply List.ext_getElem?
    intro j
    cases j with
    | zero => rw [e0]; unfold packL; rw [D_len]; rfl
    | succ i =>
      unfold packL
      rw [D_len, List.getElem?_cons_succ, List.getElem?_map]
      by_cases hi : i < (n + 6) / 7
      · rw [List.getElem?_range hi, Nat.add_comm i 1, e i hi]
        simp only [Option.map_some, Option.some.injEq]
        rw [wd_D]
        exact (mod_self_iff _ _ (pow_pos _)).2 (h i hi)
      · rw [List.getElem?_eq_none (by simp; omega), List.getElem?_eq_none (by omega)]
        rfl

theorem eq_l0 (a b : List Int) (hl : a.length = b.length) (hz : a.length ≤ 100000) (d : Nat) : ∀ i, i + d = a.length → Ev (fun k => slices_Equal_int_int.l0 k a b (a.length : Int) (i : Int)) (decide (a.drop i = b.drop i)) := by
  induction d with
  | zero =>
    intro i hi
    have : decide (a.drop i = b.drop i) = true := decide_eq_true (by rw [List.drop_of_length_le (by omega), List.drop_of_length_le (by omega)])
    rw [this]
    refine Ev.step (fun k => ?_) (Ev.now _)
    simp only [slices_Equal_int_int.l0]
    rw [if_neg (by omega)]
  | succ d ih =>
    intro i hi
    have ha : i < a.length := by omega
    have hb : i < b.length := by omega
    have c1 : (i : Int) < (a.length : Int) := by omega
    have c2 : (0 : Int) ≤ (i : Int) := by omega
    have c3 : (i : Int) < (b.length : Int) := by omega
    have e1 : wrap64 ((i : Int) + 1) = ((i + 1 : Nat) : Int) := by rw [w64 _ (by omega) (by omega)]; omega
    have ra : rd a (i : Int) = a[i] := by unfold rd; rw [Int.toNat_natCast, List.getD_eq_getElem?_getD, List.getElem?_eq_getElem ha]; rfl
    have rb : rd b (i : Int) = b[i] := by unfold rd; rw [Int.toNat_natCast, List.getD_eq_getElem?_getD, List.getElem?_eq_getElem hb]; rfl
    rw [List.drop_eq_getElem_cons ha, List.drop_eq_getElem_cons hb]
    have hs : ∀ k, slices_Equal_int_int.l0 (k + 1) a b (a.length : Int) (i : Int) = if a[i] = b[i] then slices_Equal_int_int.l0 k a b (a.length : Int) ((i + 1 : Nat) : Int) else some false := by
      intro k
      simp only [slices_Equal_int_int.l0, if_pos c1, if_pos c2, if_pos c3, e1, ra, rb]
    refine Ev.step hs ?_
    by_cases h : a[i] = b[i]
    · have := ih (i + 1) (by omega)
      simp only [List.cons.injEq, h, true_and, if_true]
      exact this
    · simp only [List.cons.injEq, h, false_and, if_false, decide_false]
      exact Ev.now _
theorem eq_ev (a b : List Int) (hz : a.length ≤ 100000) : Ev (fun k => slices_Equal_int_int.f k a b) (decide (a = b)) := by
  by_cases hl : a.length = b.length
  · refine Ev.congr (fun k => ?_) (eq_l0 a b hl hz a.length 0 (by omega))
    unfold slices_Equal_int_int.f
    rw [if_pos (by omega)]
    rfl
  · have : decide (a = b) = false := decide_eq_false (fun h => hl (by rw [h]))
    rw [this]
    refine Ev.congr (fun k => ?_) (Ev.now _)
    unfold slices_Equal_int_int.f
    rw [if_neg (by omega)]
theorem si_l0 (a b : List Int) (hl : a.length = b.length) (hz : a.length ≤ 100000) (d : Nat) : ∀ i, i + d = a.length → Ev (fun k => selvageref02_SameInts.l0 k a b (i : Int)) (decide (a.drop i = b.drop i)) := by
  induction d with
  | zero =>
    intro i hi
    have : decide (a.drop i = b.drop i) = true := decide_eq_true (by rw [List.drop_of_length_le (by omega), List.drop_of_length_le (by omega)])
    rw [this]
    refine Ev.step (fun k => ?_) (Ev.now _)
    simp only [selvageref02_SameInts.l0]
    rw [if_neg (by omega)]
  | succ d ih =>
    intro i hi
    have ha : i < a.length := by omega
    have hb : i < b.length := by omega
    have c1 : (i : Int) < (a.length : Int) := by omega
    have c2 : (0 : Int) ≤ (i : Int) := by omega
    have c3 : (i : Int) < (b.length : Int) := by omega
    have e1 : wrap64 ((i : Int) + 1) = ((i + 1 : Nat) : Int) := by rw [w64 _ (by omega) (by omega)]; omega
    have ra : rd a (i : Int) = a[i] := by unfold rd; rw [Int.toNat_natCast, List.getD_eq_getElem?_getD, List.getElem?_eq_getElem ha]; rfl
    have rb : rd b (i : Int) = b[i] := by unfold rd; rw [Int.toNat_natCast, List.getD_eq_getElem?_getD, List.getElem?_eq_getElem hb]; rfl
    rw [List.drop_eq_getElem_cons ha, List.drop_eq_getElem_cons hb]
    have hs : ∀ k, selvageref02_SameInts.l0 (k + 1) a b (i : Int) = if a[i] = b[i] then selvageref02_SameInts.l0 k a b ((i + 1 : Nat) : Int) else some false := by
      intro k
      simp only [selvageref02_SameInts.l0, if_pos c1, if_pos c2, if_pos c3, e1, ra, rb]
    refine Ev.step hs ?_
    by_cases h : a[i] = b[i]
    · have := ih (i + 1) (by omega)
      simp only [List.cons.injEq, h, true_and, if_true]
      exact this
    · simp only [List.cons.injEq, h, false_and, if_false, decide_false]
      exact Ev.now _
theorem si_ev (a b : List Int) (hz : a.length ≤ 100000) : Ev (fun k => selvageref02_SameInts.f k a b) (decide (a = b)) := by
  by_cases hl : a.length = b.length
  · refine Ev.congr (fun k => ?_) (si_l0 a b hl hz a.length 0 (by omega))
    unfold selvageref02_SameInts.f
    rw [if_pos (by omega)]
    rfl
  · have : decide (a = b) = false := decide_eq_false (fun h => hl (by rw [h]))
    rw [this]
    refine Ev.congr (fun k => ?_) (Ev.now _)
    unfold selvageref02_SameInts.f
    rw [if_neg (by omega)]
end Go.Proofs.Ytobkalblncefbaa.Q
