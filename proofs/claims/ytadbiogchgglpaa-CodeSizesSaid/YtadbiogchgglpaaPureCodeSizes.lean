import Derived.Test.YtadbiogchgglpaaQx20
import Derived.Test.YtadbiogchgglpaaS2
namespace Go.Proofs.Ytadbiogchgglpaa.Pure
open Go.RowKit Go.Proofs.Ytadbiogchgglpaa.Q Go.Proofs.YtadbiogchgglpaaW.PrintWords Go.Proofs.YtadbiogchgglpaaW.PrintLast
set_option linter.unusedVariables false
set_option linter.unusedSimpArgs false

theorem size_f (a : Int) (m : Nat) (hm : m ≤ 1000) (h : (Lit.int .i64 a).wf = true) : ∃ n : Nat, n ≤ m ∧ selvagelaw13_size.f a (m : Int) = some (n : Int) := by
  have hr : -9223372036854775808 ≤ a ∧ a ≤ 9223372036854775807 := by
    simp [Lit.wf, IntKind.min, IntKind.max, IntKind.signed, IntKind.bits] at h
    omega
  obtain ⟨h0, h1⟩ := hr
  clear h
  unfold selvagelaw13_size.f
  have e1 : wrap64 ((m : Int) + 1) = ((m + 1 : Nat) : Int) := wn _ _ (by omega) (by omega)
  have hne : ¬ ((m + 1 : Nat) : Int) = 0 := by omega
  by_cases c : a < 0
  · have e2 : wrap64 (a + 1) = a + 1 := w64 _ (by omega) (by omega)
    have e3 : wrap64 (-(a + 1)) = -(a + 1) := w64 _ (by omega) (by omega)
    have g0 : 0 ≤ -(a + 1) := by omega
    have et : Int.tmod (-(a + 1)) ((m + 1 : Nat) : Int) = -(a + 1) % ((m + 1 : Nat) : Int) := Int.tmod_eq_emod_of_nonneg g0
    have p0 := Int.emod_nonneg (-(a + 1)) (b := ((m + 1 : Nat) : Int)) (by omega)
    have p1 := Int.emod_lt_of_pos (-(a + 1)) (b := ((m + 1 : Nat) : Int)) (by omega)
    refine ⟨(-(a + 1) % ((m + 1 : Nat) : Int)).toNat, ?_, ?_⟩
    · omega
    · rw [if_pos c, e1, if_neg hne, e2, e3, et, Int.toNat_of_nonneg p0]
  · have g0 : 0 ≤ a := by omega
    have et : Int.tmod a ((m + 1 : Nat) : Int) = a % ((m + 1 : Nat) : Int) := Int.tmod_eq_emod_of_nonneg g0
    have p0 := Int.emod_nonneg a (b := ((m + 1 : Nat) : Int)) (by omega)
    have p1 := Int.emod_lt_of_pos a (b := ((m + 1 : Nat) : Int)) (by omega)
    refine ⟨(a % ((m + 1 : Nat) : Int)).toNat, ?_, ?_⟩
    · omega
    · rw [if_neg c, e1, if_neg hne, et, Int.toNat_of_nonneg p0]
/-- May the code be that CodeSizes makes? -/
theorem may_sizes (f k t n : Nat) (ints : List Int) (hk : ints.length = k) (hi : ∀ x ∈ ints, 0 ≤ x ∧ x ≤ 1000) :
    mayP (List.replicate f (⟨0, 0, 1, List.replicate n (⟨9, 0, 0⟩ : S42)⟩ : S40)) ints (List.replicate t (⟨#[]⟩ : ByteArray)) 0 = (decide (1 ≤ f ∧ f ≤ 120 ∧ k ≤ 120 ∧ t ≤ 120) && decide (1 ≤ n ∧ n ≤ 400)) := by
  have hI : ints.all intOk = true := by
    rw [List.all_eq_true]
    intro x hx
    have := hi x hx
    unfold intOk
    exact decide_eq_true (by omega)
  have hT : (List.replicate t (⟨#[]⟩ : ByteArray)).all textOk = true := by
    rw [List.all_eq_true]
    intro x hx
    rw [(List.mem_replicate.1 hx).2]
    decide
  have hC : (List.replicate n (⟨9, 0, 0⟩ : S42)).all instrOk = true := by
    rw [List.all_eq_true]
    intro x hx
    rw [(List.mem_replicate.1 hx).2]
    decide
  unfold mayP
  rw [hI, hT, Bool.and_true, Bool.and_true, List.length_replicate, List.length_replicate, hk]
  have hB : bodyOk (⟨0, 0, 1, List.replicate n (⟨9, 0, 0⟩ : S42)⟩ : S40) = decide (1 ≤ n ∧ n ≤ 400) := by
    unfold bodyOk
    rw [hC, Bool.and_true]
    simp [List.length_replicate]
  by_cases hf : 1 ≤ f ∧ f ≤ 120 ∧ k ≤ 120 ∧ t ≤ 120
  · rw [decide_eq_true hf, decide_eq_true (p := 1 ≤ f ∧ f ≤ 120 ∧ k ≤ 120 ∧ t ≤ 120 ∧ (0 : Int) ≤ 0 ∧ (0 : Int) ≤ 60) (by omega), Bool.true_and, Bool.true_and]
    by_cases hn : 1 ≤ n ∧ n ≤ 400
    · rw [decide_eq_true hn, List.all_eq_true]
      intro x hx
      rw [(List.mem_replicate.1 hx).2, hB, decide_eq_true hn]
    · rw [decide_eq_false hn, List.all_eq_false]
      refine ⟨_, List.mem_replicate.2 ⟨by omega, rfl⟩, ?_⟩
      rw [hB, decide_eq_false hn]
      decide
  · rw [decide_eq_false hf, decide_eq_false (p := 1 ≤ f ∧ f ≤ 120 ∧ k ≤ 120 ∧ t ≤ 120 ∧ (0 : Int) ≤ 0 ∧ (0 : Int) ≤ 60) (by omega), Bool.false_and, Bool.false_and]
theorem rep_snoc {α : Type} (x : α) (n : Nat) : List.replicate n x ++ [x] = List.replicate (n + 1) x := List.replicate_succ'.symm
theorem sizes_l3 (f k t n : Nat) (hf : f ≤ 130) (hk : k ≤ 130) (ht : t ≤ 130) (hn : n ≤ 450) (ints : List Int) (hl : ints.length = k) (hi : ∀ x ∈ ints, 0 ≤ x ∧ x ≤ 1000) : ∀ d p, p + d = f →
    Ev (fun q => selvagelaw13_CodeSizes.l3 q (f : Int) (k : Int) (t : Int) (n : Int) (p : Int) (List.replicate p (⟨0, 0, 1, List.replicate n (⟨9, 0, 0⟩ : S42)⟩ : S40)) ints (List.replicate t (⟨#[]⟩ : ByteArray)) 0 0 0 1 (List.replicate n (⟨9, 0, 0⟩ : S42))) true := by
  intro d
  induction d with
  | zero =>
    intro p hp
    have c0 : ¬ (p : Int) < (f : Int) := by omega
    obtain rfl : p = f := by omega
    have hm := may_ev (List.replicate p (⟨0, 0, 1, List.replicate n (⟨9, 0, 0⟩ : S42)⟩ : S40)) ints (List.replicate t (⟨#[]⟩ : ByteArray)) 0 (by simp; omega) (by
      intro x hx
      rw [(List.mem_replicate.1 hx).2]
      simp; omega)
    rw [may_sizes p k t n ints hl hi] at hm
    have fin : ∀ b : Bool, b = (decide (1 ≤ p ∧ p ≤ 120 ∧ k ≤ 120 ∧ t ≤ 120) && decide (1 ≤ n ∧ n ≤ 400)) → Ev (fun q => (code_May.f q (List.replicate p (⟨0, 0, 1, List.replicate n (⟨9, 0, 0⟩ : S42)⟩ : S40)) ints (List.replicate t (⟨#[]⟩ : ByteArray)) 0).bind fun t360 => (if (t360 == b) = true then ((selvagelaw13_lives.f q).bind fun t361 => (some t361)) else (some false))) true := by
      intro b hb
      refine Ev.bind hm ?_
      exact Ev.congr (fun k => if_pos (by rw [hb, beq_self_eq_true])) lives_end
    by_cases c1 : (p : Int) ≥ 1
    · by_cases c2 : (p : Int) ≤ 120
      · by_cases c3 : (k : Int) ≤ 120
        · by_cases c4 : (t : Int) ≤ 120
          · by_cases c5 : (n : Int) ≥ 1
            · refine Ev.step (fun q => by rw [selvagelaw13_CodeSizes.l3, if_neg c0, if_pos c1, if_pos c2, if_pos c3, if_pos c4, if_pos c5]) (fin (decide ((n : Int) ≤ 400)) ?_)
              rw [decide_eq_true (p := 1 ≤ p ∧ p ≤ 120 ∧ k ≤ 120 ∧ t ≤ 120) (by omega), Bool.true_and]
              by_cases c6 : (n : Int) ≤ 400
              · rw [decide_eq_true c6, decide_eq_true (by omega)]
              · rw [decide_eq_false c6, decide_eq_false (by omega)]
            · refine Ev.step (fun q => by rw [selvagelaw13_CodeSizes.l3, if_neg c0, if_pos c1, if_pos c2, if_pos c3, if_pos c4, if_neg c5]) (fin false ?_)
              rw [decide_eq_false (p := 1 ≤ n ∧ n ≤ 400) (by omega), Bool.and_false]
          · refine Ev.step (fun q => by rw [selvagelaw13_CodeSizes.l3, if_neg c0, if_pos c1, if_pos c2, if_pos c3, if_neg c4]) (fin false ?_)
            rw [decide_eq_false (p := 1 ≤ p ∧ p ≤ 120 ∧ k ≤ 120 ∧ t ≤ 120) (by omega), Bool.false_and]
        · refine Ev.step (fun q => by rw [selvagelaw13_CodeSizes.l3, if_neg c0, if_pos c1, if_pos c2, if_neg c3]) (fin false ?_)
          rw [decide_eq_false (p := 1 ≤ p ∧ p ≤ 120 ∧ k ≤ 120 ∧ t ≤ 120) (by omega), Bool.false_and]
      · refine Ev.step (fun q => by rw [selvagelaw13_CodeSizes.l3, if_neg c0, if_pos c1, if_neg c2]) (fin false ?_)
        rw [decide_eq_false (p := 1 ≤ p ∧ p ≤ 120 ∧ k ≤ 120 ∧ t ≤ 120) (by omega), Bool.false_and]
    · refine Ev.step (fun q => by rw [selvagelaw13_CodeSizes.l3, if_neg c0, if_neg c1]) (fin false ?_)
      rw [decide_eq_false (p := 1 ≤ p ∧ p ≤ 120 ∧ k ≤ 120 ∧ t ≤ 120) (by omega), Bool.false_and]
  | succ d ih =>
    intro p hp
    have c0 : (p : Int) < (f : Int) := by omega
    have c1 : (List.replicate p (⟨0, 0, 1, List.replicate n (⟨9, 0, 0⟩ : S42)⟩ : S40)).length < 2932031007402 := by simp; omega
    have hih := ih (p + 1) (by omega)
    have e := wn ((p : Int) + 1) (p + 1) (by omega) (by omega)
    exact Ev.step (fun q => by rw [selvagelaw13_CodeSizes.l3, if_pos c0, if_pos c1, e, rep_snoc]) hih
theorem sizes_l2 (f k t n : Nat) (hf : f ≤ 130) (hk : k ≤ 130) (ht : t ≤ 130) (hn : n ≤ 450) (ints : List Int) (hl : ints.length = k) (hi : ∀ x ∈ ints, 0 ≤ x ∧ x ≤ 1000) : ∀ d p, p + d = n →
    Ev (fun q => selvagelaw13_CodeSizes.l2 q (f : Int) (k : Int) (t : Int) (n : Int) (p : Int) ints (List.replicate t (⟨#[]⟩ : ByteArray)) 0 0 0 1 (List.replicate p (⟨9, 0, 0⟩ : S42))) true := by
  intro d
  induction d with
  | zero =>
    intro p hp
    have c0 : ¬ (p : Int) < (n : Int) := by omega
    obtain rfl : p = n := by omega
    exact Ev.step (fun q => by rw [selvagelaw13_CodeSizes.l2, if_neg c0]; rfl) (sizes_l3 f k t p hf hk ht hn ints hl hi f 0 (by omega))
  | succ d ih =>
    intro p hp
    have c0 : (p : Int) < (n : Int) := by omega
    have c1 : (List.replicate p (⟨9, 0, 0⟩ : S42)).length < 5864062014805 := by simp; omega
    have hih := ih (p + 1) (by omega)
    have e := wn ((p : Int) + 1) (p + 1) (by omega) (by omega)
    exact Ev.step (fun q => by rw [selvagelaw13_CodeSizes.l2, if_pos c0, if_pos c1, e, rep_snoc]) hih
theorem sizes_l1 (f k t n : Nat) (hf : f ≤ 130) (hk : k ≤ 130) (ht : t ≤ 130) (hn : n ≤ 450) (ints : List Int) (hl : ints.length = k) (hi : ∀ x ∈ ints, 0 ≤ x ∧ x ≤ 1000) : ∀ d p, p + d = t →
    Ev (fun q => selvagelaw13_CodeSizes.l1 q (f : Int) (k : Int) (t : Int) (n : Int) (p : Int) ints (List.replicate p (⟨#[]⟩ : ByteArray)) 0) true := by
  intro d
  induction d with
  | zero =>
    intro p hp
    have c0 : ¬ (p : Int) < (t : Int) := by omega
    obtain rfl : p = t := by omega
    exact Ev.step (fun q => by rw [selvagelaw13_CodeSizes.l1, if_neg c0]; rfl) (sizes_l2 f k p n hf hk ht hn ints hl hi n 0 (by omega))
  | succ d ih =>
    intro p hp
    have c0 : (p : Int) < (t : Int) := by omega
    have c1 : (List.replicate p (⟨#[]⟩ : ByteArray)).length < 8796093022208 := by simp; omega
    have hih := ih (p + 1) (by omega)
    have e := wn ((p : Int) + 1) (p + 1) (by omega) (by omega)
    exact Ev.step (fun q => by rw [selvagelaw13_CodeSizes.l1, if_pos c0, if_pos c1, e, rep_snoc]) hih
theorem sizes_l0 (f k t n : Nat) (hf : f ≤ 130) (hk : k ≤ 130) (ht : t ≤ 130) (hn : n ≤ 450) : ∀ d p, p + d = k → ∀ ints : List Int, ints.length = p → (∀ x ∈ ints, 0 ≤ x ∧ x ≤ 1000) →
    Ev (fun q => selvagelaw13_CodeSizes.l0 q (f : Int) (k : Int) (t : Int) (n : Int) (p : Int) ints 0) true := by
  intro d
  induction d with
  | zero =>
    intro p hp ints hl hi
    have c0 : ¬ (p : Int) < (k : Int) := by omega
    exact Ev.step (fun q => by rw [selvagelaw13_CodeSizes.l0, if_neg c0]; rfl) (sizes_l1 f k t n hf hk ht hn ints (by omega) hi t 0 (by omega))
  | succ d ih =>
    intro p hp ints hl hi
    have c0 : (p : Int) < (k : Int) := by omega
    have c1 : ints.length < 17592186044416 := by omega
    have hih := ih (p + 1) (by omega) (ints ++ [(p : Int)]) (by simp [hl]) (by
      intro x hx
      rcases List.mem_append.1 hx with h | h
      · exact hi x h
      · simp at h; omega)
    have e := wn ((p : Int) + 1) (p + 1) (by omega) (by omega)
    exact Ev.step (fun q => by rw [selvagelaw13_CodeSizes.l0, if_pos c0, if_pos c1, e]) hih
theorem CodeSizes : selvagelaw13_CodeSizes.Pure := by
  intro a0 a1 a2 a3 w0 w1 w2 w3
  refine Ev.rounds (g := fun k => selvagelaw13_CodeSizes.f k a0 a1 a2 a3) ?_
  unfold selvagelaw13_CodeSizes.f
  obtain ⟨f, hf, ef⟩ := size_f a0 130 (by omega) w0
  obtain ⟨k, hk, ek⟩ := size_f a1 130 (by omega) w1
  obtain ⟨t, ht, et⟩ := size_f a2 130 (by omega) w2
  obtain ⟨n, hn, en⟩ := size_f a3 450 (by omega) w3
  have ef' : selvagelaw13_size.f a0 130 = some (f : Int) := ef
  have ek' : selvagelaw13_size.f a1 130 = some (k : Int) := ek
  have et' : selvagelaw13_size.f a2 130 = some (t : Int) := et
  have en' : selvagelaw13_size.f a3 450 = some (n : Int) := en
  rw [ef', ek', et', en']
  simp only [Option.bind_some]
  exact sizes_l0 f k t n hf hk ht hn k 0 (by omega) [] rfl (by simp)
end Go.Proofs.Ytadbiogchgglpaa.Pure
