import Derived.Test.YtobkalblncefbaaS6
import Derived.Test.YtobkalblncefbaaQx18
namespace Go.Proofs.Ytobkalblncefbaa.Q
open Go.RowKit Go.Proofs.YtobkalblncefbaaW.PrintWords Go.Proofs.YtobkalblncefbaaW.PrintLast Go.Proofs.YtobkalblncefbaaW.PrintMore
set_option linter.unusedVariables false
set_option linter.unusedSimpArgs false

theorem digit_ev (c : Int) (h0 : 0 ≤ c) (h1 : c ≤ 255) : Ev (fun k => selvageref03_digit.f k c) (dig c) := by
  unfold dig
  by_cases a : c ≥ 48
  · by_cases b : c ≤ 57
    · refine Ev.congr (f := fun k => selvageref03_digit.j0 k c true) (fun k => ?_) (Ev.step (f := fun k => some (c - 48)) (fun k => ?_) (by rw [if_pos ⟨a, b⟩]; exact Ev.now _))
      · unfold selvageref03_digit.f
        rw [if_pos a, decide_eq_true b]
      · simp only [selvageref03_digit.j0]
        rw [if_pos (by trivial)]
        congr 1
        omega
    · refine Ev.congr (f := fun k => selvageref03_digit.j0 k c false) (fun k => ?_) (Ev.step (f := fun k => some (if 97 ≤ c ∧ c ≤ 102 then c - 87 else -1)) (fun k => ?_) (by rw [if_neg (show ¬ (48 ≤ c ∧ c ≤ 57) by omega)]; exact Ev.now _))
      · unfold selvageref03_digit.f
        rw [if_pos a, decide_eq_false b]
      · simp only [selvageref03_digit.j0]
        rw [if_neg (by decide)]
        by_cases x : c ≥ 97
        · by_cases y : c ≤ 102
          · rw [if_pos x, if_pos y, if_pos ⟨x, y⟩]; congr 1; omega
          · rw [if_pos x, if_neg y, if_neg (by omega)]
        · rw [if_neg x, if_neg (by omega)]
  · refine Ev.congr (f := fun k => selvageref03_digit.j0 k c false) (fun k => ?_) (Ev.step (f := fun k => some (-1)) (fun k => ?_) (by rw [if_neg (show ¬ (48 ≤ c ∧ c ≤ 57) by omega), if_neg (show ¬ (97 ≤ c ∧ c ≤ 102) by omega)]; exact Ev.now _))
    · unfold selvageref03_digit.f
      rw [if_neg a]
    · simp only [selvageref03_digit.j0]
      rw [if_neg (by decide), if_neg (by omega)]

theorem refj2_end (s : ByteArray) (acc : List Int) (p : Nat) (hp : p ≤ 100020) (k : Nat) : selvageref03_Unquote.j2 (k + 1) s acc (p : Int) false = some (if s.size ≤ p then (⟨#[]⟩, 0, 11) else if 60 < acc.length then (⟨#[]⟩, 0, 12) else (strOfNums acc, ((p + 1 : Nat) : Int), 0)) := by
  simp only [selvageref03_Unquote.j2]
  have w1 : wrap64 ((p : Int) + 1) = ((p + 1 : Nat) : Int) := by rw [w64 _ (by omega) (by omega)]; omega
  rw [if_neg (by decide), w1]
  by_cases a : s.size ≤ p
  · rw [if_pos (by omega), if_pos a]
  · rw [if_neg (by omega), if_neg a]
    by_cases b : 60 < acc.length
    · rw [if_pos (by omega), if_pos b]
    · rw [if_neg (by omega), if_neg b]

theorem rl1_out (s : ByteArray) (acc : List Int) (q : Nat) (x9 x10 : Int) (h10 : x10 < 2) (hq : s.size ≤ q) (k : Nat) : selvageref03_Unquote.l1 (k + 1) s acc (q : Int) x9 x10 = some (⟨#[]⟩, 0, 11) := by
  have c : (q : Int) ≥ (s.size : Int) := by omega
  simp only [selvageref03_Unquote.l1, if_pos h10, if_pos c]
theorem rl1_step (s : ByteArray) (acc : List Int) (q : Nat) (x9 x10 : Int) (h10 : x10 < 2) (hq : q < s.size) (hz : s.size ≤ 100000) (k : Nat) : selvageref03_Unquote.l1 (k + 1) s acc (q : Int) x9 x10 =
    (selvageref03_digit.f k (bt s (q : Int))).bind fun t171 => (if t171 < 0 then (some ((⟨#[]⟩ : ByteArray), 0, 10)) else (selvageref03_Unquote.l1 k s acc ((q + 1 : Nat) : Int) (wrap64 (wrap64 (16 * x9) + t171)) (wrap64 (x10 + 1)))) := by
  have c : ¬ (q : Int) ≥ (s.size : Int) := by omega
  have c2 : (0 : Int) ≤ (q : Int) := by omega
  have c3 : (q : Int) < (s.size : Int) := by omega
  have w3 : wrap64 ((q : Int) + 1) = ((q + 1 : Nat) : Int) := by rw [w64 _ (by omega) (by omega)]; omega
  simp only [selvageref03_Unquote.l1, if_pos h10, if_neg c, if_pos c2, if_pos c3, w3]
theorem rl1_end (s : ByteArray) (acc : List Int) (q x9 : Int) (h : acc.length < 140737488355328) (k : Nat) : selvageref03_Unquote.l1 (k + 1) s acc q x9 2 = selvageref03_Unquote.l0 k s (acc ++ [x9 % 256]) q := by
  have c : ¬ (2 : Int) < 2 := by decide
  simp only [selvageref03_Unquote.l1, if_neg c, if_pos h]

set_option maxHeartbeats 1000000 in
theorem rnq_l0 (s : ByteArray) (hz : s.size ≤ 100000) (n : Nat) : ∀ (acc : List Int) (p : Nat), s.size < p + n → acc.length ≤ p → p ≤ 100010 → Ev (fun k => selvageref03_Unquote.l0 k s acc (p : Int)) (uq s n acc p) := by
  induction n with
  | zero =>
    intro acc p h1 h2 h3
    refine Ev.step (f := fun k => selvageref03_Unquote.j2 k s acc (p : Int) false) (fun k => ?_) (Ev.step (refj2_end s acc p (by omega)) ?_)
    · simp only [selvageref03_Unquote.l0]
      rw [if_neg (by omega)]
    · rw [if_pos (by omega)]
      exact Ev.now _
  | succ n ih =>
    intro acc p h1 h2 h3
    rw [uq]
    by_cases g1 : s.size ≤ p
    · rw [if_pos g1]
      refine Ev.step (f := fun k => selvageref03_Unquote.j2 k s acc (p : Int) false) (fun k => ?_) (Ev.step (refj2_end s acc p (by omega)) ?_)
      · simp only [selvageref03_Unquote.l0]
        rw [if_neg (by omega)]
      · rw [if_pos (by omega)]
        exact Ev.now _
    rw [if_neg g1]
    have hb := bt_range s (p : Int)
    have w1 : wrap64 ((p : Int) + 1) = ((p + 1 : Nat) : Int) := by rw [w64 _ (by omega) (by omega)]; omega
    have a1 : acc.length < 140737488355328 := by omega
    by_cases g3 : bt s (p : Int) = 34
    · rw [if_pos g3]
      refine Ev.step (f := fun k => selvageref03_Unquote.j2 k s acc (p : Int) false) (fun k => ?_) (Ev.step (refj2_end s acc p (by omega)) ?_)
      · simp only [selvageref03_Unquote.l0]
        rw [if_pos (by omega), if_pos (by omega), bne_eq_false_iff_eq.mpr g3]
      · rw [if_neg (by omega)]
        exact Ev.now _
    rw [if_neg g3]
    refine Ev.step (f := fun k => selvageref03_Unquote.j2 k s acc (p : Int) true) (fun k => ?_) ?_
    · simp only [selvageref03_Unquote.l0]
      rw [if_pos (by omega), if_pos (by omega), bne_iff_ne.mpr g3]
    by_cases g2 : bt s (p : Int) = 10
    · rw [if_pos g2]
      refine Ev.step (f := fun k => some (⟨#[]⟩, 0, 11)) (fun k => ?_) (Ev.now _)
      simp only [selvageref03_Unquote.j2]
      rw [if_pos (by trivial), if_pos (by omega), if_pos (by omega), if_pos g2]
    rw [if_neg g2]
    by_cases g6 : bt s (p : Int) < 32 ∨ 126 < bt s (p : Int)
    · rw [if_pos g6]
      refine Ev.step (f := fun k => selvageref03_Unquote.j3 k s acc (p : Int) (bt s (p : Int)) true) (fun k => ?_) (Ev.step (f := fun k => some (⟨#[]⟩, 0, 10)) (fun k => ?_) (Ev.now _))
      · simp only [selvageref03_Unquote.j2]
        rw [if_pos (by trivial), if_pos (by omega), if_pos (by omega), if_neg g2]
        by_cases x : bt s (p : Int) < 32
        · rw [if_pos x]
        · rw [if_neg x, decide_eq_true (by omega)]
      · simp only [selvageref03_Unquote.j3]
        rw [if_pos (by trivial)]
    rw [if_neg g6]
    refine Ev.step (f := fun k => selvageref03_Unquote.j3 k s acc (p : Int) (bt s (p : Int)) false) (fun k => ?_) ?_
    · simp only [selvageref03_Unquote.j2]
      rw [if_pos (by trivial), if_pos (by omega), if_pos (by omega), if_neg g2, if_neg (by omega), decide_eq_false (by omega)]
    by_cases g5 : bt s (p : Int) = 92
    · rw [if_pos g5]
      have w2 : wrap64 (((p + 1 : Nat) : Int) + 1) = ((p + 2 : Nat) : Int) := by rw [w64 _ (by omega) (by omega)]; omega
      by_cases e1 : s.size ≤ p + 1
      · rw [if_pos e1]
        refine Ev.step (f := fun k => some (⟨#[]⟩, 0, 11)) (fun k => ?_) (Ev.now _)
        simp only [selvageref03_Unquote.j3]
        rw [if_neg (by decide), if_pos g5, w1, if_pos (by omega)]
      rw [if_neg e1]
      have hb1 := bt_range s ((p + 1 : Nat) : Int)
      have hj : ∀ k, selvageref03_Unquote.j3 (k + 1) s acc (p : Int) (bt s (p : Int)) false = (if (bt s ((p + 1 : Nat) : Int)) = 110 then (selvageref03_Unquote.l0 k s (acc ++ [10]) ((p + 2 : Nat) : Int)) else (if (bt s ((p + 1 : Nat) : Int)) = 34 then (selvageref03_Unquote.j4 k s acc ((p + 2 : Nat) : Int) (bt s ((p + 1 : Nat) : Int)) true) else (selvageref03_Unquote.j4 k s acc ((p + 2 : Nat) : Int) (bt s ((p + 1 : Nat) : Int)) ((bt s ((p + 1 : Nat) : Int)) == 92)))) := by
        intro k
        simp only [selvageref03_Unquote.j3]
        rw [if_neg (by decide), if_pos g5, w1, if_neg (by omega), if_pos (by omega), if_pos (by omega), w2]
        simp only [if_pos a1]
      refine Ev.step hj ?_
      by_cases e2 : bt s ((p + 1 : Nat) : Int) = 110
      · rw [if_pos e2]
        exact Ev.congr (fun k => by rw [if_pos e2]) (ih (acc ++ [10]) (p + 2) (by omega) (by simp; omega) (by omega))
      rw [if_neg e2]
      by_cases e3 : bt s ((p + 1 : Nat) : Int) = 34
      · rw [if_pos e3]
        refine Ev.congr (f := fun k => selvageref03_Unquote.j4 k s acc ((p + 2 : Nat) : Int) (bt s ((p + 1 : Nat) : Int)) true) (fun k => by rw [if_neg e2, if_pos e3]) ?_
        refine Ev.step (fun k => ?_) (ih (acc ++ [34]) (p + 2) (by omega) (by simp; omega) (by omega))
        simp only [selvageref03_Unquote.j4]
        rw [if_pos (by trivial), if_pos a1, e3]
      rw [if_neg e3]
      by_cases e4 : bt s ((p + 1 : Nat) : Int) = 92
      · rw [if_pos e4]
        refine Ev.congr (f := fun k => selvageref03_Unquote.j4 k s acc ((p + 2 : Nat) : Int) (bt s ((p + 1 : Nat) : Int)) true) (fun k => by rw [if_neg e2, if_neg e3, beq_iff_eq.mpr e4]) ?_
        refine Ev.step (fun k => ?_) (ih (acc ++ [92]) (p + 2) (by omega) (by simp; omega) (by omega))
        simp only [selvageref03_Unquote.j4]
        rw [if_pos (by trivial), if_pos a1, e4]
      rw [if_neg e4]
      refine Ev.congr (f := fun k => selvageref03_Unquote.j4 k s acc ((p + 2 : Nat) : Int) (bt s ((p + 1 : Nat) : Int)) false) (fun k => by rw [if_neg e2, if_neg e3, beq_eq_false_iff_ne.mpr e4]) ?_
      by_cases e5 : bt s ((p + 1 : Nat) : Int) = 120
      · rw [if_pos e5]
        refine Ev.step (f := fun k => selvageref03_Unquote.l1 k s acc ((p + 2 : Nat) : Int) 0 0) (fun k => ?_) ?_
        · simp only [selvageref03_Unquote.j4]
          rw [if_neg (by decide), if_pos e5]
        by_cases e6 : s.size ≤ p + 2
        · rw [if_pos e6]
          exact Ev.step (rl1_out s acc (p + 2) 0 0 (by decide) e6) (Ev.now _)
        rw [if_neg e6]
        have hb2 := bt_range s ((p + 2 : Nat) : Int)
        have hb3 := bt_range s ((p + 3 : Nat) : Int)
        have hd2 := dig_range (bt s ((p + 2 : Nat) : Int))
        have hd3 := dig_range (bt s ((p + 3 : Nat) : Int))
        have hv2 := digit_ev _ hb2.1 hb2.2
        have hv3 := digit_ev _ hb3.1 hb3.2
        have hih := fun (x : Int) => ih (acc ++ [x]) (p + 4) (by omega) (by simp; omega) (by omega)
        refine Ev.step (rl1_step s acc (p + 2) 0 0 (by decide) (by omega) hz) ?_
        refine Ev.bind hv2 ?_
        by_cases e7 : dig (bt s ((p + 2 : Nat) : Int)) < 0
        · rw [if_pos e7]
          exact Ev.congr (fun k => by rw [if_pos e7]) (Ev.now _)
        rw [if_neg e7]
        generalize dig (bt s ((p + 2 : Nat) : Int)) = d2 at *
        have q1 : wrap64 (wrap64 (16 * 0) + d2) = d2 := by
          rw [show wrap64 (16 * 0) = 0 from w64 _ (by decide) (by decide), Int.zero_add, w64 _ (by omega) (by omega)]
        have q2 : wrap64 ((0 : Int) + 1) = 1 := w64 _ (by decide) (by decide)
        refine Ev.congr (f := fun k => selvageref03_Unquote.l1 k s acc ((p + 3 : Nat) : Int) d2 1) (fun k => by rw [if_neg e7, q1, q2]) ?_
        by_cases e8 : s.size ≤ p + 3
        · rw [if_pos e8]
          exact Ev.step (rl1_out s acc (p + 3) d2 1 (by decide) e8) (Ev.now _)
        rw [if_neg e8]
        refine Ev.step (rl1_step s acc (p + 3) d2 1 (by decide) (by omega) hz) ?_
        refine Ev.bind hv3 ?_
        by_cases e9 : dig (bt s ((p + 3 : Nat) : Int)) < 0
        · rw [if_pos e9]
          exact Ev.congr (fun k => by rw [if_pos e9]) (Ev.now _)
        rw [if_neg e9]
        generalize dig (bt s ((p + 3 : Nat) : Int)) = d3 at *
        have q3 : wrap64 (wrap64 (16 * d2) + d3) = 16 * d2 + d3 := by
          rw [w64 (16 * d2) (by omega) (by omega), w64 _ (by omega) (by omega)]
        have q4 : wrap64 ((1 : Int) + 1) = 2 := w64 _ (by decide) (by decide)
        have q5 : (16 * d2 + d3) % 256 = 16 * d2 + d3 := Int.emod_eq_of_lt (by omega) (by omega)
        refine Ev.congr (f := fun k => selvageref03_Unquote.l1 k s acc ((p + 4 : Nat) : Int) (16 * d2 + d3) 2) (fun k => by rw [if_neg e9, q3, q4]) ?_
        refine Ev.step (rl1_end s acc _ _ a1) ?_
        rw [q5]
        exact hih _
      · rw [if_neg e5]
        refine Ev.step (f := fun k => some (⟨#[]⟩, 0, 10)) (fun k => ?_) (Ev.now _)
        simp only [selvageref03_Unquote.j4]
        rw [if_neg (by decide), if_neg e5]
    · rw [if_neg g5]
      refine Ev.step (fun k => ?_) (ih (acc ++ [bt s (p : Int)]) (p + 1) (by omega) (by simp; omega) (by omega))
      simp only [selvageref03_Unquote.j3]
      rw [if_neg (by decide), if_neg g5, if_pos a1, w1]

theorem rnq_ev (s : ByteArray) (hz : s.size ≤ 100000) : Ev (fun k => selvageref03_Unquote.f k s) (uqAll s) := by
  unfold uqAll
  by_cases h0 : s.size = 0
  · rw [if_pos (.inl h0)]
    refine Ev.congr (f := fun k => selvageref03_Unquote.j0 k s true) (fun k => ?_) (Ev.step (f := fun k => some (⟨#[]⟩, 0, 14)) (fun k => ?_) (Ev.now _))
    · unfold selvageref03_Unquote.f
      rw [if_pos (by omega)]
    · simp only [selvageref03_Unquote.j0]
      rw [if_pos (by trivial)]
  · by_cases h1 : bt s 0 = 34
    · rw [if_neg (by simp [h0, h1])]
      refine Ev.congr (f := fun k => selvageref03_Unquote.j0 k s false) (fun k => ?_) (Ev.step (fun k => ?_) (rnq_l0 s hz s.size [] 1 (by omega) (by simp) (by omega)))
      · unfold selvageref03_Unquote.f
        rw [if_neg (by omega), if_pos (by omega), h1]
        rfl
      · simp only [selvageref03_Unquote.j0]
        rw [if_neg (by simp)]
        rfl
    · rw [if_pos (.inr h1)]
      refine Ev.congr (f := fun k => selvageref03_Unquote.j0 k s true) (fun k => ?_) (Ev.step (f := fun k => some (⟨#[]⟩, 0, 14)) (fun k => ?_) (Ev.now _))
      · unfold selvageref03_Unquote.f
        have : (bt s 0 != 34) = true := bne_iff_ne.mpr h1
        rw [if_neg (by omega), if_pos (by omega), this]
      · simp only [selvageref03_Unquote.j0]
        rw [if_pos (by trivial)]
end Go.Proofs.Ytobkalblncefbaa.Q
