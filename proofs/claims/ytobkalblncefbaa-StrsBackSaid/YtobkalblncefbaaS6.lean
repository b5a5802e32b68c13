import Derived.Test.YtobkalblncefbaaS3
import Derived.Test.YtobkalblncefbaaQx12
namespace Go.Proofs.Ytobkalblncefbaa.Q
open Go.RowKit Go.Proofs.YtobkalblncefbaaW.PrintWords Go.Proofs.YtobkalblncefbaaW.PrintLast Go.Proofs.YtobkalblncefbaaW.PrintMore
set_option linter.unusedVariables false
set_option linter.unusedSimpArgs false

/-- What is read from place p on, acc read already. -/
def uq (s : ByteArray) : Nat → List Int → Nat → ByteArray × Int × Int
  | 0, _, _ => (⟨#[]⟩, 0, 11)
  | n + 1, acc, p =>
    if s.size ≤ p then (⟨#[]⟩, 0, 11) else
    if bt s (p : Int) = 34 then (if 60 < acc.length then (⟨#[]⟩, 0, 12) else (strOfNums acc, ((p + 1 : Nat) : Int), 0)) else
    if bt s (p : Int) = 10 then (⟨#[]⟩, 0, 11) else
    if bt s (p : Int) < 32 ∨ 126 < bt s (p : Int) then (⟨#[]⟩, 0, 10) else
    if bt s (p : Int) = 92 then
      (if s.size ≤ p + 1 then (⟨#[]⟩, 0, 11) else
       if bt s ((p + 1 : Nat) : Int) = 110 then uq s n (acc ++ [10]) (p + 2) else
       if bt s ((p + 1 : Nat) : Int) = 34 then uq s n (acc ++ [34]) (p + 2) else
       if bt s ((p + 1 : Nat) : Int) = 92 then uq s n (acc ++ [92]) (p + 2) else
       if bt s ((p + 1 : Nat) : Int) = 120 then
         (if s.size ≤ p + 2 then (⟨#[]⟩, 0, 11) else if dig (bt s ((p + 2 : Nat) : Int)) < 0 then (⟨#[]⟩, 0, 10) else
          if s.size ≤ p + 3 then (⟨#[]⟩, 0, 11) else if dig (bt s ((p + 3 : Nat) : Int)) < 0 then (⟨#[]⟩, 0, 10) else
          uq s n (acc ++ [16 * dig (bt s ((p + 2 : Nat) : Int)) + dig (bt s ((p + 3 : Nat) : Int))]) (p + 4))
       else (⟨#[]⟩, 0, 10))
    else uq s n (acc ++ [bt s (p : Int)]) (p + 1)

theorem bt_from (s : ByteArray) (a j : Nat) (h : a + j < s.size) : bt (s.extract a s.size) (j : Int) = bt s ((a + j : Nat) : Int) := by
  have hz : (s.extract a s.size).size = s.size - a := by rw [ByteArray.size_extract]; omega
  unfold bt
  rw [dif_pos (by simp only [Int.toNat_natCast]; omega), dif_pos (by simp only [Int.toNat_natCast]; omega)]
  simp only [Int.toNat_natCast]
  rw [ByteArray.getElem_extract]

/-- escape, behind place p. -/
theorem esc_at (s : ByteArray) (p : Nat) (hp : p < s.size) : strs_escape.f (s.extract (p + 1) s.size) = some
    (if s.size ≤ p + 1 then (0, 0, 11) else
     if bt s ((p + 1 : Nat) : Int) = 110 then (10, 1, 0) else if bt s ((p + 1 : Nat) : Int) = 34 then (34, 1, 0) else if bt s ((p + 1 : Nat) : Int) = 92 then (92, 1, 0) else
     if bt s ((p + 1 : Nat) : Int) = 120 then
       (if s.size ≤ p + 2 then (0, 0, 11) else if dig (bt s ((p + 2 : Nat) : Int)) < 0 then (0, 0, 10) else
        if s.size ≤ p + 3 then (0, 0, 11) else if dig (bt s ((p + 3 : Nat) : Int)) < 0 then (0, 0, 10) else
        (16 * dig (bt s ((p + 2 : Nat) : Int)) + dig (bt s ((p + 3 : Nat) : Int)), 3, 0))
     else (0, 0, 10)) := by
  have hz : (s.extract (p + 1) s.size).size = s.size - (p + 1) := by rw [ByteArray.size_extract]; omega
  unfold strs_escape.f escx
  rw [hz]
  by_cases h1 : s.size ≤ p + 1
  · rw [if_pos (by omega), if_pos h1]
  rw [if_neg (by omega), if_neg h1]
  have b0 : bt (s.extract (p + 1) s.size) 0 = bt s ((p + 1 : Nat) : Int) := bt_from s (p + 1) 0 (by omega)
  rw [b0]
  by_cases c1 : bt s ((p + 1 : Nat) : Int) = 110
  · rw [if_pos c1, if_pos c1]
  rw [if_neg c1, if_neg c1]
  by_cases c2 : bt s ((p + 1 : Nat) : Int) = 34
  · rw [if_pos c2, if_pos c2]
  rw [if_neg c2, if_neg c2]
  by_cases c3 : bt s ((p + 1 : Nat) : Int) = 92
  · rw [if_pos c3, if_pos c3]
  rw [if_neg c3, if_neg c3]
  by_cases c4 : bt s ((p + 1 : Nat) : Int) = 120
  · rw [if_neg (by simpa using c4), if_pos c4]
    by_cases h2 : s.size ≤ p + 2
    · rw [if_pos (by omega), if_pos h2]
    rw [if_neg (by omega), if_neg h2]
    have b1 : bt (s.extract (p + 1) s.size) 1 = bt s ((p + 2 : Nat) : Int) := bt_from s (p + 1) 1 (by omega)
    rw [b1]
    by_cases d1 : dig (bt s ((p + 2 : Nat) : Int)) < 0
    · rw [if_pos d1, if_pos d1]
    rw [if_neg d1, if_neg d1]
    by_cases h3 : s.size ≤ p + 3
    · rw [if_pos (by omega), if_pos h3]
    rw [if_neg (by omega), if_neg h3]
    have b2 : bt (s.extract (p + 1) s.size) 2 = bt s ((p + 3 : Nat) : Int) := bt_from s (p + 1) 2 (by omega)
    rw [b2]
  · rw [if_pos c4]
    simp only [if_neg c4]

theorem unq_l0 (s : ByteArray) (hz : s.size ≤ 100000) (n : Nat) : ∀ (acc : List Int) (p : Nat), s.size < p + n → acc.length ≤ p → p ≤ 100010 → Ev (fun k => strs_Unquote.l0 k s acc (p : Int)) (uq s n acc p) := by
  induction n with
  | zero =>
    intro acc p h1 h2 h3
    refine Ev.step (f := fun k => strs_Unquote.j2 k s acc (p : Int) true) (fun k => ?_) (Ev.step (f := fun k => some (⟨#[]⟩, 0, 11)) (fun k => ?_) (Ev.now _))
    · simp only [strs_Unquote.l0]
      rw [if_pos (by omega)]
    · simp only [strs_Unquote.j2]
      rw [if_pos (by trivial)]
  | succ n ih =>
    intro acc p h1 h2 h3
    by_cases g1 : s.size ≤ p
    · have e : uq s (n + 1) acc p = (⟨#[]⟩, 0, 11) := by rw [uq, if_pos g1]
      rw [e]
      refine Ev.step (f := fun k => strs_Unquote.j2 k s acc (p : Int) true) (fun k => ?_) (Ev.step (f := fun k => some (⟨#[]⟩, 0, 11)) (fun k => ?_) (Ev.now _))
      · simp only [strs_Unquote.l0]
        rw [if_pos (by omega)]
      · simp only [strs_Unquote.j2]
        rw [if_pos (by trivial)]
    rw [uq, if_neg g1]
    have hb := bt_range s (p : Int)
    refine Ev.step (f := fun k => strs_Unquote.j2 k s acc (p : Int) (bt s (p : Int) == 10)) (fun k => ?_) ?_
    · simp only [strs_Unquote.l0]
      rw [if_neg (by omega), if_pos (by omega), if_pos (by omega)]
    have w1 : wrap64 ((p : Int) + 1) = ((p + 1 : Nat) : Int) := by rw [w64 _ (by omega) (by omega)]; omega
    by_cases g2 : bt s (p : Int) = 10
    · rw [if_neg (by omega), if_pos g2]
      refine Ev.step (f := fun k => some (⟨#[]⟩, 0, 11)) (fun k => ?_) (Ev.now _)
      simp only [strs_Unquote.j2]
      rw [if_pos (by simpa using g2)]
    have hj : ∀ k, strs_Unquote.j2 (k + 1) s acc (p : Int) (bt s (p : Int) == 10) = (if (bt s (p : Int)) = 34 then (if (acc.length : Int) > 60 then (some ((⟨#[]⟩ : ByteArray), 0, 12)) else (some (strOfNums acc, ((p + 1 : Nat) : Int), 0))) else (if (bt s (p : Int)) = 92 then ((strs_escape.f (s.extract (p + 1) s.size)).bind fun bt122 => (if bt122.2.2 = 0 then (strs_Unquote.l0 k s (acc ++ [bt122.1]) (wrap64 ((p : Int) + (wrap64 (1 + bt122.2.1))))) else (some ((⟨#[]⟩ : ByteArray), 0, bt122.2.2)))) else ((strs_plain.f (bt s (p : Int))).bind fun t128 => (if t128 = true then (strs_Unquote.l0 k s (acc ++ [bt s (p : Int)]) ((p + 1 : Nat) : Int)) else (some ((⟨#[]⟩ : ByteArray), 0, 10)))))) := by
      intro k
      simp only [strs_Unquote.j2]
      have a1 : acc.length < 140737488355328 := by omega
      have a2 : (0 : Int) ≤ ((p + 1 : Nat) : Int) := by omega
      have a3 : ((p + 1 : Nat) : Int) ≤ (s.size : Int) := by omega
      rw [if_neg (by simpa using g2), if_pos (by omega), if_pos (by omega), w1]
      simp only [if_pos a1, if_pos a2, if_pos a3, Int.toNat_natCast]
    by_cases g3 : bt s (p : Int) = 34
    · rw [if_pos g3]
      refine Ev.step hj ?_
      by_cases g4 : 60 < acc.length
      · rw [if_pos g4]
        exact Ev.congr (fun k => by rw [if_pos g3, if_pos (by omega)]) (Ev.now _)
      · rw [if_neg g4]
        exact Ev.congr (fun k => by rw [if_pos g3, if_neg (by omega)]) (Ev.now _)
    rw [if_neg g3, if_neg g2]
    by_cases g5 : bt s (p : Int) = 92
    · rw [if_neg (by omega), if_pos g5]
      refine Ev.step hj ?_
      have he := esc_at s p (by omega)
      have hgo : ∀ (b m : Int) (q : Nat), strs_escape.f (s.extract (p + 1) s.size) = some (b, m, 0) → 0 ≤ m → m ≤ 3 → q = p + 1 + m.toNat → p < q →
          Ev (fun k => (if (bt s (p : Int)) = 34 then (if (acc.length : Int) > 60 then (some ((⟨#[]⟩ : ByteArray), 0, 12)) else (some (strOfNums acc, ((p + 1 : Nat) : Int), 0))) else (if (bt s (p : Int)) = 92 then ((strs_escape.f (s.extract (p + 1) s.size)).bind fun bt122 => (if bt122.2.2 = 0 then (strs_Unquote.l0 k s (acc ++ [bt122.1]) (wrap64 ((p : Int) + (wrap64 (1 + bt122.2.1))))) else (some ((⟨#[]⟩ : ByteArray), 0, bt122.2.2)))) else ((strs_plain.f (bt s (p : Int))).bind fun t128 => (if t128 = true then (strs_Unquote.l0 k s (acc ++ [bt s (p : Int)]) ((p + 1 : Nat) : Int)) else (some ((⟨#[]⟩ : ByteArray), 0, 10))))))) (uq s n (acc ++ [b]) q) := by
        intro b m q hm m0 m3 hq hpq
        refine Ev.congr (fun k => ?_) (ih (acc ++ [b]) q (by omega) (by simp; omega) (by omega))
        rw [if_neg g3, if_pos g5, hm]
        simp only [Option.bind_some]
        rw [if_pos (by trivial), w64 (1 + m) (by omega) (by omega), w64 _ (by omega) (by omega)]
        congr 1
        omega
      have hno : ∀ (c : Int), strs_escape.f (s.extract (p + 1) s.size) = some (0, 0, c) → c ≠ 0 →
          Ev (fun k => (if (bt s (p : Int)) = 34 then (if (acc.length : Int) > 60 then (some ((⟨#[]⟩ : ByteArray), 0, 12)) else (some (strOfNums acc, ((p + 1 : Nat) : Int), 0))) else (if (bt s (p : Int)) = 92 then ((strs_escape.f (s.extract (p + 1) s.size)).bind fun bt122 => (if bt122.2.2 = 0 then (strs_Unquote.l0 k s (acc ++ [bt122.1]) (wrap64 ((p : Int) + (wrap64 (1 + bt122.2.1))))) else (some ((⟨#[]⟩ : ByteArray), 0, bt122.2.2)))) else ((strs_plain.f (bt s (p : Int))).bind fun t128 => (if t128 = true then (strs_Unquote.l0 k s (acc ++ [bt s (p : Int)]) ((p + 1 : Nat) : Int)) else (some ((⟨#[]⟩ : ByteArray), 0, 10))))))) (⟨#[]⟩, 0, c) := by
        intro c hm hc
        refine Ev.congr (fun k => ?_) (Ev.now _)
        rw [if_neg g3, if_pos g5, hm]
        simp only [Option.bind_some]
        rw [if_neg hc]
      by_cases e1 : s.size ≤ p + 1
      · rw [if_pos e1] at he ⊢
        exact hno 11 he (by decide)
      rw [if_neg e1] at he ⊢
      by_cases e2 : bt s ((p + 1 : Nat) : Int) = 110
      · rw [if_pos e2] at he ⊢
        exact hgo 10 1 (p + 2) he (by decide) (by decide) rfl (by omega)
      rw [if_neg e2] at he ⊢
      by_cases e3 : bt s ((p + 1 : Nat) : Int) = 34
      · rw [if_pos e3] at he ⊢
        exact hgo 34 1 (p + 2) he (by decide) (by decide) rfl (by omega)
      rw [if_neg e3] at he ⊢
      by_cases e4 : bt s ((p + 1 : Nat) : Int) = 92
      · rw [if_pos e4] at he ⊢
        exact hgo 92 1 (p + 2) he (by decide) (by decide) rfl (by omega)
      rw [if_neg e4] at he ⊢
      by_cases e5 : bt s ((p + 1 : Nat) : Int) = 120
      · rw [if_pos e5] at he ⊢
        by_cases e6 : s.size ≤ p + 2
        · rw [if_pos e6] at he ⊢
          exact hno 11 he (by decide)
        rw [if_neg e6] at he ⊢
        by_cases e7 : dig (bt s ((p + 2 : Nat) : Int)) < 0
        · rw [if_pos e7] at he ⊢
          exact hno 10 he (by decide)
        rw [if_neg e7] at he ⊢
        by_cases e8 : s.size ≤ p + 3
        · rw [if_pos e8] at he ⊢
          exact hno 11 he (by decide)
        rw [if_neg e8] at he ⊢
        by_cases e9 : dig (bt s ((p + 3 : Nat) : Int)) < 0
        · rw [if_pos e9] at he ⊢
          exact hno 10 he (by decide)
        rw [if_neg e9] at he ⊢
        exact hgo _ 3 (p + 4) he (by decide) (by decide) rfl (by omega)
      · rw [if_neg e5] at he ⊢
        exact hno 10 he (by decide)
    · have hp := plain_f (bt s (p : Int))
      by_cases g6 : bt s (p : Int) < 32 ∨ 126 < bt s (p : Int)
      · rw [if_pos g6]
        have : pln (bt s (p : Int)) = false := by unfold pln; exact decide_eq_false (by omega)
        rw [this] at hp
        refine Ev.step hj (Ev.congr (fun k => ?_) (Ev.now _))
        rw [if_neg g3, if_neg g5, hp]
        rfl
      · rw [if_neg g6, if_neg g5]
        have : pln (bt s (p : Int)) = true := by unfold pln; exact decide_eq_true (by omega)
        rw [this] at hp
        refine Ev.step hj (Ev.congr (fun k => ?_) (ih (acc ++ [bt s (p : Int)]) (p + 1) (by omega) (by simp; omega) (by omega)))
        rw [if_neg g3, if_neg g5, hp]
        rfl

/-- What is read of a whole text. -/
def uqAll (s : ByteArray) : ByteArray × Int × Int := if s.size = 0 ∨ bt s 0 ≠ 34 then (⟨#[]⟩, 0, 14) else uq s s.size [] 1
theorem unq_ev (s : ByteArray) (hz : s.size ≤ 100000) : Ev (fun k => strs_Unquote.f k s) (uqAll s) := by
  unfold uqAll
  by_cases h0 : s.size = 0
  · rw [if_pos (.inl h0)]
    refine Ev.congr (f := fun k => strs_Unquote.j0 k s true) (fun k => ?_) (Ev.step (f := fun k => some (⟨#[]⟩, 0, 14)) (fun k => ?_) (Ev.now _))
    · unfold strs_Unquote.f
      rw [if_pos ((toList_nil s).2 h0)]
    · simp only [strs_Unquote.j0]
      rw [if_pos (by trivial)]
  · have hn : ¬ s.toList = [] := fun e => h0 ((toList_nil s).1 e)
    by_cases h1 : bt s 0 = 34
    · rw [if_neg (by simp [h0, h1])]
      refine Ev.congr (f := fun k => strs_Unquote.j0 k s false) (fun k => ?_) (Ev.step (fun k => ?_) (unq_l0 s hz s.size [] 1 (by omega) (by simp) (by omega)))
      · unfold strs_Unquote.f
        rw [if_neg hn, if_pos (by omega), h1]
        rfl
      · simp only [strs_Unquote.j0]
        rw [if_neg (by simp)]
        rfl
    · rw [if_pos (.inr h1)]
      refine Ev.congr (f := fun k => strs_Unquote.j0 k s true) (fun k => ?_) (Ev.step (f := fun k => some (⟨#[]⟩, 0, 14)) (fun k => ?_) (Ev.now _))
      · unfold strs_Unquote.f
        have : (bt s 0 != 34) = true := bne_iff_ne.mpr h1
        rw [if_neg hn, if_pos (by omega), this]
      · simp only [strs_Unquote.j0]
        rw [if_pos (by trivial)]
end Go.Proofs.Ytobkalblncefbaa.Q
