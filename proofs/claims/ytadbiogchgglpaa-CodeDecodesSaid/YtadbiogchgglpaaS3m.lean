import Derived.Test.YtadbiogchgglpaaS2
namespace Go.Proofs.Ytadbiogchgglpaa.Q
open Go.RowKit Go.Proofs.YtadbiogchgglpaaW.PrintWords Go.Proofs.YtadbiogchgglpaaW.PrintLast Go.Proofs.YtadbiogchgglpaaW.PrintMore
set_option linter.unusedVariables false
set_option linter.unusedSimpArgs false
set_option linter.unusedSectionVars false

/-! ### the document's May -/
section
variable (l0 : List S40) (l1 : List Int) (l2 : List ByteArray) (a3 : Int)
theorem rmay_l3 (p : Nat) (hp : p < l0.length) (x0 x1 x2 : Int) (c : List S42) (hc : c.length ≤ 1000000) (hl : l0.length ≤ 1000000) (rest : Bool) (next : Ev (fun k => zM.l2 k ((p + 1 : Nat) : Int) l0 l1 l2 a3) rest) :
    ∀ d q, q + d = c.length → Ev (fun k => zM.l3 k (p : Int) (q : Int) l0 l1 l2 a3 x0 x1 x2 c) ((c.drop q).all instrOk && rest) := by
  have e := wn ((p : Int) + 1) (p + 1) (by omega) (by omega)
  intro d
  induction d with
  | zero =>
    intro q hq
    rw [all_end _ _ _ (by omega), Bool.true_and]
    exact Ev.step (fun k => by rw [zM.l3, if_neg (by omega), e]) next
  | succ d ih =>
    intro q hq
    have hlt : q < c.length := by omega
    have eq := wn ((q : Int) + 1) (q + 1) (by omega) (by omega)
    rw [all_at _ _ _ hlt]
    refine Ev.step (f := fun k => (selvageref13_Instr.f k (c[q]).f0 (c[q]).f1 (c[q]).f2).bind fun t => if t = true then zM.l3 k (p : Int) (wrap64 ((q : Int) + 1)) l0 l1 l2 a3 x0 x1 x2 c else some false) (fun k => by rw [zM.l3, if_pos (by omega), if_pos (by omega), rd42_get c q hlt]) ?_
    refine Ev.bind (instr_ev c[q]) ?_
    by_cases hb : instrOk c[q] = true
    · rw [hb, Bool.true_and]
      refine Ev.congr (fun k => if_pos rfl) ?_
      rw [eq]; exact ih (q + 1) (by omega)
    · have hb' : instrOk c[q] = false := by simpa using hb
      rw [hb', Bool.false_and, Bool.false_and]
      exact Ev.congr (fun k => if_neg (by decide)) (Ev.now _)
theorem rmay_l2 (hl : l0.length ≤ 1000000) (hi : ∀ f ∈ l0, f.f3.length ≤ 1000000) : ∀ d p, p + d = l0.length → Ev (fun k => zM.l2 k (p : Int) l0 l1 l2 a3) ((l0.drop p).all bodyOk) := by
  intro d
  induction d with
  | zero =>
    intro p hp
    rw [all_end _ _ _ (by omega)]
    exact Ev.step (fun k => by rw [zM.l2, if_neg (by omega)]) (Ev.now _)
  | succ d ih =>
    intro p hp
    have hlt : p < l0.length := by omega
    rw [all_at _ _ _ hlt]
    have hg : r40 l0 (p : Int) = l0[p] := rd40_get l0 p hlt
    have hfl := hi _ (List.getElem_mem hlt)
    generalize hf : l0[p] = f at *
    have t3 := rmay_l3 l0 l1 l2 a3 p hlt f.f0 f.f1 f.f2 f.f3 hfl hl _ (ih (p + 1) (by omega)) f.f3.length 0 (by omega)
    have yes : ∀ b, Ev (fun k => zM.j4 k (p : Int) true l0 l1 l2 a3 f.f0 f.f1 f.f2 f.f3) (false && b) := fun b => by rw [Bool.false_and]; exact Ev.step (fun k => by rw [zM.j4, if_pos rfl]) (Ev.now _)
    have no : Ev (fun k => zM.j4 k (p : Int) false l0 l1 l2 a3 f.f0 f.f1 f.f2 f.f3) (f.f3.all instrOk && (l0.drop (p + 1)).all bodyOk) := Ev.step (fun k => by rw [zM.j4, if_neg (by decide)]; rfl) t3
    have bad : ¬ (0 ≤ f.f0 ∧ f.f0 ≤ 59 ∧ 0 ≤ f.f1 ∧ f.f1 ≤ 60 ∧ 1 ≤ f.f2 ∧ f.f2 ≤ 60 ∧ 1 ≤ f.f3.length ∧ f.f3.length ≤ 400) → bodyOk f = false := fun h => by unfold bodyOk; rw [decide_eq_false h, Bool.false_and]
    by_cases c1 : f.f0 < 0
    · rw [bad (by omega)]; exact Ev.step (fun k => by rw [zM.l2, if_pos (by omega), if_pos (by omega), hg, if_pos c1]) (yes _)
    by_cases c2 : f.f0 > 59
    · rw [bad (by omega)]; exact Ev.step (fun k => by rw [zM.l2, if_pos (by omega), if_pos (by omega), hg, if_neg c1, if_pos c2]) (yes _)
    by_cases c3 : f.f1 < 0
    · rw [bad (by omega)]; exact Ev.step (fun k => by rw [zM.l2, if_pos (by omega), if_pos (by omega), hg, if_neg c1, if_neg c2, if_pos c3]) (yes _)
    by_cases c4 : f.f1 > 60
    · rw [bad (by omega)]; exact Ev.step (fun k => by rw [zM.l2, if_pos (by omega), if_pos (by omega), hg, if_neg c1, if_neg c2, if_neg c3, if_pos c4]) (yes _)
    by_cases c5 : f.f2 < 1
    · rw [bad (by omega)]; exact Ev.step (fun k => by rw [zM.l2, if_pos (by omega), if_pos (by omega), hg, if_neg c1, if_neg c2, if_neg c3, if_neg c4, if_pos c5]) (yes _)
    by_cases c6 : f.f2 > 60
    · rw [bad (by omega)]; exact Ev.step (fun k => by rw [zM.l2, if_pos (by omega), if_pos (by omega), hg, if_neg c1, if_neg c2, if_neg c3, if_neg c4, if_neg c5, if_pos c6]) (yes _)
    by_cases c7 : (f.f3.length : Int) < 1
    · rw [bad (by omega)]; exact Ev.step (fun k => by rw [zM.l2, if_pos (by omega), if_pos (by omega), hg, if_neg c1, if_neg c2, if_neg c3, if_neg c4, if_neg c5, if_neg c6, if_pos c7]) (yes _)
    by_cases c8 : (f.f3.length : Int) > 400
    · rw [bad (by omega)]; exact Ev.step (fun k => by rw [zM.l2, if_pos (by omega), if_pos (by omega), hg, if_neg c1, if_neg c2, if_neg c3, if_neg c4, if_neg c5, if_neg c6, if_neg c7, decide_eq_true c8]) (yes _)
    have ok : bodyOk f = f.f3.all instrOk := by unfold bodyOk; rw [decide_eq_true (by omega), Bool.true_and]
    rw [ok]
    exact Ev.step (fun k => by rw [zM.l2, if_pos (by omega), if_pos (by omega), hg, if_neg c1, if_neg c2, if_neg c3, if_neg c4, if_neg c5, if_neg c6, if_neg c7, decide_eq_false c8]) no
theorem rmay_l1 (h2 : l2.length ≤ 1000000) (rest : Bool) (next : Ev (fun k => zM.l2 k 0 l0 l1 l2 a3) rest) : ∀ d p, p + d = l2.length → Ev (fun k => zM.l1 k (p : Int) l0 l1 l2 a3) ((l2.drop p).all textOk && rest) := by
  intro d
  induction d with
  | zero =>
    intro p hp
    rw [all_end _ _ _ (by omega), Bool.true_and]
    exact Ev.step (fun k => by rw [zM.l1, if_neg (by omega)]) next
  | succ d ih =>
    intro p hp
    have hlt : p < l2.length := by omega
    have e := wn ((p : Int) + 1) (p + 1) (by omega) (by omega)
    rw [all_at _ _ _ hlt]
    by_cases hb : ((l2[p].size : Nat) : Int) > 60
    · have : textOk l2[p] = false := by unfold textOk; rw [decide_eq_false (by omega)]
      rw [this, Bool.false_and, Bool.false_and]
      exact Ev.step (fun k => by rw [zM.l1, if_pos (by omega), if_pos (by omega), rdOf_get _ l2 p hlt, if_pos hb]) (Ev.now _)
    · have : textOk l2[p] = true := by unfold textOk; rw [decide_eq_true (by omega)]
      rw [this, Bool.true_and]
      exact Ev.step (fun k => by rw [zM.l1, if_pos (by omega), if_pos (by omega), rdOf_get _ l2 p hlt, if_neg hb, e]) (ih (p + 1) (by omega))
theorem rmay_l0 (h1 : l1.length ≤ 1000000) (rest : Bool) (next : Ev (fun k => zM.l1 k 0 l0 l1 l2 a3) rest) : ∀ d p, p + d = l1.length → Ev (fun k => zM.l0 k (p : Int) l0 l1 l2 a3) ((l1.drop p).all intOk && rest) := by
  intro d
  induction d with
  | zero =>
    intro p hp
    rw [all_end _ _ _ (by omega), Bool.true_and]
    exact Ev.step (fun k => by rw [zM.l0, if_neg (by omega)]) next
  | succ d ih =>
    intro p hp
    have hlt : p < l1.length := by omega
    have e := wn ((p : Int) + 1) (p + 1) (by omega) (by omega)
    rw [all_at _ _ _ hlt]
    by_cases hb : l1[p] < -4611686018427387904
    · have : intOk l1[p] = false := by unfold intOk; rw [decide_eq_false (by omega)]
      rw [this, Bool.false_and, Bool.false_and]
      exact Ev.step (fun k => by rw [zM.l0, if_pos (by omega), if_pos (by omega), rd_get l1 p hlt, if_pos hb]) (Ev.now _)
    · by_cases hb2 : l1[p] > 4611686018427387903
      · have : intOk l1[p] = false := by unfold intOk; rw [decide_eq_false (by omega)]
        rw [this, Bool.false_and, Bool.false_and]
        exact Ev.step (fun k => by rw [zM.l0, if_pos (by omega), if_pos (by omega), rd_get l1 p hlt, if_neg hb, if_pos hb2]) (Ev.now _)
      · have : intOk l1[p] = true := by unfold intOk; rw [decide_eq_true (by omega)]
        rw [this, Bool.true_and]
        exact Ev.step (fun k => by rw [zM.l0, if_pos (by omega), if_pos (by omega), rd_get l1 p hlt, if_neg hb, if_neg hb2, e]) (ih (p + 1) (by omega))
theorem rmay_ev (h0 : l0.length ≤ 1000000) (hi : ∀ f ∈ l0, f.f3.length ≤ 1000000) : Ev (fun k => zM.f k l0 l1 l2 a3) (mayP l0 l1 l2 a3) := by
  have yes : ¬ (1 ≤ l0.length ∧ l0.length ≤ 120 ∧ l1.length ≤ 120 ∧ l2.length ≤ 120 ∧ 0 ≤ a3 ∧ a3 ≤ 60) → Ev (fun k => zM.j0 k true l0 l1 l2 a3) (mayP l0 l1 l2 a3) := fun h => by
    unfold mayP; rw [decide_eq_false h, Bool.false_and]
    exact Ev.step (fun k => by rw [zM.j0, if_pos rfl]) (Ev.now _)
  unfold zM.f
  by_cases c1 : (l0.length : Int) < 1
  · exact Ev.congr (fun k => by rw [if_pos c1]) (yes (by omega))
  by_cases c2 : (l0.length : Int) > 120
  · exact Ev.congr (fun k => by rw [if_neg c1, if_pos c2]) (yes (by omega))
  by_cases c3 : (l1.length : Int) > 120
  · exact Ev.congr (fun k => by rw [if_neg c1, if_neg c2, if_pos c3]) (yes (by omega))
  by_cases c4 : (l2.length : Int) > 120
  · exact Ev.congr (fun k => by rw [if_neg c1, if_neg c2, if_neg c3, if_pos c4]) (yes (by omega))
  by_cases c5 : a3 < 0
  · exact Ev.congr (fun k => by rw [if_neg c1, if_neg c2, if_neg c3, if_neg c4, if_pos c5]) (yes (by omega))
  by_cases c6 : a3 > 60
  · exact Ev.congr (fun k => by rw [if_neg c1, if_neg c2, if_neg c3, if_neg c4, if_neg c5, decide_eq_true c6]) (yes (by omega))
  have m : mayP l0 l1 l2 a3 = (l1.all intOk && (l2.all textOk && l0.all bodyOk)) := by
    unfold mayP; rw [decide_eq_true (by omega), Bool.true_and]
    cases l0.all bodyOk <;> cases l1.all intOk <;> cases l2.all textOk <;> rfl
  rw [m]
  refine Ev.congr (f := fun k => zM.j0 k false l0 l1 l2 a3) (fun k => by rw [if_neg c1, if_neg c2, if_neg c3, if_neg c4, if_neg c5, decide_eq_false c6]) ?_
  refine Ev.step (f := fun k => zM.l0 k 0 l0 l1 l2 a3) (fun k => by rw [zM.j0, if_neg (by decide)]) ?_
  exact rmay_l0 l0 l1 l2 a3 (by omega) _ (rmay_l1 l0 l1 l2 a3 (by omega) _ (rmay_l2 l0 l1 l2 a3 h0 hi l0.length 0 (by omega)) l2.length 0 (by omega)) l1.length 0 (by omega)
end
end Go.Proofs.Ytadbiogchgglpaa.Q
