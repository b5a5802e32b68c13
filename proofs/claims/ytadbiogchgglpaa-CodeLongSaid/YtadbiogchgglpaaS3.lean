import Derived.Test.YtadbiogchgglpaaS2
import Derived.Test.YtadbiogchgglpaaQx2
namespace Go.Proofs.Ytadbiogchgglpaa.Q
open Go.RowKit Go.Proofs.YtadbiogchgglpaaW.PrintWords Go.Proofs.YtadbiogchgglpaaW.PrintLast Go.Proofs.YtadbiogchgglpaaW.PrintMore
set_option linter.unusedVariables false
set_option linter.unusedSimpArgs false

def Few (r : List S40 × List Int × List ByteArray × Int) : Prop := r.1.length ≤ 6 ∧ (∀ f ∈ r.1, f.f3.length ≤ 60) ∧ r.2.1.length ≤ 6 ∧ r.2.2.1.length ≤ 6 ∧ (∀ s ∈ r.2.2.1, s.size ≤ 70)
section
variable (l0 : List S40) (l1 : List Int) (l2 : List ByteArray) (a3 : Int)
theorem cut_l3 (p : Nat) (hp : p < l0.length) (hp6 : p < 6) (c0 : List S40) (hc0 : c0.length = p) (hf : ∀ f ∈ c0, f.f3.length ≤ 60) (c1 : List Int) (c2 : List ByteArray) (b3 x0 x1 x2 : Int)
    (next : ∀ c : List S40, c.length = p + 1 → (∀ f ∈ c, f.f3.length ≤ 60) → ∃ r, Ev (fun k => selvageref13_Cut.l2 k ((p + 1 : Nat) : Int) l0 l1 l2 a3 c c1 c2 b3) r ∧ Few r) :
    ∀ d q, q + d = 60 → ∀ y : List S42, y.length = q → ∃ r, Ev (fun k => selvageref13_Cut.l3 k (p : Int) (q : Int) l0 l1 l2 a3 c0 c1 c2 b3 x0 x1 x2 y) r ∧ Few r := by
  have e := wn ((p : Int) + 1) (p + 1) (by omega) (by omega)
  have stop : ∀ (y : List S42), y.length ≤ 60 → ∃ r, Ev (fun k => selvageref13_Cut.l2 k (wrap64 ((p : Int) + 1)) l0 l1 l2 a3 (c0 ++ [(⟨x0, x1, x2, y⟩ : S40)]) c1 c2 b3) r ∧ Few r := by
    intro y hy
    rw [e]
    refine next _ (by simp [hc0]) ?_
    intro f hfm
    rcases List.mem_append.1 hfm with h | h
    · exact hf f h
    · simp at h; subst h; exact hy
  intro d
  induction d with
  | zero =>
    intro q hq y hy
    obtain ⟨r, hr, hw⟩ := stop y (by omega)
    refine ⟨r, ?_, hw⟩
    by_cases h9 : (q : Int) < (((rd_T40 l0 (p : Int)).f3).length : Int)
    · exact Ev.step (fun k => by rw [selvageref13_Cut.l3, if_pos (by omega), if_pos (by omega), if_pos h9, if_neg (by omega), if_pos (by omega)]) hr
    · exact Ev.step (fun k => by rw [selvageref13_Cut.l3, if_pos (by omega), if_pos (by omega), if_neg h9, if_pos (by omega)]) hr
  | succ d ih =>
    intro q hq y hy
    by_cases h9 : (q : Int) < (((rd_T40 l0 (p : Int)).f3).length : Int)
    · obtain ⟨r, hr, hw⟩ := ih (q + 1) (by omega) (y ++ [(⟨(rd_T42 ((rd_T40 l0 (p : Int)).f3) (q : Int)).f0, (rd_T42 ((rd_T40 l0 (p : Int)).f3) (q : Int)).f1, (rd_T42 ((rd_T40 l0 (p : Int)).f3) (q : Int)).f2⟩ : S42)]) (by simp [hy])
      have eq := wn ((q : Int) + 1) (q + 1) (by omega) (by omega)
      refine ⟨r, ?_, hw⟩
      exact Ev.step (fun k => by rw [selvageref13_Cut.l3, if_pos (by omega), if_pos (by omega), if_pos h9, if_pos (by omega), if_pos (by omega), if_pos (by omega), eq]) hr
    · obtain ⟨r, hr, hw⟩ := stop y (by omega)
      refine ⟨r, ?_, hw⟩
      exact Ev.step (fun k => by rw [selvageref13_Cut.l3, if_pos (by omega), if_pos (by omega), if_neg h9, if_pos (by omega)]) hr
theorem cut_l2 (c1 : List Int) (hc1 : c1.length ≤ 6) (c2 : List ByteArray) (hc2 : c2.length ≤ 6) (hs : ∀ s ∈ c2, s.size ≤ 70) (b3 : Int) :
    ∀ d p, p + d = 6 → ∀ c0 : List S40, c0.length = p → (∀ f ∈ c0, f.f3.length ≤ 60) → ∃ r, Ev (fun k => selvageref13_Cut.l2 k (p : Int) l0 l1 l2 a3 c0 c1 c2 b3) r ∧ Few r := by
  have stop : ∀ (p : Nat) (c0 : List S40), c0.length ≤ 6 → (∀ f ∈ c0, f.f3.length ≤ 60) → ∃ r, Ev (fun k => selvageref13_Cut.j5 k (p : Int) false l0 l1 l2 a3 c0 c1 c2 b3) r ∧ Few r := fun p c0 h hf =>
    ⟨(c0, c1, c2, b3), Ev.step (fun k => by rw [selvageref13_Cut.j5, if_neg (by decide)]) (Ev.now _), h, hf, hc1, hc2, hs⟩
  intro d
  induction d with
  | zero =>
    intro p hp c0 h0 hf
    obtain ⟨r, hr, hw⟩ := stop p c0 (by omega) hf
    refine ⟨r, ?_, hw⟩
    by_cases h : (p : Int) < (l0.length : Int)
    · exact Ev.step (fun k => by rw [selvageref13_Cut.l2, if_pos h, decide_eq_false (by omega)]) hr
    · exact Ev.step (fun k => by rw [selvageref13_Cut.l2, if_neg h]) hr
  | succ d ih =>
    intro p hp c0 h0 hf
    by_cases h : (p : Int) < (l0.length : Int)
    · obtain ⟨r, hr, hw⟩ := cut_l3 l0 l1 l2 a3 p (by omega) (by omega) c0 h0 hf c1 c2 b3 ((rd_T40 l0 (p : Int)).f0) ((rd_T40 l0 (p : Int)).f1) ((rd_T40 l0 (p : Int)).f2) (fun c hc hcf => ih (p + 1) (by omega) c hc hcf) 60 0 rfl ([] : List S42) rfl
      refine ⟨r, ?_, hw⟩
      refine Ev.step (f := fun k => selvageref13_Cut.j5 k (p : Int) true l0 l1 l2 a3 c0 c1 c2 b3) (fun k => by rw [selvageref13_Cut.l2, if_pos h, decide_eq_true (by omega)]) ?_
      exact Ev.step (fun k => by rw [selvageref13_Cut.j5, if_pos rfl, if_pos (by omega), if_pos h]; rfl) hr
    · obtain ⟨r, hr, hw⟩ := stop p c0 (by omega) hf
      refine ⟨r, ?_, hw⟩
      exact Ev.step (fun k => by rw [selvageref13_Cut.l2, if_neg h]) hr
theorem cut_l1 (c1 : List Int) (hc1 : c1.length ≤ 6) (b3 : Int) :
    ∀ d p, p + d = 6 → ∀ c2 : List ByteArray, c2.length = p → (∀ s ∈ c2, s.size ≤ 70) → ∃ r, Ev (fun k => selvageref13_Cut.l1 k (p : Int) l0 l1 l2 a3 c1 c2 b3) r ∧ Few r := by
  have stop : ∀ (p : Nat) (c2 : List ByteArray), c2.length ≤ 6 → (∀ s ∈ c2, s.size ≤ 70) → ∃ r, Ev (fun k => selvageref13_Cut.j3 k (p : Int) false l0 l1 l2 a3 c1 c2 b3) r ∧ Few r := fun p c2 h hs => by
    obtain ⟨r, hr, hw⟩ := cut_l2 l0 l1 l2 a3 c1 hc1 c2 h hs b3 6 0 rfl ([] : List S40) rfl (by simp)
    exact ⟨r, Ev.step (fun k => by rw [selvageref13_Cut.j3, if_neg (by decide)]; rfl) hr, hw⟩
  intro d
  induction d with
  | zero =>
    intro p hp c2 h0 hs
    obtain ⟨r, hr, hw⟩ := stop p c2 (by omega) hs
    refine ⟨r, ?_, hw⟩
    by_cases h : (p : Int) < (l2.length : Int)
    · exact Ev.step (fun k => by rw [selvageref13_Cut.l1, if_pos h, decide_eq_false (by omega)]) hr
    · exact Ev.step (fun k => by rw [selvageref13_Cut.l1, if_neg h]) hr
  | succ d ih =>
    intro p hp c2 h0 hs
    by_cases h : (p : Int) < (l2.length : Int)
    · have e := wn ((p : Int) + 1) (p + 1) (by omega) (by omega)
      have go : ∀ s : ByteArray, s.size ≤ 70 → ∃ r, Ev (fun k => selvageref13_Cut.l1 k (wrap64 ((p : Int) + 1)) l0 l1 l2 a3 c1 (c2 ++ [s]) b3) r ∧ Few r := by
        intro s hsz
        rw [e]
        refine ih (p + 1) (by omega) _ (by simp [h0]) ?_
        intro s' hm
        rcases List.mem_append.1 hm with hm | hm
        · exact hs s' hm
        · simp at hm; subst hm; exact hsz
      by_cases hz : ((rdOf ByteArray.empty l2 (p : Int)).size : Int) > 70
      · obtain ⟨r, hr, hw⟩ := go ((rdOf ByteArray.empty l2 (p : Int)).extract 0 70) (by rw [ByteArray.size_extract]; omega)
        refine ⟨r, ?_, hw⟩
        refine Ev.step (f := fun k => selvageref13_Cut.j3 k (p : Int) true l0 l1 l2 a3 c1 c2 b3) (fun k => by rw [selvageref13_Cut.l1, if_pos h, decide_eq_true (by omega)]) ?_
        exact Ev.step (fun k => by rw [selvageref13_Cut.j3, if_pos rfl, if_pos (by omega), if_pos h, if_pos hz, if_pos (by omega), if_pos (by omega), if_pos (by omega)]) hr
      · obtain ⟨r, hr, hw⟩ := go (rdOf ByteArray.empty l2 (p : Int)) (by omega)
        refine ⟨r, ?_, hw⟩
        refine Ev.step (f := fun k => selvageref13_Cut.j3 k (p : Int) true l0 l1 l2 a3 c1 c2 b3) (fun k => by rw [selvageref13_Cut.l1, if_pos h, decide_eq_true (by omega)]) ?_
        exact Ev.step (fun k => by rw [selvageref13_Cut.j3, if_pos rfl, if_pos (by omega), if_pos h, if_neg hz, if_pos (by omega)]) hr
    · obtain ⟨r, hr, hw⟩ := stop p c2 (by omega) hs
      refine ⟨r, ?_, hw⟩
      exact Ev.step (fun k => by rw [selvageref13_Cut.l1, if_neg h]) hr
theorem cut_l0 (b3 : Int) :
    ∀ d p, p + d = 6 → ∀ c1 : List Int, c1.length = p → ∃ r, Ev (fun k => selvageref13_Cut.l0 k (p : Int) l0 l1 l2 a3 c1 b3) r ∧ Few r := by
  have stop : ∀ (c1 : List Int), c1.length ≤ 6 → ∃ r, Ev (fun k => selvageref13_Cut.j1 k l0 l1 l2 a3 c1 b3) r ∧ Few r := fun c1 h => by
    obtain ⟨r, hr, hw⟩ := cut_l1 l0 l1 l2 a3 c1 h b3 6 0 rfl ([] : List ByteArray) rfl (by simp)
    exact ⟨r, Ev.step (fun k => by rw [selvageref13_Cut.j1]; rfl) hr, hw⟩
  intro d
  induction d with
  | zero =>
    intro p hp c1 h0
    obtain ⟨r, hr, hw⟩ := stop c1 (by omega)
    refine ⟨r, ?_, hw⟩
    by_cases h : (p : Int) < (l1.length : Int)
    · exact Ev.step (fun k => by rw [selvageref13_Cut.l0, if_pos h, if_neg (by omega)]) hr
    · exact Ev.step (fun k => by rw [selvageref13_Cut.l0, if_neg h]) hr
  | succ d ih =>
    intro p hp c1 h0
    by_cases h : (p : Int) < (l1.length : Int)
    · have e := wn ((p : Int) + 1) (p + 1) (by omega) (by omega)
      obtain ⟨r, hr, hw⟩ := ih (p + 1) (by omega) (c1 ++ [rd l1 (p : Int)]) (by simp [h0])
      refine ⟨r, ?_, hw⟩
      exact Ev.step (fun k => by rw [selvageref13_Cut.l0, if_pos h, if_pos (by omega), if_pos (by omega), if_pos (by omega), e]) hr
    · obtain ⟨r, hr, hw⟩ := stop c1 (by omega)
      refine ⟨r, ?_, hw⟩
      exact Ev.step (fun k => by rw [selvageref13_Cut.l0, if_neg h]) hr
theorem cut_ev : ∃ r, Ev (fun k => selvageref13_Cut.f k l0 l1 l2 a3) r ∧ Few r := cut_l0 l0 l1 l2 a3 a3 6 0 rfl ([] : List Int) rfl
end

/-! ### the document's May -/
section
variable (l0 : List S40) (l1 : List Int) (l2 : List ByteArray) (a3 : Int)
theorem rmay_l3 (p : Nat) (hp : p < l0.length) (x0 x1 x2 : Int) (c : List S42) (hc : c.length ≤ 1000000) (hl : l0.length ≤ 1000000) (rest : Bool) (next : Ev (fun k => selvageref13_May.l2 k ((p + 1 : Nat) : Int) l0 l1 l2 a3) rest) :
    ∀ d q, q + d = c.length → Ev (fun k => selvageref13_May.l3 k (p : Int) (q : Int) l0 l1 l2 a3 x0 x1 x2 c) ((c.drop q).all instrOk && rest) := by
  have e := wn ((p : Int) + 1) (p + 1) (by omega) (by omega)
  intro d
  induction d with
  | zero =>
    intro q hq
    rw [all_end _ _ _ (by omega), Bool.true_and]
    exact Ev.step (fun k => by rw [selvageref13_May.l3, if_neg (by omega), e]) next
  | succ d ih =>
    intro q hq
    have hlt : q < c.length := by omega
    have eq := wn ((q : Int) + 1) (q + 1) (by omega) (by omega)
    rw [all_at _ _ _ hlt]
    refine Ev.step (f := fun k => (selvageref13_Instr.f k (c[q]).f0 (c[q]).f1 (c[q]).f2).bind fun t => if t = true then selvageref13_May.l3 k (p : Int) (wrap64 ((q : Int) + 1)) l0 l1 l2 a3 x0 x1 x2 c else some false) (fun k => by rw [selvageref13_May.l3, if_pos (by omega), if_pos (by omega), rd42_get c q hlt]) ?_
    refine Ev.bind (instr_ev c[q]) ?_
    by_cases hb : instrOk c[q] = true
    · rw [hb, Bool.true_and]
      refine Ev.congr (fun k => if_pos rfl) ?_
      rw [eq]; exact ih (q + 1) (by omega)
    · have hb' : instrOk c[q] = false := by simpa using hb
      rw [hb', Bool.false_and, Bool.false_and]
      exact Ev.congr (fun k => if_neg (by decide)) (Ev.now _)
theorem rmay_l2 (hl : l0.length ≤ 1000000) (hi : ∀ f ∈ l0, f.f3.length ≤ 1000000) : ∀ d p, p + d = l0.length → Ev (fun k => selvageref13_May.l2 k (p : Int) l0 l1 l2 a3) ((l0.drop p).all bodyOk) := by
  intro d
  induction d with
  | zero =>
    intro p hp
    rw [all_end _ _ _ (by omega)]
    exact Ev.step (fun k => by rw [selvageref13_May.l2, if_neg (by omega)]) (Ev.now _)
  | succ d ih =>
    intro p hp
    have hlt : p < l0.length := by omega
    rw [all_at _ _ _ hlt]
    have hg : rd_T40 l0 (p : Int) = l0[p] := rd40_get l0 p hlt
    have hfl := hi _ (List.getElem_mem hlt)
    generalize hf : l0[p] = f at *
    have t3 := rmay_l3 l0 l1 l2 a3 p hlt f.f0 f.f1 f.f2 f.f3 hfl hl _ (ih (p + 1) (by omega)) f.f3.length 0 (by omega)
    have yes : ∀ b, Ev (fun k => selvageref13_May.j4 k (p : Int) true l0 l1 l2 a3 f.f0 f.f1 f.f2 f.f3) (false && b) := fun b => by rw [Bool.false_and]; exact Ev.step (fun k => by rw [selvageref13_May.j4, if_pos rfl]) (Ev.now _)
    have no : Ev (fun k => selvageref13_May.j4 k (p : Int) false l0 l1 l2 a3 f.f0 f.f1 f.f2 f.f3) (f.f3.all instrOk && (l0.drop (p + 1)).all bodyOk) := Ev.step (fun k => by rw [selvageref13_May.j4, if_neg (by decide)]; rfl) t3
    have bad : ¬ (0 ≤ f.f0 ∧ f.f0 ≤ 59 ∧ 0 ≤ f.f1 ∧ f.f1 ≤ 60 ∧ 1 ≤ f.f2 ∧ f.f2 ≤ 60 ∧ 1 ≤ f.f3.length ∧ f.f3.length ≤ 400) → bodyOk f = false := fun h => by unfold bodyOk; rw [decide_eq_false h, Bool.false_and]
    by_cases c1 : f.f0 < 0
    · rw [bad (by omega)]; exact Ev.step (fun k => by rw [selvageref13_May.l2, if_pos (by omega), if_pos (by omega), hg, if_pos c1]) (yes _)
    by_cases c2 : f.f0 > 59
    · rw [bad (by omega)]; exact Ev.step (fun k => by rw [selvageref13_May.l2, if_pos (by omega), if_pos (by omega), hg, if_neg c1, if_pos c2]) (yes _)
    by_cases c3 : f.f1 < 0
    · rw [bad (by omega)]; exact Ev.step (fun k => by rw [selvageref13_May.l2, if_pos (by omega), if_pos (by omega), hg, if_neg c1, if_neg c2, if_pos c3]) (yes _)
    by_cases c4 : f.f1 > 60
    · rw [bad (by omega)]; exact Ev.step (fun k => by rw [selvageref13_May.l2, if_pos (by omega), if_pos (by omega), hg, if_neg c1, if_neg c2, if_neg c3, if_pos c4]) (yes _)
    by_cases c5 : f.f2 < 1
    · rw [bad (by omega)]; exact Ev.step (fun k => by rw [selvageref13_May.l2, if_pos (by omega), if_pos (by omega), hg, if_neg c1, if_neg c2, if_neg c3, if_neg c4, if_pos c5]) (yes _)
    by_cases c6 : f.f2 > 60
    · rw [bad (by omega)]; exact Ev.step (fun k => by rw [selvageref13_May.l2, if_pos (by omega), if_pos (by omega), hg, if_neg c1, if_neg c2, if_neg c3, if_neg c4, if_neg c5, if_pos c6]) (yes _)
    by_cases c7 : (f.f3.length : Int) < 1
    · rw [bad (by omega)]; exact Ev.step (fun k => by rw [selvageref13_May.l2, if_pos (by omega), if_pos (by omega), hg, if_neg c1, if_neg c2, if_neg c3, if_neg c4, if_neg c5, if_neg c6, if_pos c7]) (yes _)
    by_cases c8 : (f.f3.length : Int) > 400
    · rw [bad (by omega)]; exact Ev.step (fun k => by rw [selvageref13_May.l2, if_pos (by omega), if_pos (by omega), hg, if_neg c1, if_neg c2, if_neg c3, if_neg c4, if_neg c5, if_neg c6, if_neg c7, decide_eq_true c8]) (yes _)
    have ok : bodyOk f = f.f3.all instrOk := by unfold bodyOk; rw [decide_eq_true (by omega), Bool.true_and]
    rw [ok]
    exact Ev.step (fun k => by rw [selvageref13_May.l2, if_pos (by omega), if_pos (by omega), hg, if_neg c1, if_neg c2, if_neg c3, if_neg c4, if_neg c5, if_neg c6, if_neg c7, decide_eq_false c8]) no
theorem rmay_l1 (h2 : l2.length ≤ 1000000) (rest : Bool) (next : Ev (fun k => selvageref13_May.l2 k 0 l0 l1 l2 a3) rest) : ∀ d p, p + d = l2.length → Ev (fun k => selvageref13_May.l1 k (p : Int) l0 l1 l2 a3) ((l2.drop p).all textOk && rest) := by
  intro d
  induction d with
  | zero =>
    intro p hp
    rw [all_end _ _ _ (by omega), Bool.true_and]
    exact Ev.step (fun k => by rw [selvageref13_May.l1, if_neg (by omega)]) next
  | succ d ih =>
    intro p hp
    have hlt : p < l2.length := by omega
    have e := wn ((p : Int) + 1) (p + 1) (by omega) (by omega)
    rw [all_at _ _ _ hlt]
    by_cases hb : ((l2[p].size : Nat) : Int) > 60
    · have : textOk l2[p] = false := by unfold textOk; rw [decide_eq_false (by omega)]
      rw [this, Bool.false_and, Bool.false_and]
      exact Ev.step (fun k => by rw [selvageref13_May.l1, if_pos (by omega), if_pos (by omega), rdOf_get _ l2 p hlt, if_pos hb]) (Ev.now _)
    · have : textOk l2[p] = true := by unfold textOk; rw [decide_eq_true (by omega)]
      rw [this, Bool.true_and]
      exact Ev.step (fun k => by rw [selvageref13_May.l1, if_pos (by omega), if_pos (by omega), rdOf_get _ l2 p hlt, if_neg hb, e]) (ih (p + 1) (by omega))
theorem rmay_l0 (h1 : l1.length ≤ 1000000) (rest : Bool) (next : Ev (fun k => selvageref13_May.l1 k 0 l0 l1 l2 a3) rest) : ∀ d p, p + d = l1.length → Ev (fun k => selvageref13_May.l0 k (p : Int) l0 l1 l2 a3) ((l1.drop p).all intOk && rest) := by
  intro d
  induction d with
  | zero =>
    intro p hp
    rw [all_end _ _ _ (by omega), Bool.true_and]
    exact Ev.step (fun k => by rw [selvageref13_May.l0, if_neg (by omega)]) next
  | succ d ih =>
    intro p hp
    have hlt : p < l1.length := by omega
    have e := wn ((p : Int) + 1) (p + 1) (by omega) (by omega)
    rw [all_at _ _ _ hlt]
    by_cases hb : l1[p] < -4611686018427387904
    · have : intOk l1[p] = false := by unfold intOk; rw [decide_eq_false (by omega)]
      rw [this, Bool.false_and, Bool.false_and]
      exact Ev.step (fun k => by rw [selvageref13_May.l0, if_pos (by omega), if_pos (by omega), rd_get l1 p hlt, if_pos hb]) (Ev.now _)
    · by_cases hb2 : l1[p] > 4611686018427387903
      · have : intOk l1[p] = false := by unfold intOk; rw [decide_eq_false (by omega)]
        rw [this, Bool.false_and, Bool.false_and]
        exact Ev.step (fun k => by rw [selvageref13_May.l0, if_pos (by omega), if_pos (by omega), rd_get l1 p hlt, if_neg hb, if_pos hb2]) (Ev.now _)
      · have : intOk l1[p] = true := by unfold intOk; rw [decide_eq_true (by omega)]
        rw [this, Bool.true_and]
        exact Ev.step (fun k => by rw [selvageref13_May.l0, if_pos (by omega), if_pos (by omega), rd_get l1 p hlt, if_neg hb, if_neg hb2, e]) (ih (p + 1) (by omega))
theorem rmay_ev (h0 : l0.length ≤ 1000000) (hi : ∀ f ∈ l0, f.f3.length ≤ 1000000) : Ev (fun k => selvageref13_May.f k l0 l1 l2 a3) (mayP l0 l1 l2 a3) := by
  have yes : ¬ (1 ≤ l0.length ∧ l0.length ≤ 120 ∧ l1.length ≤ 120 ∧ l2.length ≤ 120 ∧ 0 ≤ a3 ∧ a3 ≤ 60) → Ev (fun k => selvageref13_May.j0 k true l0 l1 l2 a3) (mayP l0 l1 l2 a3) := fun h => by
    unfold mayP; rw [decide_eq_false h, Bool.false_and]
    exact Ev.step (fun k => by rw [selvageref13_May.j0, if_pos rfl]) (Ev.now _)
  unfold selvageref13_May.f
  by_cases c1 : (l0.length : Int) < 1
  · exact Ev.congr (fun k => by rw [if_pos c1]) (yes (by omega))
  by_cases c2 : (l0.length : Int) > 120
  · exact Ev.congr (fun k => by rw [if_neg c1, if_pos c2]) (yes (by omega))
  by_cases c3 : (l1.length : Int) > 120
  · exact Ev.congr (fun k => by rw [if_neg c1, if_neg c2, if_pos c3]) (yes (by omega))
  by_cases c4 : (l2.length : Int) > 120
  · exact Ev.congr (fun k => by rw [if_neg c1, if_neg c2, if_neg c3, if_pos c4]) (yes (by omega))
  by_cases c5 : a3 < 0
  · exact Ev.congr (fun k => by rw [if_neg c1, if_neg c2, if_neg c3, if_neg c4, if_pos c5]) (yes (by omega))
  by_cases c6 : a3 > 60
  · exact Ev.congr (fun k => by rw [if_neg c1, if_neg c2, if_neg c3, if_neg c4, if_neg c5, decide_eq_true c6]) (yes (by omega))
  have m : mayP l0 l1 l2 a3 = (l1.all intOk && (l2.all textOk && l0.all bodyOk)) := by
    unfold mayP; rw [decide_eq_true (by omega), Bool.true_and]
    cases l0.all bodyOk <;> cases l1.all intOk <;> cases l2.all textOk <;> rfl
  rw [m]
  refine Ev.congr (f := fun k => selvageref13_May.j0 k false l0 l1 l2 a3) (fun k => by rw [if_neg c1, if_neg c2, if_neg c3, if_neg c4, if_neg c5, decide_eq_false c6]) ?_
  refine Ev.step (f := fun k => selvageref13_May.l0 k 0 l0 l1 l2 a3) (fun k => by rw [selvageref13_May.j0, if_neg (by decide)]) ?_
  exact rmay_l0 l0 l1 l2 a3 (by omega) _ (rmay_l1 l0 l1 l2 a3 (by omega) _ (rmay_l2 l0 l1 l2 a3 h0 hi l0.length 0 (by omega)) l2.length 0 (by omega)) l1.length 0 (by omega)
end
end Go.Proofs.Ytadbiogchgglpaa.Q
