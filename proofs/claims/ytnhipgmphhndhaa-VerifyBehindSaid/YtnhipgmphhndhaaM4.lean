import Derived.Test.YtnhipgmphhndhaaM2
import Derived.Test.YtnhipgmphhndhaaQx3
namespace Go.Proofs.Ytnhipgmphhndhaa.Q
open Go.RowKit Go.Proofs.YtnhipgmphhndhaaW.PrintWords Go.Proofs.YtnhipgmphhndhaaW.PrintLast Go.Proofs.YtnhipgmphhndhaaW.PrintMore
set_option linter.unusedVariables false
set_option linter.unusedSimpArgs false
set_option linter.unusedSectionVars false

def Few (r : List S32 × List Int × List ByteArray × Int) : Prop := r.1.length ≤ 6 ∧ (∀ f ∈ r.1, f.f3.length ≤ 60) ∧ r.2.1.length ≤ 6 ∧ r.2.2.1.length ≤ 6 ∧ (∀ s ∈ r.2.2.1, s.size ≤ 70)
section
variable (l0 : List S32) (l1 : List Int) (l2 : List ByteArray) (a3 : Int)
theorem cut_l3 (p : Nat) (hp : p < l0.length) (hp6 : p < 6) (c0 : List S32) (hc0 : c0.length = p) (hf : ∀ f ∈ c0, f.f3.length ≤ 60) (c1 : List Int) (c2 : List ByteArray) (b3 x0 x1 x2 : Int)
    (next : ∀ c : List S32, c.length = p + 1 → (∀ f ∈ c, f.f3.length ≤ 60) → ∃ r, Ev (fun k => selvageref13_Cut.l2 k ((p + 1 : Nat) : Int) l0 l1 l2 a3 c c1 c2 b3) r ∧ Few r) :
    ∀ d q, q + d = 60 → ∀ y : List S37, y.length = q → ∃ r, Ev (fun k => selvageref13_Cut.l3 k (p : Int) (q : Int) l0 l1 l2 a3 c0 c1 c2 b3 x0 x1 x2 y) r ∧ Few r := by
  have e := wn ((p : Int) + 1) (p + 1) (by omega) (by omega)
  have stop : ∀ (y : List S37), y.length ≤ 60 → ∃ r, Ev (fun k => selvageref13_Cut.l2 k (wrap64 ((p : Int) + 1)) l0 l1 l2 a3 (c0 ++ [(⟨x0, x1, x2, y⟩ : S32)]) c1 c2 b3) r ∧ Few r := by
    intro y hy
    rw [e]
    refine next _ (by simp [hc0]) ?_
    intro f hfm
    rcases List.mem_append.1 hfm with h | h
    · exact hf f h
    · simp at h; subst h; exact hy
  intro d
  induction d with
  | zero =>
    intro q hq y hy
    obtain ⟨r, hr, hw⟩ := stop y (by omega)
    refine ⟨r, ?_, hw⟩
    by_cases h9 : (q : Int) < (((rd_T32 l0 (p : Int)).f3).length : Int)
    · exact Ev.step (fun k => by rw [selvageref13_Cut.l3, if_pos (by omega), if_pos (by omega), if_pos h9, if_neg (by omega), if_pos (by omega)]) hr
    · exact Ev.step (fun k => by rw [selvageref13_Cut.l3, if_pos (by omega), if_pos (by omega), if_neg h9, if_pos (by omega)]) hr
  | succ d ih =>
    intro q hq y hy
    by_cases h9 : (q : Int) < (((rd_T32 l0 (p : Int)).f3).length : Int)
    · obtain ⟨r, hr, hw⟩ := ih (q + 1) (by omega) (y ++ [(⟨(rd_T37 ((rd_T32 l0 (p : Int)).f3) (q : Int)).f0, (rd_T37 ((rd_T32 l0 (p : Int)).f3) (q : Int)).f1, (rd_T37 ((rd_T32 l0 (p : Int)).f3) (q : Int)).f2⟩ : S37)]) (by simp [hy])
      have eq := wn ((q : Int) + 1) (q + 1) (by omega) (by omega)
      refine ⟨r, ?_, hw⟩
      exact Ev.step (fun k => by rw [selvageref13_Cut.l3, if_pos (by omega), if_pos (by omega), if_pos h9, if_pos (by omega), if_pos (by omega), if_pos (by omega), eq]) hr
    · obtain ⟨r, hr, hw⟩ := stop y (by omega)
      refine ⟨r, ?_, hw⟩
      exact Ev.step (fun k => by rw [selvageref13_Cut.l3, if_pos (by omega), if_pos (by omega), if_neg h9, if_pos (by omega)]) hr
theorem cut_l2 (c1 : List Int) (hc1 : c1.length ≤ 6) (c2 : List ByteArray) (hc2 : c2.length ≤ 6) (hs : ∀ s ∈ c2, s.size ≤ 70) (b3 : Int) :
    ∀ d p, p + d = 6 → ∀ c0 : List S32, c0.length = p → (∀ f ∈ c0, f.f3.length ≤ 60) → ∃ r, Ev (fun k => selvageref13_Cut.l2 k (p : Int) l0 l1 l2 a3 c0 c1 c2 b3) r ∧ Few r := by
  have stop : ∀ (p : Nat) (c0 : List S32), c0.length ≤ 6 → (∀ f ∈ c0, f.f3.length ≤ 60) → ∃ r, Ev (fun k => selvageref13_Cut.j5 k (p : Int) false l0 l1 l2 a3 c0 c1 c2 b3) r ∧ Few r := fun p c0 h hf =>
    ⟨(c0, c1, c2, b3), Ev.step (fun k => by rw [selvageref13_Cut.j5, if_neg (by decide)]) (Ev.now _), h, hf, hc1, hc2, hs⟩
  intro d
  induction d with
  | zero =>
    intro p hp c0 h0 hf
    obtain ⟨r, hr, hw⟩ := stop p c0 (by omega) hf
    refine ⟨r, ?_, hw⟩
    by_cases h : (p : Int) < (l0.length : Int)
    · exact Ev.step (fun k => by rw [selvageref13_Cut.l2, if_pos h, decide_eq_false (by omega)]) hr
    · exact Ev.step (fun k => by rw [selvageref13_Cut.l2, if_neg h]) hr
  | succ d ih =>
    intro p hp c0 h0 hf
    by_cases h : (p : Int) < (l0.length : Int)
    · obtain ⟨r, hr, hw⟩ := cut_l3 l0 l1 l2 a3 p (by omega) (by omega) c0 h0 hf c1 c2 b3 ((rd_T32 l0 (p : Int)).f0) ((rd_T32 l0 (p : Int)).f1) ((rd_T32 l0 (p : Int)).f2) (fun c hc hcf => ih (p + 1) (by omega) c hc hcf) 60 0 rfl ([] : List S37) rfl
      refine ⟨r, ?_, hw⟩
      refine Ev.step (f := fun k => selvageref13_Cut.j5 k (p : Int) true l0 l1 l2 a3 c0 c1 c2 b3) (fun k => by rw [selvageref13_Cut.l2, if_pos h, decide_eq_true (by omega)]) ?_
      exact Ev.step (fun k => by rw [selvageref13_Cut.j5, if_pos rfl, if_pos (by omega), if_pos h]; rfl) hr
    · obtain ⟨r, hr, hw⟩ := stop p c0 (by omega) hf
      refine ⟨r, ?_, hw⟩
      exact Ev.step (fun k => by rw [selvageref13_Cut.l2, if_neg h]) hr
theorem cut_l1 (c1 : List Int) (hc1 : c1.length ≤ 6) (b3 : Int) :
    ∀ d p, p + d = 6 → ∀ c2 : List ByteArray, c2.length = p → (∀ s ∈ c2, s.size ≤ 70) → ∃ r, Ev (fun k => selvageref13_Cut.l1 k (p : Int) l0 l1 l2 a3 c1 c2 b3) r ∧ Few r := by
  have stop : ∀ (p : Nat) (c2 : List ByteArray), c2.length ≤ 6 → (∀ s ∈ c2, s.size ≤ 70) → ∃ r, Ev (fun k => selvageref13_Cut.j3 k (p : Int) false l0 l1 l2 a3 c1 c2 b3) r ∧ Few r := fun p c2 h hs => by
    obtain ⟨r, hr, hw⟩ := cut_l2 l0 l1 l2 a3 c1 hc1 c2 h hs b3 6 0 rfl ([] : List S32) rfl (by simp)
    exact ⟨r, Ev.step (fun k => by rw [selvageref13_Cut.j3, if_neg (by decide)]; rfl) hr, hw⟩
  intro d
  induction d with
  | zero =>
    intro p hp c2 h0 hs
    obtain ⟨r, hr, hw⟩ := stop p c2 (by omega) hs
    refine ⟨r, ?_, hw⟩
    by_cases h : (p : Int) < (l2.length : Int)
    · exact Ev.step (fun k => by rw [selvageref13_Cut.l1, if_pos h, decide_eq_false (by omega)]) hr
    · exact Ev.step (fun k => by rw [selvageref13_Cut.l1, if_neg h]) hr
  | succ d ih =>
    intro p hp c2 h0 hs
    by_cases h : (p : Int) < (l2.length : Int)
    · have e := wn ((p : Int) + 1) (p + 1) (by omega) (by omega)
      have go : ∀ s : ByteArray, s.size ≤ 70 → ∃ r, Ev (fun k => selvageref13_Cut.l1 k (wrap64 ((p : Int) + 1)) l0 l1 l2 a3 c1 (c2 ++ [s]) b3) r ∧ Few r := by
        intro s hsz
        rw [e]
        refine ih (p + 1) (by omega) _ (by simp [h0]) ?_
        intro s' hm
        rcases List.mem_append.1 hm with hm | hm
        · exact hs s' hm
        · simp at hm; subst hm; exact hsz
      by_cases hz : ((rdOf ByteArray.empty l2 (p : Int)).size : Int) > 70
      · obtain ⟨r, hr, hw⟩ := go ((rdOf ByteArray.empty l2 (p : Int)).extract 0 70) (by rw [ByteArray.size_extract]; omega)
        refine ⟨r, ?_, hw⟩
        refine Ev.step (f := fun k => selvageref13_Cut.j3 k (p : Int) true l0 l1 l2 a3 c1 c2 b3) (fun k => by rw [selvageref13_Cut.l1, if_pos h, decide_eq_true (by omega)]) ?_
        exact Ev.step (fun k => by rw [selvageref13_Cut.j3, if_pos rfl, if_pos (by omega), if_pos h, if_pos hz, if_pos (by omega), if_pos (by omega), if_pos (by omega)]) hr
      · obtain ⟨r, hr, hw⟩ := go (rdOf ByteArray.empty l2 (p : Int)) (by omega)
        refine ⟨r, ?_, hw⟩
        refine Ev.step (f := fun k => selvageref13_Cut.j3 k (p : Int) true l0 l1 l2 a3 c1 c2 b3) (fun k => by rw [selvageref13_Cut.l1, if_pos h, decide_eq_true (by omega)]) ?_
        exact Ev.step (fun k => by rw [selvageref13_Cut.j3, if_pos rfl, if_pos (by omega), if_pos h, if_neg hz, if_pos (by omega)]) hr
    · obtain ⟨r, hr, hw⟩ := stop p c2 (by omega) hs
      refine ⟨r, ?_, hw⟩
      exact Ev.step (fun k => by rw [selvageref13_Cut.l1, if_neg h]) hr
theorem cut_l0 (b3 : Int) :
    ∀ d p, p + d = 6 → ∀ c1 : List Int, c1.length = p → ∃ r, Ev (fun k => selvageref13_Cut.l0 k (p : Int) l0 l1 l2 a3 c1 b3) r ∧ Few r := by
  have stop : ∀ (c1 : List Int), c1.length ≤ 6 → ∃ r, Ev (fun k => selvageref13_Cut.j1 k l0 l1 l2 a3 c1 b3) r ∧ Few r := fun c1 h => by
    obtain ⟨r, hr, hw⟩ := cut_l1 l0 l1 l2 a3 c1 h b3 6 0 rfl ([] : List ByteArray) rfl (by simp)
    exact ⟨r, Ev.step (fun k => by rw [selvageref13_Cut.j1]; rfl) hr, hw⟩
  intro d
  induction d with
  | zero =>
    intro p hp c1 h0
    obtain ⟨r, hr, hw⟩ := stop c1 (by omega)
    refine ⟨r, ?_, hw⟩
    by_cases h : (p : Int) < (l1.length : Int)
    · exact Ev.step (fun k => by rw [selvageref13_Cut.l0, if_pos h, if_neg (by omega)]) hr
    · exact Ev.step (fun k => by rw [selvageref13_Cut.l0, if_neg h]) hr
  | succ d ih =>
    intro p hp c1 h0
    by_cases h : (p : Int) < (l1.length : Int)
    · have e := wn ((p : Int) + 1) (p + 1) (by omega) (by omega)
      obtain ⟨r, hr, hw⟩ := ih (p + 1) (by omega) (c1 ++ [rd l1 (p : Int)]) (by simp [h0])
      refine ⟨r, ?_, hw⟩
      exact Ev.step (fun k => by rw [selvageref13_Cut.l0, if_pos h, if_pos (by omega), if_pos (by omega), if_pos (by omega), e]) hr
    · obtain ⟨r, hr, hw⟩ := stop c1 (by omega)
      refine ⟨r, ?_, hw⟩
      exact Ev.step (fun k => by rw [selvageref13_Cut.l0, if_neg h]) hr
theorem cut_ev : ∃ r, Ev (fun k => selvageref13_Cut.f k l0 l1 l2 a3) r ∧ Few r := cut_l0 l0 l1 l2 a3 a3 6 0 rfl ([] : List Int) rfl
end

end Go.Proofs.Ytnhipgmphhndhaa.Q
