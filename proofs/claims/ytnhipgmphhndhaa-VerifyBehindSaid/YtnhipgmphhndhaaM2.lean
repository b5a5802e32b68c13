import Derived.Test.YtnhipgmphhndhaaM1
import Derived.Test.YtnhipgmphhndhaaQx10
import Derived.Test.YtnhipgmphhndhaaQx15
namespace Go.Proofs.Ytnhipgmphhndhaa.Q
open Go.RowKit Go.Proofs.YtnhipgmphhndhaaW.PrintWords Go.Proofs.YtnhipgmphhndhaaW.PrintLast Go.Proofs.YtnhipgmphhndhaaW.PrintMore
set_option linter.unusedVariables false
set_option linter.unusedSimpArgs false
set_option linter.unusedSectionVars false

theorem rd_get (l : List Int) (p : Nat) (h : p < l.length) : rd l (p : Int) = l[p] := by simp [rd, h]
theorem rdOf_get {α : Type} (d : α) (l : List α) (p : Nat) (h : p < l.length) : rdOf d l (p : Int) = l[p] := by simp [rdOf, h]
theorem rd32_get (l : List S32) (p : Nat) (h : p < l.length) : rd_T32 l (p : Int) = l[p] := by simp [rd_T32, h]
theorem rd37_get (l : List S37) (p : Nat) (h : p < l.length) : rd_T37 l (p : Int) = l[p] := by simp [rd_T37, h]
theorem all_at {α : Type} (P : α → Bool) (l : List α) (p : Nat) (h : p < l.length) : (l.drop p).all P = (P l[p] && (l.drop (p + 1)).all P) := by
  rw [List.drop_eq_getElem_cons h, List.all_cons]
theorem all_end {α : Type} (P : α → Bool) (l : List α) (p : Nat) (h : l.length ≤ p) : (l.drop p).all P = true := by
  rw [List.drop_eq_nil_of_le h]; rfl

def instrOk (i : S37) : Bool := decide (0 ≤ usesP i.f0 ∧ 0 ≤ i.f1 ∧ i.f1 ≤ 65535 ∧ 0 ≤ i.f2 ∧ i.f2 ≤ 65535 ∧ (0 < usesP i.f0 ∨ i.f1 = 0) ∧ (1 < usesP i.f0 ∨ i.f2 = 0))
def bodyOk (f : S32) : Bool := decide (0 ≤ f.f0 ∧ f.f0 ≤ 59 ∧ 0 ≤ f.f1 ∧ f.f1 ≤ 60 ∧ 1 ≤ f.f2 ∧ f.f2 ≤ 60 ∧ 1 ≤ f.f3.length ∧ f.f3.length ≤ 400) && f.f3.all instrOk
def intOk (n : Int) : Bool := decide (-4611686018427387904 ≤ n ∧ n ≤ 4611686018427387903)
def textOk (s : ByteArray) : Bool := decide (s.size ≤ 60)
/-- May the code be? -/
def mayP (l0 : List S32) (l1 : List Int) (l2 : List ByteArray) (a3 : Int) : Bool :=
  decide (1 ≤ l0.length ∧ l0.length ≤ 120 ∧ l1.length ≤ 120 ∧ l2.length ≤ 120 ∧ 0 ≤ a3 ∧ a3 ≤ 60) && (l0.all bodyOk && (l1.all intOk && l2.all textOk))

theorem in_f (a b c : Int) : code_in.f a b c = some (decide (b ≤ a ∧ a ≤ c)) := by
  unfold code_in.f
  by_cases h : a ≥ b
  · rw [if_pos h]
    congr 1
    by_cases h2 : a ≤ c
    · rw [decide_eq_true h2, decide_eq_true ⟨h, h2⟩]
    · rw [decide_eq_false h2, decide_eq_false (fun q => h2 q.2)]
  · rw [if_neg h, decide_eq_false (fun q => h q.1)]
theorem some_bool {a b : Bool} (h : a = true ↔ b = true) : (some a : Option Bool) = some b := by
  congr 1; cases a <;> cases b <;> simp at h ⊢
theorem odd_ev (i : S37) : Ev (fun k => code_odd.f k i.f0 i.f1 i.f2) (!instrOk i) := by
  unfold code_odd.f
  refine Ev.bind (code_uses_ev i.f0) ?_
  refine Ev.congr (fun k => ?_) (Ev.now _)
  simp only [in_f, Option.bind_some, decide_eq_true_eq]
  have hr := usesP_range i.f0
  unfold instrOk
  repeat' split
  all_goals (apply some_bool; simp only [Bool.not_eq_true', decide_eq_false_iff_not, decide_eq_true_eq, bne_iff_ne, ne_eq, true_iff, false_iff, Bool.false_eq_true, iff_true, iff_false]; omega)
theorem instr_ev (i : S37) : Ev (fun k => selvageref13_Instr.f k i.f0 i.f1 i.f2) (instrOk i) := by
  unfold selvageref13_Instr.f
  refine Ev.bind (ref_uses_ev i.f0) ?_
  refine Ev.congr (fun k => ?_) (Ev.now _)
  have hr := usesP_range i.f0
  unfold instrOk
  repeat' split
  all_goals (apply some_bool; simp only [Bool.not_eq_true', decide_eq_false_iff_not, decide_eq_true_eq, beq_iff_eq, bne_iff_ne, ne_eq, true_iff, false_iff, Bool.false_eq_true, iff_true, iff_false]; omega)

/-! ### the four walks of slices.ContainsFunc -/
theorem idx_instr (l : List S37) (hl : l.length ≤ 1000000) : ∀ d p, p + d = l.length → ∃ r : Int, Ev (fun k => api_Instr_48.l0 k l (l.length : Int) (p : Int)) r ∧ (decide (r ≥ 0) = !(l.drop p).all instrOk) := by
  intro d
  induction d with
  | zero =>
    intro p hp
    refine ⟨-1, Ev.step (fun k => by rw [api_Instr_48.l0, if_neg (by omega)]) (Ev.now _), ?_⟩
    rw [all_end _ _ _ (by omega)]; rfl
  | succ d ih =>
    intro p hp
    obtain ⟨r, hr, hd⟩ := ih (p + 1) (by omega)
    have hlt : p < l.length := by omega
    have e := wn ((p : Int) + 1) (p + 1) (by omega) (by omega)
    have ev := odd_ev l[p]
    rw [all_at _ _ _ hlt]
    by_cases hb : instrOk l[p] = true
    · refine ⟨r, ?_, by rw [hb, Bool.true_and]; exact hd⟩
      refine Ev.step (f := fun k => (code_odd.f k (l[p]).f0 (l[p]).f1 (l[p]).f2).bind fun t => if t = true then some (p : Int) else api_Instr_48.l0 k l (l.length : Int) (wrap64 ((p : Int) + 1))) (fun k => by rw [api_Instr_48.l0, if_pos (by omega), if_pos (by omega), if_pos (by omega), rd37_get l p hlt]) ?_
      refine Ev.bind ev ?_
      refine Ev.congr (fun k => if_neg (by simp [hb])) ?_
      rw [e]; exact hr
    · have hb' : instrOk l[p] = false := by simpa using hb
      refine ⟨(p : Int), ?_, by rw [hb']; simp⟩
      refine Ev.step (f := fun k => (code_odd.f k (l[p]).f0 (l[p]).f1 (l[p]).f2).bind fun t => if t = true then some (p : Int) else api_Instr_48.l0 k l (l.length : Int) (wrap64 ((p : Int) + 1))) (fun k => by rw [api_Instr_48.l0, if_pos (by omega), if_pos (by omega), if_pos (by omega), rd37_get l p hlt]) ?_
      refine Ev.bind ev ?_
      exact Ev.congr (fun k => if_pos (by simp [hb'])) (Ev.now _)
theorem contains_instr (l : List S37) (hl : l.length ≤ 1000000) : Ev (fun k => api_Instr_33.f k l) (!l.all instrOk) := by
  obtain ⟨r, hr, hd⟩ := idx_instr l hl l.length 0 (by omega)
  unfold api_Instr_33.f api_Instr_48.f
  refine Ev.bind hr ?_
  rw [hd]
  exact Ev.now _
theorem wrong_ev (f : S32) (hl : f.f3.length ≤ 1000000) : Ev (fun k => code_wrong.f k f.f0 f.f1 f.f2 f.f3) (!bodyOk f) := by
  unfold code_wrong.f bodyOk
  simp only [in_f, Option.bind_some, decide_eq_true_eq]
  by_cases h : 0 ≤ f.f0 ∧ f.f0 ≤ 59 ∧ 0 ≤ f.f1 ∧ f.f1 ≤ 60 ∧ 1 ≤ f.f2 ∧ f.f2 ≤ 60 ∧ 1 ≤ f.f3.length ∧ f.f3.length ≤ 400
  · rw [decide_eq_true h, Bool.true_and]
    refine Ev.congr (fun k => by rw [if_pos (by omega), if_pos (by omega), if_pos (by omega), if_pos (by omega)]) ?_
    exact Ev.bind (contains_instr f.f3 hl) (Ev.now _)
  · rw [decide_eq_false h, Bool.false_and]
    refine Ev.congr (f := fun _ => some true) (fun k => ?_) (Ev.now _)
    repeat' split
    all_goals first | rfl | (exfalso; apply h; omega)
theorem idx_body (l : List S32) (hl : l.length ≤ 1000000) (hi : ∀ f ∈ l, f.f3.length ≤ 1000000) : ∀ d p, p + d = l.length → ∃ r : Int, Ev (fun k => api_Body_32.l0 k l (l.length : Int) (p : Int)) r ∧ (decide (r ≥ 0) = !(l.drop p).all bodyOk) := by
  intro d
  induction d with
  | zero =>
    intro p hp
    refine ⟨-1, Ev.step (fun k => by rw [api_Body_32.l0, if_neg (by omega)]) (Ev.now _), ?_⟩
    rw [all_end _ _ _ (by omega)]; rfl
  | succ d ih =>
    intro p hp
    obtain ⟨r, hr, hd⟩ := ih (p + 1) (by omega)
    have hlt : p < l.length := by omega
    have e := wn ((p : Int) + 1) (p + 1) (by omega) (by omega)
    have ev := wrong_ev l[p] (hi _ (List.getElem_mem hlt))
    rw [all_at _ _ _ hlt]
    by_cases hb : bodyOk l[p] = true
    · refine ⟨r, ?_, by rw [hb, Bool.true_and]; exact hd⟩
      refine Ev.step (f := fun k => (code_wrong.f k (l[p]).f0 (l[p]).f1 (l[p]).f2 (l[p]).f3).bind fun t => if t = true then some (p : Int) else api_Body_32.l0 k l (l.length : Int) (wrap64 ((p : Int) + 1))) (fun k => by rw [api_Body_32.l0, if_pos (by omega), if_pos (by omega), if_pos (by omega), rd32_get l p hlt]) ?_
      refine Ev.bind ev ?_
      refine Ev.congr (fun k => if_neg (by simp [hb])) ?_
      rw [e]; exact hr
    · have hb' : bodyOk l[p] = false := by simpa using hb
      refine ⟨(p : Int), ?_, by rw [hb']; simp⟩
      refine Ev.step (f := fun k => (code_wrong.f k (l[p]).f0 (l[p]).f1 (l[p]).f2 (l[p]).f3).bind fun t => if t = true then some (p : Int) else api_Body_32.l0 k l (l.length : Int) (wrap64 ((p : Int) + 1))) (fun k => by rw [api_Body_32.l0, if_pos (by omega), if_pos (by omega), if_pos (by omega), rd32_get l p hlt]) ?_
      refine Ev.bind ev ?_
      exact Ev.congr (fun k => if_pos (by simp [hb'])) (Ev.now _)
theorem contains_body (l : List S32) (hl : l.length ≤ 1000000) (hi : ∀ f ∈ l, f.f3.length ≤ 1000000) : Ev (fun k => api_Body_23.f k l) (!l.all bodyOk) := by
  obtain ⟨r, hr, hd⟩ := idx_body l hl hi l.length 0 (by omega)
  unfold api_Body_23.f api_Body_32.f
  refine Ev.bind hr ?_
  rw [hd]
  exact Ev.now _
theorem idx_int (l : List Int) (hl : l.length ≤ 1000000) : ∀ d p, p + d = l.length → ∃ r : Int, Ev (fun k => slices_IndexFunc_int_int.l0 k l (l.length : Int) (p : Int)) r ∧ (decide (r ≥ 0) = !(l.drop p).all intOk) := by
  intro d
  induction d with
  | zero =>
    intro p hp
    refine ⟨-1, Ev.step (fun k => by rw [slices_IndexFunc_int_int.l0, if_neg (by omega)]) (Ev.now _), ?_⟩
    rw [all_end _ _ _ (by omega)]; rfl
  | succ d ih =>
    intro p hp
    obtain ⟨r, hr, hd⟩ := ih (p + 1) (by omega)
    have hlt : p < l.length := by omega
    have e := wn ((p : Int) + 1) (p + 1) (by omega) (by omega)
    have ev : code_May_1.f l[p] = some (!intOk l[p]) := by unfold code_May_1.f intOk; rw [in_f]; rfl
    rw [all_at _ _ _ hlt]
    by_cases hb : intOk l[p] = true
    · refine ⟨r, ?_, by rw [hb, Bool.true_and]; exact hd⟩
      refine Ev.step (f := fun k => slices_IndexFunc_int_int.l0 k l (l.length : Int) ((p + 1 : Nat) : Int)) (fun k => by rw [slices_IndexFunc_int_int.l0, if_pos (by omega), if_pos (by omega), if_pos (by omega), rd_get l p hlt, ev, hb, e]; rfl) hr
    · have hb' : intOk l[p] = false := by simpa using hb
      refine ⟨(p : Int), ?_, by rw [hb']; simp⟩
      exact Ev.step (fun k => by rw [slices_IndexFunc_int_int.l0, if_pos (by omega), if_pos (by omega), if_pos (by omega), rd_get l p hlt, ev, hb']; rfl) (Ev.now _)
theorem contains_int (l : List Int) (hl : l.length ≤ 1000000) : Ev (fun k => slices_ContainsFunc_int_int.f k l) (!l.all intOk) := by
  obtain ⟨r, hr, hd⟩ := idx_int l hl l.length 0 (by omega)
  unfold slices_ContainsFunc_int_int.f slices_IndexFunc_int_int.f
  refine Ev.bind hr ?_
  rw [hd]
  exact Ev.now _
theorem idx_text (l : List ByteArray) (hl : l.length ≤ 1000000) : ∀ d p, p + d = l.length → ∃ r : Int, Ev (fun k => slices_IndexFunc_string_string.l0 k l (l.length : Int) (p : Int)) r ∧ (decide (r ≥ 0) = !(l.drop p).all textOk) := by
  intro d
  induction d with
  | zero =>
    intro p hp
    refine ⟨-1, Ev.step (fun k => by rw [slices_IndexFunc_string_string.l0, if_neg (by omega)]) (Ev.now _), ?_⟩
    rw [all_end _ _ _ (by omega)]; rfl
  | succ d ih =>
    intro p hp
    obtain ⟨r, hr, hd⟩ := ih (p + 1) (by omega)
    have hlt : p < l.length := by omega
    have e := wn ((p : Int) + 1) (p + 1) (by omega) (by omega)
    have ev : code_May_2.f l[p] = some (!textOk l[p]) := by
      unfold code_May_2.f textOk
      apply some_bool
      simp only [Bool.not_eq_true', decide_eq_false_iff_not, decide_eq_true_eq]
      omega
    rw [all_at _ _ _ hlt]
    by_cases hb : textOk l[p] = true
    · refine ⟨r, ?_, by rw [hb, Bool.true_and]; exact hd⟩
      refine Ev.step (f := fun k => slices_IndexFunc_string_string.l0 k l (l.length : Int) ((p + 1 : Nat) : Int)) (fun k => by rw [slices_IndexFunc_string_string.l0, if_pos (by omega), if_pos (by omega), if_pos (by omega), rdOf_get _ l p hlt, ev, hb, e]; rfl) hr
    · have hb' : textOk l[p] = false := by simpa using hb
      refine ⟨(p : Int), ?_, by rw [hb']; simp⟩
      exact Ev.step (fun k => by rw [slices_IndexFunc_string_string.l0, if_pos (by omega), if_pos (by omega), if_pos (by omega), rdOf_get _ l p hlt, ev, hb']; rfl) (Ev.now _)
theorem contains_text (l : List ByteArray) (hl : l.length ≤ 1000000) : Ev (fun k => slices_ContainsFunc_string_string.f k l) (!l.all textOk) := by
  obtain ⟨r, hr, hd⟩ := idx_text l hl l.length 0 (by omega)
  unfold slices_ContainsFunc_string_string.f slices_IndexFunc_string_string.f
  refine Ev.bind hr ?_
  rw [hd]
  exact Ev.now _
theorem may_ev (l0 : List S32) (l1 : List Int) (l2 : List ByteArray) (a3 : Int) (h0 : l0.length ≤ 1000000) (hi : ∀ f ∈ l0, f.f3.length ≤ 1000000) : Ev (fun k => code_May.f k l0 l1 l2 a3) (mayP l0 l1 l2 a3) := by
  unfold code_May.f mayP
  simp only [in_f, Option.bind_some, decide_eq_true_eq]
  by_cases h : 1 ≤ l0.length ∧ l0.length ≤ 120 ∧ l1.length ≤ 120 ∧ l2.length ≤ 120 ∧ 0 ≤ a3 ∧ a3 ≤ 60
  · rw [decide_eq_true h, Bool.true_and]
    refine Ev.congr (fun k => by rw [if_pos (by omega), if_pos (by omega), if_pos (by omega), if_pos (by omega)]) ?_
    refine Ev.bind (contains_body l0 h0 hi) ?_
    by_cases hb : l0.all bodyOk = true
    · rw [hb, Bool.true_and]
      refine Ev.congr (fun k => if_neg (by simp)) ?_
      refine Ev.bind (contains_int l1 (by omega)) ?_
      by_cases hc : l1.all intOk = true
      · rw [hc, Bool.true_and]
        refine Ev.congr (fun k => if_neg (by simp)) ?_
        refine Ev.bind (contains_text l2 (by omega)) ?_
        rw [Bool.not_not]
        exact Ev.now _
      · have hc' : l1.all intOk = false := by simpa using hc
        rw [hc', Bool.false_and]
        exact Ev.congr (fun k => if_pos (by simp)) (Ev.now _)
    · have hb' : l0.all bodyOk = false := by simpa using hb
      rw [hb', Bool.false_and]
      exact Ev.congr (fun k => if_pos (by simp)) (Ev.now _)
  · rw [decide_eq_false h, Bool.false_and]
    refine Ev.congr (f := fun _ => some false) (fun k => ?_) (Ev.now _)
    repeat' split
    all_goals first | rfl | (exfalso; apply h; omega)
end Go.Proofs.Ytnhipgmphhndhaa.Q
