import Derived.Test.YtadbiogchgglpaaQx26
import Derived.Test.YtadbiogchgglpaaSt
import Derived.Test.YtadbiogchgglpaaS1
namespace Go.Proofs.Ytadbiogchgglpaa.Q
open Go.RowKit Go.Proofs.YtadbiogchgglpaaW.PrintWords Go.Proofs.YtadbiogchgglpaaW.PrintLast Go.Proofs.YtadbiogchgglpaaW.PrintMore
set_option linter.unusedVariables false
set_option linter.unusedSimpArgs false
set_option linter.unusedSectionVars false
/-! ### a code is the same as itself -/
section
variable (fs : List S40) (xs : List Int) (ts : List ByteArray) (a : Int)
theorem same_l3 (x7 f0 f1 f2 : Int) (c : List S42) (hc : c.length ≤ 1000000) (r : Bool) (h : Ev (fun k => zS.l2 k (wrap64 (x7 + 1)) fs xs ts a fs xs ts a) r) : ∀ (m i : Nat), i + m = c.length →
    Ev (fun k => zS.l3 k x7 (i : Int) fs xs ts a fs xs ts a f0 f1 f2 c f0 f1 f2 c) r := by
  intro m
  induction m with
  | zero =>
    intro i hi
    exact Ev.step (f := fun k => zS.l2 k (wrap64 (x7 + 1)) fs xs ts a fs xs ts a) (fun k => by rw [zS.l3, if_neg (by omega)]) h
  | succ m ih =>
    intro i hi
    have e := wn ((i : Int) + 1) (i + 1) (by omega) (by omega)
    refine Ev.step (f := fun k => zS.l3 k x7 ((i + 1 : Nat) : Int) fs xs ts a fs xs ts a f0 f1 f2 c f0 f1 f2 c) (fun k => by
      rw [zS.l3, if_pos (by omega), if_pos (by omega), if_pos (by omega), if_neg (by simp only [beq_self_eq_true]; decide), e]) ?_
    exact ih (i + 1) (by omega)
theorem same_l2 (hf : fs.length ≤ 1000000) (hc : ∀ f ∈ fs, f.f3.length ≤ 1000000) : ∀ (m i : Nat), i + m = fs.length →
    Ev (fun k => zS.l2 k (i : Int) fs xs ts a fs xs ts a) true := by
  intro m
  induction m with
  | zero =>
    intro i hi
    exact Ev.step (f := fun _ => some true) (fun k => by rw [zS.l2, if_neg (by omega)]) (Ev.now _)
  | succ m ih =>
    intro i hi
    have e := wn ((i : Int) + 1) (i + 1) (by omega) (by omega)
    have hm : r40 fs (i : Int) ∈ fs := by
      unfold r40
      rw [Int.toNat_natCast, List.getD_eq_getElem?_getD, List.getElem?_eq_getElem (by omega : i < fs.length)]
      exact List.getElem_mem _
    have hcl := hc _ hm
    generalize hg : r40 fs (i : Int) = g at *
    refine Ev.step (f := fun k => zS.j4 k (i : Int) false fs xs ts a fs xs ts a g.f0 g.f1 g.f2 g.f3 g.f0 g.f1 g.f2 g.f3) (fun k => by
      rw [zS.l2, if_pos (by omega), if_pos (by omega), if_pos (by omega), if_pos rfl, if_pos rfl, if_pos rfl, hg, bne_self_eq_false]) ?_
    refine Ev.step (f := fun k => zS.l3 k (i : Int) ((0 : Nat) : Int) fs xs ts a fs xs ts a g.f0 g.f1 g.f2 g.f3 g.f0 g.f1 g.f2 g.f3) (fun k => by rw [zS.j4, if_neg (by decide)]; rfl) ?_
    refine same_l3 fs xs ts a (i : Int) _ _ _ g.f3 hcl true ?_ g.f3.length 0 (by omega)
    rw [e]
    exact ih (i + 1) (by omega)
theorem same_l1 (ht : ts.length ≤ 1000000) (r : Bool) (h : Ev (fun k => zS.l2 k 0 fs xs ts a fs xs ts a) r) : ∀ (m i : Nat), i + m = ts.length →
    Ev (fun k => zS.l1 k (i : Int) fs xs ts a fs xs ts a) r := by
  intro m
  induction m with
  | zero =>
    intro i hi
    exact Ev.step (f := fun k => zS.l2 k 0 fs xs ts a fs xs ts a) (fun k => by rw [zS.l1, if_neg (by omega)]) h
  | succ m ih =>
    intro i hi
    have e := wn ((i : Int) + 1) (i + 1) (by omega) (by omega)
    refine Ev.step (f := fun k => zS.l1 k ((i + 1 : Nat) : Int) fs xs ts a fs xs ts a) (fun k => by
      rw [zS.l1, if_pos (by omega), if_pos (by omega), if_pos (by omega), if_pos rfl, e]) ?_
    exact ih (i + 1) (by omega)
theorem same_l0 (hx : xs.length ≤ 1000000) (r : Bool) (h : Ev (fun k => zS.l1 k 0 fs xs ts a fs xs ts a) r) : ∀ (m i : Nat), i + m = xs.length →
    Ev (fun k => zS.l0 k (i : Int) fs xs ts a fs xs ts a) r := by
  intro m
  induction m with
  | zero =>
    intro i hi
    exact Ev.step (f := fun k => zS.l1 k 0 fs xs ts a fs xs ts a) (fun k => by rw [zS.l0, if_neg (by omega)]) h
  | succ m ih =>
    intro i hi
    have e := wn ((i : Int) + 1) (i + 1) (by omega) (by omega)
    refine Ev.step (f := fun k => zS.l0 k ((i + 1 : Nat) : Int) fs xs ts a fs xs ts a) (fun k => by
      rw [zS.l0, if_pos (by omega), if_pos (by omega), if_pos (by omega), if_pos rfl, e]) ?_
    exact ih (i + 1) (by omega)
/-- Small enough for the loops' counts. -/
def Fw (c : Res) : Prop := c.1.length ≤ 1000000 ∧ (∀ f ∈ c.1, f.f3.length ≤ 1000000) ∧ c.2.1.length ≤ 1000000 ∧ c.2.2.1.length ≤ 1000000
theorem same_ev (h : Fw (fs, xs, ts, a, 0)) : Ev (fun k => zS.f k fs xs ts a fs xs ts a) true := by
  obtain ⟨h0, h1, h2, h3⟩ := h
  refine Ev.congr (f := fun k => zS.j0 k false fs xs ts a fs xs ts a) (fun k => by unfold zS.f; rw [if_pos rfl, if_pos rfl, if_pos rfl, bne_self_eq_false]) ?_
  refine Ev.step (f := fun k => zS.l0 k ((0 : Nat) : Int) fs xs ts a fs xs ts a) (fun k => by rw [zS.j0, if_neg (by decide)]; rfl) ?_
  refine same_l0 fs xs ts a h2 true ?_ xs.length 0 (by omega)
  refine same_l1 fs xs ts a h3 true ?_ ts.length 0 (by omega)
  exact same_l2 fs xs ts a h0 h1 fs.length 0 (by omega)
end
/-! ### what is read is small -/
theorem ints_len (B : List Int) : ∀ (n : Nat) (I : Int) (S : Bool), (dInts B n I S).1.length = n
  | 0, _, _ => rfl
  | n + 1, I, S => by show ((_ :: (dInts B n _ _).1 : List Int)).length = _; rw [List.length_cons, ints_len B n]
theorem texts_len (B : List Int) : ∀ (n : Nat) (I : Int) (S : Bool), (dTexts B n I S).1.length = n
  | 0, _, _ => rfl
  | n + 1, I, S => by show ((_ :: (dTexts B n _ _).1 : List ByteArray)).length = _; rw [List.length_cons, texts_len B n]
theorem bodies_len (B : List Int) : ∀ (n : Nat) (I : Int) (S : Bool), (dBodies B n I S).1.length = n
  | 0, _, _ => rfl
  | n + 1, I, S => by show ((_ :: (dBodies B n _ _).1 : List S40)).length = _; rw [List.length_cons, bodies_len B n]
theorem bodies_code {B : List Int} (hB : Byt B) : ∀ (n : Nat) (I : Int) (S : Bool), ∀ f ∈ (dBodies B n I S).1, f.f3.length ≤ 1000000
  | 0, _, _, f, h => nomatch h
  | n + 1, I, S, f, h => by
    rcases List.mem_cons.1 h with h | h
    · subst h
      have hc : 0 ≤ (dHead B I S).2.2.2.1 ∧ (dHead B I S).2.2.2.1 < ((2 ^ (8 * 2) : Nat) : Int) := nx_small hB 2 (by omega) _ _
      have e16 : ((2 ^ (8 * 2) : Nat) : Int) = 65536 := by decide
      rw [e16] at hc
      have hl := instrs_len B (dHead B I S).2.2.2.1.toNat (dHead B I S).2.2.2.2.1 (dHead B I S).2.2.2.2.2
      show (dInstrs B (dHead B I S).2.2.2.1.toNat (dHead B I S).2.2.2.2.1 (dHead B I S).2.2.2.2.2).1.length ≤ 1000000
      omega
    · exact bodies_code hB n _ _ f h
theorem fin_few {B : List Int} {I : Int} {S : Bool} {fs : List S40} {xs : List Int} {ts : List ByteArray} {a : Int} (h : Fw (fs, xs, ts, a, 0)) : Fw (fin B I S fs xs ts a) := by
  have hb : Fw bad := ⟨by decide, (fun f h => nomatch h), by decide, by decide⟩
  unfold fin
  split
  · exact hb
  · split
    · exact hb
    · split
      · exact h
      · exact hb
theorem decP_few {B : List Int} (hB : Byt B) : Fw (decP B) := by
  unfold decP
  dsimp only
  refine fin_few ⟨?_, bodies_code hB _ _ _, ?_, ?_⟩
  · show (dBodies B _ _ _).1.length ≤ _
    rw [bodies_len]
    exact Nat.le_trans (Int.toNat_le_toNat (nx1_val hB _ _).2) (by decide)
  · show (dInts B _ _ _).1.length ≤ _
    rw [ints_len]
    exact Nat.le_trans (Int.toNat_le_toNat (nx1_val hB _ _).2) (by decide)
  · show (dTexts B _ _ _).1.length ≤ _
    rw [texts_len]
    exact Nat.le_trans (Int.toNat_le_toNat (nx1_val hB _ _).2) (by decide)
theorem byt_wf {B : List Int} (h : ∀ x ∈ B, (Lit.int .u8 x).wf = true) : Byt B := by
  intro x hx
  have h1 := h x hx
  simp only [Lit.wf, IntKind.min, IntKind.max, IntKind.signed, IntKind.bits, Bool.and_eq_true, decide_eq_true_eq] at h1
  simpa using h1
theorem byt_take {B : List Int} (h : Byt B) (n : Nat) : Byt (B.take n) := fun x hx => h x (List.mem_of_mem_take hx)
theorem decodes_end {B : List Int} (hB : Byt B) (hl : B.length ≤ 1000000) : Ev (fun k => (cD.f k B).bind fun bt580 => ((zD.f k B).bind fun bt592 => ((zS.f k bt580.1 bt580.2.1 bt580.2.2.1 bt580.2.2.2.1 bt592.1 bt592.2.1 bt592.2.2.1 bt592.2.2.2.1).bind fun t604 => (if t604 = true then (if bt580.2.2.2.2 = bt592.2.2.2.2 then ((selvagelaw13_lives.f k).bind fun t605 => (some t605)) else (some false)) else (some false))))) true := by
  have hd := rdec_ev B hB hl
  have h1 := dec_ev B hB
  have hf := decP_few hB
  rw [← dec_alike hB] at hd
  generalize decP B = c at hd h1 hf
  obtain ⟨fs, xs, ts, a, e⟩ := c
  have hf0 : Fw (fs, xs, ts, a, 0) := hf
  refine Ev.bind h1 (Ev.bind hd ?_)
  refine Ev.bind (same_ev fs xs ts a hf0) ?_
  exact Ev.congr (fun k => by rw [if_pos rfl, if_pos rfl]) lives_end
end Go.Proofs.Ytadbiogchgglpaa.Q
