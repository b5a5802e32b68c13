import Derived.Test.YtnhipgmphhndhaaQxL4
import Derived.Test.YtnhipgmphhndhaaM4
namespace Go.Proofs.Ytnhipgmphhndhaa.Pure
open Go.RowKit Go.Proofs.Ytnhipgmphhndhaa.Q Go.Proofs.YtnhipgmphhndhaaW.PrintWords Go.Proofs.YtnhipgmphhndhaaW.PrintLast Go.Proofs.YtnhipgmphhndhaaW.PrintMore
set_option linter.unusedVariables false
set_option linter.unusedSimpArgs false
set_option linter.unusedSectionVars false
/-! ### a law that is kept by another one -/
theorem rch_more {N N' : Nx} {n : Nat} {stk : Int} (hN : ∀ p s l, N p s = some l → N' p s = some l) (hg : Q.Good N n stk) {p : Tg} (hr : Rch N' p) : Rch N p := by
  induction hr with
  | start => exact .start
  | step hp hl hq ih =>
    obtain ⟨_, _, _, l2, h2⟩ := hg.1 _ ih
    have h3 := hN _ _ _ h2
    rw [h3] at hl
    obtain rfl := Option.some.inj hl
    exact .step ih h2 hq
theorem good_more {N N' : Nx} {n : Nat} {stk : Int} (hN : ∀ p s l, N p s = some l → N' p s = some l) (hg : Q.Good N n stk) : Q.Good N' n stk := by
  refine ⟨fun p hp => ?_, fun p q hp hq he => hg.2 p q (rch_more hN hg hp) (rch_more hN hg hq) he⟩
  obtain ⟨h1, h2, h3, l, h4⟩ := hg.1 p (rch_more hN hg hp)
  exact ⟨h1, h2, h3, l, hN _ _ _ h4⟩
def nb : S32 := ⟨0, 1, 1, [⟨3, 0, 0⟩, ⟨15, 0, 0⟩]⟩
theorem rd_more (fs : List S32) (b : S32) (i : Int) (h1 : i.toNat < fs.length) : rd_T32 (fs ++ [b]) i = rd_T32 fs i := by
  unfold rd_T32
  rw [List.getD_eq_getElem?_getD, List.getD_eq_getElem?_getD, List.getElem?_append_left h1]
theorem rd_new (fs : List S32) (b : S32) : rd_T32 (fs ++ [b]) (fs.length : Int) = b := by
  unfold rd_T32
  rw [List.getD_eq_getElem?_getD, Int.toNat_natCast, List.getElem?_append_right (by omega)]
  simp
theorem okI_more (fs : List S32) (b : S32) (ni nt : Nat) (a n : Int) (f : S32) (i : S37) (h : okI fs ni nt a n f i = true) : okI (fs ++ [b]) (ni + 1) (nt + 1) (a + 1) n f i = true := by
  unfold okI at h ⊢
  by_cases c1 : i.f0 = 1
  · rw [if_pos c1] at h ⊢
    exact decide_eq_true (by have := of_decide_eq_true h; omega)
  rw [if_neg c1] at h ⊢
  by_cases c2 : i.f0 = 2
  · rw [if_pos c2] at h ⊢
    exact decide_eq_true (by have := of_decide_eq_true h; omega)
  rw [if_neg c2] at h ⊢
  by_cases c3 : i.f0 = 3 ∨ i.f0 = 7
  · rw [if_pos c3] at h ⊢
    exact h
  rw [if_neg c3] at h ⊢
  by_cases c4 : i.f0 = 4
  · rw [if_pos c4] at h ⊢
    exact h
  rw [if_neg c4] at h ⊢
  by_cases c5 : i.f0 = 5
  · rw [if_pos c5] at h ⊢
    exact h
  rw [if_neg c5] at h ⊢
  by_cases c6 : i.f0 = 6 ∨ i.f0 = 8
  · rw [if_pos c6] at h ⊢
    exact decide_eq_true (by have := of_decide_eq_true h; omega)
  rw [if_neg c6] at h ⊢
  by_cases c7 : i.f0 = 10
  · rw [if_pos c7] at h ⊢
    exact h
  rw [if_neg c7] at h ⊢
  by_cases c8 : i.f0 = 11
  · rw [if_pos c8] at h ⊢
    rw [Bool.and_eq_true, Bool.and_eq_true] at h ⊢
    obtain ⟨h1, h2, h3⟩ := h
    have h1' := of_decide_eq_true h1
    have h2' := of_decide_eq_true h2
    refine ⟨h1, decide_eq_true (by rw [List.length_append, List.length_singleton]; omega), ?_⟩
    rw [rd_more fs b i.f1 (by omega)]
    exact h3
  rw [if_neg c8] at h ⊢
  exact h
theorem nx_more (fs : List S32) (b : S32) (ni nt : Nat) (a n : Int) (f : S32) (p : Int) (s : St) (l : List Tg) (h : nx fs ni nt a n f p s = some l) : nx (fs ++ [b]) (ni + 1) (nt + 1) (a + 1) n f p s = some l := by
  unfold nx at h ⊢
  by_cases hp : 0 ≤ p ∧ p < (f.f3.length : Int)
  · rw [if_pos hp] at h ⊢
    unfold nx1 at h ⊢
    by_cases ho : okI fs ni nt a n f (rd_T37 f.f3 p) = true
    · rw [if_pos ho] at h
      rw [if_pos (okI_more fs b ni nt a n f _ ho)]
      exact h
    · rw [if_neg ho] at h
      exact absurd h (by simp)
  · rw [if_neg hp] at h
    exact absurd h (by simp)
theorem good_nb (fs : List S32) (ni nt : Nat) (a n : Int) : Q.Good (nx fs ni nt a n nb) 2 1 := by
  have h0 : nx fs ni nt a n nb 0 s0 = some [(1, ⟨1, []⟩)] := by rfl
  have h1 : nx fs ni nt a n nb 1 ⟨1, []⟩ = some [] := by rfl
  refine (closed_good (hs := [some s0, some ⟨1, []⟩]) rfl (fun i s h => ?_) rfl (fun i s h => ?_)).1
  · match i, h with
    | 0, h => obtain rfl : s0 = s := by simpa using h
              exact .start
    | 1, h => obtain rfl : (⟨1, []⟩ : St) = s := by simpa using h
              exact .step .start h0 (by simp)
    | n + 2, h => simp at h
  · match i, h with
    | 0, h => obtain rfl : s0 = s := by simpa using h
              refine ⟨by decide, _, h0, fun q hq => ?_⟩
              rw [List.mem_singleton.1 hq]
              exact ⟨by decide, rfl⟩
    | 1, h => obtain rfl : (⟨1, []⟩ : St) = s := by simpa using h
              exact ⟨by decide, _, h1, fun q hq => absurd hq (by simp)⟩
    | n + 2, h => simp at h
theorem good_all (fs : List S32) (xs : List Int) (ts : List ByteArray) (a c : Int) (s : ByteArray) (h : ∀ n : Nat, n < fs.length → GoodAt fs xs ts a (n : Int)) (n : Nat) (hn : n < (fs ++ [nb]).length) : GoodAt (fs ++ [nb]) (xs ++ [c]) (ts ++ [s]) (a + 1) (n : Int) := by
  rw [List.length_append, List.length_singleton] at hn
  by_cases h1 : n < fs.length
  · have hg := h n h1
    unfold GoodAt at hg ⊢
    unfold nxOf at hg ⊢
    rw [rd_more fs nb n (by omega), List.length_append, List.length_append, List.length_singleton, List.length_singleton]
    exact good_more (nx_more fs nb _ _ a n _) hg
  · obtain rfl : n = fs.length := by omega
    unfold GoodAt nxOf
    rw [rd_new]
    exact good_nb _ _ _ _ _
theorem may_more (fs : List S32) (xs : List Int) (ts : List ByteArray) (a c : Int) (s : ByteArray) (h : mayP fs xs ts a = true) (hf : fs.length ≤ 6) (hx : xs.length ≤ 6) (ht : ts.length ≤ 6) (ha : a ≤ 50) (hc : -4611686018427387904 ≤ c ∧ c ≤ 4611686018427387903) (hs : s.size ≤ 60) : mayP (fs ++ [nb]) (xs ++ [c]) (ts ++ [s]) (a + 1) = true := by
  unfold mayP at h ⊢
  rw [Bool.and_eq_true, Bool.and_eq_true, Bool.and_eq_true] at h ⊢
  obtain ⟨h0, h1, h2, h3⟩ := h
  have h0 := of_decide_eq_true h0
  refine ⟨decide_eq_true (by simp only [List.length_append, List.length_singleton]; omega), ?_, ?_, ?_⟩
  · rw [List.all_append, h1]
    kernel_rfl
  · rw [List.all_append, h2]
    simp only [List.all_cons, List.all_nil, Bool.and_true, Bool.true_and]
    exact decide_eq_true hc
  · rw [List.all_append, h3]
    simp only [List.all_cons, List.all_nil, Bool.and_true, Bool.true_and]
    exact decide_eq_true hs
theorem code_ok {fs : List S32} {xs : List Int} {ts : List ByteArray} {a : Int} (h : codeP fs xs ts a = 0) : mayP fs xs ts a = true ∧ ∀ n : Nat, n < fs.length → GoodAt fs xs ts a (n : Int) := by
  unfold codeP at h
  by_cases hm : mayP fs xs ts a = true
  · rw [if_pos hm] at h
    by_cases hg : ∀ n : Nat, n < fs.length → GoodAt fs xs ts a (n : Int)
    · exact ⟨hm, hg⟩
    · rw [if_neg hg] at h
      exact absurd h (by decide)
  · rw [if_neg hm] at h
    exact absurd h (by decide)
theorem code_sized {fs : List S32} {xs : List Int} {ts : List ByteArray} {a : Int} (h : Sized fs) : verify_Code.f fs xs ts a = some (codeP fs xs ts a) := by
  unfold verify_Code.f
  rw [if_pos h]
theorem few_sized {r : List S32 × List Int × List ByteArray × Int} (h : Few r) : Sized r.1 := ⟨by have := h.1; omega, fun f hf => by have := h.2.1 f hf; omega⟩
theorem lives_now : Ev (fun _ => (selvagelaw14_lives.f).bind fun t => some t) true := Ev.now _
theorem more_j1_true (c : Int) (s : ByteArray) (fs : List S32) (xs : List Int) (ts : List ByteArray) (a : Int) : Ev (fun k => selvagelaw14_VerifyMore.j1 k c s true fs xs ts a) true :=
  Ev.step (f := fun _ => (selvagelaw14_lives.f).bind fun t => some t) (fun k => by rw [selvagelaw14_VerifyMore.j1, if_pos rfl]) lives_now
theorem more_j0 (c : Int) (s : ByteArray) (fs : List S32) (xs : List Int) (ts : List ByteArray) (a : Int) (hf : Few (fs, xs, ts, a)) (hs : s.size ≤ 60) : Ev (fun k => selvagelaw14_VerifyMore.j0 k c s fs xs ts a) true := by
  have hsz : Sized fs := few_sized hf
  obtain ⟨f1, f2, f3, f4, f5⟩ := hf
  dsimp only at f1 f2 f3 f4
  by_cases h0 : codeP fs xs ts a = 0
  · by_cases h1 : c < -4611686018427387904
    · exact Ev.step (fun k => by rw [selvagelaw14_VerifyMore.j0, code_sized hsz, h0, Option.bind_some, if_pos rfl, if_pos h1]) (more_j1_true _ _ _ _ _ _)
    by_cases h2 : c > 4611686018427387903
    · exact Ev.step (fun k => by rw [selvagelaw14_VerifyMore.j0, code_sized hsz, h0, Option.bind_some, if_pos rfl, if_neg h1, if_pos h2]) (more_j1_true _ _ _ _ _ _)
    by_cases h3 : a > 50
    · exact Ev.step (fun k => by rw [selvagelaw14_VerifyMore.j0, code_sized hsz, h0, Option.bind_some, if_pos rfl, if_neg h1, if_neg h2, decide_eq_true h3]) (more_j1_true _ _ _ _ _ _)
    refine Ev.step (f := fun k => selvagelaw14_VerifyMore.j1 k c s false fs xs ts a) (fun k => by rw [selvagelaw14_VerifyMore.j0, code_sized hsz, h0, Option.bind_some, if_pos rfl, if_neg h1, if_neg h2, decide_eq_false h3]) ?_
    obtain ⟨hm, hg⟩ := code_ok h0
    have ha : 0 ≤ a ∧ a ≤ 60 := by
      unfold mayP at hm
      rw [Bool.and_eq_true] at hm
      have := of_decide_eq_true hm.1
      omega
    have hw : wrap64 (a + 1) = a + 1 := w64 _ (by omega) (by omega)
    have hc : codeP (fs ++ [nb]) (xs ++ [c]) (ts ++ [s]) (a + 1) = 0 := by
      unfold codeP
      rw [if_pos (may_more fs xs ts a c s hm f1 f3 f4 (by omega) (by omega) hs), if_pos (good_all fs xs ts a c s hg)]
    have hsz2 : Sized (fs ++ [nb]) := ⟨by rw [List.length_append, List.length_singleton]; omega, fun f hf => by
      rcases List.mem_append.1 hf with hf | hf
      · have := f2 f hf; omega
      · obtain rfl := List.mem_singleton.1 hf
        decide⟩
    refine Ev.step (f := fun _ => some true) (fun k => ?_) (Ev.now _)
    rw [selvagelaw14_VerifyMore.j1, if_neg (by decide), if_pos (by omega), if_pos (by omega), if_pos (by omega), hw]
    rw [show (⟨0, 1, 1, (([(⟨3, 0, 0⟩ : S37), (⟨15, 0, 0⟩ : S37)] : List (S37)))⟩ : S32) = nb from rfl, code_sized hsz2, hc]
    rfl
  · exact Ev.step (fun k => by rw [selvagelaw14_VerifyMore.j0, code_sized hsz, Option.bind_some, if_neg h0]) (more_j1_true _ _ _ _ _ _)
theorem VerifyMore (l0 : List S32) (l1 : List Int) (l2 : List ByteArray) (a3 a1 : Int) (a2 : ByteArray) {P R : Prop} (_ : P) (_ : R) : ∃ k, selvagelaw14_VerifyMore.f k l0 l1 l2 a3 a1 a2 = some true := by
  refine Ev.rounds (g := fun k => selvagelaw14_VerifyMore.f k l0 l1 l2 a3 a1 a2) ?_
  unfold selvagelaw14_VerifyMore.f
  obtain ⟨⟨fs, xs, ts, a⟩, hr, hf⟩ := cut_ev l0 l1 l2 a3
  refine Ev.bind hr ?_
  by_cases h : (a2.size : Int) > 60
  · refine Ev.congr (f := fun k => selvagelaw14_VerifyMore.j0 k a1 (a2.extract 0 60) fs xs ts a) (fun k => by rw [if_pos h, if_pos (by decide), if_pos (by omega)]) ?_
    exact more_j0 _ _ _ _ _ _ hf (by rw [ByteArray.size_extract]; omega)
  · refine Ev.congr (f := fun k => selvagelaw14_VerifyMore.j0 k a1 a2 fs xs ts a) (fun k => by rw [if_neg h]) ?_
    exact more_j0 _ _ _ _ _ _ hf (by omega)
end Go.Proofs.Ytnhipgmphhndhaa.Pure
