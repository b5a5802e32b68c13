import Derived.Test.YtnhipgmphhndhaaQxL7
import Derived.Test.YtnhipgmphhndhaaM4
namespace Go.Proofs.Ytnhipgmphhndhaa.Pure
open Go.RowKit Go.Proofs.Ytnhipgmphhndhaa.Q Go.Proofs.YtnhipgmphhndhaaW.PrintWords Go.Proofs.YtnhipgmphhndhaaW.PrintLast Go.Proofs.YtnhipgmphhndhaaW.PrintMore
set_option linter.unusedVariables false
set_option linter.unusedSimpArgs false
set_option linter.unusedSectionVars false
/-! ### two laws that agree where the walk comes -/
section
variable {N N' : Nx} {n : Nat} {stk : Int} {k : Int}
theorem rch_to (hN : ∀ p s, p ≠ k → N' p s = N p s) (hk : ∀ s, ¬ Rch N (k, s)) {p : Tg} (hr : Rch N p) : Rch N' p := by
  induction hr with
  | start => exact .start
  | @step p q l hp hl hq ih =>
    have hne : p.1 ≠ k := fun he => hk p.2 (by rw [← he]; exact hp)
    exact .step ih ((hN _ _ hne).trans hl) hq
theorem rch_from (hN : ∀ p s, p ≠ k → N' p s = N p s) (hk : ∀ s, ¬ Rch N (k, s)) {p : Tg} (hr : Rch N' p) : Rch N p := by
  induction hr with
  | start => exact .start
  | @step p q l hp hl hq ih =>
    have hne : p.1 ≠ k := fun he => hk p.2 (by rw [← he]; exact ih)
    exact .step ih ((hN _ _ hne).symm.trans hl) hq
theorem good_to (hN : ∀ p s, p ≠ k → N' p s = N p s) (hk : ∀ s, ¬ Rch N (k, s)) (hg : Q.Good N n stk) : Q.Good N' n stk := by
  refine ⟨fun p hp => ?_, fun p q hp hq he => hg.2 p q (rch_from hN hk hp) (rch_from hN hk hq) he⟩
  have hr := rch_from hN hk hp
  obtain ⟨h1, h2, h3, l, h4⟩ := hg.1 p hr
  have hne : p.1 ≠ k := fun he => hk p.2 (by rw [← he]; exact hr)
  exact ⟨h1, h2, h3, l, (hN _ _ hne).trans h4⟩
theorem deps_to (hN : ∀ p s, p ≠ k → N' p s = N p s) (hk : ∀ s, ¬ Rch N (k, s)) (hg : Q.Good N n stk) : deps N' n stk = deps N n stk := by
  have hg' := good_to hN hk hg
  unfold deps
  rw [if_pos hg, if_pos hg']
  refine List.map_congr_left (fun i _ => ?_)
  by_cases h : ∃ s, Rch N ((i : Int), s)
  · obtain ⟨s, hs⟩ := h
    rw [dep_some hg hs, dep_some hg' (rch_to hN hk hs)]
  · rw [dep_none h, dep_none (fun ⟨s, hs⟩ => h ⟨s, rch_from hN hk hs⟩)]
end
theorem rd32_set (fs : List S32) (m : Nat) (b : S32) (i : Int) (h : i.toNat ≠ m) : rd_T32 (fs.set m b) i = rd_T32 fs i := by
  unfold rd_T32
  rw [List.getD_eq_getElem?_getD, List.getD_eq_getElem?_getD, List.getElem?_set_ne (fun e => h e.symm)]
theorem rd32_at (fs : List S32) (m : Nat) (b : S32) (i : Int) (h : i.toNat = m) (hm : m < fs.length) : rd_T32 (fs.set m b) i = b := by
  unfold rd_T32
  rw [List.getD_eq_getElem?_getD, h, List.getElem?_set_self hm]
  rfl
theorem rd37_set (c : List S37) (m : Nat) (b : S37) (i : Int) (h : i.toNat ≠ m) : rd_T37 (c.set m b) i = rd_T37 c i := by
  unfold rd_T37
  rw [List.getD_eq_getElem?_getD, List.getD_eq_getElem?_getD, List.getElem?_set_ne (fun e => h e.symm)]
section
variable (fs : List S32) (ni nt : Nat) (a n : Int) (g : Int) (b : S32)
theorem f0_set (hg : 0 ≤ g) (hl : g < (fs.length : Int)) (h0 : b.f0 = (rd_T32 fs g).f0) (i : Int) (hi : 0 ≤ i) : (rd_T32 (fs.set g.toNat b) i).f0 = (rd_T32 fs i).f0 := by
  by_cases h : i.toNat = g.toNat
  · rw [rd32_at fs g.toNat b i h (by omega), h0]
    have : i = g := by omega
    rw [this]
  · rw [rd32_set fs _ b i h]
theorem okI_set (hg : 0 ≤ g) (hl : g < (fs.length : Int)) (h0 : b.f0 = (rd_T32 fs g).f0) (f f' : S32) (hf0 : f'.f0 = f.f0) (hf1 : f'.f1 = f.f1) (i : S37) : okI (fs.set g.toNat b) ni nt a n f' i = okI fs ni nt a n f i := by
  unfold okI
  rw [hf0, hf1, List.length_set]
  by_cases c8 : i.f0 = 11 ∧ 0 < i.f1
  · rw [f0_set fs g b hg hl h0 i.f1 (by omega)]
  · by_cases c9 : i.f0 = 11
    · have hd : decide (0 < i.f1) = false := decide_eq_false (fun h => c8 ⟨c9, h⟩)
      rw [hd, Bool.false_and, Bool.false_and]
    · simp only [if_neg c9]
theorem nx_set (hg : 0 ≤ g) (hl : g < (fs.length : Int)) (h0 : b.f0 = (rd_T32 fs g).f0) (f f' : S32) (hf0 : f'.f0 = f.f0) (hf1 : f'.f1 = f.f1) (hf3 : f'.f3.length = f.f3.length) (p : Int) (hp : 0 ≤ p → rd_T37 f'.f3 p = rd_T37 f.f3 p) (s : St) :
    nx (fs.set g.toNat b) ni nt a n f' p s = nx fs ni nt a n f p s := by
  unfold nx nx1
  rw [hf3]
  by_cases h : 0 ≤ p ∧ p < (f.f3.length : Int)
  · rw [if_pos h, if_pos h, hp h.1, okI_set fs ni nt a n g b hg hl h0 f f' hf0 hf1]
  · rw [if_neg h, if_neg h]
end
/-- Where the walk of a good function comes, the depth is no less than 0. -/
theorem rch_ok {fs : List S32} {ni nt : Nat} {a n : Int} {f : S32} (hf : OkBody f) (hg : Q.Good (nx fs ni nt a n f) f.f3.length f.f2) {p : Tg} (hr : Rch (nx fs ni nt a n f) p) : OkS p.2 := by
  have ho := hf
  obtain ⟨_, _, _, _, o5, o6, o7, o8, o9⟩ := ho
  have key : ∀ p : Tg, Rch (nx fs ni nt a n f) p → 0 ≤ p.2.d ∧ ∀ x ∈ p.2.m, 0 ≤ x.f1 ∧ x.f1 ≤ 60 := by
    intro p hr
    induction hr with
    | start => exact ⟨by decide, fun x hx => absurd hx (by simp [s0])⟩
    | @step p q l hp hl hq ih =>
      obtain ⟨g1, g2, g3, _⟩ := hg.1 p hp
      rw [nx_at g1 g2] at hl
      have := (nx1_ok (o9 _ (rd_37_mem _ g1 g2)) ⟨g1, by omega⟩ ⟨ih.1, by omega, ih.2⟩ hl).2 q hq
      exact ⟨this.2.2.2.1, this.2.2.2.2.2⟩
  obtain ⟨h1, h2⟩ := key p hr
  exact ⟨h1, by have := (hg.1 p hr).2.2.1; omega, h2⟩
theorem not_rch {fs : List S32} {ni nt : Nat} {a n : Int} {f : S32} (hf : OkBody f) (hg : Q.Good (nx fs ni nt a n f) f.f3.length f.f2) (k : Nat) (hk : k < f.f3.length) (hd : rd (deps (nx fs ni nt a n f) f.f3.length f.f2) (k : Int) < 0) (s : St) : ¬ Rch (nx fs ni nt a n f) ((k : Int), s) := by
  intro hr
  have h0 : 0 ≤ s.d := (rch_ok hf hg hr).1
  have hl : (List.range f.f3.length)[k]? = some k := by rw [List.getElem?_range hk]
  unfold deps at hd
  rw [if_pos hg] at hd
  unfold rd at hd
  rw [List.getD_eq_getElem?_getD, Int.toNat_natCast, List.getElem?_map, hl] at hd
  simp only [Option.map_some, Option.getD_some] at hd
  rw [dep_some hg hr] at hd
  omega
theorem depths_some {fs : List S32} {xs : List Int} {ts : List ByteArray} {a n : Int} (h : (depthsP fs xs ts a n).length ≠ 0) : mayP fs xs ts a = true ∧ (0 ≤ n ∧ n < (fs.length : Int)) ∧ GoodAt fs xs ts a n ∧ depthsP fs xs ts a n = deps (nxOf fs xs ts a n) (rd_T32 fs n).f3.length (rd_T32 fs n).f2 ∧ (depthsP fs xs ts a n).length = (rd_T32 fs n).f3.length := by
  unfold depthsP at h ⊢
  by_cases hm : mayP fs xs ts a = true ∧ 0 ≤ n ∧ n < (fs.length : Int)
  · rw [if_pos hm] at h ⊢
    by_cases hg : Q.Good (nxOf fs xs ts a n) (rd_T32 fs n).f3.length (rd_T32 fs n).f2
    · refine ⟨hm.1, hm.2, hg, rfl, ?_⟩
      unfold deps
      rw [if_pos hg, List.length_map, List.length_range]
    · rw [deps_bad hg] at h
      exact absurd rfl h
  · rw [if_neg hm] at h
    exact absurd rfl h
section
variable {fs : List S32} {xs : List Int} {ts : List ByteArray} {a n : Int} {i : S37} {k : Nat}
/-- The changed function. -/
def chg (fs : List S32) (n : Int) (k : Nat) (i : S37) : S32 := ⟨(rd_T32 fs n).f0, (rd_T32 fs n).f1, (rd_T32 fs n).f2, (rd_T32 fs n).f3.set k i⟩
theorem chg_at (h : 0 ≤ n ∧ n < (fs.length : Int)) : rd_T32 (fs.set n.toNat (chg fs n k i)) n = chg fs n k i := rd32_at _ _ _ _ rfl (by omega)
theorem may_chg (hm : mayP fs xs ts a = true) (h : 0 ≤ n ∧ n < (fs.length : Int)) (hi : instrOk i = true) : mayP (fs.set n.toNat (chg fs n k i)) xs ts a = true := by
  have hb : bodyOk (rd_T32 fs n) = true := by
    unfold mayP at hm
    rw [Bool.and_eq_true, Bool.and_eq_true] at hm
    exact List.all_eq_true.1 hm.2.1 _ (rd_32_mem n h.1 h.2)
  unfold mayP at hm ⊢
  rw [List.length_set]
  rw [Bool.and_eq_true, Bool.and_eq_true] at hm ⊢
  refine ⟨hm.1, List.all_eq_true.2 (fun f hf => ?_), hm.2.2⟩
  rcases List.mem_or_eq_of_mem_set hf with hf | rfl
  · exact List.all_eq_true.1 hm.2.1 f hf
  · unfold bodyOk at hb ⊢
    rw [Bool.and_eq_true] at hb ⊢
    refine ⟨?_, List.all_eq_true.2 (fun j hj => ?_)⟩
    · unfold chg
      rw [List.length_set]
      exact hb.1
    · rcases List.mem_or_eq_of_mem_set hj with hj | rfl
      · exact List.all_eq_true.1 hb.2 j hj
      · exact hi
theorem nx_chg (h : 0 ≤ n ∧ n < (fs.length : Int)) (p : Int) (s : St) (hp : p ≠ (k : Int)) : nxOf (fs.set n.toNat (chg fs n k i)) xs ts a n p s = nxOf fs xs ts a n p s := by
  unfold nxOf
  rw [chg_at h]
  exact nx_set fs _ _ a n n (chg fs n k i) h.1 h.2 rfl (rd_T32 fs n) (chg fs n k i) rfl rfl (by unfold chg; rw [List.length_set]) p (fun h0 => rd37_set _ _ _ _ (by omega)) s
theorem nx_other (h : 0 ≤ n ∧ n < (fs.length : Int)) (m : Nat) (hm : (m : Int) ≠ n) : nxOf (fs.set n.toNat (chg fs n k i)) xs ts a m = nxOf fs xs ts a m := by
  unfold nxOf
  rw [rd32_set fs _ _ _ (by omega)]
  funext p s
  exact nx_set fs _ _ a m n (chg fs n k i) h.1 h.2 rfl (rd_T32 fs m) (rd_T32 fs m) rfl rfl rfl p (fun _ => rfl) s
theorem depths_chg (hd : (depthsP fs xs ts a n).length ≠ 0) (hk : k < (depthsP fs xs ts a n).length) (hneg : rd (depthsP fs xs ts a n) (k : Int) < 0) (hi : instrOk i = true) : depthsP (fs.set n.toNat (chg fs n k i)) xs ts a n = depthsP fs xs ts a n ∧ codeP (fs.set n.toNat (chg fs n k i)) xs ts a = codeP fs xs ts a := by
  obtain ⟨hm, h, hg, he, hl⟩ := depths_some hd
  have hm' : mayP (fs.set n.toNat (chg fs n k i)) xs ts a = true := may_chg hm h hi
  have hof := may_body hm h.1 h.2
  have hN : ∀ p s, p ≠ (k : Int) → nxOf (fs.set n.toNat (chg fs n k i)) xs ts a n p s = nxOf fs xs ts a n p s := fun p s hp => nx_chg h p s hp
  have hnr : ∀ s, ¬ Rch (nxOf fs xs ts a n) ((k : Int), s) := not_rch hof hg k (by omega) (by rw [he] at hneg; exact hneg)
  have l1 : (rd_T32 (fs.set n.toNat (chg fs n k i)) n).f3.length = (rd_T32 fs n).f3.length := by rw [chg_at h]; unfold chg; rw [List.length_set]
  have l2 : (rd_T32 (fs.set n.toNat (chg fs n k i)) n).f2 = (rd_T32 fs n).f2 := by rw [chg_at h]; rfl
  refine ⟨?_, ?_⟩
  · rw [he]
    unfold depthsP
    rw [if_pos ⟨hm', h.1, by rw [List.length_set]; exact h.2⟩, l1, l2]
    exact deps_to hN hnr hg
  · have hgs : (∀ m : Nat, m < (fs.set n.toNat (chg fs n k i)).length → GoodAt (fs.set n.toNat (chg fs n k i)) xs ts a (m : Int)) ↔ ∀ m : Nat, m < fs.length → GoodAt fs xs ts a (m : Int) := by
      rw [List.length_set]
      have key : ∀ m : Nat, m < fs.length → (GoodAt (fs.set n.toNat (chg fs n k i)) xs ts a (m : Int) ↔ GoodAt fs xs ts a (m : Int)) := by
        intro m hml
        by_cases hmn : (m : Int) = n
        · rw [hmn]
          refine ⟨fun _ => hg, fun _ => ?_⟩
          unfold GoodAt
          rw [l1, l2]
          exact good_to hN hnr hg
        · unfold GoodAt
          rw [nx_other h m hmn, rd32_set fs _ _ _ (by omega)]
      exact ⟨fun hh m hml => (key m hml).1 (hh m hml), fun hh m hml => (key m hml).2 (hh m hml)⟩
    unfold codeP
    rw [if_pos hm, if_pos hm']
    by_cases hh : ∀ m : Nat, m < fs.length → GoodAt fs xs ts a (m : Int)
    · rw [if_pos hh, if_pos (hgs.2 hh)]
    · rw [if_neg hh, if_neg (fun h2 => hh (hgs.1 h2))]
end
theorem code_sized {fs : List S32} {xs : List Int} {ts : List ByteArray} {a : Int} (h : Sized fs) : verify_Code.f fs xs ts a = some (codeP fs xs ts a) := by
  unfold verify_Code.f
  rw [if_pos h]
theorem depths_sized {fs : List S32} {xs : List Int} {ts : List ByteArray} {a n : Int} (h : Sized fs) : verify_Depths.f fs xs ts a n = some (depthsP fs xs ts a n) := by
  unfold verify_Depths.f
  rw [if_pos h]
theorem few_sized {r : List S32 × List Int × List ByteArray × Int} (h : Few r) : Sized r.1 := ⟨by have := h.1; omega, fun f hf => by have := h.2.1 f hf; omega⟩
theorem lives_now : Ev (fun _ => (selvagelaw14_lives.f).bind fun t => some t) true := Ev.now _
theorem rd_nat (x : List Int) (i : Nat) (h : i < x.length) : rd x (i : Int) = x[i] := by
  unfold rd
  rw [Int.toNat_natCast, List.getD_eq_getElem?_getD, List.getElem?_eq_getElem h]
  rfl
theorem same_eq (x : List Int) (hx : x.length ≤ 1000000) : Ev (fun k => selvageref02_SameInts.f k x x) true := by
  have key : ∀ d i, i + d = x.length → Ev (fun k => selvageref02_SameInts.l0 k x x (i : Int)) true := by
    intro d
    induction d with
    | zero =>
      intro i hi
      exact Ev.step (f := fun _ => some true) (fun k => by rw [selvageref02_SameInts.l0, if_neg (by omega)]) (Ev.now _)
    | succ d ih =>
      intro i hi
      have e := wn ((i : Int) + 1) (i + 1) (by omega) (by omega)
      refine Ev.step (f := fun k => selvageref02_SameInts.l0 k x x ((i + 1 : Nat) : Int)) (fun k => ?_) (ih (i + 1) (by omega))
      rw [selvageref02_SameInts.l0, if_pos (by omega), if_pos (by omega), if_pos (by omega)]
      rw [if_pos rfl, e]
  refine Ev.congr (f := fun k => selvageref02_SameInts.l0 k x x ((0 : Nat) : Int)) (fun k => ?_) (key x.length 0 (by omega))
  unfold selvageref02_SameInts.f
  rw [if_pos rfl]
  rfl
theorem behind_j0_true (x1 x2 : Int) (d : List Int) (fs : List S32) (xs : List Int) (ts : List ByteArray) (a i0 i1 i2 : Int) : Ev (fun k => selvagelaw14_VerifyBehind.j0 k x1 x2 d true fs xs ts a i0 i1 i2) true :=
  Ev.step (f := fun _ => (selvagelaw14_lives.f).bind fun t => some t) (fun k => by rw [selvagelaw14_VerifyBehind.j0, if_pos rfl]) lives_now
theorem behind_j1 (n at_ : Int) (fs : List S32) (xs : List Int) (ts : List ByteArray) (a : Int) (i : S37) (hf : Few (fs, xs, ts, a)) (hi : instrOk i = true) (h0 : 0 ≤ at_) (hd : (depthsP fs xs ts a n).length ≠ 0) : Ev (fun k => selvagelaw14_VerifyBehind.j1 k n at_ (depthsP fs xs ts a n) fs xs ts a i.f0 i.f1 i.f2) true := by
  have hsz : Sized fs := few_sized hf
  obtain ⟨hm, h, hg, he, hl⟩ := depths_some hd
  have hlt : Int.tmod at_ ((depthsP fs xs ts a n).length : Int) < ((depthsP fs xs ts a n).length : Int) := Int.tmod_lt_of_pos _ (by omega)
  have hge : 0 ≤ Int.tmod at_ ((depthsP fs xs ts a n).length : Int) := Int.tmod_nonneg _ h0
  obtain ⟨k, hk⟩ : ∃ k : Nat, Int.tmod at_ ((depthsP fs xs ts a n).length : Int) = (k : Int) := ⟨_, (Int.toNat_of_nonneg hge).symm⟩
  rw [hk] at hlt
  by_cases hneg : rd (depthsP fs xs ts a n) (k : Int) ≥ 0
  · refine Ev.step (f := fun _ => (selvagelaw14_lives.f).bind fun t => some t) (fun q => ?_) lives_now
    rw [selvagelaw14_VerifyBehind.j1, hk, if_neg (by omega), if_pos (by omega), if_pos (by omega), if_pos hneg]
  · obtain ⟨e1, e2⟩ := depths_chg (i := i) (k := k) hd (by omega) (by omega) hi
    have hsz2 : Sized (fs.set n.toNat (chg fs n k i)) := by
      refine ⟨by rw [List.length_set]; exact hsz.1, fun f hfm => ?_⟩
      rcases List.mem_or_eq_of_mem_set hfm with hfm | rfl
      · exact hsz.2 f hfm
      · unfold chg
        rw [List.length_set]
        exact hsz.2 _ (rd_32_mem n h.1 h.2)
    refine Ev.step (f := fun q => (selvageref02_SameInts.f q (depthsP fs xs ts a n) (depthsP fs xs ts a n)).bind fun t => if t = true then some true else some false) (fun q => ?_) (Ev.bind (same_eq _ ?_) (Ev.now _))
    · rw [selvagelaw14_VerifyBehind.j1, hk, if_neg (by omega), if_pos (by omega), if_pos (by omega), if_neg hneg, code_sized hsz, Option.bind_some, if_pos h.1, if_pos h.2, if_pos (by omega), Option.bind_some]
      have hc : (fs.set (n : Int).toNat (⟨(rd_T32 fs n).f0, (rd_T32 fs n).f1, (rd_T32 fs n).f2, (((rd_T32 fs n).f3).set ((k : Int)).toNat (⟨i.f0, i.f1, i.f2⟩ : S37))⟩ : S32) : List (S32)) = fs.set n.toNat (chg fs n k i) := rfl
      rw [hc, depths_sized hsz2, Option.bind_some, e1, code_sized hsz2, e2]
      simp only [Option.bind_some, if_true, selvagelaw14_lives.f]
    · have := hsz.2 _ (rd_32_mem n h.1 h.2)
      omega
theorem int_wf {a : Int} (h : (Lit.int .i64 a).wf = true) : -9223372036854775808 ≤ a ∧ a ≤ 9223372036854775807 := by
  simp [Lit.wf, IntKind.min, IntKind.max, IntKind.signed, IntKind.bits] at h
  omega
theorem VerifyBehind (l0 : List S32) (l1 : List Int) (l2 : List ByteArray) (a3 a1 a2 i0 i1 i2 : Int) {P : Prop} (_ : P) (w2_ : (Lit.int .i64 a2).wf = true) : ∃ k, selvagelaw14_VerifyBehind.f k l0 l1 l2 a3 a1 a2 i0 i1 i2 = some true := by
  have w2 := int_wf w2_
  refine Ev.rounds (g := fun k => selvagelaw14_VerifyBehind.f k l0 l1 l2 a3 a1 a2 i0 i1 i2) ?_
  unfold selvagelaw14_VerifyBehind.f
  obtain ⟨⟨fs, xs, ts, a⟩, hr, hf⟩ := cut_ev l0 l1 l2 a3
  have hsz : Sized fs := few_sized hf
  refine Ev.bind hr (Ev.bind (instr_ev ⟨i0, i1, i2⟩) ?_)
  refine Ev.congr (f := fun k => if instrOk ⟨i0, i1, i2⟩ = true then selvagelaw14_VerifyBehind.j0 k a1 a2 (depthsP fs xs ts a a1) (((depthsP fs xs ts a a1).length : Int) == 0) fs xs ts a i0 i1 i2 else selvagelaw14_VerifyBehind.j0 k a1 a2 (depthsP fs xs ts a a1) true fs xs ts a i0 i1 i2) (fun k => by rw [depths_sized hsz, Option.bind_some]) ?_
  by_cases hi : instrOk ⟨i0, i1, i2⟩ = true
  · refine Ev.congr (fun k => if_pos hi) ?_
    by_cases hd : (depthsP fs xs ts a a1).length = 0
    · have hb : (((depthsP fs xs ts a a1).length : Int) == 0) = true := by rw [hd]; rfl
      rw [hb]
      exact behind_j0_true _ _ _ _ _ _ _ _ _ _
    · have hb : (((depthsP fs xs ts a a1).length : Int) == 0) = false := by simpa using hd
      rw [hb]
      by_cases hn : a2 < 0
      · have e1 : wrap64 (a2 + 1) = a2 + 1 := w64 _ (by omega) (by omega)
        have e2 : wrap64 (-(a2 + 1)) = -(a2 + 1) := w64 _ (by omega) (by omega)
        exact Ev.step (fun k => by rw [selvagelaw14_VerifyBehind.j0, if_neg (by decide), if_pos hn, e1, e2]) (behind_j1 a1 _ fs xs ts a ⟨i0, i1, i2⟩ hf hi (by omega) hd)
      · exact Ev.step (fun k => by rw [selvagelaw14_VerifyBehind.j0, if_neg (by decide), if_neg hn]) (behind_j1 a1 _ fs xs ts a ⟨i0, i1, i2⟩ hf hi (by omega) hd)
  · refine Ev.congr (fun k => if_neg hi) ?_
    exact behind_j0_true _ _ _ _ _ _ _ _ _ _
end Go.Proofs.Ytnhipgmphhndhaa.Pure
