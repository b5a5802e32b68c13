import Derived.Test.YtnhipgmphhndhaaQx0
namespace Go.Proofs.Ytnhipgmphhndhaa.Q
open Go.RowKit Go.Proofs.YtnhipgmphhndhaaW.PrintWords Go.Proofs.YtnhipgmphhndhaaW.PrintLast Go.Proofs.YtnhipgmphhndhaaW.PrintMore
set_option linter.unusedVariables false
set_option linter.unusedSimpArgs false
set_option linter.unusedSectionVars false
/-! ### a walk through a function, in plain words -/
/-- A depth, marks. -/
structure St where
  d : Int
  m : List S89
abbrev Tg := Int × St
def s0 : St := ⟨0, []⟩
/-- Where an instruction goes with a state, and with which states. -/
abbrev Nx := Int → St → Option (List Tg)
/-- What is reached. -/
inductive Rch (N : Nx) : Tg → Prop
  | start : Rch N (0, s0)
  | step {p q : Tg} {l : List Tg} : Rch N p → N p.1 p.2 = some l → q ∈ l → Rch N q
/-- It holds together. -/
def Good (N : Nx) (n : Nat) (stk : Int) : Prop :=
  (∀ p, Rch N p → 0 ≤ p.1 ∧ p.1 < (n : Int) ∧ p.2.d ≤ stk ∧ ∃ l, N p.1 p.2 = some l) ∧ ∀ p q, Rch N p → Rch N q → p.1 = q.1 → p.2 = q.2
open Classical in
noncomputable def dep (N : Nx) (i : Nat) : Int := if h : ∃ s, Rch N ((i : Int), s) then h.choose.d else -1
open Classical in
noncomputable def deps (N : Nx) (n : Nat) (stk : Int) : List Int := if Good N n stk then (List.range n).map (dep N) else []
def dOf : Option St → Int
  | none => -1
  | some s => s.d
section
variable {N : Nx} {n : Nat} {stk : Int} {hs hs' : List (Option St)} {l l' : List Tg} {t q : Tg} {s : St}
theorem deps_bad (h : ¬ Good N n stk) : deps N n stk = [] := by unfold deps; rw [if_neg h]
theorem dep_some (h : Good N n stk) {i : Nat} {s : St} (hr : Rch N ((i : Int), s)) : dep N i = s.d := by
  unfold dep
  have he : ∃ s, Rch N ((i : Int), s) := ⟨s, hr⟩
  rw [dif_pos he]
  have := h.2 _ _ he.choose_spec hr rfl
  show he.choose.d = s.d
  exact congrArg St.d this
theorem dep_none {i : Nat} (h : ¬ ∃ s, Rch N ((i : Int), s)) : dep N i = -1 := by
  unfold dep
  rw [dif_neg h]
/-- What is closed under the walk is all that is reached. -/
theorem closed_all (hc : ∀ (i : Nat) s, hs[i]? = some (some s) → s.d ≤ stk ∧ ∃ l, N (i : Int) s = some l ∧ ∀ q ∈ l, 0 ≤ q.1 ∧ hs[q.1.toNat]? = some (some q.2)) (h0 : hs[0]? = some (some s0)) (p : Tg) (hp : Rch N p) :
    0 ≤ p.1 ∧ hs[p.1.toNat]? = some (some p.2) := by
  induction hp with
  | start => exact ⟨Int.le_refl _, h0⟩
  | @step p q l hp hl hq ih =>
    obtain ⟨ih0, ih1⟩ := ih
    obtain ⟨_, l', hl', hx⟩ := hc _ _ ih1
    rw [Int.toNat_of_nonneg ih0, hl] at hl'
    obtain rfl := Option.some.inj hl'
    exact hx q hq
theorem closed_good (hl : hs.length = n) (hr : ∀ (i : Nat) s, hs[i]? = some (some s) → Rch N ((i : Int), s)) (h0 : hs[0]? = some (some s0))
    (hc : ∀ (i : Nat) s, hs[i]? = some (some s) → s.d ≤ stk ∧ ∃ l, N (i : Int) s = some l ∧ ∀ q ∈ l, 0 ≤ q.1 ∧ hs[q.1.toNat]? = some (some q.2)) : Good N n stk ∧ deps N n stk = hs.map dOf := by
  have ha := closed_all hc h0
  have hg : Good N n stk := by
    refine ⟨fun p hp => ?_, fun p q hp hq he => ?_⟩
    · obtain ⟨h1, h2⟩ := ha p hp
      obtain ⟨h3, l, hN, _⟩ := hc _ _ h2
      have h4 : p.1.toNat < hs.length := (List.getElem?_eq_some_iff.1 h2).1
      rw [Int.toNat_of_nonneg h1] at hN
      exact ⟨h1, by omega, h3, l, hN⟩
    · have h1 := (ha p hp).2
      have h2 := (ha q hq).2
      rw [he, h2] at h1
      exact (Option.some.inj (Option.some.inj h1)).symm
  refine ⟨hg, ?_⟩
  unfold deps
  rw [if_pos hg]
  apply List.ext_getElem?
  intro i
  rw [List.getElem?_map, List.getElem?_map]
  by_cases hi : i < n
  · rw [List.getElem?_range hi, List.getElem?_eq_getElem (by omega : i < hs.length)]
    simp only [Option.map_some]
    congr 1
    cases hx : hs[i]'(by omega) with
    | none =>
      refine dep_none ?_
      rintro ⟨s, hs1⟩
      have h2 := (ha _ hs1).2
      simp only [Int.toNat_natCast] at h2
      rw [List.getElem?_eq_getElem (by omega : i < hs.length), hx] at h2
      exact absurd (Option.some.inj h2) (by simp)
    | some s => exact dep_some hg (hr i s (by rw [List.getElem?_eq_getElem (by omega : i < hs.length), hx]))
  · rw [List.getElem?_eq_none (by simpa using hi), List.getElem?_eq_none (by omega)]
    rfl
/-! ### the program's walk: what has been reached, what is still to do -/
/-- How many are reached. -/
def cnt (hs : List (Option St)) : Nat := (hs.filter Option.isSome).length
theorem cnt_le (hs : List (Option St)) : cnt hs ≤ hs.length := List.length_filter_le _ _
theorem cnt_set : ∀ (hs : List (Option St)) (i : Nat) (s : St), hs[i]? = some none → cnt (hs.set i (some s)) = cnt hs + 1
  | [], i, s, h => by simp at h
  | x :: hs, 0, s, h => by
    obtain rfl : x = none := by simpa using h
    simp [cnt]
  | x :: hs, i + 1, s, h => by
    have ih := cnt_set hs i s (by simpa using h)
    unfold cnt at ih ⊢
    rw [List.set_cons_succ, List.filter_cons, List.filter_cons]
    cases x <;> simp [ih]
structure Inv (N : Nx) (n : Nat) (stk : Int) (hs : List (Option St)) (l : List Tg) : Prop where
  len : hs.length = n
  had : ∀ (i : Nat) s, hs[i]? = some (some s) → Rch N ((i : Int), s) ∧ s.d ≤ stk ∧ ∃ l', N (i : Int) s = some l' ∧ ∀ q ∈ l', 0 ≤ q.1 ∧ (hs[q.1.toNat]? = some (some q.2) ∨ q ∈ l)
  work : ∀ q ∈ l, Rch N q ∧ 0 ≤ q.1 ∧ q.2.m.length ≤ cnt hs
  start : hs[0]? = some (some s0) ∨ (0, s0) ∈ l
theorem Inv.init (n : Nat) (stk : Int) : Inv N n stk (List.replicate n none) [(0, s0)] := by
  refine ⟨List.length_replicate, fun i s h => ?_, fun q hq => ?_, .inr (List.mem_singleton.2 rfl)⟩
  · rw [List.getElem?_replicate] at h
    split at h <;> simp at h
  · obtain rfl := List.mem_singleton.1 hq
    exact ⟨.start, Int.le_refl _, Nat.zero_le _⟩
theorem Inv.done (h : Inv N n stk hs []) : Good N n stk ∧ deps N n stk = hs.map dOf := by
  refine closed_good h.len (fun i s hi => (h.had i s hi).1) (h.start.resolve_right (by simp)) (fun i s hi => ?_)
  obtain ⟨_, h2, l', h3, h4⟩ := h.had i s hi
  exact ⟨h2, l', h3, fun q hq => ⟨(h4 q hq).1, (h4 q hq).2.resolve_right (by simp)⟩⟩
theorem Inv.bad (h : Inv N n stk hs (l ++ [t])) (hb : (n : Int) ≤ t.1 ∨ stk < t.2.d) : ¬ Good N n stk := by
  intro hg
  obtain ⟨h1, _, _⟩ := h.work t (by simp)
  obtain ⟨h2, h3, h4, _⟩ := hg.1 t h1
  rcases hb with hb | hb <;> omega
theorem Inv.none_ (h : Inv N n stk hs (l ++ [t])) (hb : N t.1 t.2 = none) : ¬ Good N n stk := by
  intro hg
  obtain ⟨h1, _, _⟩ := h.work t (by simp)
  obtain ⟨_, _, _, l, h4⟩ := hg.1 t h1
  rw [hb] at h4
  exact absurd h4 (by simp)
theorem Inv.diff (h : Inv N n stk hs (l ++ [t])) (hb : hs[t.1.toNat]? = some (some s)) (hne : s ≠ t.2) : ¬ Good N n stk := by
  intro hg
  obtain ⟨h1, h0, _⟩ := h.work t (by simp)
  have h2 := (h.had _ _ hb).1
  exact hne (hg.2 _ _ h2 h1 (Int.toNat_of_nonneg h0))
theorem Inv.same (h : Inv N n stk hs (l ++ [t])) (hb : hs[t.1.toNat]? = some (some t.2)) : Inv N n stk hs l := by
  refine ⟨h.len, fun i s hi => ?_, fun q hq => h.work q (List.mem_append_left _ hq), ?_⟩
  · obtain ⟨h1, h2, l', h3, h4⟩ := h.had i s hi
    refine ⟨h1, h2, l', h3, fun q hq => ⟨(h4 q hq).1, ?_⟩⟩
    rcases (h4 q hq).2 with h5 | h5
    · exact .inl h5
    · rcases List.mem_append.1 h5 with h5 | h5
      · exact .inr h5
      · obtain rfl := List.mem_singleton.1 h5
        exact .inl hb
  · rcases h.start with h5 | h5
    · exact .inl h5
    · rcases List.mem_append.1 h5 with h5 | h5
      · exact .inr h5
      · rw [← List.mem_singleton.1 h5] at hb
        exact .inl hb
theorem Inv.set_ (h : Inv N n stk hs (l ++ [t])) (hb : hs[t.1.toNat]? = some none) (hd : t.2.d ≤ stk) (hN : N t.1 t.2 = some l') (hl' : ∀ q ∈ l', 0 ≤ q.1 ∧ q.2.m.length ≤ t.2.m.length + 1) :
    Inv N n stk (hs.set t.1.toNat (some t.2)) (l ++ l') := by
  obtain ⟨w1, w2, w3⟩ := h.work t (by simp)
  have hlt : t.1.toNat < hs.length := (List.getElem?_eq_some_iff.1 hb).1
  have hself : (hs.set t.1.toNat (some t.2))[t.1.toNat]? = some (some t.2) := List.getElem?_set_self hlt
  have hold : ∀ (i : Nat) s, hs[i]? = some (some s) → (hs.set t.1.toNat (some t.2))[i]? = some (some s) := fun i s hi => by
    rw [List.getElem?_set_ne (by rintro rfl; rw [hb] at hi; exact absurd (Option.some.inj hi) (by simp)), hi]
  have hc := cnt_set hs _ t.2 hb
  refine ⟨by rw [List.length_set]; exact h.len, fun i s hi => ?_, fun q hq => ?_, ?_⟩
  · by_cases he : t.1.toNat = i
    · subst he
      rw [hself] at hi
      obtain rfl := Option.some.inj (Option.some.inj hi)
      rw [Int.toNat_of_nonneg w2]
      exact ⟨w1, hd, l', hN, fun q hq => ⟨(hl' q hq).1, .inr (List.mem_append_right _ hq)⟩⟩
    · rw [List.getElem?_set_ne he] at hi
      obtain ⟨h1, h2, l2, h3, h4⟩ := h.had i s hi
      refine ⟨h1, h2, l2, h3, fun q hq => ⟨(h4 q hq).1, ?_⟩⟩
      rcases (h4 q hq).2 with h5 | h5
      · exact .inl (hold _ _ h5)
      · rcases List.mem_append.1 h5 with h5 | h5
        · exact .inr (List.mem_append_left _ h5)
        · obtain rfl := List.mem_singleton.1 h5
          exact .inl hself
  · rcases List.mem_append.1 hq with hq | hq
    · obtain ⟨h1, h2, h3⟩ := h.work q (List.mem_append_left _ hq)
      exact ⟨h1, h2, by omega⟩
    · exact ⟨.step w1 hN hq, (hl' q hq).1, by have := (hl' q hq).2; omega⟩
  · rcases h.start with h5 | h5
    · exact .inl (hold _ _ h5)
    · rcases List.mem_append.1 h5 with h5 | h5
      · exact .inr (List.mem_append_left _ h5)
      · rw [← List.mem_singleton.1 h5] at hself ⊢
        exact .inl hself
/-! ### the document's walk: states are handed on -/
/-- States have been handed on to where they belong. -/
structure Up (stk : Int) (hs : List (Option St)) (l : List Tg) (hs' : List (Option St)) : Prop where
  len : hs'.length = hs.length
  old : ∀ (i : Nat) s, hs[i]? = some (some s) → hs'[i]? = some (some s)
  got : ∀ q ∈ l, hs'[q.1.toNat]? = some (some q.2) ∧ q.2.d ≤ stk
  new : ∀ (i : Nat) s, hs'[i]? = some (some s) → hs[i]? = some (some s) ∨ ∃ q ∈ l, q.1.toNat = i ∧ q.2 = s
/-- A state can't be handed on. -/
def Clash (n : Nat) (stk : Int) (hs : List (Option St)) (l : List Tg) : Prop :=
  ∃ q ∈ l, (n : Int) ≤ q.1 ∨ stk < q.2.d ∨ ∃ s, s ≠ q.2 ∧ (hs[q.1.toNat]? = some (some s) ∨ ∃ p ∈ l, p.1.toNat = q.1.toNat ∧ p.2 = s)
theorem Up.nil (stk : Int) (hs : List (Option St)) : Up stk hs [] hs := ⟨rfl, fun _ _ h => h, fun _ h => absurd h (by simp), fun _ _ h => .inl h⟩
theorem Up.one (hlt : q.1.toNat < hs.length) (hd : q.2.d ≤ stk) (hx : hs[q.1.toNat]? = some none ∨ hs[q.1.toNat]? = some (some q.2)) : Up stk hs [q] (hs.set q.1.toNat (some q.2)) := by
  have hself : (hs.set q.1.toNat (some q.2))[q.1.toNat]? = some (some q.2) := List.getElem?_set_self hlt
  refine ⟨List.length_set, fun i s hi => ?_, fun p hp => ?_, fun i s hi => ?_⟩
  · by_cases he : q.1.toNat = i
    · subst he
      rcases hx with hx | hx
      · rw [hx] at hi; exact absurd (Option.some.inj hi) (by simp)
      · rw [hself, ← hx, hi]
    · rw [List.getElem?_set_ne he, hi]
  · obtain rfl := List.mem_singleton.1 hp
    exact ⟨hself, hd⟩
  · by_cases he : q.1.toNat = i
    · subst he
      rw [hself] at hi
      exact .inr ⟨q, List.mem_singleton.2 rfl, rfl, Option.some.inj (Option.some.inj hi)⟩
    · rw [List.getElem?_set_ne he] at hi
      exact .inl hi
theorem Up.trans {hs2 : List (Option St)} (h : Up stk hs l hs') (k : Up stk hs' l' hs2) : Up stk hs (l ++ l') hs2 := by
  refine ⟨k.len.trans h.len, fun i s hi => k.old i s (h.old i s hi), fun q hq => ?_, fun i s hi => ?_⟩
  · rcases List.mem_append.1 hq with hq | hq
    · exact ⟨k.old _ _ (h.got q hq).1, (h.got q hq).2⟩
    · exact k.got q hq
  · rcases k.new i s hi with h1 | ⟨q, hq, h1⟩
    · rcases h.new i s h1 with h2 | ⟨q, hq, h2⟩
      · exact .inl h2
      · exact .inr ⟨q, List.mem_append_left _ hq, h2⟩
    · exact .inr ⟨q, List.mem_append_right _ hq, h1⟩
theorem Up.perm {l2 : List Tg} (h : Up stk hs l hs') (hp : ∀ q, q ∈ l ↔ q ∈ l2) : Up stk hs l2 hs' :=
  ⟨h.len, h.old, fun q hq => h.got q ((hp q).2 hq), fun i s hi => (h.new i s hi).imp id (fun ⟨q, hq, h1⟩ => ⟨q, (hp q).1 hq, h1⟩)⟩
theorem Clash.more {l2 : List Tg} (h : Clash n stk hs l) (hp : ∀ q ∈ l, q ∈ l2) : Clash n stk hs l2 := by
  obtain ⟨q, hq, h1⟩ := h
  refine ⟨q, hp q hq, h1.imp id (fun h2 => h2.imp id (fun ⟨s, hs, h3⟩ => ⟨s, hs, h3.imp id (fun ⟨p, hp', h4⟩ => ⟨p, hp p hp', h4⟩)⟩))⟩
/-- Behind a state that has been handed on the next one can't be. -/
theorem Clash.after (h : Up stk hs l hs') (k : Clash n stk hs' l') : Clash n stk hs (l ++ l') := by
  obtain ⟨q, hq, h1⟩ := k
  refine ⟨q, List.mem_append_right _ hq, h1.imp id (fun h2 => h2.imp id (fun ⟨s, hs1, h3⟩ => ⟨s, hs1, ?_⟩))⟩
  rcases h3 with h3 | ⟨p, hp, h3⟩
  · rcases h.new _ _ h3 with h4 | ⟨p, hp, h4⟩
    · exact .inl h4
    · exact .inr ⟨p, List.mem_append_left _ hp, h4⟩
  · exact .inr ⟨p, List.mem_append_right _ hp, h3⟩
def cntB (ds : List Bool) : Nat := (ds.filter id).length
theorem cntB_le (ds : List Bool) : cntB ds ≤ ds.length := List.length_filter_le _ _
theorem cntB_set : ∀ (ds : List Bool) (i : Nat), ds[i]? = some false → cntB (ds.set i true) = cntB ds + 1
  | [], i, h => by simp at h
  | x :: ds, 0, h => by
    obtain rfl : x = false := by simpa using h
    simp [cntB]
  | x :: ds, i + 1, h => by
    have ih := cntB_set ds i (by simpa using h)
    unfold cntB at ih ⊢
    rw [List.set_cons_succ, List.filter_cons, List.filter_cons]
    cases x <;> simp [ih]
structure InvR (N : Nx) (n : Nat) (stk : Int) (hs : List (Option St)) (ds : List Bool) : Prop where
  len : hs.length = n
  dlen : ds.length = n
  had : ∀ (i : Nat) s, hs[i]? = some (some s) → Rch N ((i : Int), s) ∧ s.d ≤ stk ∧ s.m.length ≤ cntB ds
  fin : ∀ i : Nat, ds[i]? = some true → ∃ s l', hs[i]? = some (some s) ∧ N (i : Int) s = some l' ∧ ∀ q ∈ l', 0 ≤ q.1 ∧ hs[q.1.toNat]? = some (some q.2)
  start : hs[0]? = some (some s0)
theorem InvR.init (n : Nat) (hn : 0 < n) (stk : Int) (h0 : 0 ≤ stk) : InvR N n stk ((List.replicate n none).set 0 (some s0)) (List.replicate n false) := by
  refine ⟨by simp, by simp, fun i s h => ?_, fun i h => ?_, List.getElem?_set_self (by simpa using hn)⟩
  · by_cases he : 0 = i
    · subst he
      rw [List.getElem?_set_self (by simpa using hn)] at h
      obtain rfl := Option.some.inj (Option.some.inj h)
      exact ⟨.start, h0, Nat.zero_le _⟩
    · rw [List.getElem?_set_ne he, List.getElem?_replicate] at h
      split at h <;> simp at h
  · rw [List.getElem?_replicate] at h
    split at h <;> simp at h
theorem InvR.done {ds : List Bool} (h : InvR N n stk hs ds) (hd : ∀ (i : Nat) s, hs[i]? = some (some s) → ds[i]? = some true) : Good N n stk ∧ deps N n stk = hs.map dOf := by
  refine closed_good h.len (fun i s hi => (h.had i s hi).1) h.start (fun i s hi => ?_)
  obtain ⟨_, h2, _⟩ := h.had i s hi
  obtain ⟨s', l', h3, h4, h5⟩ := h.fin i (hd i s hi)
  rw [hi] at h3
  obtain rfl := Option.some.inj (Option.some.inj h3)
  exact ⟨h2, l', h4, h5⟩
theorem InvR.none_ {ds : List Bool} (h : InvR N n stk hs ds) {i : Nat} (hi : hs[i]? = some (some s)) (hb : N (i : Int) s = none) : ¬ Good N n stk := by
  intro hg
  obtain ⟨_, _, _, l, h4⟩ := hg.1 _ (h.had i s hi).1
  exact absurd (h4.symm.trans hb) (by simp)
theorem InvR.clash {ds : List Bool} (h : InvR N n stk hs ds) {i : Nat} (hi : hs[i]? = some (some s)) (hN : N (i : Int) s = some l) (hl : ∀ q ∈ l, 0 ≤ q.1) (hb : Clash n stk hs l) : ¬ Good N n stk := by
  intro hg
  have hr := (h.had i s hi).1
  have hR : ∀ q ∈ l, Rch N q := fun q hq => .step hr hN hq
  obtain ⟨q, hq, h1⟩ := hb
  obtain ⟨g1, g2, g3, _⟩ := hg.1 q (hR q hq)
  rcases h1 with h1 | h1 | ⟨s', hs', h1⟩
  · omega
  · omega
  · rcases h1 with h1 | ⟨p, hp, h1, h2⟩
    · exact hs' (hg.2 _ q (h.had _ _ h1).1 (hR q hq) (Int.toNat_of_nonneg g1))
    · subst h2
      have := hl p hp
      exact hs' (hg.2 p q (hR p hp) (hR q hq) (by omega))
theorem InvR.step {ds : List Bool} (h : InvR N n stk hs ds) {i : Nat} (hi : hs[i]? = some (some s)) (hd : ds[i]? = some false) (hN : N (i : Int) s = some l) (hl : ∀ q ∈ l, 0 ≤ q.1 ∧ q.2.m.length ≤ s.m.length + 1) (hu : Up stk hs l hs') :
    InvR N n stk hs' (ds.set i true) := by
  have hc := cntB_set ds i hd
  have hlt : i < ds.length := (List.getElem?_eq_some_iff.1 hd).1
  obtain ⟨r1, r2, r3⟩ := h.had i s hi
  refine ⟨hu.len.trans h.len, by rw [List.length_set]; exact h.dlen, fun j s' hj => ?_, fun j hj => ?_, hu.old _ _ h.start⟩
  · rcases hu.new j s' hj with h1 | ⟨q, hq, rfl, rfl⟩
    · obtain ⟨a, b, c⟩ := h.had j s' h1
      exact ⟨a, b, by omega⟩
    · rw [Int.toNat_of_nonneg (hl q hq).1]
      exact ⟨.step r1 hN hq, (hu.got q hq).2, by have := (hl q hq).2; omega⟩
  · by_cases he : i = j
    · subst he
      exact ⟨s, l, hu.old _ _ hi, hN, fun q hq => ⟨(hl q hq).1, (hu.got q hq).1⟩⟩
    · rw [List.getElem?_set_ne he] at hj
      obtain ⟨s', l', h1, h2, h3⟩ := h.fin j hj
      exact ⟨s', l', hu.old _ _ h1, h2, fun q hq => ⟨(h3 q hq).1, hu.old _ _ (h3 q hq).2⟩⟩
end
end Go.Proofs.Ytnhipgmphhndhaa.Q
