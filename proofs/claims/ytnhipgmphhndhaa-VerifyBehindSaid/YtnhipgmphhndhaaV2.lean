import Derived.Test.YtnhipgmphhndhaaV1
namespace Go.Proofs.Ytnhipgmphhndhaa.Q
open Go.RowKit Go.Proofs.YtnhipgmphhndhaaW.PrintWords Go.Proofs.YtnhipgmphhndhaaW.PrintLast Go.Proofs.YtnhipgmphhndhaaW.PrintMore
set_option linter.unusedVariables false
set_option linter.unusedSectionVars false
set_option linter.unusedSimpArgs false
/-! ### what an instruction asks for, and does -/
/-- Are its operands right? (functions, how many constants and texts, lets, which function, its body, the instruction) -/
def okI (fs : List S32) (ni nt : Nat) (lets n : Int) (f : S32) (i : S37) : Bool :=
  if i.f0 = 1 then decide (i.f1 < (ni : Int)) else
  if i.f0 = 2 then decide (i.f1 < (nt : Int)) else
  if i.f0 = 3 ∨ i.f0 = 7 then decide (i.f1 < f.f1) else
  if i.f0 = 4 then decide (i.f1 < f.f0) else
  if i.f0 = 5 then decide (0 < n) else
  if i.f0 = 6 ∨ i.f0 = 8 then decide (i.f1 < lets) else
  if i.f0 = 10 then decide (i.f1 ≤ 199) && (decide (1 ≤ i.f2) && decide (i.f2 ≤ 4)) else
  if i.f0 = 11 then decide (0 < i.f1) && (decide (i.f1 < (fs.length : Int)) && decide ((rd_T32 fs i.f1).f0 = i.f2)) else
  if i.f0 = 12 then decide (i.f1 < 4) else
  if i.f0 = 19 then decide (i.f1 < 7) else true
def takesI (i : S37) : Int :=
  if i.f0 = 10 ∨ i.f0 = 11 then i.f2 else
  if i.f0 = 13 ∨ i.f0 = 14 ∨ i.f0 = 19 ∨ i.f0 = 20 ∨ i.f0 = 33 then 2 else
  if i.f0 = 7 ∨ i.f0 = 8 ∨ i.f0 = 9 ∨ i.f0 = 12 ∨ i.f0 = 15 ∨ i.f0 = 17 ∨ i.f0 = 18 ∨ i.f0 = 23 ∨ i.f0 = 24 ∨ i.f0 = 25 ∨ i.f0 = 31 ∨ i.f0 = 32 then 1 else 0
def putsI (i : S37) : Int :=
  if i.f0 ≤ 6 ∨ i.f0 = 10 ∨ i.f0 = 11 ∨ i.f0 = 12 ∨ i.f0 = 13 ∨ i.f0 = 19 ∨ i.f0 = 20 ∨ i.f0 = 24 ∨ i.f0 = 25 ∨ i.f0 = 31 ∨ i.f0 = 32 ∨ i.f0 = 33 then 1 else 0
/-- The last mark's depth. -/
def bse (m : List S89) : Int := if 0 < m.length then (rd_T89 m ((m.length - 1 : Nat) : Int)).f1 else 0
/-- The last mark is of this kind. -/
def lastIs (m : List S89) (k : Int) : Bool := decide (0 < m.length) && decide ((rd_T89 m ((m.length - 1 : Nat) : Int)).f0 = k)
/-- Where an instruction goes that lacks nothing. -/
def goI (at_ : Int) (i : S37) (s : St) : Option (List Tg) :=
  if i.f0 = 14 ∨ i.f0 = 15 then (if s.m.length = 0 then some [] else none) else
  if i.f0 = 23 ∨ i.f0 = 30 then some [] else
  if i.f0 = 16 then some [(i.f1, s)] else
  if i.f0 = 17 then some [(at_ + 1, ⟨s.d - takesI i + putsI i, s.m⟩), (i.f1, ⟨s.d - takesI i + putsI i, s.m⟩)] else
  if i.f0 = 18 then some [(at_ + 1, ⟨s.d - takesI i + putsI i, s.m⟩), (i.f2, ⟨s.d - takesI i + putsI i, s.m⟩)] else
  if i.f0 = 21 then some [(at_ + 1, ⟨s.d, s.m ++ [⟨21, s.d⟩]⟩), (i.f1, ⟨s.d + 1, s.m⟩)] else
  if i.f0 = 28 then some [(at_ + 1, ⟨s.d, s.m ++ [⟨28, s.d⟩]⟩), (i.f1, s)] else
  if i.f0 = 26 then (if s.m.any (fun x => x.f0 == 26) then none else some [(at_ + 1, ⟨s.d, s.m ++ [⟨26, s.d⟩]⟩)]) else
  if i.f0 = 22 then (if lastIs s.m 21 then some [(at_ + 1, ⟨s.d, s.m.take (s.m.length - 1)⟩)] else none) else
  if i.f0 = 27 then (if lastIs s.m 26 then some [(at_ + 1, ⟨s.d, s.m.take (s.m.length - 1)⟩)] else none) else
  if i.f0 = 29 then (if lastIs s.m 28 then some [(at_ + 1, ⟨s.d, s.m.take (s.m.length - 1)⟩)] else none) else
  some [(at_ + 1, ⟨s.d - takesI i + putsI i, s.m⟩)]
def nx1 (fs : List S32) (ni nt : Nat) (lets n : Int) (f : S32) (i : S37) (at_ : Int) (s : St) : Option (List Tg) :=
  if okI fs ni nt lets n f i = true then (if s.d - takesI i < bse s.m then none else goI at_ i s) else none
/-- The walk's law, in function n of a code. -/
def nx (fs : List S32) (ni nt : Nat) (lets n : Int) (f : S32) : Nx := fun at_ s => if 0 ≤ at_ ∧ at_ < (f.f3.length : Int) then nx1 fs ni nt lets n f (rd_T37 f.f3 at_) at_ s else none
/-- What a body may be. -/
def OkIns (i : S37) : Prop := 1 ≤ i.f0 ∧ i.f0 ≤ 33 ∧ 0 ≤ i.f1 ∧ i.f1 ≤ 65535 ∧ 0 ≤ i.f2 ∧ i.f2 ≤ 65535
def OkBody (f : S32) : Prop := 0 ≤ f.f0 ∧ f.f0 ≤ 59 ∧ 0 ≤ f.f1 ∧ f.f1 ≤ 60 ∧ 1 ≤ f.f2 ∧ f.f2 ≤ 60 ∧ 1 ≤ f.f3.length ∧ f.f3.length ≤ 400 ∧ ∀ i ∈ f.f3, OkIns i
/-- A state's numbers are small. -/
def OkS (s : St) : Prop := 0 ≤ s.d ∧ s.d ≤ 60 ∧ ∀ x ∈ s.m, 0 ≤ x.f1 ∧ x.f1 ≤ 60
theorem rd_89_mem {m : List S89} (i : Nat) (hi : i < m.length) : rd_T89 m (i : Int) ∈ m := by
  unfold rd_T89
  rw [List.getD_eq_getElem?_getD, Int.toNat_natCast, List.getElem?_eq_getElem hi]
  exact List.getElem_mem hi
theorem rd_37_mem {m : List S37} (i : Int) (h0 : 0 ≤ i) (hi : i < (m.length : Int)) : rd_T37 m i ∈ m := by
  unfold rd_T37
  rw [List.getD_eq_getElem?_getD, List.getElem?_eq_getElem (by omega : i.toNat < m.length)]
  exact List.getElem_mem _
theorem bse_ok {s : St} (h : OkS s) : 0 ≤ bse s.m ∧ bse s.m ≤ 60 := by
  unfold bse
  split
  · rename_i h0
    exact h.2.2 _ (rd_89_mem _ (by omega))
  · exact ⟨Int.le_refl _, by decide⟩
theorem puts_ok (i : S37) : 0 ≤ putsI i ∧ putsI i ≤ 1 := by
  unfold putsI
  split <;> exact ⟨by decide, by decide⟩
theorem takes_ok {i : S37} (h : OkIns i) : 0 ≤ takesI i ∧ takesI i ≤ 65535 := by
  obtain ⟨_, _, _, _, h5, h6⟩ := h
  unfold takesI
  split
  · exact ⟨h5, h6⟩
  · split
    · exact ⟨by decide, by decide⟩
    · split <;> exact ⟨by decide, by decide⟩
/-- Where it goes, it goes with few marks, which are small, and not before the beginning. -/
def OkT (s : St) (q : Tg) : Prop := 0 ≤ q.1 ∧ q.1 ≤ 65536 ∧ q.2.m.length ≤ s.m.length + 1 ∧ 0 ≤ q.2.d ∧ q.2.d ≤ 61 ∧ ∀ x ∈ q.2.m, 0 ≤ x.f1 ∧ x.f1 ≤ 60
theorem goI_ok {at_ : Int} {i : S37} {s : St} {l : List Tg} (hi : OkIns i) (ha : 0 ≤ at_ ∧ at_ ≤ 65535) (hs : OkS s) (hb : ¬ s.d - takesI i < bse s.m) (h : goI at_ i s = some l) : l.length ≤ 2 ∧ ∀ q ∈ l, OkT s q := by
  have hb0 := bse_ok hs
  have hp := puts_ok i
  have ht := takes_ok hi
  obtain ⟨_, _, i1, i2, i3, i4⟩ := hi
  obtain ⟨d0, d1, hm⟩ := hs
  have hmk : ∀ k : Int, ∀ x ∈ s.m ++ [(⟨k, s.d⟩ : S89)], 0 ≤ x.f1 ∧ x.f1 ≤ 60 := by
    intro k x hx
    rcases List.mem_append.1 hx with hx | hx
    · exact hm x hx
    · rw [List.mem_singleton.1 hx]; exact ⟨d0, d1⟩
  have htk : ∀ x ∈ s.m.take (s.m.length - 1), 0 ≤ x.f1 ∧ x.f1 ≤ 60 := fun x hx => hm x (List.mem_of_mem_take hx)
  have T0 : OkT s (i.f1, s) := ⟨i1, by show i.f1 ≤ _; omega, Nat.le_succ _, d0, by show s.d ≤ 61; omega, hm⟩
  have T1 : ∀ a : Int, 0 ≤ a → a ≤ 65536 → OkT s (a, ⟨s.d - takesI i + putsI i, s.m⟩) := fun a h0 h1 => ⟨h0, h1, Nat.le_succ _, by show 0 ≤ s.d - takesI i + putsI i; omega, by show s.d - takesI i + putsI i ≤ 61; omega, hm⟩
  have T2 : ∀ k : Int, OkT s (at_ + 1, ⟨s.d, s.m ++ [⟨k, s.d⟩]⟩) := fun k => ⟨by show 0 ≤ at_ + 1; omega, by show at_ + 1 ≤ 65536; omega, by show (s.m ++ [_]).length ≤ _; rw [List.length_append]; exact Nat.le_refl _, d0, by show s.d ≤ 61; omega, hmk k⟩
  have T3 : OkT s (at_ + 1, ⟨s.d, s.m.take (s.m.length - 1)⟩) := ⟨by show 0 ≤ at_ + 1; omega, by show at_ + 1 ≤ 65536; omega, by show (s.m.take _).length ≤ _; rw [List.length_take]; omega, d0, by show s.d ≤ 61; omega, htk⟩
  have T4 : OkT s (i.f1, ⟨s.d + 1, s.m⟩) := ⟨i1, by show i.f1 ≤ _; omega, Nat.le_succ _, by show 0 ≤ s.d + 1; omega, by show s.d + 1 ≤ 61; omega, hm⟩
  have one : ∀ {q : Tg}, OkT s q → some [q] = some l → l.length ≤ 2 ∧ ∀ q ∈ l, OkT s q := fun {q} hq h => by
    obtain rfl := Option.some.inj h
    exact ⟨by simp, fun p hp => by rw [List.mem_singleton.1 hp]; exact hq⟩
  have two : ∀ {q r : Tg}, OkT s q → OkT s r → some [q, r] = some l → l.length ≤ 2 ∧ ∀ q ∈ l, OkT s q := fun {q r} hq hr h => by
    obtain rfl := Option.some.inj h
    refine ⟨by simp, fun p hp => ?_⟩
    rcases List.mem_cons.1 hp with rfl | hp
    · exact hq
    · rw [List.mem_singleton.1 hp]; exact hr
  have non : some [] = some l → l.length ≤ 2 ∧ ∀ q ∈ l, OkT s q := fun h => by
    obtain rfl := Option.some.inj h
    exact ⟨by simp, fun p hp => absurd hp (by simp)⟩
  have wo : ∀ {c : Prop} [Decidable c] {a b : Option (List Tg)}, (if c then a else b) = some l → (a = some l → l.length ≤ 2 ∧ ∀ q ∈ l, OkT s q) → (b = some l → l.length ≤ 2 ∧ ∀ q ∈ l, OkT s q) → l.length ≤ 2 ∧ ∀ q ∈ l, OkT s q := by
    intro c _ a b h ha hb
    by_cases hc : c
    · rw [if_pos hc] at h; exact ha h
    · rw [if_neg hc] at h; exact hb h
  have no : (none : Option (List Tg)) = some l → l.length ≤ 2 ∧ ∀ q ∈ l, OkT s q := fun h => absurd h (by simp)
  unfold goI at h
  refine wo h (fun h => wo h non no) (fun h => ?_)
  refine wo h non (fun h => ?_)
  refine wo h (one T0) (fun h => ?_)
  refine wo h (two (T1 _ (by omega) (by omega)) (T1 _ i1 (by omega))) (fun h => ?_)
  refine wo h (two (T1 _ (by omega) (by omega)) (T1 _ i3 (by omega))) (fun h => ?_)
  refine wo h (two (T2 _) T4) (fun h => ?_)
  refine wo h (two (T2 _) T0) (fun h => ?_)
  refine wo h (fun h => wo h no (one (T2 _))) (fun h => ?_)
  refine wo h (fun h => wo h (one T3) no) (fun h => ?_)
  refine wo h (fun h => wo h (one T3) no) (fun h => ?_)
  refine wo h (fun h => wo h (one T3) no) (fun h => ?_)
  exact one (T1 _ (by omega) (by omega)) h
theorem nx1_ok {fs : List S32} {ni nt : Nat} {lets n : Int} {f : S32} {at_ : Int} {i : S37} {s : St} {l : List Tg} (hi : OkIns i) (ha : 0 ≤ at_ ∧ at_ ≤ 65535) (hs : OkS s) (h : nx1 fs ni nt lets n f i at_ s = some l) : l.length ≤ 2 ∧ ∀ q ∈ l, OkT s q := by
  unfold nx1 at h
  split at h
  · split at h
    · exact absurd h (by simp)
    · rename_i hb
      exact goI_ok hi ha hs hb h
  · exact absurd h (by simp)
theorem nx_at {fs : List S32} {ni nt : Nat} {lets n : Int} {f : S32} {at_ : Int} {s : St} (h0 : 0 ≤ at_) (h1 : at_ < (f.f3.length : Int)) : nx fs ni nt lets n f at_ s = nx1 fs ni nt lets n f (rd_T37 f.f3 at_) at_ s := by
  unfold nx
  rw [if_pos ⟨h0, h1⟩]
/-! ### kinds: a target, what has been reached (a pointer to a state, or none), the document's states -/
structure S69 where
  f0 : Int
  f1 : Int
  f2 : List S89
def z69 : S69 := ⟨0, 0, []⟩
def k69 : Kd S69 := Kd.iso (Kd.pair (Kd.int .i64) (Kd.pair (Kd.int .i64) (Kd.slice 89 k89))) (fun x : S69 => (x.f0, x.f1, x.f2))
theorem k69_openM {w : World} {base : Nat} {ok : Nat → Prop} {x : S69} {cs : List Value} (h : k69.M w base ok x cs) : ∃ v2, cs = [.int .i64 x.f0, .int .i64 x.f1, v2] ∧ k89.R 89 w base ok v2 x.f2 := by
  obtain ⟨_, _, rfl, rfl, ⟨_, _, rfl, rfl, ⟨v2, rfl, g2⟩⟩⟩ := h
  exact ⟨v2, rfl, g2⟩
theorem k69_mkM (w : World) (base : Nat) (ok : Nat → Prop) (x : S69) {v2 : Value} (g2 : k89.R 89 w base ok v2 x.f2) : k69.M w base ok x [.int .i64 x.f0, .int .i64 x.f1, v2] := ⟨[.int .i64 x.f0], [.int .i64 x.f1, v2], rfl, rfl, ⟨[.int .i64 x.f1], [v2], rfl, rfl, ⟨v2, rfl, g2⟩⟩⟩
def rd_T69 (xs : List S69) (i : Int) : S69 := xs.getD i.toNat z69
theorem info69 : (Try.prog.info? 69).map (fun i => (i.zero, i.size, i.bytes)) = some (some (.agg #[.int .i64 0, .int .i64 0, .slice none 0 0]), 3, 40) := by kernel_rfl
def toT (x : S69) : Tg := (x.f0, ⟨x.f1, x.f2⟩)
def ofT (q : Tg) : S69 := ⟨q.1, q.2.d, q.2.m⟩
/-- A pointer to a state, or none. -/
def kP : Kd (Option St) where
  sz := 1
  E := [52, 89]
  K := fun w x cs => match x with
    | none => cs = [.pointer none]
    | some s => ∃ g v, cs = [.pointer (some ⟨g, 0, none⟩)] ∧ w.heap[g]? = some (.cells #[.int .i64 s.d, v] 52 (0, 0)) ∧ ∃ A c, v = .slice A s.m.length c ∧ s.m.length ≤ c ∧ k89.C w A s.m.length s.m
  M := fun w base ok x cs => match x with
    | none => cs = [.pointer none]
    | some s => ∃ g v, cs = [.pointer (some ⟨g, 0, none⟩)] ∧ ok g ∧ base ≤ g ∧ w.heap[g]? = some (.cells #[.int .i64 s.d, v] 52 (0, 0)) ∧ k89.R 89 w base ok v s.m
  K_len := by
    intro w x cs h
    cases x with
    | none => rw [h]; rfl
    | some s => obtain ⟨g, v, rfl, _⟩ := h; rfl
  K_one := by
    intro w x cs h u hu
    cases x with
    | none => rw [h] at hu; rw [List.mem_singleton.1 hu]; rfl
    | some s => obtain ⟨g, v, rfl, _⟩ := h; rw [List.mem_singleton.1 hu]; rfl
  K_below := by
    intro w w1 x cs hb h
    cases x with
    | none => exact h
    | some s =>
      obtain ⟨g, v, rfl, hg, A, c, rfl, hl, hC⟩ := h
      exact ⟨g, _, rfl, blk_below hg hb, A, c, rfl, hl, Kd.C_below hC hb⟩
  K_of_M := by
    intro w base ok x cs h
    cases x with
    | none => exact h
    | some s =>
      obtain ⟨g, v, rfl, _, _, hg, hR⟩ := h
      exact ⟨g, v, rfl, hg, Kd.R_reads hR⟩
  M_mono := by
    intro w base ok ok' x cs hok h
    cases x with
    | none => exact h
    | some s =>
      obtain ⟨g, v, rfl, h1, h2, hg, hR⟩ := h
      exact ⟨g, v, rfl, hok _ h1, h2, hg, Kd.R_mono hR hok⟩
  M_bound := by
    intro w base ok x cs h
    cases x with
    | none => exact h
    | some s =>
      obtain ⟨g, v, rfl, h1, h2, hg, hR⟩ := h
      refine ⟨g, v, rfl, ⟨h1, h2, blk_lt hg, 52, List.mem_cons_self, _, hg⟩, h2, hg, Kd.R_mono (Kd.R_bound hR) (fun k hk => ?_)⟩
      obtain ⟨a, b, c, q, hq, d⟩ := hk
      refine ⟨a, b, c, q, ?_, d⟩
      have hq' : q = 89 := by simpa [k89, Kd.iso, Kd.pair, Kd.int, Kd.scalar] using hq
      rw [hq']
      exact List.mem_cons_of_mem _ List.mem_cons_self
  M_move := by
    intro w w1 base ok x cs hm h
    cases x with
    | none => exact h
    | some s =>
      obtain ⟨g, v, rfl, h1, h2, hg, hR⟩ := h
      exact ⟨g, v, rfl, h1, h2, (hm g h1).trans hg, Kd.R_move hR hm⟩
  M_lower := by
    intro w base base' ok x cs hb h
    cases x with
    | none => exact h
    | some s =>
      obtain ⟨g, v, rfl, h1, h2, hg, hR⟩ := h
      exact ⟨g, v, rfl, h1, Nat.le_trans hb h2, hg, Kd.R_lower hR hb⟩
theorem info49 : (Try.prog.info? 49).map (fun i => (i.zero, i.size, i.bytes)) = some (some (.pointer none), 1, 8) := by kernel_rfl
/-- A mark of the document's, out of one of the program's. -/
def toM (x : S89) : S97 := ⟨x.f0, x.f1⟩
def kM : Kd S89 := Kd.iso k97 toM
def kS : Kd (Option St) := Kd.iso (Kd.pair Kd.bool (Kd.pair (Kd.int .i64) (Kd.slice 97 kM))) (fun o : Option St => match o with
  | none => (false, 0, [])
  | some s => (true, s.d, s.m))
theorem info59 : (Try.prog.info? 59).map (fun i => (i.zero, i.size, i.bytes)) = some (some (.agg #[.bool false, .int .i64 0, .slice none 0 0]), 3, 40) := by kernel_rfl
end Go.Proofs.Ytnhipgmphhndhaa.Q
