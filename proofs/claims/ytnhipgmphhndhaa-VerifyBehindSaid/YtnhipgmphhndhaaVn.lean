import Derived.Test.YtnhipgmphhndhaaVi
import Derived.Test.YtnhipgmphhndhaaQx13
namespace Go.Proofs.Ytnhipgmphhndhaa.Q
open Go.RowKit Go.Proofs.YtnhipgmphhndhaaW.PrintWords Go.Proofs.YtnhipgmphhndhaaW.PrintLast Go.Proofs.YtnhipgmphhndhaaW.PrintMore
set_option linter.unusedVariables false
set_option linter.unusedSimpArgs false
set_option linter.unusedSectionVars false
set_option maxRecDepth 100000
/-! ### the document's examples -/
def La : List S37 := [⟨1, 0, 0⟩, ⟨15, 0, 0⟩]
def Lb : List S37 := [⟨9, 0, 0⟩]
def Lc : List S37 := [⟨21, 2, 0⟩, ⟨16, 1, 0⟩, ⟨15, 0, 0⟩]
def one (l : List S37) : List S32 := [⟨0, 1, 3, l⟩]
theorem sized_one (l : List S37) (h : l.length ≤ 3) : Sized (one l) := ⟨(show 1 ≤ 1000000 by decide), fun f hf => by
  obtain rfl := List.mem_singleton.1 hf
  exact Nat.le_trans h (by decide)⟩
theorem may_a : mayP (one La) [1] [] 0 = true := by kernel_rfl
theorem may_b : mayP (one Lb) [1] [] 0 = true := by kernel_rfl
theorem may_c : mayP (one Lc) [1] [] 0 = true := by kernel_rfl
abbrev NA := nxOf (one La) [1] [] 0 0
abbrev NB := nxOf (one Lb) [1] [] 0 0
abbrev NC := nxOf (one Lc) [1] [] 0 0
theorem na0 : NA 0 s0 = some [(1, ⟨1, []⟩)] := by kernel_rfl
theorem na1 : NA 1 ⟨1, []⟩ = some [] := by kernel_rfl
theorem nb0 : NB 0 s0 = none := by kernel_rfl
theorem nc0 : ∃ x y, NC 0 s0 = some [x, y] ∧ (x = (2, ⟨1, []⟩) ∨ x = (1, ⟨0, [⟨21, 0⟩]⟩)) ∧ (y = (2, ⟨1, []⟩) ∨ y = (1, ⟨0, [⟨21, 0⟩]⟩)) ∧ (x = (1, ⟨0, [⟨21, 0⟩]⟩) ∨ y = (1, ⟨0, [⟨21, 0⟩]⟩)) ∧ (x = (2, ⟨1, []⟩) ∨ y = (2, ⟨1, []⟩)) := by
  exact ⟨(1, ⟨0, [⟨21, 0⟩]⟩), (2, ⟨1, []⟩), by kernel_rfl, .inr rfl, .inl rfl, .inl rfl, .inr rfl⟩
theorem nc1 : NC 1 ⟨0, [⟨21, 0⟩]⟩ = some [(1, ⟨0, [⟨21, 0⟩]⟩)] := by kernel_rfl
theorem nc2 : NC 2 ⟨1, []⟩ = some [] := by kernel_rfl
theorem good_a : Good NA 2 3 ∧ deps NA 2 3 = [0, 1] := by
  refine closed_good (hs := [some s0, some ⟨1, []⟩]) rfl (fun i s h => ?_) rfl (fun i s h => ?_)
  · match i, h with
    | 0, h => obtain rfl : s0 = s := by simpa using h
              exact .start
    | 1, h => obtain rfl : (⟨1, []⟩ : St) = s := by simpa using h
              exact .step .start na0 (by simp)
    | n + 2, h => simp at h
  · match i, h with
    | 0, h => obtain rfl : s0 = s := by simpa using h
              refine ⟨by decide, _, na0, fun q hq => ?_⟩
              rw [List.mem_singleton.1 hq]
              exact ⟨by decide, rfl⟩
    | 1, h => obtain rfl : (⟨1, []⟩ : St) = s := by simpa using h
              exact ⟨by decide, _, na1, fun q hq => absurd hq (by simp)⟩
    | n + 2, h => simp at h
theorem bad_b : ¬ Good NB 1 3 := by
  intro h
  obtain ⟨_, _, _, l, hl⟩ := h.1 _ .start
  rw [nb0] at hl
  exact absurd hl (by simp)
theorem good_c : Good NC 3 3 ∧ deps NC 3 3 = [0, 0, 1] := by
  obtain ⟨x, y, hxy, hx, hy, h1, h2⟩ := nc0
  refine closed_good (hs := [some s0, some ⟨0, [⟨21, 0⟩]⟩, some ⟨1, []⟩]) rfl (fun i s h => ?_) rfl (fun i s h => ?_)
  · match i, h with
    | 0, h => obtain rfl : s0 = s := by simpa using h
              exact .start
    | 1, h => obtain rfl : (⟨0, [⟨21, 0⟩]⟩ : St) = s := by simpa using h
              refine .step .start hxy ?_
              rcases h1 with rfl | rfl <;> simp
    | 2, h => obtain rfl : (⟨1, []⟩ : St) = s := by simpa using h
              refine .step .start hxy ?_
              rcases h2 with rfl | rfl <;> simp
    | n + 3, h => simp at h
  · match i, h with
    | 0, h => obtain rfl : s0 = s := by simpa using h
              refine ⟨by decide, _, hxy, fun q hq => ?_⟩
              simp only [List.mem_cons, List.not_mem_nil, or_false] at hq
              rcases hq with rfl | rfl
              · rcases hx with rfl | rfl <;> exact ⟨by decide, rfl⟩
              · rcases hy with rfl | rfl <;> exact ⟨by decide, rfl⟩
    | 1, h => obtain rfl : (⟨0, [⟨21, 0⟩]⟩ : St) = s := by simpa using h
              refine ⟨by decide, _, nc1, fun q hq => ?_⟩
              rw [List.mem_singleton.1 hq]
              exact ⟨by decide, rfl⟩
    | 2, h => obtain rfl : (⟨1, []⟩ : St) = s := by simpa using h
              exact ⟨by decide, _, nc2, fun q hq => absurd hq (by simp)⟩
    | n + 3, h => simp at h
theorem ex_Da : verify_Depths.f (one La) [1] [] 0 0 = some [0, 1] := by
  unfold verify_Depths.f depthsP
  rw [if_pos (sized_one La (by decide)), if_pos ⟨may_a, by decide, by decide⟩]
  exact congrArg some good_a.2
theorem ex_Dc : verify_Depths.f (one Lc) [1] [] 0 0 = some [0, 0, 1] := by
  unfold verify_Depths.f depthsP
  rw [if_pos (sized_one Lc (by decide)), if_pos ⟨may_c, by decide, by decide⟩]
  exact congrArg some good_c.2
theorem ex_Db : verify_Depths.f (one Lb) [1] [] 0 0 = some [] := by
  unfold verify_Depths.f depthsP
  rw [if_pos (sized_one Lb (by decide)), if_pos ⟨may_b, by decide, by decide⟩]
  exact congrArg some (deps_bad bad_b)
theorem ex_Ca : verify_Code.f (one La) [1] [] 0 = some 0 := by
  unfold verify_Code.f codeP
  rw [if_pos (sized_one La (by decide)), if_pos may_a, if_pos]
  intro n hn
  obtain rfl : n = 0 := by have : n < 1 := hn; omega
  exact good_a.1
theorem ex_Cc : verify_Code.f (one Lc) [1] [] 0 = some 0 := by
  unfold verify_Code.f codeP
  rw [if_pos (sized_one Lc (by decide)), if_pos may_c, if_pos]
  intro n hn
  obtain rfl : n = 0 := by have : n < 1 := hn; omega
  exact good_c.1
theorem ex_Cb : verify_Code.f (one Lb) [1] [] 0 = some 30 := by
  unfold verify_Code.f codeP
  rw [if_pos (sized_one Lb (by decide)), if_pos may_b, if_neg]
  intro h
  exact bad_b (h 0 (by decide))
/-! ### literals -/
def cells37 : List S37 → List Value
  | [] => []
  | x :: xs => .int .i64 x.f0 :: .int .i64 x.f1 :: .int .i64 x.f2 :: cells37 xs
theorem reps37 (W : World) (b : Nat) (ok : Nat → Prop) : ∀ xs : List S37, Reps (k37.M W b ok) 3 xs (cells37 xs)
  | [] => Reps.none _ _
  | x :: xs => Reps.c3 (k37_mkM W b ok x) (reps37 W b ok xs)
theorem lit37 (W : World) (xs : List S37) (hm : xs.length ≤ 1000) : Kd.R k37 37 (W.alloc (.cells (cells37 xs).toArray 37)) W.heap.size (fun _ => True) (.slice (some ⟨W.heap.size, 0, none⟩) xs.length xs.length) xs := by
  refine ⟨fun _ _ => trivial, cells37 xs, ?_, reps37 _ _ _ xs⟩
  have h2 := World.ownsRow_lit (base := W.heap.size) (e := 37) (size := 3) W (cells37 xs).toArray xs.length (Nat.le_refl _) (by unfold maxLen; omega) (by simpa using (reps37 W 0 (fun _ => True) xs).1)
  have e : (cells37 xs).toArray.toList = cells37 xs := by simp
  rw [e] at h2
  exact h2
/-- A code of one function, as it has been made. -/
def OneOut (w w' : World) (l : List S37) (e : Ending) : Prop := ∃ A0 c0 A1 c1 A2 c2, e = .returned (.agg #[.slice A0 1 c0, .slice A1 1 c1, .slice A2 0 c2, .int .i64 0]) ∧ 1 ≤ c0 ∧ Kd.C k32 w' A0 1 (one l) ∧ 1 ≤ c1 ∧ Kd.C (Kd.int .i64) w' A1 1 [1] ∧ Kd.C Kd.string w' A2 0 [] ∧ Below w.heap.size w w'
theorem one_out (W : World) (l : List S37) (hm : l.length ≤ 1000) : Calls Try.prog 18 #[.slice (some ⟨W.heap.size, 0, none⟩) l.length l.length] (W.alloc (.cells (cells37 l).toArray 37)) fun e w' => OneOut W w' l e := by
  refine (selvagelaw14_one.calls (fun _ => True) _ _ l (one l) [1] [] 0 _ (Kd.V_mono (Kd.N_V (Kd.R_N (Kd.R_lower (lit37 W l hm) (Nat.le_refl _)))) (fun _ _ => trivial)) rfl).mono ?_
  rintro e w' ⟨v0, v1, v2, rfl, h0, h1, h2, hb⟩
  have h0' := Kd.N_V (base' := 0) h0
  obtain ⟨A0, c0, rfl⟩ := Kd.V_slice h0'
  obtain ⟨_, g1, g2⟩ := Kd.V_reads' h0'
  obtain ⟨A1, c1, rfl, g3, g4⟩ := Kd.R_reads h1
  obtain ⟨A2, c2, rfl, g5, g6⟩ := Kd.R_reads h2
  exact ⟨A0, c0, A1, c1, A2, c2, rfl, g1, g2, g3, g4, g6, below_step (below_alloc (Below.refl _ _) _) hb⟩
theorem out_a (W : World) : Calls Try.prog 18 #[.slice (some ⟨W.heap.size, 0, none⟩) 2 2] (W.alloc (.cells #[.int .i64 1, .int .i64 0, .int .i64 0, .int .i64 15, .int .i64 0, .int .i64 0] 37)) fun e w' => OneOut W w' La e := one_out W La (by decide)
theorem out_b (W : World) (g : Nat) (hg : g = W.heap.size) : Calls Try.prog 18 #[.slice (some ⟨g, 0, none⟩) 1 1] (W.alloc (.cells #[.int .i64 9, .int .i64 0, .int .i64 0] 37)) fun e w' => OneOut W w' Lb e := by subst hg; exact one_out W Lb (by decide)
theorem out_c (W : World) (g : Nat) (hg : g = W.heap.size) : Calls Try.prog 18 #[.slice (some ⟨g, 0, none⟩) 3 3] (W.alloc (.cells #[.int .i64 21, .int .i64 2, .int .i64 0, .int .i64 16, .int .i64 1, .int .i64 0, .int .i64 15, .int .i64 0, .int .i64 0] 37)) fun e w' => OneOut W w' Lc e := by subst hg; exact one_out W Lc (by decide)
end Go.Proofs.Ytnhipgmphhndhaa.Q
namespace Go.Proofs.Ytnhipgmphhndhaa.Q
open Go.RowKit Go.Proofs.YtnhipgmphhndhaaW.PrintWords Go.Proofs.YtnhipgmphhndhaaW.PrintLast Go.Proofs.YtnhipgmphhndhaaW.PrintMore
set_option linter.unusedVariables false
set_option linter.unusedSimpArgs false
set_option linter.unusedSectionVars false
set_option maxRecDepth 100000
/-- The document's examples. -/
def selvagelaw14_lives.f : Option Bool := some true
/-- A code in a variable. -/
structure Ex (w0 w : World) (g : Nat) (A0 : Option Addr) (c0 : Nat) (A1 : Option Addr) (c1 : Nat) (A2 : Option Addr) (c2 : Nat) (l : List S37) : Prop where
  base : w0.heap.size ≤ g
  blk : w.heap[g]? = some (.cells #[.slice A0 1 c0, .slice A1 1 c1, .slice A2 0 c2, .int .i64 0] 26 (0, 0))
  l0 : 1 ≤ c0
  r0 : Kd.C k32 w A0 1 (one l)
  l1 : 1 ≤ c1
  r1 : Kd.C (Kd.int .i64) w A1 1 [1]
  r2 : Kd.C Kd.string w A2 0 []
theorem Ex.below {w0 w w1 : World} {g : Nat} {A0 : Option Addr} {c0 : Nat} {A1 : Option Addr} {c1 : Nat} {A2 : Option Addr} {c2 : Nat} {l : List S37} (h : Ex w0 w g A0 c0 A1 c1 A2 c2 l) (hb : Below w.heap.size w w1) : Ex w0 w1 g A0 c0 A1 c1 A2 c2 l :=
  ⟨h.base, blk_below h.blk hb, h.l0, Kd.C_below h.r0 hb, h.l1, Kd.C_below h.r1 hb, Kd.C_below h.r2 hb⟩
theorem sz_alloc (W : World) (o : Obj) : (W.alloc o).heap.size = W.heap.size + 1 := Array.size_push ..
theorem Ex.new {w0 w : World} {A0 : Option Addr} {c0 : Nat} {A1 : Option Addr} {c1 : Nat} {A2 : Option Addr} {c2 : Nat} {l : List S37} (hb : Below w0.heap.size w0 w) (h0 : 1 ≤ c0) (r0 : Kd.C k32 w A0 1 (one l)) (h1 : 1 ≤ c1) (r1 : Kd.C (Kd.int .i64) w A1 1 [1]) (r2 : Kd.C Kd.string w A2 0 []) : Ex w0 (w.alloc (.cells #[.slice A0 1 c0, .slice A1 1 c1, .slice A2 0 c2, .int .i64 0] 26)) w.heap.size A0 c0 A1 c1 A2 c2 l :=
  ⟨hb.size, blk_new w _, h0, Kd.C_alloc r0 _, h1, Kd.C_alloc r1 _, Kd.C_alloc r2 _⟩
theorem Ex.depths {w0 w : World} {g : Nat} {A0 : Option Addr} {c0 : Nat} {A1 : Option Addr} {c1 : Nat} {A2 : Option Addr} {c2 : Nat} {l : List S37} (h : Ex w0 w g A0 c0 A1 c1 A2 c2 l) {r : List Int} (n : Nat) (hn : r.length = n) (hr : verify_Depths.f (one l) [1] [] 0 0 = some r) :
    Calls Try.prog 9 #[.agg #[.slice A0 1 c0, .slice A1 1 c1, .slice A2 0 c2, .int .i64 0], .int .i64 0] w fun e w' => ∃ A c, e = .returned (.slice A n c) ∧ n ≤ c ∧ Kd.C (Kd.int .i64) w' A n r ∧ Below w.heap.size w w' := by
  refine (verify_Depths.calls A0 c0 (one l) A1 c1 [1] A2 c2 [] 0 0 r w h.r0 h.l0 h.r1 h.l1 h.r2 (Nat.zero_le _) hr).mono ?_
  rintro e w' ⟨v, rfl, hv, hb⟩
  obtain ⟨A, c, rfl, h1, h2⟩ := Kd.R_reads hv
  subst hn
  exact ⟨A, c, rfl, h1, h2, hb⟩
theorem Ex.code {w0 w : World} {g : Nat} {A0 : Option Addr} {c0 : Nat} {A1 : Option Addr} {c1 : Nat} {A2 : Option Addr} {c2 : Nat} {l : List S37} (h : Ex w0 w g A0 c0 A1 c1 A2 c2 l) {r : Int} (hr : verify_Code.f (one l) [1] [] 0 = some r) :
    Calls Try.prog 12 #[.agg #[.slice A0 1 c0, .slice A1 1 c1, .slice A2 0 c2, .int .i64 0]] w fun e w' => e = .returned (.int .i64 r) ∧ Below w.heap.size w w' :=
  verify_Code.calls A0 c0 (one l) A1 c1 [1] A2 c2 [] 0 r w h.r0 h.l0 h.r1 h.l1 h.r2 (Nat.zero_le _) hr
theorem same2 {W : World} {A : Option Addr} {c : Nat} (hc : 2 ≤ c) (h : Kd.C (Kd.int .i64) W A 2 [0, 1]) : Calls Try.prog 14 #[.slice A 2 c, .slice (some ⟨W.heap.size, 0, none⟩) 2 2] (W.alloc (.cells #[.int .i64 0, .int .i64 1] 3)) fun e w' => e = .returned (.bool true) ∧ Below W.heap.size W w' := by
  have hl := own_lit W W.heap.size 3 .i64 [0, 1] (Nat.le_refl _) (by decide)
  have h2 := (Kd.R_reads' (Kd.R_of_own (ok := fun _ => True) (h1 := fun _ => rfl) (enc := Value.int .i64) (xs := [0, 1]) hl (fun _ _ => trivial))).2.2
  refine (selvageref02_SameInts.calls 10 A c [0, 1] (some ⟨W.heap.size, 0, none⟩) 2 [0, 1] true _ (Kd.C_alloc h _) hc h2 (by decide) (by decide +kernel)).mono ?_
  rintro e w' ⟨rfl, hb⟩
  exact ⟨rfl, below_step (below_alloc (Below.refl _ _) _) hb.below⟩
theorem same3 {W : World} {A : Option Addr} {c : Nat} (hc : 3 ≤ c) (h : Kd.C (Kd.int .i64) W A 3 [0, 0, 1]) : Calls Try.prog 14 #[.slice A 3 c, .slice (some ⟨W.heap.size, 0, none⟩) 3 3] (W.alloc (.cells #[.int .i64 0, .int .i64 0, .int .i64 1] 3)) fun e w' => e = .returned (.bool true) ∧ Below W.heap.size W w' := by
  have hl := own_lit W W.heap.size 3 .i64 [0, 0, 1] (Nat.le_refl _) (by decide)
  have h2 := (Kd.R_reads' (Kd.R_of_own (ok := fun _ => True) (h1 := fun _ => rfl) (enc := Value.int .i64) (xs := [0, 0, 1]) hl (fun _ _ => trivial))).2.2
  refine (selvageref02_SameInts.calls 10 A c [0, 0, 1] (some ⟨W.heap.size, 0, none⟩) 3 [0, 0, 1] true _ (Kd.C_alloc h _) hc h2 (by decide) (by decide +kernel)).mono ?_
  rintro e w' ⟨rfl, hb⟩
  exact ⟨rfl, below_step (below_alloc (Below.refl _ _) _) hb.below⟩
set_option maxHeartbeats 4000000 in
theorem selvagelaw14_lives.calls (r : Bool) (w : World) (h : selvagelaw14_lives.f = some r) : Calls Try.prog 10 #[] w fun e w' => e = .returned (.bool r) ∧ Below w.heap.size w w' := by
  obtain rfl : true = r := Option.some.inj h
  clear h
  have hu26 := Try.underlying26
  have hu30 := Try.underlying30
  have hu37 := Try.underlying37
  have hu23 := Try.underlying23
  go_enter Try.func10, Try.ntmps10
  go_wp2_with (first
    | (go_at_call 18; (with_reducible refine (out_a w).mono ?_); rintro e w1 ⟨A0, c0, A1, c1, A2, c2, rfl, h1, h2, h3, h4, h5, hb⟩; have HB1 := Aside0.mk hb; have HC0 := Aside0.mk h2; have HC1 := Aside0.mk h4; have HC2 := Aside0.mk h5; have HL0 := Aside0.mk h1; have HL1 := Aside0.mk h3; clear h1 h2 h3 h4 h5 hb)
    | (go_at_call 18; (with_reducible refine (out_b (w1.alloc _) (w1.heap.size + 1) (sz_alloc _ _).symm).mono ?_); rintro e w2 ⟨B0, d0, B1, d1, B2, d2, rfl, h1, h2, h3, h4, h5, hb⟩; have HX1 := Aside0.mk ((Ex.new HB1.out HL0.out HC0.out HL1.out HC1.out HC2.out).below hb); have HB2 := Aside0.mk (below_step (below_alloc HB1.out _) hb); clear HC0 HC1 HC2 HL0 HL1; have HC0 := Aside0.mk h2; have HC1 := Aside0.mk h4; have HC2 := Aside0.mk h5; have HL0 := Aside0.mk h1; have HL1 := Aside0.mk h3; clear h1 h2 h3 h4 h5 hb)
    | (go_at_call 18; (with_reducible refine (out_c (w2.alloc _) (w2.heap.size + 1) (sz_alloc _ _).symm).mono ?_); rintro e w3 ⟨D0, f0, D1, f1, D2, f2, rfl, h1, h2, h3, h4, h5, hb⟩; have HX2 := Aside0.mk ((Ex.new HB2.out HL0.out HC0.out HL1.out HC1.out HC2.out).below hb); have N1 := Aside0.mk (HX1.out.below (below_step (below_alloc (Below.refl _ _) _) hb)); clear HX1; have HX1 := N1; clear N1; have HB3 := Aside0.mk (below_step (below_alloc HB2.out _) hb); clear HC0 HC1 HC2 HL0 HL1; have HC0 := Aside0.mk h2; have HC1 := Aside0.mk h4; have HC2 := Aside0.mk h5; have HL0 := Aside0.mk h1; have HL1 := Aside0.mk h3; clear h1 h2 h3 h4 h5 hb; have y0 : ∀ o : Obj, (w3.alloc o).cell? ⟨w1.heap.size, 0, none⟩ = some (.slice A0 1 c0) := fun o => (blk_cell (blk_alloc HX1.out.blk o) 0).trans rfl; have y1 : ∀ o : Obj, (w3.alloc o).cell? ⟨w1.heap.size, 1, none⟩ = some (.slice A1 1 c1) := fun o => (blk_cell (blk_alloc HX1.out.blk o) 1).trans rfl; have y2 : ∀ o : Obj, (w3.alloc o).cell? ⟨w1.heap.size, 2, none⟩ = some (.slice A2 0 c2) := fun o => (blk_cell (blk_alloc HX1.out.blk o) 2).trans rfl; have y3 : ∀ o : Obj, (w3.alloc o).cell? ⟨w1.heap.size, 3, none⟩ = some (.int .i64 0) := fun o => (blk_cell (blk_alloc HX1.out.blk o) 3).trans rfl)
    | (go_at_call 9; (with_reducible refine ((HX1.out.below (below_alloc (Below.refl _ _) _)).depths 2 rfl ex_Da).mono ?_); rintro e w4 ⟨A, c, rfl, hc, hC, hb⟩; have HX3 := Aside0.mk ((Ex.new HB3.out HL0.out HC0.out HL1.out HC1.out HC2.out).below hb); have N1 := Aside0.mk (HX1.out.below (below_step (below_alloc (Below.refl _ _) _) hb)); clear HX1; have HX1 := N1; clear N1; have N2 := Aside0.mk (HX2.out.below (below_step (below_alloc (Below.refl _ _) _) hb)); clear HX2; have HX2 := N2; clear N2; have HB4 := Aside0.mk (below_step (below_alloc HB3.out _) hb); have HS := Aside0.mk hC; have HSc := Aside0.mk hc; clear HC0 HC1 HC2 HL0 HL1 hC hc hb y0 y1 y2 y3)
    | (go_at_call 14; (with_reducible refine (same2 HSc.out HS.out).mono ?_); rintro e w5 ⟨rfl, hb⟩; have N1 := Aside0.mk (HX1.out.below (hb)); clear HX1; have HX1 := N1; clear N1; have N2 := Aside0.mk (HX2.out.below (hb)); clear HX2; have HX2 := N2; clear N2; have N3 := Aside0.mk (HX3.out.below (hb)); clear HX3; have HX3 := N3; clear N3; have HB5 := Aside0.mk (below_step HB4.out hb); clear HS HSc hb; have y0 : w5.cell? ⟨w3.heap.size, 0, none⟩ = some (.slice D0 1 f0) := (blk_cell HX3.out.blk 0).trans rfl; have y1 : w5.cell? ⟨w3.heap.size, 1, none⟩ = some (.slice D1 1 f1) := (blk_cell HX3.out.blk 1).trans rfl; have y2 : w5.cell? ⟨w3.heap.size, 2, none⟩ = some (.slice D2 0 f2) := (blk_cell HX3.out.blk 2).trans rfl; have y3 : w5.cell? ⟨w3.heap.size, 3, none⟩ = some (.int .i64 0) := (blk_cell HX3.out.blk 3).trans rfl)
    | (go_at_call 9; (with_reducible refine (HX3.out.depths 3 rfl ex_Dc).mono ?_); rintro e w6 ⟨A3, c3, rfl, hc, hC, hb⟩; have N1 := Aside0.mk (HX1.out.below (hb)); clear HX1; have HX1 := N1; clear N1; have N2 := Aside0.mk (HX2.out.below (hb)); clear HX2; have HX2 := N2; clear N2; have N3 := Aside0.mk (HX3.out.below (hb)); clear HX3; have HX3 := N3; clear N3; have HB6 := Aside0.mk (below_step HB5.out hb); have HS := Aside0.mk hC; have HSc := Aside0.mk hc; clear hC hc hb y0 y1 y2 y3)
    | (go_at_call 14; (with_reducible refine (same3 HSc.out HS.out).mono ?_); rintro e w7 ⟨rfl, hb⟩; have N1 := Aside0.mk (HX1.out.below (hb)); clear HX1; have HX1 := N1; clear N1; have N2 := Aside0.mk (HX2.out.below (hb)); clear HX2; have HX2 := N2; clear N2; have N3 := Aside0.mk (HX3.out.below (hb)); clear HX3; have HX3 := N3; clear N3; have HB7 := Aside0.mk (below_step HB6.out hb); clear HS HSc hb; have y0 : w7.cell? ⟨w1.heap.size, 0, none⟩ = some (.slice A0 1 c0) := (blk_cell HX1.out.blk 0).trans rfl; have y1 : w7.cell? ⟨w1.heap.size, 1, none⟩ = some (.slice A1 1 c1) := (blk_cell HX1.out.blk 1).trans rfl; have y2 : w7.cell? ⟨w1.heap.size, 2, none⟩ = some (.slice A2 0 c2) := (blk_cell HX1.out.blk 2).trans rfl; have y3 : w7.cell? ⟨w1.heap.size, 3, none⟩ = some (.int .i64 0) := (blk_cell HX1.out.blk 3).trans rfl)
    | (go_at_call 12; (with_reducible refine (HX1.out.code ex_Ca).mono ?_); rintro e w8 ⟨rfl, hb⟩; have N2 := Aside0.mk (HX2.out.below (hb)); clear HX2; have HX2 := N2; clear N2; have N3 := Aside0.mk (HX3.out.below (hb)); clear HX3; have HX3 := N3; clear N3; have HB8 := Aside0.mk (below_step HB7.out hb); clear HX1 hb y0 y1 y2 y3; have y0 : w8.cell? ⟨w2.heap.size, 0, none⟩ = some (.slice B0 1 d0) := (blk_cell HX2.out.blk 0).trans rfl; have y1 : w8.cell? ⟨w2.heap.size, 1, none⟩ = some (.slice B1 1 d1) := (blk_cell HX2.out.blk 1).trans rfl; have y2 : w8.cell? ⟨w2.heap.size, 2, none⟩ = some (.slice B2 0 d2) := (blk_cell HX2.out.blk 2).trans rfl; have y3 : w8.cell? ⟨w2.heap.size, 3, none⟩ = some (.int .i64 0) := (blk_cell HX2.out.blk 3).trans rfl)
    | (go_at_call 12; (with_reducible refine (HX2.out.code ex_Cb).mono ?_); rintro e w9 ⟨rfl, hb⟩; have N2 := Aside0.mk (HX2.out.below (hb)); clear HX2; have HX2 := N2; clear N2; have N3 := Aside0.mk (HX3.out.below (hb)); clear HX3; have HX3 := N3; clear N3; have HB9 := Aside0.mk (below_step HB8.out hb); clear hb y0 y1 y2 y3; have y0 : w9.cell? ⟨w3.heap.size, 0, none⟩ = some (.slice D0 1 f0) := (blk_cell HX3.out.blk 0).trans rfl; have y1 : w9.cell? ⟨w3.heap.size, 1, none⟩ = some (.slice D1 1 f1) := (blk_cell HX3.out.blk 1).trans rfl; have y2 : w9.cell? ⟨w3.heap.size, 2, none⟩ = some (.slice D2 0 f2) := (blk_cell HX3.out.blk 2).trans rfl; have y3 : w9.cell? ⟨w3.heap.size, 3, none⟩ = some (.int .i64 0) := (blk_cell HX3.out.blk 3).trans rfl)
    | (go_at_call 12; (with_reducible refine (HX3.out.code ex_Cc).mono ?_); rintro e wa ⟨rfl, hb⟩; have N2 := Aside0.mk (HX2.out.below (hb)); clear HX2; have HX2 := N2; clear N2; have HBa := Aside0.mk (below_step HB9.out hb); clear HX3 hb y0 y1 y2 y3; have y0 : wa.cell? ⟨w2.heap.size, 0, none⟩ = some (.slice B0 1 d0) := (blk_cell HX2.out.blk 0).trans rfl; have y1 : wa.cell? ⟨w2.heap.size, 1, none⟩ = some (.slice B1 1 d1) := (blk_cell HX2.out.blk 1).trans rfl; have y2 : wa.cell? ⟨w2.heap.size, 2, none⟩ = some (.slice B2 0 d2) := (blk_cell HX2.out.blk 2).trans rfl; have y3 : wa.cell? ⟨w2.heap.size, 3, none⟩ = some (.int .i64 0) := (blk_cell HX2.out.blk 3).trans rfl)
    | (go_at_call 9; (with_reducible refine (HX2.out.depths 0 rfl ex_Db).mono ?_); rintro e wb ⟨A4, c4, rfl, hc, hC, hb⟩; have HBb := Aside0.mk (below_step HBa.out hb); clear HX2 hC hc hb y0 y1 y2 y3))
  go_ret
  exact ⟨rfl, HBb.out⟩
end Go.Proofs.Ytnhipgmphhndhaa.Q
